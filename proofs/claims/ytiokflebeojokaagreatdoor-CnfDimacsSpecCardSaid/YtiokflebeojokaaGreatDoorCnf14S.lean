/- Same, few, and the reference's Value and Subsumes, in the reader's words. -/
import Derived.Test.YtiokflebeojokaaGreatDoorCnfT
import Derived.Test.YtiokflebeojokaaGreatDoorRef14S
import Derived.Test.YtiokflebeojokaaGreatDoorGetS
import Derived.Test.YtiokflebeojokaaGreatDoorPutX
import Derived.Test.YtiokflebeojokaaGreatDoorSubX
import Derived.Test.YtiokflebeojokaaGreatDoorFewX
import Derived.Test.YtiokflebeojokaaGreatDoorEngFrz
import Derived.Test.YtiokflebeojokaaGreatDoorLaw14P
namespace Go.Proofs.YtiokflebeojokaaGreatDoor.En
open Go Go.RowKit
set_option linter.unusedVariables false
set_option linter.unusedSimpArgs false
set_option linter.unnecessarySimpa false
def tyC14 : List (Nat × TD) := [(3, ⟨1, false, [.int .i64 0], [], none, 8, false, 1, 1⟩),
  (4, ⟨1, false, [.bool false], [], none, 1, true, 0, 2⟩),
  (22, ⟨1, false, [.slice none 0 0], [], some 25, 24, false, 0, 0⟩),
  (24, ⟨2, true, [.int .i64 0, .slice none 0 0], [(0, 3), (1, 22)], none, 32, false, 0, 6⟩),
  (25, ⟨1, false, [.slice none 0 0], [], some 3, 24, false, 0, 3⟩),
  (26, ⟨1, false, [.slice none 0 0], [], some 4, 24, false, 0, 0⟩),
  (31, ⟨1, false, [.nilFunc], [], none, 8, false, 0, 0⟩),
  (32, ⟨1, false, [.int .i64 0], [], none, 8, false, 1, 1⟩)]
theorem tyC14_ok : AllTy Tryz.prog tyC14 := ⟨⟨by kernel_rfl, by kernel_rfl⟩, ⟨by kernel_rfl, by kernel_rfl⟩, ⟨by kernel_rfl, by kernel_rfl⟩, ⟨by kernel_rfl, by kernel_rfl⟩, ⟨by kernel_rfl, by kernel_rfl⟩, ⟨by kernel_rfl, by kernel_rfl⟩, ⟨by kernel_rfl, by kernel_rfl⟩, ⟨by kernel_rfl, by kernel_rfl⟩, trivial⟩
def cx_sEqI : Cx := ⟨tyC14, [(22, (coeF [.ld (.ints []), .ld (.bools [])] rHolds_σ)), (18, (coeF [.agg [.id, .ld (.intss [])]] rCheck_σ)), (33, (coeF [.ld (.ints []), .id] rHas_σ)), (29, sPut), (25, sSub)], false⟩
theorem cx_sEqI_ok : CxOk Tryz.prog cx_sEqI := cx_ok tyC14_ok ⟨(rHolds_sound.coe [.ld (.ints []), .ld (.bools [])] rfl), (rCheck_sound.coe [.agg [.id, .ld (.intss [])]] rfl), (rHas_sound.coe [.ld (.ints []), .id] rfl), sPut_sound, sSub_sound, trivial⟩
def sEqI_σ : CtF
  | [.im (.ls (.ints a)), .im (.ls (.ints b))], [] => some (a.length ≤ maxLen, .bool (decide (a = b)), [])
  | _, _ => none
theorem sEqI_sound : Sound Tryz.prog 50 sEqI_σ := by
 refine sound_mk (cx := cx_sEqI) (fn := Tryz.f50) Tryz.func50 (by kernel_rfl) rfl ?_
 intro w0 G0 args os p r outs hσ hp hm0 hd0
 have hcx : CxOk Tryz.prog cx_sEqI := cx_sEqI_ok
 have hmx : Tryz.prog.follows .mixedOrders = true := by kernel_rfl
 unfold sEqI_σ at hσ
 split at hσ
 ·
  rename_i a b
  simp only [Option.some.injEq, Prod.mk.injEq] at hσ
  obtain ⟨rfl, rfl, rfl⟩ := hσ
  obtain ⟨wW, wO, wm, wβ, wd⟩ := w0
  replace hm0 : wm = 0 := hm0
  subst hm0
  replace hd0 : wd = [] := hd0
  subst hd0
  refine ⟨by kernel_rfl, ?_⟩
  change Tri ⟨_, _, _, _, _, _⟩ [(0, .ints a), (1, .ints b)] [] _ _
  unfold maxLen at hp
  refine tri_seq ?_
  refine tri_regD hcx [] [] [0, 1] [] [] [] [] (by kernel_rfl) ?_ ?_
  ·
   exact az
  refine fin_then ?_
  refine tri_seq ?_
  refine tri_seq ?_
  refine tri_regD hcx [] [10] [0, 1] [] [] [(10, .bool ((a.length : Int) != (b.length : Int)))] [] (by kernel_rfl) ?_ ?_
  ·
   exact az
  refine fin_then ?_
  refine tri_cond (b := ((a.length : Int) != (b.length : Int))) (by kernel_rfl) (fun hb0 => ?_) (fun hb0 => ?_)
  ·
   skip
   have h0 := bne_iff_ne.1 hb0
   refine tri_seq ?_
   refine tri_regD hcx [] [4] [] [] [] [(4, .bool false)] [] (by kernel_rfl) ?_ ?_
   ·
    exact az
   refine fin_then ?_
   refine tri_ret ?_
   refine fin_then_ret ?_
   exact fin_ret [] rfl rfl trivial hcx (avs := [.bool false]) (by kernel_rfl) (congrArg AV.bool (show false = (decide (a = b)) from (by exact (Cn.ne_len (by omega)).symm))) [] rfl
  ·
   skip
   have h0 := bneF hb0
   refine tri_skip ?_
   refine fin_then ?_
   refine tri_seq ?_
   refine tri_seq ?_
   refine tri_regD hcx [] [12, 13] [0, 1] [] [] [(12, .int (a.length : Int)), (13, .int 0)] [] (by kernel_rfl) ?_ ?_
   ·
    exact az
   refine fin_then ?_
   refine tri_block ?_
   refine tri_loop (X := Nat) (fun x0 => x0 ≤ a.length ∧ ∀ j, j < x0 → a.getD j 0 = b.getD j 0) (fun x0 => [(0, .ints a), (1, .ints b), (12, .int (a.length : Int)), (13, .int (x0 : Int))]) (fun x0 => []) (fun x0 => a.length - x0) (0) ?_ ?_ ?_ ?_
   ·
    show 0 ≤ a.length ∧ ∀ j, j < 0 → a.getD j 0 = b.getD j 0
    exact ⟨Nat.zero_le _, fun j hj => by omega⟩
   ·
    exact subE_mk (l := [.ints a, .ints b, .int (a.length : Int), .int 0]) (m := [.ints a, .ints b, .int (a.length : Int), .int (0 : Int)]) (by kernel_rfl) (by kernel_rfl) (consE rfl (consE rfl (consE rfl (consE (congrArg AV.int (show 0 = (0 : Int) from (by first | rfl | omega | (simp; done)))) rfl))))
   ·
    kernel_rfl
   ·
    intro k hI
    replace hI : k ≤ a.length ∧ ∀ j, j < k → a.getD j 0 = b.getD j 0 := hI
    change Tri _ [(0, .ints a), (1, .ints b), (12, .int (a.length : Int)), (13, .int (k : Int))] [] _ _
    obtain ⟨hk, hok⟩ := hI
    refine tri_seq ?_
    refine tri_regD hcx [] [14] [0, 1, 12, 13] [] [] [(14, .bool (decide ((k : Int) < (a.length : Int))))] [] (by kernel_rfl) ?_ ?_
    ·
     exact az
    refine fin_then ?_
    refine tri_seq ?_
    refine tri_cond (b := (decide ((k : Int) < (a.length : Int)))) (by kernel_rfl) (fun hb1 => ?_) (fun hb1 => ?_)
    ·
     skip
     have h1 := of_decide_eq_true hb1
     refine tri_skip ?_
     refine fin_then ?_
     refine tri_seq ?_
     refine tri_block ?_
     refine tri_seq ?_
     refine tri_regD hcx [] [5] [0, 1, 12, 13] [] [] [(5, .int (k : Int))] [] (by kernel_rfl) ?_ ?_
     ·
      exact az
     refine fin_then ?_
     refine tri_seq ?_
     refine tri_drawD [0, 0, 3, 7, 0, 0, 48, 112, 255] hcx hmx [] [24] [0, 1, 12, 13] [] [((0 : Int) ≤ (k : Int) ∧ (k : Int) < (a.length : Int)), ((0 : Int) ≤ (k : Int) ∧ (k : Int) < (b.length : Int))] [(24, .bool ((a.getD k 0) != (b.getD k 0)))] [] (by kernel_rfl) ?_ ?_
     ·
      refine (ap ?_ (ap ?_ az))
      all_goals
       omega
     refine fin_then ?_
     refine tri_cond (b := ((a.getD k 0) != (b.getD k 0))) (by kernel_rfl) (fun hb2 => ?_) (fun hb2 => ?_)
     ·
      skip
      have h2 := bne_iff_ne.1 hb2
      have hq := h2
      refine tri_seq ?_
      refine tri_regD hcx [] [4] [] [] [] [(4, .bool false)] [] (by kernel_rfl) ?_ ?_
      ·
       exact az
      refine fin_then ?_
      refine tri_ret ?_
      refine fin_block_ret ?_
      refine fin_then_ret ?_
      refine fin_then_ret ?_
      refine fin_block_ret ?_
      refine fin_then_ret ?_
      exact fin_ret [] rfl rfl trivial hcx (avs := [.bool false]) (by kernel_rfl) (congrArg AV.bool (show false = (decide (a = b)) from (by exact (Cn.ne_at hq).symm))) [] rfl
     ·
      skip
      have h2 := bneF hb2
      have hq := h2
      refine tri_skip ?_
      refine fin_block ?_
      refine fin_then ?_
      refine tri_regD hcx [] [13] [0, 1, 12] [] [Fit ((k : Int) + 1)] [(13, .int ((k : Int) + 1))] [] (by kernel_rfl) ?_ ?_
      ·
       refine (ap ?_ az)
       omega
      refine fin_round (k + 1) ?_ ?_ ?_ ?_
      ·
       show (k + 1) ≤ a.length ∧ ∀ j, j < (k + 1) → a.getD j 0 = b.getD j 0
       exact ⟨by omega, Cn.neSucc (P := fun j => a.getD j 0 = b.getD j 0) hok (by first | exact hq | omega)⟩
      ·
       show a.length - (k + 1) < a.length - k
       omega
      ·
       exact subE_mk (l := [.ints a, .ints b, .int (a.length : Int), .int ((k : Int) + 1)]) (m := [.ints a, .ints b, .int (a.length : Int), .int ((k + 1) : Int)]) (by kernel_rfl) (by kernel_rfl) (consE rfl (consE rfl (consE rfl (consE (congrArg AV.int (show ((k : Int) + 1) = ((k + 1) : Int) from (by first | rfl | omega | (simp; done)))) rfl))))
      ·
       kernel_rfl
    ·
     skip
     have h1 := of_decide_eq_false hb1
     refine tri_exit ?_
     refine fin_then_exit ?_
     refine fin_then_exit ?_
     refine fin_block_same ?_
     refine fin_then ?_
     refine tri_seq ?_
     refine tri_regD hcx [] [4] [] [] [] [(4, .bool true)] [] (by kernel_rfl) ?_ ?_
     ·
      exact az
     refine fin_then ?_
     refine tri_ret ?_
     exact fin_ret [] rfl rfl trivial hcx (avs := [.bool true]) (by kernel_rfl) (congrArg AV.bool (show true = (decide (a = b)) from (by exact (Cn.eq_of (d := 0) (by omega) (fun j hj => hok j (by omega))).symm))) [] rfl
 ·
  cases hσ
def cx_sEqL : Cx := ⟨tyC14, [(22, (coeF [.ld (.ints []), .ld (.bools [])] rHolds_σ)), (18, (coeF [.agg [.id, .ld (.intss [])]] rCheck_σ)), (33, (coeF [.ld (.ints []), .id] rHas_σ)), (29, sPut), (25, sSub), (50, (coeF [.ld (.ints []), .ld (.ints [])] sEqI_σ))], false⟩
theorem cx_sEqL_ok : CxOk Tryz.prog cx_sEqL := cx_ok tyC14_ok ⟨(rHolds_sound.coe [.ld (.ints []), .ld (.bools [])] rfl), (rCheck_sound.coe [.agg [.id, .ld (.intss [])]] rfl), (rHas_sound.coe [.ld (.ints []), .id] rfl), sPut_sound, sSub_sound, (sEqI_sound.coe [.ld (.ints []), .ld (.ints [])] rfl), trivial⟩
def sEqL_σ : CtF
  | [.im (.ls (.intss a)), .im (.ls (.intss b)), .clo 50 []], [] => some (a.length ≤ maxLen ∧ ∀ l ∈ a, l.length ≤ maxLen, .bool (decide (a = b)), [])
  | _, _ => none
theorem sEqL_sound : Sound Tryz.prog 49 sEqL_σ := by
 refine sound_mk (cx := cx_sEqL) (fn := Tryz.f49) Tryz.func49 (by kernel_rfl) rfl ?_
 intro w0 G0 args os p r outs hσ hp hm0 hd0
 have hcx : CxOk Tryz.prog cx_sEqL := cx_sEqL_ok
 unfold sEqL_σ at hσ
 split at hσ
 ·
  rename_i a b
  simp only [Option.some.injEq, Prod.mk.injEq] at hσ
  obtain ⟨rfl, rfl, rfl⟩ := hσ
  obtain ⟨wW, wO, wm, wβ, wd⟩ := w0
  replace hm0 : wm = 0 := hm0
  subst hm0
  replace hd0 : wd = [] := hd0
  subst hd0
  refine ⟨by kernel_rfl, ?_⟩
  change Tri ⟨_, _, _, _, _, _⟩ [(0, .intss a), (1, .intss b), (2, .clo 50 [])] [] _ _
  obtain ⟨hm1, hm2⟩ := hp
  unfold maxLen at hm1
  refine tri_seq ?_
  refine tri_regD hcx [] [] [0, 1, 2] [] [] [] [] (by kernel_rfl) ?_ ?_
  ·
   exact az
  refine fin_then ?_
  refine tri_seq ?_
  refine tri_seq ?_
  refine tri_regD hcx [] [14] [0, 1, 2] [] [] [(14, .bool ((a.length : Int) != (b.length : Int)))] [] (by kernel_rfl) ?_ ?_
  ·
   exact az
  refine fin_then ?_
  refine tri_cond (b := ((a.length : Int) != (b.length : Int))) (by kernel_rfl) (fun hb0 => ?_) (fun hb0 => ?_)
  ·
   skip
   have h0 := bne_iff_ne.1 hb0
   refine tri_seq ?_
   refine tri_regD hcx [] [6] [] [] [] [(6, .bool false)] [] (by kernel_rfl) ?_ ?_
   ·
    exact az
   refine fin_then ?_
   refine tri_ret ?_
   refine fin_then_ret ?_
   exact fin_ret [] rfl rfl trivial hcx (avs := [.bool false]) (by kernel_rfl) (congrArg AV.bool (show false = (decide (a = b)) from (by exact (Cn.ne_len (by omega)).symm))) [] rfl
  ·
   skip
   have h0 := bneF hb0
   refine tri_skip ?_
   refine fin_then ?_
   refine tri_seq ?_
   refine tri_seq ?_
   refine tri_regD hcx [] [15, 16, 17] [1, 2] [] [] [(15, .intss a), (16, .int (a.length : Int)), (17, .int 0)] [] (by kernel_rfl) ?_ ?_
   ·
    exact az
   refine fin_then ?_
   refine tri_block ?_
   refine tri_loop (X := Nat) (fun x0 => x0 ≤ a.length ∧ ∀ j, j < x0 → a.getD j [] = b.getD j []) (fun x0 => [(1, .intss b), (2, .clo 50 []), (15, .intss a), (16, .int (a.length : Int)), (17, .int (x0 : Int))]) (fun x0 => []) (fun x0 => a.length - x0) (0) ?_ ?_ ?_ ?_
   ·
    show 0 ≤ a.length ∧ ∀ j, j < 0 → a.getD j [] = b.getD j []
    exact ⟨Nat.zero_le _, fun j hj => by omega⟩
   ·
    exact subE_mk (l := [.intss b, .clo 50 [], .intss a, .int (a.length : Int), .int 0]) (m := [.intss b, .clo 50 [], .intss a, .int (a.length : Int), .int (0 : Int)]) (by kernel_rfl) (by kernel_rfl) (consE rfl (consE rfl (consE rfl (consE rfl (consE (congrArg AV.int (show 0 = (0 : Int) from (by first | rfl | omega | (simp; done)))) rfl)))))
   ·
    kernel_rfl
   ·
    intro k hI
    replace hI : k ≤ a.length ∧ ∀ j, j < k → a.getD j [] = b.getD j [] := hI
    change Tri _ [(1, .intss b), (2, .clo 50 []), (15, .intss a), (16, .int (a.length : Int)), (17, .int (k : Int))] [] _ _
    obtain ⟨hk, hok⟩ := hI
    refine tri_seq ?_
    refine tri_regD hcx [] [18] [1, 2, 15, 16, 17] [] [] [(18, .bool (decide ((k : Int) < (a.length : Int))))] [] (by kernel_rfl) ?_ ?_
    ·
     exact az
    refine fin_then ?_
    refine tri_seq ?_
    refine tri_cond (b := (decide ((k : Int) < (a.length : Int)))) (by kernel_rfl) (fun hb1 => ?_) (fun hb1 => ?_)
    ·
     skip
     have h1 := of_decide_eq_true hb1
     refine tri_skip ?_
     refine fin_then ?_
     refine tri_seq ?_
     refine tri_block ?_
     refine tri_seq ?_
     refine tri_regD hcx [] [7, 8] [1, 2, 15, 16, 17] [] [((0 : Int) ≤ (k : Int) ∧ (k : Int) < (a.length : Int))] [(7, .int (k : Int)), (8, .ints (a.getD k []))] [] (by kernel_rfl) ?_ ?_
     ·
      refine (ap ?_ az)
      omega
     refine fin_then ?_
     refine tri_seq ?_
     refine tri_regD hcx [] [9] [8, 1, 2, 15, 16, 17] [] [((0 : Int) ≤ (k : Int) ∧ (k : Int) < (b.length : Int))] [(9, .ints (b.getD k []))] [] (by kernel_rfl) ?_ ?_
     ·
      refine (ap ?_ az)
      omega
     refine fin_then ?_
     refine tri_seq ?_
     refine tri_regD hcx [] [30] [1, 2, 15, 16, 17] [] [((a.getD k []).length ≤ maxLen)] [(30, .bool (!(decide ((a.getD k []) = (b.getD k [])))))] [] (by kernel_rfl) ?_ ?_
     ·
      refine (ap ?_ az)
      exact hm2 _ (Cn.getD_memL (by omega))
     refine fin_then ?_
     refine tri_cond (b := (!(decide ((a.getD k []) = (b.getD k []))))) (by kernel_rfl) (fun hb2 => ?_) (fun hb2 => ?_)
     ·
      skip
      have h2 := of_decide_eq_false (notB_t hb2)
      have hq : ¬ (a.getD k [] = b.getD k []) := by simpa using h2
      refine tri_seq ?_
      refine tri_regD hcx [] [6] [] [] [] [(6, .bool false)] [] (by kernel_rfl) ?_ ?_
      ·
       exact az
      refine fin_then ?_
      refine tri_ret ?_
      refine fin_block_ret ?_
      refine fin_then_ret ?_
      refine fin_then_ret ?_
      refine fin_block_ret ?_
      refine fin_then_ret ?_
      exact fin_ret [] rfl rfl trivial hcx (avs := [.bool false]) (by kernel_rfl) (congrArg AV.bool (show false = (decide (a = b)) from (by exact (Cn.ne_at hq).symm))) [] rfl
     ·
      skip
      have h2 := of_decide_eq_true (notB_f hb2)
      have hq : a.getD k [] = b.getD k [] := by simpa using h2
      refine tri_skip ?_
      refine fin_block ?_
      refine fin_then ?_
      refine tri_regD hcx [] [17] [1, 2, 15, 16] [] [Fit ((k : Int) + 1)] [(17, .int ((k : Int) + 1))] [] (by kernel_rfl) ?_ ?_
      ·
       refine (ap ?_ az)
       omega
      refine fin_round (k + 1) ?_ ?_ ?_ ?_
      ·
       show (k + 1) ≤ a.length ∧ ∀ j, j < (k + 1) → a.getD j [] = b.getD j []
       exact ⟨by omega, Cn.neSucc (P := fun j => a.getD j [] = b.getD j []) hok (by first | exact hq | omega)⟩
      ·
       show a.length - (k + 1) < a.length - k
       omega
      ·
       exact subE_mk (l := [.intss b, .clo 50 [], .intss a, .int (a.length : Int), .int ((k : Int) + 1)]) (m := [.intss b, .clo 50 [], .intss a, .int (a.length : Int), .int ((k + 1) : Int)]) (by kernel_rfl) (by kernel_rfl) (consE rfl (consE rfl (consE rfl (consE rfl (consE (congrArg AV.int (show ((k : Int) + 1) = ((k + 1) : Int) from (by first | rfl | omega | (simp; done)))) rfl)))))
      ·
       kernel_rfl
    ·
     skip
     have h1 := of_decide_eq_false hb1
     refine tri_exit ?_
     refine fin_then_exit ?_
     refine fin_then_exit ?_
     refine fin_block_same ?_
     refine fin_then ?_
     refine tri_seq ?_
     refine tri_regD hcx [] [6] [] [] [] [(6, .bool true)] [] (by kernel_rfl) ?_ ?_
     ·
      exact az
     refine fin_then ?_
     refine tri_ret ?_
     exact fin_ret [] rfl rfl trivial hcx (avs := [.bool true]) (by kernel_rfl) (congrArg AV.bool (show true = (decide (a = b)) from (by exact (Cn.eq_of (d := []) (by omega) (fun j hj => hok j (by omega))).symm))) [] rfl
 ·
  cases hσ
def cx_cSame : Cx := ⟨tyC14, [(22, (coeF [.ld (.ints []), .ld (.bools [])] rHolds_σ)), (18, (coeF [.agg [.id, .ld (.intss [])]] rCheck_σ)), (33, (coeF [.ld (.ints []), .id] rHas_σ)), (29, sPut), (25, sSub), (50, (coeF [.ld (.ints []), .ld (.ints [])] sEqI_σ)), (49, (coeF [.ld (.intss []), .ld (.intss []), .id] sEqL_σ))], false⟩
theorem cx_cSame_ok : CxOk Tryz.prog cx_cSame := cx_ok tyC14_ok ⟨(rHolds_sound.coe [.ld (.ints []), .ld (.bools [])] rfl), (rCheck_sound.coe [.agg [.id, .ld (.intss [])]] rfl), (rHas_sound.coe [.ld (.ints []), .id] rfl), sPut_sound, sSub_sound, (sEqI_sound.coe [.ld (.ints []), .ld (.ints [])] rfl), (sEqL_sound.coe [.ld (.intss []), .ld (.intss []), .id] rfl), trivial⟩
def cSame_σ : CtF
  | [.agg [.im (.val (.int .i64 N)), .im (.ls (.intss L))], .agg [.im (.val (.int .i64 N')), .im (.ls (.intss L'))]], [] => some (L.length ≤ maxLen ∧ (∀ l ∈ L, l.length ≤ maxLen), .bool ((N == N') && decide (L = L')), [])
  | _, _ => none
theorem cSame_sound : Sound Tryz.prog 19 cSame_σ := by
 refine sound_mk (cx := cx_cSame) (fn := Tryz.f19) Tryz.func19 (by kernel_rfl) rfl ?_
 intro w0 G0 args os p r outs hσ hp hm0 hd0
 have hcx : CxOk Tryz.prog cx_cSame := cx_cSame_ok
 unfold cSame_σ at hσ
 split at hσ
 ·
  rename_i N L N' L'
  simp only [Option.some.injEq, Prod.mk.injEq] at hσ
  obtain ⟨rfl, rfl, rfl⟩ := hσ
  obtain ⟨wW, wO, wm, wβ, wd⟩ := w0
  replace hm0 : wm = 0 := hm0
  subst hm0
  replace hd0 : wd = [] := hd0
  subst hd0
  refine ⟨by kernel_rfl, ?_⟩
  change Tri ⟨_, _, _, _, _, _⟩ [(0, .agg [.int N, .intss L]), (1, .agg [.int N', .intss L'])] [] _ _
  refine tri_seq ?_
  refine tri_regD hcx [(1000, .frz), (1001, .frz)] [2, 3] [] [] [] [(2, .pto [.int N, .ls (.intss L)]), (3, .pto [.int N', .ls (.intss L')])] [] (by kernel_rfl) ?_ ?_
  ·
   exact az
  refine fin_then ?_
  refine tri_seq ?_
  refine tri_regD hcx [] [4] [] [] [((N == N') = true → ((N == N') = true)), ((N == N') = true → ((N == N') = true)), ((N == N') = true → ((N == N') = true)), ((N == N') = true → ((N == N') = true)), ((N == N') = true → (L.length ≤ maxLen ∧ ∀ l ∈ L, l.length ≤ maxLen)), ((N == N') = true → (N == N') = true)] [(4, .bool ((N == N') && (decide (L = L'))))] [] (by kernel_rfl) ?_ ?_
  ·
   refine (ap ?_ (ap ?_ (ap ?_ (ap ?_ (ap ?_ (ap (by exact id) az))))))
   all_goals
    first | exact (fun _ => hp) | (intro h; exact h)
  refine fin_then ?_
  refine tri_ret ?_
  exact fin_ret [] rfl rfl trivial hcx (avs := [.bool ((N == N') && (decide (L = L')))]) (by kernel_rfl) (congrArg AV.bool (show ((N == N') && (decide (L = L'))) = ((N == N') && decide (L = L')) from (by rfl))) [] rfl
 ·
  cases hσ
def cx_rValue : Cx := ⟨tyC14, [(22, (coeF [.ld (.ints []), .ld (.bools [])] rHolds_σ)), (18, (coeF [.agg [.id, .ld (.intss [])]] rCheck_σ)), (33, (coeF [.ld (.ints []), .id] rHas_σ)), (29, sPut), (25, sSub), (50, (coeF [.ld (.ints []), .ld (.ints [])] sEqI_σ)), (49, (coeF [.ld (.intss []), .ld (.intss []), .id] sEqL_σ)), (19, (coeF [.agg [.id, .ld (.intss [])], .agg [.id, .ld (.intss [])]] cSame_σ))], false⟩
theorem cx_rValue_ok : CxOk Tryz.prog cx_rValue := cx_ok tyC14_ok ⟨(rHolds_sound.coe [.ld (.ints []), .ld (.bools [])] rfl), (rCheck_sound.coe [.agg [.id, .ld (.intss [])]] rfl), (rHas_sound.coe [.ld (.ints []), .id] rfl), sPut_sound, sSub_sound, (sEqI_sound.coe [.ld (.ints []), .ld (.ints [])] rfl), (sEqL_sound.coe [.ld (.intss []), .ld (.intss []), .id] rfl), (cSame_sound.coe [.agg [.id, .ld (.intss [])], .agg [.id, .ld (.intss [])]] rfl), trivial⟩
def rValue_σ : CtF
  | [.agg [.im (.val (.int .i64 N)), .im (.ls (.intss L))], .im (.ls (.bools a))], [] => some (L.length ≤ maxLen ∧ (∀ l ∈ L, l.length ≤ maxLen) ∧ a.length ≤ maxLen, .bool (Cn.valV N L a), [])
  | _, _ => none
theorem rValue_sound : Sound Tryz.prog 24 rValue_σ := by
 refine sound_mk (cx := cx_rValue) (fn := Tryz.f24) Tryz.func24 (by kernel_rfl) rfl ?_
 intro w0 G0 args os p r outs hσ hp hm0 hd0
 have hcx : CxOk Tryz.prog cx_rValue := cx_rValue_ok
 unfold rValue_σ at hσ
 split at hσ
 ·
  rename_i N L a
  simp only [Option.some.injEq, Prod.mk.injEq] at hσ
  obtain ⟨rfl, rfl, rfl⟩ := hσ
  obtain ⟨wW, wO, wm, wβ, wd⟩ := w0
  replace hm0 : wm = 0 := hm0
  subst hm0
  replace hd0 : wd = [] := hd0
  subst hd0
  refine ⟨by kernel_rfl, ?_⟩
  change Tri ⟨_, _, _, _, _, _⟩ [(0, .agg [.int N, .intss L]), (1, .bools a)] [] _ _
  obtain ⟨hm1, hm2, hm3⟩ := hp
  have hm4 := hm1
  unfold maxLen at hm4
  refine tri_seq ?_
  refine tri_regD hcx [(1000, .frz)] [2] [1] [] [] [(2, .pto [.int N, .ls (.intss L)])] [] (by kernel_rfl) ?_ ?_
  ·
   exact az
  refine fin_then ?_
  refine tri_seq ?_
  refine tri_seq ?_
  refine tri_regD hcx [] [5] [2, 1] [] [] [(5, .int 0)] [] (by kernel_rfl) ?_ ?_
  ·
   exact az
  refine fin_then ?_
  refine tri_block ?_
  refine tri_loop (X := Nat) (fun x0 => x0 ≤ L.length ∧ ∀ j, j < x0 → Cn.holdsV a (L.getD j []) = true) (fun x0 => [(1, .bools a), (2, .pto [.int N, .ls (.intss L)]), (5, .int (x0 : Int))]) (fun x0 => []) (fun x0 => L.length - x0) (0) ?_ ?_ ?_ ?_
  ·
   show 0 ≤ L.length ∧ ∀ j, j < 0 → Cn.holdsV a (L.getD j []) = true
   exact ⟨Nat.zero_le _, fun j hj => by omega⟩
  ·
   exact subE_mk (l := [.bools a, .pto [.int N, .ls (.intss L)], .int 0]) (m := [.bools a, .pto [.int N, .ls (.intss L)], .int (0 : Int)]) (by kernel_rfl) (by kernel_rfl) (consE rfl (consE rfl (consE (congrArg AV.int (show 0 = (0 : Int) from (by first | rfl | omega | (simp; done)))) rfl)))
  ·
   kernel_rfl
  ·
   intro k hI
   replace hI : k ≤ L.length ∧ ∀ j, j < k → Cn.holdsV a (L.getD j []) = true := hI
   change Tri _ [(1, .bools a), (2, .pto [.int N, .ls (.intss L)]), (5, .int (k : Int))] [] _ _
   obtain ⟨hk, hok⟩ := hI
   refine tri_seq ?_
   refine tri_seq ?_
   refine tri_regD hcx [] [10] [1, 2, 5] [] [] [(10, .bool (decide ((k : Int) < (L.length : Int))))] [] (by kernel_rfl) ?_ ?_
   ·
    exact az
   refine fin_then ?_
   refine tri_cond (b := (decide ((k : Int) < (L.length : Int)))) (by kernel_rfl) (fun hb0 => ?_) (fun hb0 => ?_)
   ·
    skip
    have h0 := of_decide_eq_true hb0
    refine tri_skip ?_
    refine fin_then ?_
    refine tri_seq ?_
    refine tri_block ?_
    refine tri_seq ?_
    refine tri_regD hcx [] [20] [1, 2, 5] [] [((0 : Int) ≤ (k : Int) ∧ (k : Int) < (L.length : Int)), ((L.getD k []).length ≤ maxLen ∧ a.length ≤ maxLen)] [(20, .bool (!(Cn.holdsV a (L.getD k []))))] [] (by kernel_rfl) ?_ ?_
    ·
     refine (ap ?_ (ap ?_ az))
     all_goals
      first | exact ⟨hm2 _ (Cn.getD_memL (by omega)), hm3⟩ | (first | omega | exact id | exact vcNot | exact vcG | exact vcH | (intro _; omega) | exact (fun _ h => h) | (intro h; simp at h; omega) | (simp only [List.length_cons, List.length_nil, List.length_append, List.length_map, List.length_set, List.length_replicate]; omega) | (intro h; simp [h]; done))
    refine fin_then ?_
    refine tri_cond (b := (!(Cn.holdsV a (L.getD k [])))) (by kernel_rfl) (fun hb1 => ?_) (fun hb1 => ?_)
    ·
     skip
     have h1 := hb1
     have hq := Cn.notT h1
     refine tri_seq ?_
     refine tri_regD hcx [] [4] [] [] [] [(4, .bool false)] [] (by kernel_rfl) ?_ ?_
     ·
      exact az
     refine fin_then ?_
     refine tri_ret ?_
     refine fin_block_ret ?_
     refine fin_then_ret ?_
     refine fin_then_ret ?_
     refine fin_block_ret ?_
     refine fin_then_ret ?_
     exact fin_ret [] rfl rfl trivial hcx (avs := [.bool false]) (by kernel_rfl) (congrArg AV.bool (show false = (Cn.valV N L a) from (by exact (Cn.val_no (by omega) hq).symm))) [] rfl
    ·
     skip
     have h1 := hb1
     have hq := Cn.notF h1
     refine tri_skip ?_
     refine fin_block ?_
     refine fin_then ?_
     refine tri_regD hcx [] [5] [1, 2] [] [Fit ((k : Int) + 1)] [(5, .int ((k : Int) + 1))] [] (by kernel_rfl) ?_ ?_
     ·
      refine (ap ?_ az)
      (first | omega | exact id | exact vcNot | exact vcG | exact vcH | (intro _; omega) | exact (fun _ h => h) | (intro h; simp at h; omega) | (simp only [List.length_cons, List.length_nil, List.length_append, List.length_map, List.length_set, List.length_replicate]; omega) | (intro h; simp [h]; done))
     refine fin_round (k + 1) ?_ ?_ ?_ ?_
     ·
      show (k + 1) ≤ L.length ∧ ∀ j, j < (k + 1) → Cn.holdsV a (L.getD j []) = true
      exact ⟨by omega, fun j hj => by rcases (by omega : j < k ∨ j = k) with h | rfl; exact hok j h; exact hq⟩
     ·
      show L.length - (k + 1) < L.length - k
      omega
     ·
      exact subE_mk (l := [.bools a, .pto [.int N, .ls (.intss L)], .int ((k : Int) + 1)]) (m := [.bools a, .pto [.int N, .ls (.intss L)], .int ((k + 1) : Int)]) (by kernel_rfl) (by kernel_rfl) (consE rfl (consE rfl (consE (congrArg AV.int (show ((k : Int) + 1) = ((k + 1) : Int) from (by first | rfl | omega | (simp; done)))) rfl)))
     ·
      kernel_rfl
   ·
    skip
    have h0 := of_decide_eq_false hb0
    refine tri_exit ?_
    refine fin_then_exit ?_
    refine fin_then_exit ?_
    refine fin_block_same ?_
    refine fin_then ?_
    refine tri_seq ?_
    refine tri_regD hcx [] [4] [] [] [(L.length ≤ maxLen ∧ ∀ l ∈ L, l.length ≤ maxLen)] [(4, .bool ((Cn.chkV N L) == 0))] [] (by kernel_rfl) ?_ ?_
    ·
     refine (ap ?_ az)
     exact ⟨hm1, hm2⟩
    refine fin_then ?_
    refine tri_ret ?_
    exact fin_ret [] rfl rfl trivial hcx (avs := [.bool ((Cn.chkV N L) == 0)]) (by kernel_rfl) (congrArg AV.bool (show ((Cn.chkV N L) == 0) = (Cn.valV N L a) from (by exact (Cn.val_yes (fun j hj => hok j (by omega))).symm))) [] rfl
 ·
  cases hσ
def cx_rSub : Cx := ⟨tyC14, [(22, (coeF [.ld (.ints []), .ld (.bools [])] rHolds_σ)), (18, (coeF [.agg [.id, .ld (.intss [])]] rCheck_σ)), (33, (coeF [.ld (.ints []), .id] rHas_σ)), (29, sPut), (25, sSub), (50, (coeF [.ld (.ints []), .ld (.ints [])] sEqI_σ)), (49, (coeF [.ld (.intss []), .ld (.intss []), .id] sEqL_σ)), (19, (coeF [.agg [.id, .ld (.intss [])], .agg [.id, .ld (.intss [])]] cSame_σ)), (24, (coeF [.agg [.id, .ld (.intss [])], .ld (.bools [])] rValue_σ))], false⟩
theorem cx_rSub_ok : CxOk Tryz.prog cx_rSub := cx_ok tyC14_ok ⟨(rHolds_sound.coe [.ld (.ints []), .ld (.bools [])] rfl), (rCheck_sound.coe [.agg [.id, .ld (.intss [])]] rfl), (rHas_sound.coe [.ld (.ints []), .id] rfl), sPut_sound, sSub_sound, (sEqI_sound.coe [.ld (.ints []), .ld (.ints [])] rfl), (sEqL_sound.coe [.ld (.intss []), .ld (.intss []), .id] rfl), (cSame_sound.coe [.agg [.id, .ld (.intss [])], .agg [.id, .ld (.intss [])]] rfl), (rValue_sound.coe [.agg [.id, .ld (.intss [])], .ld (.bools [])] rfl), trivial⟩
def rSub_σ : CtF
  | [.im (.ls (.ints a)), .im (.ls (.ints b))], [] => some (a.length ≤ maxLen ∧ b.length ≤ maxLen, .bool (!(a.any fun x => !(b.contains x))), [])
  | _, _ => none
theorem rSub_sound : Sound Tryz.prog 26 rSub_σ := by
 refine sound_mk (cx := cx_rSub) (fn := Tryz.f26) Tryz.func26 (by kernel_rfl) rfl ?_
 intro w0 G0 args os p r outs hσ hp hm0 hd0
 have hcx : CxOk Tryz.prog cx_rSub := cx_rSub_ok
 unfold rSub_σ at hσ
 split at hσ
 ·
  rename_i a b
  simp only [Option.some.injEq, Prod.mk.injEq] at hσ
  obtain ⟨rfl, rfl, rfl⟩ := hσ
  obtain ⟨wW, wO, wm, wβ, wd⟩ := w0
  replace hm0 : wm = 0 := hm0
  subst hm0
  replace hd0 : wd = [] := hd0
  subst hd0
  refine ⟨by kernel_rfl, ?_⟩
  change Tri ⟨_, _, _, _, _, _⟩ [(0, .ints a), (1, .ints b)] [] _ _
  obtain ⟨hm1, hm2⟩ := hp
  have hm3 := hm1
  unfold maxLen at hm3
  refine tri_seq ?_
  refine tri_regD hcx [] [] [0, 1] [] [] [] [] (by kernel_rfl) ?_ ?_
  ·
   exact az
  refine fin_then ?_
  refine tri_seq ?_
  refine tri_seq ?_
  refine tri_regD hcx [] [5] [0, 1] [] [] [(5, .int 0)] [] (by kernel_rfl) ?_ ?_
  ·
   exact az
  refine fin_then ?_
  refine tri_block ?_
  refine tri_loop (X := Nat) (fun x0 => x0 ≤ a.length ∧ ∀ j, j < x0 → b.contains (a.getD j 0) = true) (fun x0 => [(0, .ints a), (1, .ints b), (5, .int (x0 : Int))]) (fun x0 => []) (fun x0 => a.length - x0) (0) ?_ ?_ ?_ ?_
  ·
   show 0 ≤ a.length ∧ ∀ j, j < 0 → b.contains (a.getD j 0) = true
   exact ⟨Nat.zero_le _, fun j hj => by omega⟩
  ·
   exact subE_mk (l := [.ints a, .ints b, .int 0]) (m := [.ints a, .ints b, .int (0 : Int)]) (by kernel_rfl) (by kernel_rfl) (consE rfl (consE rfl (consE (congrArg AV.int (show 0 = (0 : Int) from (by first | rfl | omega | (simp; done)))) rfl)))
  ·
   kernel_rfl
  ·
   intro k hI
   replace hI : k ≤ a.length ∧ ∀ j, j < k → b.contains (a.getD j 0) = true := hI
   change Tri _ [(0, .ints a), (1, .ints b), (5, .int (k : Int))] [] _ _
   obtain ⟨hk, hok⟩ := hI
   refine tri_seq ?_
   refine tri_seq ?_
   refine tri_regD hcx [] [9] [0, 1, 5] [] [] [(9, .bool (decide ((k : Int) < (a.length : Int))))] [] (by kernel_rfl) ?_ ?_
   ·
    exact az
   refine fin_then ?_
   refine tri_cond (b := (decide ((k : Int) < (a.length : Int)))) (by kernel_rfl) (fun hb0 => ?_) (fun hb0 => ?_)
   ·
    skip
    have h0 := of_decide_eq_true hb0
    refine tri_skip ?_
    refine fin_then ?_
    refine tri_seq ?_
    refine tri_block ?_
    refine tri_seq ?_
    refine tri_regD hcx [] [18] [0, 1, 5] [] [((0 : Int) ≤ (k : Int) ∧ (k : Int) < (a.length : Int)), (b.length ≤ maxLen)] [(18, .bool (!(b.contains (a.getD k 0))))] [] (by kernel_rfl) ?_ ?_
    ·
     refine (ap ?_ (ap ?_ az))
     all_goals
      first | exact hm2 | (first | omega | exact id | exact vcNot | exact vcG | exact vcH | (intro _; omega) | exact (fun _ h => h) | (intro h; simp at h; omega) | (simp only [List.length_cons, List.length_nil, List.length_append, List.length_map, List.length_set, List.length_replicate]; omega) | (intro h; simp [h]; done))
    refine fin_then ?_
    refine tri_cond (b := (!(b.contains (a.getD k 0)))) (by kernel_rfl) (fun hb1 => ?_) (fun hb1 => ?_)
    ·
     skip
     have h1 := hb1
     have hq := Cn.notT h1
     refine tri_seq ?_
     refine tri_regD hcx [] [4] [] [] [] [(4, .bool false)] [] (by kernel_rfl) ?_ ?_
     ·
      exact az
     refine fin_then ?_
     refine tri_ret ?_
     refine fin_block_ret ?_
     refine fin_then_ret ?_
     refine fin_then_ret ?_
     refine fin_block_ret ?_
     refine fin_then_ret ?_
     exact fin_ret [] rfl rfl trivial hcx (avs := [.bool false]) (by kernel_rfl) (congrArg AV.bool (show false = (!(a.any fun x => !(b.contains x))) from (by exact (Cn.sub_no (by omega) hq).symm))) [] rfl
    ·
     skip
     have h1 := hb1
     have hq := Cn.notF h1
     refine tri_skip ?_
     refine fin_block ?_
     refine fin_then ?_
     refine tri_regD hcx [] [5] [0, 1] [] [Fit ((k : Int) + 1)] [(5, .int ((k : Int) + 1))] [] (by kernel_rfl) ?_ ?_
     ·
      refine (ap ?_ az)
      (first | omega | exact id | exact vcNot | exact vcG | exact vcH | (intro _; omega) | exact (fun _ h => h) | (intro h; simp at h; omega) | (simp only [List.length_cons, List.length_nil, List.length_append, List.length_map, List.length_set, List.length_replicate]; omega) | (intro h; simp [h]; done))
     refine fin_round (k + 1) ?_ ?_ ?_ ?_
     ·
      show (k + 1) ≤ a.length ∧ ∀ j, j < (k + 1) → b.contains (a.getD j 0) = true
      exact ⟨by omega, fun j hj => by rcases (by omega : j < k ∨ j = k) with h | rfl; exact hok j h; exact hq⟩
     ·
      show a.length - (k + 1) < a.length - k
      omega
     ·
      exact subE_mk (l := [.ints a, .ints b, .int ((k : Int) + 1)]) (m := [.ints a, .ints b, .int ((k + 1) : Int)]) (by kernel_rfl) (by kernel_rfl) (consE rfl (consE rfl (consE (congrArg AV.int (show ((k : Int) + 1) = ((k + 1) : Int) from (by first | rfl | omega | (simp; done)))) rfl)))
     ·
      kernel_rfl
   ·
    skip
    have h0 := of_decide_eq_false hb0
    refine tri_exit ?_
    refine fin_then_exit ?_
    refine fin_then_exit ?_
    refine fin_block_same ?_
    refine fin_then ?_
    refine tri_seq ?_
    refine tri_regD hcx [] [4] [] [] [] [(4, .bool true)] [] (by kernel_rfl) ?_ ?_
    ·
     exact az
    refine fin_then ?_
    refine tri_ret ?_
    exact fin_ret [] rfl rfl trivial hcx (avs := [.bool true]) (by kernel_rfl) (congrArg AV.bool (show true = (!(a.any fun x => !(b.contains x))) from (by exact (Cn.sub_yes (fun j hj => hok j (by omega))).symm))) [] rfl
 ·
  cases hσ
def cx_lFew : Cx := ⟨tyC14, [(22, (coeF [.ld (.ints []), .ld (.bools [])] rHolds_σ)), (18, (coeF [.agg [.id, .ld (.intss [])]] rCheck_σ)), (33, (coeF [.ld (.ints []), .id] rHas_σ)), (29, sPut), (25, sSub), (50, (coeF [.ld (.ints []), .ld (.ints [])] sEqI_σ)), (49, (coeF [.ld (.intss []), .ld (.intss []), .id] sEqL_σ)), (19, (coeF [.agg [.id, .ld (.intss [])], .agg [.id, .ld (.intss [])]] cSame_σ)), (24, (coeF [.agg [.id, .ld (.intss [])], .ld (.bools [])] rValue_σ)), (26, (coeF [.ld (.ints []), .ld (.ints [])] rSub_σ)), (34, sFew)], false⟩
theorem cx_lFew_ok : CxOk Tryz.prog cx_lFew := cx_ok tyC14_ok ⟨(rHolds_sound.coe [.ld (.ints []), .ld (.bools [])] rfl), (rCheck_sound.coe [.agg [.id, .ld (.intss [])]] rfl), (rHas_sound.coe [.ld (.ints []), .id] rfl), sPut_sound, sSub_sound, (sEqI_sound.coe [.ld (.ints []), .ld (.ints [])] rfl), (sEqL_sound.coe [.ld (.intss []), .ld (.intss []), .id] rfl), (cSame_sound.coe [.agg [.id, .ld (.intss [])], .agg [.id, .ld (.intss [])]] rfl), (rValue_sound.coe [.agg [.id, .ld (.intss [])], .ld (.bools [])] rfl), (rSub_sound.coe [.ld (.ints []), .ld (.ints [])] rfl), sFew_sound, trivial⟩
def lFew_σ : CtF
  | [.agg [.im (.val (.int .i64 N)), .im (.ls (.intss L))]], [] => some (L.length ≤ maxLen, .bool (Cn.fewP L), [])
  | _, _ => none
theorem lFew_sound : Sound Tryz.prog 13 lFew_σ := by
 refine sound_mk (cx := cx_lFew) (fn := Tryz.f13) Tryz.func13 (by kernel_rfl) rfl ?_
 intro w0 G0 args os p r outs hσ hp hm0 hd0
 have hcx : CxOk Tryz.prog cx_lFew := cx_lFew_ok
 unfold lFew_σ at hσ
 split at hσ
 ·
  rename_i N L
  simp only [Option.some.injEq, Prod.mk.injEq] at hσ
  obtain ⟨rfl, rfl, rfl⟩ := hσ
  obtain ⟨wW, wO, wm, wβ, wd⟩ := w0
  replace hm0 : wm = 0 := hm0
  subst hm0
  replace hd0 : wd = [] := hd0
  subst hd0
  refine ⟨by kernel_rfl, ?_⟩
  change Tri ⟨_, _, _, _, _, _⟩ [(0, .agg [.int N, .intss L])] [] _ _
  refine tri_seq ?_
  refine tri_regD hcx [(1000, .frz)] [1] [] [] [] [(1, .pto [.int N, .ls (.intss L)])] [] (by kernel_rfl) ?_ ?_
  ·
   exact az
  refine fin_then ?_
  refine tri_seq ?_
  refine tri_regD hcx [] [2] [] [] [(L.length ≤ maxLen)] [(2, .bool (Cn.fewP L))] [] (by kernel_rfl) ?_ ?_
  ·
   refine (ap ?_ az)
   exact hp
  refine fin_then ?_
  refine tri_ret ?_
  exact fin_ret [] rfl rfl trivial hcx (avs := [.bool (Cn.fewP L)]) (by kernel_rfl) rfl [] rfl
 ·
  cases hσ
end Go.Proofs.YtiokflebeojokaaGreatDoor.En
