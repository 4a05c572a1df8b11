/- The reference of layer 14, in the reader's words. -/
import Derived.Test.YtiokflebeojokaaGreatDoorEngR
import Derived.Test.YtiokflebeojokaaGreatDoorCnfR
import Derived.Test.YtiokflebeojokaaGreatDoorProg
namespace Go.Proofs.YtiokflebeojokaaGreatDoor.En
open Go Go.RowKit
set_option linter.unusedVariables false
set_option linter.unusedSimpArgs false
set_option linter.unnecessarySimpa false
def tyR14 : List (Nat × TD) := [(3, ⟨1, false, [.int .i64 0], [], none, 8, false, 1, 1⟩),
  (4, ⟨1, false, [.bool false], [], none, 1, true, 0, 2⟩),
  (22, ⟨1, false, [.slice none 0 0], [], some 25, 24, false, 0, 0⟩),
  (24, ⟨2, true, [.int .i64 0, .slice none 0 0], [(0, 3), (1, 22)], none, 32, false, 0, 6⟩),
  (25, ⟨1, false, [.slice none 0 0], [], some 3, 24, false, 0, 3⟩),
  (26, ⟨1, false, [.slice none 0 0], [], some 4, 24, false, 0, 0⟩)]
theorem tyR14_ok : AllTy Tryz.prog tyR14 := ⟨⟨by kernel_rfl, by kernel_rfl⟩, ⟨by kernel_rfl, by kernel_rfl⟩, ⟨by kernel_rfl, by kernel_rfl⟩, ⟨by kernel_rfl, by kernel_rfl⟩, ⟨by kernel_rfl, by kernel_rfl⟩, ⟨by kernel_rfl, by kernel_rfl⟩, trivial⟩
def cx_rIs : Cx := ⟨tyR14, [], false⟩
theorem cx_rIs_ok : CxOk Tryz.prog cx_rIs := cx_ok tyR14_ok trivial
def rIs_σ : CtF
  | [.im (.val (.int .i64 l)), .im (.val (.int .i64 n))], [] => some (0 ≤ n ∧ n ≤ 65536, .bool (Cn.mayP l n), [])
  | _, _ => none
theorem rIs_sound : Sound Tryz.prog 45 rIs_σ := by
 refine sound_mk (cx := cx_rIs) (fn := Tryz.f45) Tryz.func45 (by kernel_rfl) rfl ?_
 intro w0 G0 args os p r outs hσ hp hm0 hd0
 have hcx : CxOk Tryz.prog cx_rIs := cx_rIs_ok
 unfold rIs_σ at hσ
 split at hσ
 ·
  rename_i l n
  simp only [Option.some.injEq, Prod.mk.injEq] at hσ
  obtain ⟨rfl, rfl, rfl⟩ := hσ
  obtain ⟨wW, wO, wm, wβ, wd⟩ := w0
  replace hm0 : wm = 0 := hm0
  subst hm0
  replace hd0 : wd = [] := hd0
  subst hd0
  refine ⟨by kernel_rfl, ?_⟩
  change Tri ⟨_, _, _, _, _, _⟩ [(0, .int l), (1, .int n)] [] _ _
  obtain ⟨hn0, hn1⟩ := hp
  refine tri_seq ?_
  refine tri_regD hcx [] [] [0, 1] [] [] [] [] (by kernel_rfl) ?_ ?_
  ·
   exact az
  refine fin_then ?_
  refine tri_seq ?_
  refine tri_regD hcx [] [4] [] [] [((l != 0) = true → ((l != 0) = true)), ((l != 0) = true → Fit (0 - n)), ((l != 0) = true → ((l != 0) = true)), ((l != 0) = true → ((l != 0) = true)), ((l != 0) = true → (l != 0) = true), (((l != 0) && (decide (l ≥ (0 - n)))) = true → (((l != 0) && (decide (l ≥ (0 - n)))) = true)), (((l != 0) && (decide (l ≥ (0 - n)))) = true → (((l != 0) && (decide (l ≥ (0 - n)))) = true)), (((l != 0) && (decide (l ≥ (0 - n)))) = true → ((l != 0) && (decide (l ≥ (0 - n)))) = true)] [(4, .bool (((l != 0) && (decide (l ≥ (0 - n)))) && (decide (l ≤ n))))] [] (by kernel_rfl) ?_ ?_
  ·
   refine (ap ?_ (ap ?_ (ap ?_ (ap ?_ (ap (by exact id) (ap ?_ (ap ?_ (ap (by exact id) az))))))))
   all_goals
    first | omega | exact id
  refine fin_then ?_
  refine tri_ret ?_
  exact fin_ret [] rfl rfl trivial hcx (avs := [.bool (((l != 0) && (decide (l ≥ (0 - n)))) && (decide (l ≤ n)))]) (by kernel_rfl) (congrArg AV.bool (show (((l != 0) && (decide (l ≥ (0 - n)))) && (decide (l ≤ n))) = (Cn.mayP l n) from (by exact Cn.is_eq l n))) [] rfl
 ·
  cases hσ
def cx_rInts : Cx := ⟨tyR14, [(45, rIs_σ)], false⟩
theorem cx_rInts_ok : CxOk Tryz.prog cx_rInts := cx_ok tyR14_ok ⟨rIs_sound, trivial⟩
def rInts_σ : CtF
  | [.im (.ls (.ints a)), .im (.ls (.ints b))], [] => some (a.length ≤ maxLen, .bool (decide (a = b)), [])
  | _, _ => none
theorem rInts_sound : Sound Tryz.prog 16 rInts_σ := by
 refine sound_mk (cx := cx_rInts) (fn := Tryz.f16) Tryz.func16 (by kernel_rfl) rfl ?_
 intro w0 G0 args os p r outs hσ hp hm0 hd0
 have hcx : CxOk Tryz.prog cx_rInts := cx_rInts_ok
 have hmx : Tryz.prog.follows .mixedOrders = true := by kernel_rfl
 unfold rInts_σ at hσ
 split at hσ
 ·
  rename_i a b
  simp only [Option.some.injEq, Prod.mk.injEq] at hσ
  obtain ⟨rfl, rfl, rfl⟩ := hσ
  obtain ⟨wW, wO, wm, wβ, wd⟩ := w0
  replace hm0 : wm = 0 := hm0
  subst hm0
  replace hd0 : wd = [] := hd0
  subst hd0
  refine ⟨by kernel_rfl, ?_⟩
  change Tri ⟨_, _, _, _, _, _⟩ [(0, .ints a), (1, .ints b)] [] _ _
  unfold maxLen at hp
  refine tri_seq ?_
  refine tri_regD hcx [] [] [0, 1] [] [] [] [] (by kernel_rfl) ?_ ?_
  ·
   exact az
  refine fin_then ?_
  refine tri_seq ?_
  refine tri_seq ?_
  refine tri_regD hcx [] [10] [0, 1] [] [] [(10, .bool ((a.length : Int) != (b.length : Int)))] [] (by kernel_rfl) ?_ ?_
  ·
   exact az
  refine fin_then ?_
  refine tri_cond (b := ((a.length : Int) != (b.length : Int))) (by kernel_rfl) (fun hb0 => ?_) (fun hb0 => ?_)
  ·
   skip
   have h0 := bne_iff_ne.1 hb0
   refine tri_seq ?_
   refine tri_regD hcx [] [4] [] [] [] [(4, .bool false)] [] (by kernel_rfl) ?_ ?_
   ·
    exact az
   refine fin_then ?_
   refine tri_ret ?_
   refine fin_then_ret ?_
   exact fin_ret [] rfl rfl trivial hcx (avs := [.bool false]) (by kernel_rfl) (congrArg AV.bool (show false = (decide (a = b)) from (by exact (Cn.ne_len (by omega)).symm))) [] rfl
  ·
   skip
   have h0 := bneF hb0
   refine tri_skip ?_
   refine fin_then ?_
   refine tri_seq ?_
   refine tri_seq ?_
   refine tri_regD hcx [] [5] [0, 1] [] [] [(5, .int 0)] [] (by kernel_rfl) ?_ ?_
   ·
    exact az
   refine fin_then ?_
   refine tri_block ?_
   refine tri_loop (X := Nat) (fun x0 => x0 ≤ a.length ∧ ∀ j, j < x0 → a.getD j 0 = b.getD j 0) (fun x0 => [(0, .ints a), (1, .ints b), (5, .int (x0 : Int))]) (fun x0 => []) (fun x0 => a.length - x0) (0) ?_ ?_ ?_ ?_
   ·
    show 0 ≤ a.length ∧ ∀ j, j < 0 → a.getD j 0 = b.getD j 0
    exact ⟨Nat.zero_le _, fun j hj => by omega⟩
   ·
    exact subE_mk (l := [.ints a, .ints b, .int 0]) (m := [.ints a, .ints b, .int (0 : Int)]) (by kernel_rfl) (by kernel_rfl) (consE rfl (consE rfl (consE (congrArg AV.int (show 0 = (0 : Int) from (by first | rfl | omega | (simp; done)))) rfl)))
   ·
    kernel_rfl
   ·
    intro k hI
    replace hI : k ≤ a.length ∧ ∀ j, j < k → a.getD j 0 = b.getD j 0 := hI
    change Tri _ [(0, .ints a), (1, .ints b), (5, .int (k : Int))] [] _ _
    obtain ⟨hk, hok⟩ := hI
    refine tri_seq ?_
    refine tri_seq ?_
    refine tri_regD hcx [] [14] [0, 1, 5] [] [] [(14, .bool (decide ((k : Int) < (a.length : Int))))] [] (by kernel_rfl) ?_ ?_
    ·
     exact az
    refine fin_then ?_
    refine tri_cond (b := (decide ((k : Int) < (a.length : Int)))) (by kernel_rfl) (fun hb1 => ?_) (fun hb1 => ?_)
    ·
     skip
     have h1 := of_decide_eq_true hb1
     refine tri_skip ?_
     refine fin_then ?_
     refine tri_seq ?_
     refine tri_block ?_
     refine tri_seq ?_
     refine tri_drawD [0, 0, 3, 7, 0, 0, 48, 112, 255] hcx hmx [] [25] [0, 1, 5] [] [((0 : Int) ≤ (k : Int) ∧ (k : Int) < (a.length : Int)), ((0 : Int) ≤ (k : Int) ∧ (k : Int) < (b.length : Int))] [(25, .bool ((a.getD k 0) != (b.getD k 0)))] [] (by kernel_rfl) ?_ ?_
     ·
      refine (ap ?_ (ap ?_ az))
      all_goals
       omega
     refine fin_then ?_
     refine tri_cond (b := ((a.getD k 0) != (b.getD k 0))) (by kernel_rfl) (fun hb2 => ?_) (fun hb2 => ?_)
     ·
      skip
      have h2 := bne_iff_ne.1 hb2
      have hq := h2
      refine tri_seq ?_
      refine tri_regD hcx [] [4] [] [] [] [(4, .bool false)] [] (by kernel_rfl) ?_ ?_
      ·
       exact az
      refine fin_then ?_
      refine tri_ret ?_
      refine fin_block_ret ?_
      refine fin_then_ret ?_
      refine fin_then_ret ?_
      refine fin_block_ret ?_
      refine fin_then_ret ?_
      exact fin_ret [] rfl rfl trivial hcx (avs := [.bool false]) (by kernel_rfl) (congrArg AV.bool (show false = (decide (a = b)) from (by exact (Cn.ne_at hq).symm))) [] rfl
     ·
      skip
      have h2 := bneF hb2
      have hq := h2
      refine tri_skip ?_
      refine fin_block ?_
      refine fin_then ?_
      refine tri_regD hcx [] [5] [0, 1] [] [Fit ((k : Int) + 1)] [(5, .int ((k : Int) + 1))] [] (by kernel_rfl) ?_ ?_
      ·
       refine (ap ?_ az)
       omega
      refine fin_round (k + 1) ?_ ?_ ?_ ?_
      ·
       show (k + 1) ≤ a.length ∧ ∀ j, j < (k + 1) → a.getD j 0 = b.getD j 0
       exact ⟨by omega, Cn.neSucc (P := fun j => a.getD j 0 = b.getD j 0) hok (by first | exact hq | omega)⟩
      ·
       show a.length - (k + 1) < a.length - k
       omega
      ·
       exact subE_mk (l := [.ints a, .ints b, .int ((k : Int) + 1)]) (m := [.ints a, .ints b, .int ((k + 1) : Int)]) (by kernel_rfl) (by kernel_rfl) (consE rfl (consE rfl (consE (congrArg AV.int (show ((k : Int) + 1) = ((k + 1) : Int) from (by first | rfl | omega | (simp; done)))) rfl)))
      ·
       kernel_rfl
    ·
     skip
     have h1 := of_decide_eq_false hb1
     refine tri_exit ?_
     refine fin_then_exit ?_
     refine fin_then_exit ?_
     refine fin_block_same ?_
     refine fin_then ?_
     refine tri_seq ?_
     refine tri_regD hcx [] [4] [] [] [] [(4, .bool true)] [] (by kernel_rfl) ?_ ?_
     ·
      exact az
     refine fin_then ?_
     refine tri_ret ?_
     exact fin_ret [] rfl rfl trivial hcx (avs := [.bool true]) (by kernel_rfl) (congrArg AV.bool (show true = (decide (a = b)) from (by exact (Cn.eq_of (d := 0) (by omega) (fun j hj => hok j (by omega))).symm))) [] rfl
 ·
  cases hσ
def cx_rLists : Cx := ⟨tyR14, [(45, rIs_σ), (16, (coeF [.ld (.ints []), .ld (.ints [])] rInts_σ))], false⟩
theorem cx_rLists_ok : CxOk Tryz.prog cx_rLists := cx_ok tyR14_ok ⟨rIs_sound, (rInts_sound.coe [.ld (.ints []), .ld (.ints [])] rfl), trivial⟩
def rLists_σ : CtF
  | [.im (.ls (.intss a)), .im (.ls (.intss b))], [] => some (a.length ≤ maxLen ∧ ∀ l ∈ a, l.length ≤ maxLen, .bool (decide (a = b)), [])
  | _, _ => none
theorem rLists_sound : Sound Tryz.prog 51 rLists_σ := by
 refine sound_mk (cx := cx_rLists) (fn := Tryz.f51) Tryz.func51 (by kernel_rfl) rfl ?_
 intro w0 G0 args os p r outs hσ hp hm0 hd0
 have hcx : CxOk Tryz.prog cx_rLists := cx_rLists_ok
 have hmx : Tryz.prog.follows .mixedOrders = true := by kernel_rfl
 unfold rLists_σ at hσ
 split at hσ
 ·
  rename_i a b
  simp only [Option.some.injEq, Prod.mk.injEq] at hσ
  obtain ⟨rfl, rfl, rfl⟩ := hσ
  obtain ⟨wW, wO, wm, wβ, wd⟩ := w0
  replace hm0 : wm = 0 := hm0
  subst hm0
  replace hd0 : wd = [] := hd0
  subst hd0
  refine ⟨by kernel_rfl, ?_⟩
  change Tri ⟨_, _, _, _, _, _⟩ [(0, .intss a), (1, .intss b)] [] _ _
  obtain ⟨hm1, hm2⟩ := hp
  unfold maxLen at hm1
  refine tri_seq ?_
  refine tri_regD hcx [] [] [0, 1] [] [] [] [] (by kernel_rfl) ?_ ?_
  ·
   exact az
  refine fin_then ?_
  refine tri_seq ?_
  refine tri_seq ?_
  refine tri_regD hcx [] [10] [0, 1] [] [] [(10, .bool ((a.length : Int) != (b.length : Int)))] [] (by kernel_rfl) ?_ ?_
  ·
   exact az
  refine fin_then ?_
  refine tri_cond (b := ((a.length : Int) != (b.length : Int))) (by kernel_rfl) (fun hb0 => ?_) (fun hb0 => ?_)
  ·
   skip
   have h0 := bne_iff_ne.1 hb0
   refine tri_seq ?_
   refine tri_regD hcx [] [4] [] [] [] [(4, .bool false)] [] (by kernel_rfl) ?_ ?_
   ·
    exact az
   refine fin_then ?_
   refine tri_ret ?_
   refine fin_then_ret ?_
   exact fin_ret [] rfl rfl trivial hcx (avs := [.bool false]) (by kernel_rfl) (congrArg AV.bool (show false = (decide (a = b)) from (by exact (Cn.ne_len (by omega)).symm))) [] rfl
  ·
   skip
   have h0 := bneF hb0
   refine tri_skip ?_
   refine fin_then ?_
   refine tri_seq ?_
   refine tri_seq ?_
   refine tri_regD hcx [] [5] [0, 1] [] [] [(5, .int 0)] [] (by kernel_rfl) ?_ ?_
   ·
    exact az
   refine fin_then ?_
   refine tri_block ?_
   refine tri_loop (X := Nat) (fun x0 => x0 ≤ a.length ∧ ∀ j, j < x0 → a.getD j [] = b.getD j []) (fun x0 => [(0, .intss a), (1, .intss b), (5, .int (x0 : Int))]) (fun x0 => []) (fun x0 => a.length - x0) (0) ?_ ?_ ?_ ?_
   ·
    show 0 ≤ a.length ∧ ∀ j, j < 0 → a.getD j [] = b.getD j []
    exact ⟨Nat.zero_le _, fun j hj => by omega⟩
   ·
    exact subE_mk (l := [.intss a, .intss b, .int 0]) (m := [.intss a, .intss b, .int (0 : Int)]) (by kernel_rfl) (by kernel_rfl) (consE rfl (consE rfl (consE (congrArg AV.int (show 0 = (0 : Int) from (by first | rfl | omega | (simp; done)))) rfl)))
   ·
    kernel_rfl
   ·
    intro k hI
    replace hI : k ≤ a.length ∧ ∀ j, j < k → a.getD j [] = b.getD j [] := hI
    change Tri _ [(0, .intss a), (1, .intss b), (5, .int (k : Int))] [] _ _
    obtain ⟨hk, hok⟩ := hI
    refine tri_seq ?_
    refine tri_seq ?_
    refine tri_regD hcx [] [14] [0, 1, 5] [] [] [(14, .bool (decide ((k : Int) < (a.length : Int))))] [] (by kernel_rfl) ?_ ?_
    ·
     exact az
    refine fin_then ?_
    refine tri_cond (b := (decide ((k : Int) < (a.length : Int)))) (by kernel_rfl) (fun hb1 => ?_) (fun hb1 => ?_)
    ·
     skip
     have h1 := of_decide_eq_true hb1
     refine tri_skip ?_
     refine fin_then ?_
     refine tri_seq ?_
     refine tri_block ?_
     refine tri_seq ?_
     refine tri_drawD [0, 0, 3, 7, 0, 0, 48, 112, 255, 511] hcx hmx [] [26] [0, 1, 5] [] [((0 : Int) ≤ (k : Int) ∧ (k : Int) < (a.length : Int)), ((0 : Int) ≤ (k : Int) ∧ (k : Int) < (b.length : Int)), ((a.getD k []).length ≤ maxLen)] [(26, .bool (!(decide ((a.getD k []) = (b.getD k [])))))] [] (by kernel_rfl) ?_ ?_
     ·
      refine (ap ?_ (ap ?_ (ap ?_ az)))
      all_goals
       first | omega | exact hm2 _ (Cn.getD_memL (by omega))
     refine fin_then ?_
     refine tri_cond (b := (!(decide ((a.getD k []) = (b.getD k []))))) (by kernel_rfl) (fun hb2 => ?_) (fun hb2 => ?_)
     ·
      skip
      have h2 := of_decide_eq_false (notB_t hb2)
      have hq : ¬ (a.getD k [] = b.getD k []) := by simpa using h2
      refine tri_seq ?_
      refine tri_regD hcx [] [4] [] [] [] [(4, .bool false)] [] (by kernel_rfl) ?_ ?_
      ·
       exact az
      refine fin_then ?_
      refine tri_ret ?_
      refine fin_block_ret ?_
      refine fin_then_ret ?_
      refine fin_then_ret ?_
      refine fin_block_ret ?_
      refine fin_then_ret ?_
      exact fin_ret [] rfl rfl trivial hcx (avs := [.bool false]) (by kernel_rfl) (congrArg AV.bool (show false = (decide (a = b)) from (by exact (Cn.ne_at hq).symm))) [] rfl
     ·
      skip
      have h2 := of_decide_eq_true (notB_f hb2)
      have hq : a.getD k [] = b.getD k [] := by simpa using h2
      refine tri_skip ?_
      refine fin_block ?_
      refine fin_then ?_
      refine tri_regD hcx [] [5] [0, 1] [] [Fit ((k : Int) + 1)] [(5, .int ((k : Int) + 1))] [] (by kernel_rfl) ?_ ?_
      ·
       refine (ap ?_ az)
       omega
      refine fin_round (k + 1) ?_ ?_ ?_ ?_
      ·
       show (k + 1) ≤ a.length ∧ ∀ j, j < (k + 1) → a.getD j [] = b.getD j []
       exact ⟨by omega, Cn.neSucc (P := fun j => a.getD j [] = b.getD j []) hok (by first | exact hq | omega)⟩
      ·
       show a.length - (k + 1) < a.length - k
       omega
      ·
       exact subE_mk (l := [.intss a, .intss b, .int ((k : Int) + 1)]) (m := [.intss a, .intss b, .int ((k + 1) : Int)]) (by kernel_rfl) (by kernel_rfl) (consE rfl (consE rfl (consE (congrArg AV.int (show ((k : Int) + 1) = ((k + 1) : Int) from (by first | rfl | omega | (simp; done)))) rfl)))
      ·
       kernel_rfl
    ·
     skip
     have h1 := of_decide_eq_false hb1
     refine tri_exit ?_
     refine fin_then_exit ?_
     refine fin_then_exit ?_
     refine fin_block_same ?_
     refine fin_then ?_
     refine tri_seq ?_
     refine tri_regD hcx [] [4] [] [] [] [(4, .bool true)] [] (by kernel_rfl) ?_ ?_
     ·
      exact az
     refine fin_then ?_
     refine tri_ret ?_
     exact fin_ret [] rfl rfl trivial hcx (avs := [.bool true]) (by kernel_rfl) (congrArg AV.bool (show true = (decide (a = b)) from (by exact (Cn.eq_of (d := []) (by omega) (fun j hj => hok j (by omega))).symm))) [] rfl
 ·
  cases hσ
def cx_rCheck : Cx := ⟨tyR14, [(45, rIs_σ), (16, (coeF [.ld (.ints []), .ld (.ints [])] rInts_σ)), (51, (coeF [.ld (.intss []), .ld (.intss [])] rLists_σ))], false⟩
theorem cx_rCheck_ok : CxOk Tryz.prog cx_rCheck := cx_ok tyR14_ok ⟨rIs_sound, (rInts_sound.coe [.ld (.ints []), .ld (.ints [])] rfl), (rLists_sound.coe [.ld (.intss []), .ld (.intss [])] rfl), trivial⟩
def rCheck_σ : CtF
  | [.agg [.im (.val (.int .i64 N)), .im (.ls (.intss L))]], [] => some (L.length ≤ maxLen ∧ ∀ l ∈ L, l.length ≤ maxLen, .int (Cn.chkV N L), [])
  | _, _ => none
theorem rCheck_sound : Sound Tryz.prog 18 rCheck_σ := by
 refine sound_mk (cx := cx_rCheck) (fn := Tryz.f18) Tryz.func18 (by kernel_rfl) rfl ?_
 intro w0 G0 args os p r outs hσ hp hm0 hd0
 have hcx : CxOk Tryz.prog cx_rCheck := cx_rCheck_ok
 have hmx : Tryz.prog.follows .mixedOrders = true := by kernel_rfl
 unfold rCheck_σ at hσ
 split at hσ
 ·
  rename_i N L
  simp only [Option.some.injEq, Prod.mk.injEq] at hσ
  obtain ⟨rfl, rfl, rfl⟩ := hσ
  obtain ⟨wW, wO, wm, wβ, wd⟩ := w0
  replace hm0 : wm = 0 := hm0
  subst hm0
  replace hd0 : wd = [] := hd0
  subst hd0
  refine ⟨by kernel_rfl, ?_⟩
  change Tri ⟨_, _, _, _, _, _⟩ [(0, .agg [.int N, .intss L])] [] _ _
  obtain ⟨hm1, hm2⟩ := hp
  unfold maxLen at hm1
  have hm3 : ∀ k, k < L.length → (L.getD k []).length ≤ 9223372036854775807 := fun k hk => hm2 _ (Cn.getD_memL hk)
  refine tri_seq ?_
  refine tri_regD hcx [(1000, .frz)] [1] [] [] [] [(1, .pto [.int N, .ls (.intss L)])] [] (by kernel_rfl) ?_ ?_
  ·
   exact az
  refine fin_then ?_
  refine tri_seq ?_
  refine tri_seq ?_
  refine tri_regD hcx [] [12] [1] [] [((!(decide (N < 0))) = true → ((!(decide (N < 0))) = true)), ((!(decide (N < 0))) = true → ((!(decide (N < 0))) = true)), ((decide (N < 0)) = false → (!(decide (N < 0))) = true)] [(12, .bool ((decide (N < 0)) || (decide (N > 65536))))] [] (by kernel_rfl) ?_ ?_
  ·
   refine (ap ?_ (ap ?_ (ap (by exact vcNot) az)))
   all_goals
    exact id
  refine fin_then ?_
  refine tri_cond (b := ((decide (N < 0)) || (decide (N > 65536)))) (by kernel_rfl) (fun hb0 => ?_) (fun hb0 => ?_)
  ·
   skip
   have h0 := hb0
   try simp only [Bool.or_eq_true, Bool.or_eq_false_iff, Bool.and_eq_true, Bool.and_eq_false_iff, Bool.not_eq_true', Bool.not_eq_false', decide_eq_true_eq, decide_eq_false_iff_not, bne_iff_ne, bne_eq_false_iff_eq, beq_iff_eq, beq_eq_false_iff_ne] at h0
   refine tri_seq ?_
   refine tri_regD hcx [] [2] [] [] [] [(2, .int 1)] [] (by kernel_rfl) ?_ ?_
   ·
    exact az
   refine fin_then ?_
   refine tri_ret ?_
   refine fin_then_ret ?_
   exact fin_ret [] rfl rfl trivial hcx (avs := [.int 1]) (by kernel_rfl) (congrArg AV.int (show 1 = (Cn.chkV N L) from (by exact (Cn.chk_arg (by omega)).symm))) [] rfl
  ·
   skip
   have h0 := hb0
   try simp only [Bool.or_eq_true, Bool.or_eq_false_iff, Bool.and_eq_true, Bool.and_eq_false_iff, Bool.not_eq_true', Bool.not_eq_false', decide_eq_true_eq, decide_eq_false_iff_not, bne_iff_ne, bne_eq_false_iff_eq, beq_iff_eq, beq_eq_false_iff_ne] at h0
   have hN : ¬ (N < 0 ∨ 65536 < N) := by omega
   refine tri_skip ?_
   refine fin_then ?_
   refine tri_seq ?_
   refine tri_seq ?_
   refine tri_regD hcx [] [3] [1] [] [] [(3, .int 0)] [] (by kernel_rfl) ?_ ?_
   ·
    exact az
   refine fin_then ?_
   refine tri_block ?_
   refine tri_loop (X := Nat) (fun x0 => x0 ≤ L.length ∧ ∀ j, j < x0 → Cn.badL N (L.getD j []) = false) (fun x0 => [(1, .pto [.int N, .ls (.intss L)]), (3, .int (x0 : Int))]) (fun x0 => []) (fun x0 => L.length - x0) (0) ?_ ?_ ?_ ?_
   ·
    show 0 ≤ L.length ∧ ∀ j, j < 0 → Cn.badL N (L.getD j []) = false
    exact ⟨Nat.zero_le _, fun j hj => by omega⟩
   ·
    exact subE_mk (l := [.pto [.int N, .ls (.intss L)], .int 0]) (m := [.pto [.int N, .ls (.intss L)], .int (0 : Int)]) (by kernel_rfl) (by kernel_rfl) (consE rfl (consE (congrArg AV.int (show 0 = (0 : Int) from (by first | rfl | omega | (simp; done)))) rfl))
   ·
    kernel_rfl
   ·
    intro i hI
    replace hI : i ≤ L.length ∧ ∀ j, j < i → Cn.badL N (L.getD j []) = false := hI
    change Tri _ [(1, .pto [.int N, .ls (.intss L)]), (3, .int (i : Int))] [] _ _
    obtain ⟨hk, hok⟩ := hI
    refine tri_seq ?_
    refine tri_seq ?_
    refine tri_regD hcx [] [17] [1, 3] [] [] [(17, .bool (decide ((i : Int) < (L.length : Int))))] [] (by kernel_rfl) ?_ ?_
    ·
     exact az
    refine fin_then ?_
    refine tri_cond (b := (decide ((i : Int) < (L.length : Int)))) (by kernel_rfl) (fun hb1 => ?_) (fun hb1 => ?_)
    ·
     skip
     have h1 := of_decide_eq_true hb1
     refine tri_skip ?_
     refine fin_then ?_
     refine tri_seq ?_
     refine tri_block ?_
     refine tri_seq ?_
     refine tri_regD hcx [] [4] [1, 3] [] [] [(4, .int 0)] [] (by kernel_rfl) ?_ ?_
     ·
      exact az
     refine fin_then ?_
     refine tri_block ?_
     refine tri_loop (X := Nat) (fun x0 => x0 ≤ (L.getD i []).length ∧ ∀ j, j < x0 → (!(Cn.mayP ((L.getD i []).getD j 0) N)) = false) (fun x0 => [(1, .pto [.int N, .ls (.intss L)]), (3, .int (i : Int)), (4, .int (x0 : Int))]) (fun x0 => []) (fun x0 => (L.getD i []).length - x0) (0) ?_ ?_ ?_ ?_
     ·
      show 0 ≤ (L.getD i []).length ∧ ∀ j, j < 0 → (!(Cn.mayP ((L.getD i []).getD j 0) N)) = false
      exact ⟨Nat.zero_le _, fun j hj => by omega⟩
     ·
      exact subE_mk (l := [.pto [.int N, .ls (.intss L)], .int (i : Int), .int 0]) (m := [.pto [.int N, .ls (.intss L)], .int (i : Int), .int (0 : Int)]) (by kernel_rfl) (by kernel_rfl) (consE rfl (consE rfl (consE (congrArg AV.int (show 0 = (0 : Int) from (by first | rfl | omega | (simp; done)))) rfl)))
     ·
      kernel_rfl
     ·
      intro k hI
      replace hI : k ≤ (L.getD i []).length ∧ ∀ j, j < k → (!(Cn.mayP ((L.getD i []).getD j 0) N)) = false := hI
      change Tri _ [(1, .pto [.int N, .ls (.intss L)]), (3, .int (i : Int)), (4, .int (k : Int))] [] _ _
      obtain ⟨hkk, hik⟩ := hI
      have hm4 := hm3 i (by omega)
      refine tri_seq ?_
      refine tri_seq ?_
      refine tri_regD hcx [] [27] [1, 3, 4] [] [((0 : Int) ≤ (i : Int) ∧ (i : Int) < (L.length : Int))] [(27, .bool (decide ((k : Int) < ((L.getD i []).length : Int))))] [] (by kernel_rfl) ?_ ?_
      ·
       refine (ap ?_ az)
       omega
      refine fin_then ?_
      refine tri_cond (b := (decide ((k : Int) < ((L.getD i []).length : Int)))) (by kernel_rfl) (fun hb2 => ?_) (fun hb2 => ?_)
      ·
       skip
       have h2 := of_decide_eq_true hb2
       refine tri_skip ?_
       refine fin_then ?_
       refine tri_seq ?_
       refine tri_block ?_
       refine tri_seq ?_
       refine tri_drawD [0, 1, 0, 7, 15, 0, 63, 127, 0, 256, 1023, 2047] hcx hmx [] [41] [1, 3, 4] [] [((0 : Int) ≤ (i : Int) ∧ (i : Int) < (L.length : Int)), ((0 : Int) ≤ (k : Int) ∧ (k : Int) < ((L.getD i []).length : Int)), (0 ≤ N ∧ N ≤ 65536)] [(41, .bool (!(Cn.mayP ((L.getD i []).getD k 0) N)))] [] (by kernel_rfl) ?_ ?_
       ·
        refine (ap ?_ (ap ?_ (ap ?_ az)))
        all_goals
         omega
       refine fin_then ?_
       refine tri_cond (b := (!(Cn.mayP ((L.getD i []).getD k 0) N))) (by kernel_rfl) (fun hb3 => ?_) (fun hb3 => ?_)
       ·
        skip
        have h3 := hb3
        have hq := h3
        refine tri_seq ?_
        refine tri_regD hcx [] [2] [] [] [] [(2, .int 1)] [] (by kernel_rfl) ?_ ?_
        ·
         exact az
        refine fin_then ?_
        refine tri_ret ?_
        refine fin_block_ret ?_
        refine fin_then_ret ?_
        refine fin_then_ret ?_
        refine fin_block_ret ?_
        refine fin_block_ret ?_
        refine fin_then_ret ?_
        refine fin_then_ret ?_
        refine fin_block_ret ?_
        refine fin_then_ret ?_
        exact fin_ret [] rfl rfl trivial hcx (avs := [.int 1]) (by kernel_rfl) (congrArg AV.int (show 1 = (Cn.chkV N L) from (by exact (Cn.chk_bad hN (k := i) (by omega) (Cn.any_yes (d := 0) (k := k) (p := fun x => !(Cn.mayP x N)) (by omega) hq)).symm))) [] rfl
       ·
        skip
        have h3 := hb3
        have hq := h3
        refine tri_skip ?_
        refine fin_block ?_
        refine fin_then ?_
        refine tri_regD hcx [] [4] [1, 3] [] [Fit ((k : Int) + 1)] [(4, .int ((k : Int) + 1))] [] (by kernel_rfl) ?_ ?_
        ·
         refine (ap ?_ az)
         omega
        refine fin_round (k + 1) ?_ ?_ ?_ ?_
        ·
         show (k + 1) ≤ (L.getD i []).length ∧ ∀ j, j < (k + 1) → (!(Cn.mayP ((L.getD i []).getD j 0) N)) = false
         exact ⟨by omega, Cn.falseSucc (f := fun j => !(Cn.mayP ((L.getD i []).getD j 0) N)) hik hq⟩
        ·
         show (L.getD i []).length - (k + 1) < (L.getD i []).length - k
         omega
        ·
         exact subE_mk (l := [.pto [.int N, .ls (.intss L)], .int (i : Int), .int ((k : Int) + 1)]) (m := [.pto [.int N, .ls (.intss L)], .int (i : Int), .int ((k + 1) : Int)]) (by kernel_rfl) (by kernel_rfl) (consE rfl (consE rfl (consE (congrArg AV.int (show ((k : Int) + 1) = ((k + 1) : Int) from (by first | rfl | omega | (simp; done)))) rfl)))
        ·
         kernel_rfl
      ·
       skip
       have h2 := of_decide_eq_false hb2
       refine tri_exit ?_
       refine fin_then_exit ?_
       refine fin_then_exit ?_
       refine fin_block_same ?_
       refine fin_block ?_
       refine fin_then ?_
       refine tri_regD hcx [] [3] [1] [] [Fit ((i : Int) + 1)] [(3, .int ((i : Int) + 1))] [] (by kernel_rfl) ?_ ?_
       ·
        refine (ap ?_ az)
        omega
       refine fin_round (i + 1) ?_ ?_ ?_ ?_
       ·
        show (i + 1) ≤ L.length ∧ ∀ j, j < (i + 1) → Cn.badL N (L.getD j []) = false
        exact ⟨by omega, Cn.falseSucc (f := fun j => Cn.badL N (L.getD j [])) hok (Cn.any_no (d := 0) (fun j hj => hik j (by omega)))⟩
       ·
        show L.length - (i + 1) < L.length - i
        omega
       ·
        exact subE_mk (l := [.pto [.int N, .ls (.intss L)], .int ((i : Int) + 1)]) (m := [.pto [.int N, .ls (.intss L)], .int ((i + 1) : Int)]) (by kernel_rfl) (by kernel_rfl) (consE rfl (consE (congrArg AV.int (show ((i : Int) + 1) = ((i + 1) : Int) from (by first | rfl | omega | (simp; done)))) rfl))
       ·
        kernel_rfl
    ·
     skip
     have h1 := of_decide_eq_false hb1
     refine tri_exit ?_
     refine fin_then_exit ?_
     refine fin_then_exit ?_
     refine fin_block_same ?_
     refine fin_then ?_
     refine tri_seq ?_
     refine tri_seq ?_
     refine tri_regD hcx [] [45] [] [] [] [(45, .bool (decide ((L.length : Int) > 65536)))] [] (by kernel_rfl) ?_ ?_
     ·
      exact az
     refine fin_then ?_
     refine tri_cond (b := (decide ((L.length : Int) > 65536))) (by kernel_rfl) (fun hb4 => ?_) (fun hb4 => ?_)
     ·
      skip
      have h4 := of_decide_eq_true hb4
      have hc := Cn.chk_ok hN (fun j hj => hok j (by omega))
      refine tri_seq ?_
      refine tri_regD hcx [] [2] [] [] [] [(2, .int 2)] [] (by kernel_rfl) ?_ ?_
      ·
       exact az
      refine fin_then ?_
      refine tri_ret ?_
      refine fin_then_ret ?_
      exact fin_ret [] rfl rfl trivial hcx (avs := [.int 2]) (by kernel_rfl) (congrArg AV.int (show 2 = (Cn.chkV N L) from (by rw [hc, if_pos (by omega)]))) [] rfl
     ·
      skip
      have h4 := of_decide_eq_false hb4
      have hc := Cn.chk_ok hN (fun j hj => hok j (by omega))
      refine tri_skip ?_
      refine fin_then ?_
      refine tri_seq ?_
      refine tri_regD hcx [] [2] [] [] [] [(2, .int 0)] [] (by kernel_rfl) ?_ ?_
      ·
       exact az
      refine fin_then ?_
      refine tri_ret ?_
      exact fin_ret [] rfl rfl trivial hcx (avs := [.int 0]) (by kernel_rfl) (congrArg AV.int (show 0 = (Cn.chkV N L) from (by rw [hc, if_neg (by omega)]))) [] rfl
 ·
  cases hσ
def cx_rSame : Cx := ⟨tyR14, [(45, rIs_σ), (16, (coeF [.ld (.ints []), .ld (.ints [])] rInts_σ)), (51, (coeF [.ld (.intss []), .ld (.intss [])] rLists_σ)), (18, (coeF [.agg [.id, .ld (.intss [])]] rCheck_σ))], false⟩
theorem cx_rSame_ok : CxOk Tryz.prog cx_rSame := cx_ok tyR14_ok ⟨rIs_sound, (rInts_sound.coe [.ld (.ints []), .ld (.ints [])] rfl), (rLists_sound.coe [.ld (.intss []), .ld (.intss [])] rfl), (rCheck_sound.coe [.agg [.id, .ld (.intss [])]] rfl), trivial⟩
def rSame_σ : CtF
  | [.agg [.im (.val (.int .i64 N)), .im (.ls (.intss L))], .agg [.im (.val (.int .i64 N')), .im (.ls (.intss L'))]], [] => some (L.length ≤ maxLen ∧ ∀ l ∈ L, l.length ≤ maxLen, .bool ((N == N') && decide (L = L')), [])
  | _, _ => none
theorem rSame_sound : Sound Tryz.prog 20 rSame_σ := by
 refine sound_mk (cx := cx_rSame) (fn := Tryz.f20) Tryz.func20 (by kernel_rfl) rfl ?_
 intro w0 G0 args os p r outs hσ hp hm0 hd0
 have hcx : CxOk Tryz.prog cx_rSame := cx_rSame_ok
 unfold rSame_σ at hσ
 split at hσ
 ·
  rename_i N L N' L'
  simp only [Option.some.injEq, Prod.mk.injEq] at hσ
  obtain ⟨rfl, rfl, rfl⟩ := hσ
  obtain ⟨wW, wO, wm, wβ, wd⟩ := w0
  replace hm0 : wm = 0 := hm0
  subst hm0
  replace hd0 : wd = [] := hd0
  subst hd0
  refine ⟨by kernel_rfl, ?_⟩
  change Tri ⟨_, _, _, _, _, _⟩ [(0, .agg [.int N, .intss L]), (1, .agg [.int N', .intss L'])] [] _ _
  refine tri_seq ?_
  refine tri_regD hcx [(1000, .frz), (1001, .frz)] [2, 3] [] [] [] [(2, .pto [.int N, .ls (.intss L)]), (3, .pto [.int N', .ls (.intss L')])] [] (by kernel_rfl) ?_ ?_
  ·
   exact az
  refine fin_then ?_
  refine tri_seq ?_
  refine tri_regD hcx [] [4] [] [] [((N == N') = true → ((N == N') = true)), ((N == N') = true → ((N == N') = true)), ((N == N') = true → ((N == N') = true)), ((N == N') = true → ((N == N') = true)), ((N == N') = true → (L.length ≤ maxLen ∧ ∀ l ∈ L, l.length ≤ maxLen)), ((N == N') = true → (N == N') = true)] [(4, .bool ((N == N') && (decide (L = L'))))] [] (by kernel_rfl) ?_ ?_
  ·
   refine (ap ?_ (ap ?_ (ap ?_ (ap ?_ (ap ?_ (ap (by exact id) az))))))
   all_goals
    first | exact (fun _ => hp) | (intro h; exact h)
  refine fin_then ?_
  refine tri_ret ?_
  exact fin_ret [] rfl rfl trivial hcx (avs := [.bool ((N == N') && (decide (L = L')))]) (by kernel_rfl) (congrArg AV.bool (show ((N == N') && (decide (L = L'))) = ((N == N') && decide (L = L')) from (by rfl))) [] rfl
 ·
  cases hσ
def cx_rHas : Cx := ⟨tyR14, [(45, rIs_σ), (16, (coeF [.ld (.ints []), .ld (.ints [])] rInts_σ)), (51, (coeF [.ld (.intss []), .ld (.intss [])] rLists_σ)), (18, (coeF [.agg [.id, .ld (.intss [])]] rCheck_σ)), (20, (coeF [.agg [.id, .ld (.intss [])], .agg [.id, .ld (.intss [])]] rSame_σ))], false⟩
theorem cx_rHas_ok : CxOk Tryz.prog cx_rHas := cx_ok tyR14_ok ⟨rIs_sound, (rInts_sound.coe [.ld (.ints []), .ld (.ints [])] rfl), (rLists_sound.coe [.ld (.intss []), .ld (.intss [])] rfl), (rCheck_sound.coe [.agg [.id, .ld (.intss [])]] rfl), (rSame_sound.coe [.agg [.id, .ld (.intss [])], .agg [.id, .ld (.intss [])]] rfl), trivial⟩
def rHas_σ : CtF
  | [.im (.ls (.ints l)), .im (.val (.int .i64 n))], [] => some (l.length ≤ maxLen, .bool (l.contains n), [])
  | _, _ => none
theorem rHas_sound : Sound Tryz.prog 33 rHas_σ := by
 refine sound_mk (cx := cx_rHas) (fn := Tryz.f33) Tryz.func33 (by kernel_rfl) rfl ?_
 intro w0 G0 args os p r outs hσ hp hm0 hd0
 have hcx : CxOk Tryz.prog cx_rHas := cx_rHas_ok
 unfold rHas_σ at hσ
 split at hσ
 ·
  rename_i l n
  simp only [Option.some.injEq, Prod.mk.injEq] at hσ
  obtain ⟨rfl, rfl, rfl⟩ := hσ
  obtain ⟨wW, wO, wm, wβ, wd⟩ := w0
  replace hm0 : wm = 0 := hm0
  subst hm0
  replace hd0 : wd = [] := hd0
  subst hd0
  refine ⟨by kernel_rfl, ?_⟩
  change Tri ⟨_, _, _, _, _, _⟩ [(0, .ints l), (1, .int n)] [] _ _
  have hm := hp
  unfold maxLen at hm
  refine tri_seq ?_
  refine tri_regD hcx [] [] [0, 1] [] [] [] [] (by kernel_rfl) ?_ ?_
  ·
   exact az
  refine fin_then ?_
  refine tri_seq ?_
  refine tri_seq ?_
  refine tri_regD hcx [] [5] [0, 1] [] [] [(5, .int 0)] [] (by kernel_rfl) ?_ ?_
  ·
   exact az
  refine fin_then ?_
  refine tri_block ?_
  refine tri_loop (X := Nat) (fun x0 => x0 ≤ l.length ∧ ∀ j, j < x0 → l.getD j 0 ≠ n) (fun x0 => [(0, .ints l), (1, .int n), (5, .int (x0 : Int))]) (fun x0 => []) (fun x0 => l.length - x0) (0) ?_ ?_ ?_ ?_
  ·
   show 0 ≤ l.length ∧ ∀ j, j < 0 → l.getD j 0 ≠ n
   exact ⟨Nat.zero_le _, fun j hj => by omega⟩
  ·
   exact subE_mk (l := [.ints l, .int n, .int 0]) (m := [.ints l, .int n, .int (0 : Int)]) (by kernel_rfl) (by kernel_rfl) (consE rfl (consE rfl (consE (congrArg AV.int (show 0 = (0 : Int) from (by first | rfl | omega | (simp; done)))) rfl)))
  ·
   kernel_rfl
  ·
   intro k hI
   replace hI : k ≤ l.length ∧ ∀ j, j < k → l.getD j 0 ≠ n := hI
   change Tri _ [(0, .ints l), (1, .int n), (5, .int (k : Int))] [] _ _
   obtain ⟨hk, hok⟩ := hI
   refine tri_seq ?_
   refine tri_seq ?_
   refine tri_regD hcx [] [9] [0, 1, 5] [] [] [(9, .bool (decide ((k : Int) < (l.length : Int))))] [] (by kernel_rfl) ?_ ?_
   ·
    exact az
   refine fin_then ?_
   refine tri_cond (b := (decide ((k : Int) < (l.length : Int)))) (by kernel_rfl) (fun hb0 => ?_) (fun hb0 => ?_)
   ·
    skip
    have h0 := of_decide_eq_true hb0
    refine tri_skip ?_
    refine fin_then ?_
    refine tri_seq ?_
    refine tri_block ?_
    refine tri_seq ?_
    refine tri_regD hcx [] [17] [0, 1, 5] [] [((0 : Int) ≤ (k : Int) ∧ (k : Int) < (l.length : Int))] [(17, .bool ((l.getD k 0) == n))] [] (by kernel_rfl) ?_ ?_
    ·
     refine (ap ?_ az)
     omega
    refine fin_then ?_
    refine tri_cond (b := ((l.getD k 0) == n)) (by kernel_rfl) (fun hb1 => ?_) (fun hb1 => ?_)
    ·
     skip
     have h1 := eq_of_beq hb1
     have hq := h1
     refine tri_seq ?_
     refine tri_regD hcx [] [4] [] [] [] [(4, .bool true)] [] (by kernel_rfl) ?_ ?_
     ·
      exact az
     refine fin_then ?_
     refine tri_ret ?_
     refine fin_block_ret ?_
     refine fin_then_ret ?_
     refine fin_then_ret ?_
     refine fin_block_ret ?_
     refine fin_then_ret ?_
     exact fin_ret [] rfl rfl trivial hcx (avs := [.bool true]) (by kernel_rfl) (congrArg AV.bool (show true = (l.contains n) from (by exact (Cn.has_yes (by omega) hq).symm))) [] rfl
    ·
     skip
     have h1 := neB hb1
     have hq := h1
     refine tri_skip ?_
     refine fin_block ?_
     refine fin_then ?_
     refine tri_regD hcx [] [5] [0, 1] [] [Fit ((k : Int) + 1)] [(5, .int ((k : Int) + 1))] [] (by kernel_rfl) ?_ ?_
     ·
      refine (ap ?_ az)
      omega
     refine fin_round (k + 1) ?_ ?_ ?_ ?_
     ·
      show (k + 1) ≤ l.length ∧ ∀ j, j < (k + 1) → l.getD j 0 ≠ n
      exact ⟨by omega, Cn.neSucc (P := fun j => l.getD j 0 ≠ n) hok hq⟩
     ·
      show l.length - (k + 1) < l.length - k
      omega
     ·
      exact subE_mk (l := [.ints l, .int n, .int ((k : Int) + 1)]) (m := [.ints l, .int n, .int ((k + 1) : Int)]) (by kernel_rfl) (by kernel_rfl) (consE rfl (consE rfl (consE (congrArg AV.int (show ((k : Int) + 1) = ((k + 1) : Int) from (by first | rfl | omega | (simp; done)))) rfl)))
     ·
      kernel_rfl
   ·
    skip
    have h0 := of_decide_eq_false hb0
    refine tri_exit ?_
    refine fin_then_exit ?_
    refine fin_then_exit ?_
    refine fin_block_same ?_
    refine fin_then ?_
    refine tri_seq ?_
    refine tri_regD hcx [] [4] [] [] [] [(4, .bool false)] [] (by kernel_rfl) ?_ ?_
    ·
     exact az
    refine fin_then ?_
    refine tri_ret ?_
    exact fin_ret [] rfl rfl trivial hcx (avs := [.bool false]) (by kernel_rfl) (congrArg AV.bool (show false = (l.contains n) from (by exact (Cn.has_no (fun j hj => hok j (by omega))).symm))) [] rfl
 ·
  cases hσ
def cx_rAhead : Cx := ⟨tyR14, [(45, rIs_σ), (16, (coeF [.ld (.ints []), .ld (.ints [])] rInts_σ)), (51, (coeF [.ld (.intss []), .ld (.intss [])] rLists_σ)), (18, (coeF [.agg [.id, .ld (.intss [])]] rCheck_σ)), (20, (coeF [.agg [.id, .ld (.intss [])], .agg [.id, .ld (.intss [])]] rSame_σ)), (33, (coeF [.ld (.ints []), .id] rHas_σ))], false⟩
theorem cx_rAhead_ok : CxOk Tryz.prog cx_rAhead := cx_ok tyR14_ok ⟨rIs_sound, (rInts_sound.coe [.ld (.ints []), .ld (.ints [])] rfl), (rLists_sound.coe [.ld (.intss []), .ld (.intss [])] rfl), (rCheck_sound.coe [.agg [.id, .ld (.intss [])]] rfl), (rSame_sound.coe [.agg [.id, .ld (.intss [])], .agg [.id, .ld (.intss [])]] rfl), (rHas_sound.coe [.ld (.ints []), .id] rfl), trivial⟩
def rAhead_σ : CtF
  | [.im (.val (.int .i64 a)), .im (.val (.int .i64 b))], [] => some (-65536 ≤ a ∧ a ≤ 65536 ∧ -65536 ≤ b ∧ b ≤ 65536, .bool (Cn.ahd a b), [])
  | _, _ => none
theorem rAhead_sound : Sound Tryz.prog 46 rAhead_σ := by
 refine sound_mk (cx := cx_rAhead) (fn := Tryz.f46) Tryz.func46 (by kernel_rfl) rfl ?_
 intro w0 G0 args os p r outs hσ hp hm0 hd0
 have hcx : CxOk Tryz.prog cx_rAhead := cx_rAhead_ok
 unfold rAhead_σ at hσ
 split at hσ
 ·
  rename_i a b
  simp only [Option.some.injEq, Prod.mk.injEq] at hσ
  obtain ⟨rfl, rfl, rfl⟩ := hσ
  obtain ⟨wW, wO, wm, wβ, wd⟩ := w0
  replace hm0 : wm = 0 := hm0
  subst hm0
  replace hd0 : wd = [] := hd0
  subst hd0
  refine ⟨by kernel_rfl, ?_⟩
  change Tri ⟨_, _, _, _, _, _⟩ [(0, .int a), (1, .int b)] [] _ _
  obtain ⟨h1, h2, h3, h4⟩ := hp
  refine tri_seq ?_
  refine tri_regD hcx [] [] [0, 1] [] [] [] [] (by kernel_rfl) ?_ ?_
  ·
   exact az
  refine fin_then ?_
  refine tri_seq ?_
  refine tri_regD hcx [] [5, 6] [0, 1] [] [Fit (0 - a), Fit (0 - b)] [(5, .int (max a (0 - a))), (6, .int (max b (0 - b)))] [] (by kernel_rfl) ?_ ?_
  ·
   refine (ap ?_ (ap ?_ az))
   all_goals
    omega
  refine fin_then ?_
  refine tri_seq ?_
  refine tri_regD hcx [] [4] [] [] [((!(decide ((max a (0 - a)) < (max b (0 - b))))) = true → ((!(decide ((max a (0 - a)) < (max b (0 - b))))) = true)), ((!(decide ((max a (0 - a)) < (max b (0 - b))))) = true → ((!(decide ((max a (0 - a)) < (max b (0 - b))))) = true)), ((!(decide ((max a (0 - a)) < (max b (0 - b))))) = true → ((!(decide ((max a (0 - a)) < (max b (0 - b))))) = true)), (((!(decide ((max a (0 - a)) < (max b (0 - b))))) && ((max a (0 - a)) == (max b (0 - b)))) = true → (((!(decide ((max a (0 - a)) < (max b (0 - b))))) && ((max a (0 - a)) == (max b (0 - b)))) = true)), (((!(decide ((max a (0 - a)) < (max b (0 - b))))) && ((max a (0 - a)) == (max b (0 - b)))) = true → (((!(decide ((max a (0 - a)) < (max b (0 - b))))) && ((max a (0 - a)) == (max b (0 - b)))) = true)), ((!(decide ((max a (0 - a)) < (max b (0 - b))))) = true → ((!(decide ((max a (0 - a)) < (max b (0 - b))))) = true)), ((!(decide ((max a (0 - a)) < (max b (0 - b))))) = true → (((max a (0 - a)) == (max b (0 - b))) = true → ((!(decide ((max a (0 - a)) < (max b (0 - b))))) && ((max a (0 - a)) == (max b (0 - b)))) = true)), ((decide ((max a (0 - a)) < (max b (0 - b)))) = false → (!(decide ((max a (0 - a)) < (max b (0 - b))))) = true)] [(4, .bool ((decide ((max a (0 - a)) < (max b (0 - b)))) || (((max a (0 - a)) == (max b (0 - b))) && (decide (a > b)))))] [] (by kernel_rfl) ?_ ?_
  ·
   refine (ap ?_ (ap ?_ (ap ?_ (ap ?_ (ap ?_ (ap ?_ (ap ?_ (ap (by exact vcNot) az))))))))
   all_goals
    first | exact id | exact vcH
  refine fin_then ?_
  refine tri_ret ?_
  exact fin_ret [] rfl rfl trivial hcx (avs := [.bool ((decide ((max a (0 - a)) < (max b (0 - b)))) || (((max a (0 - a)) == (max b (0 - b))) && (decide (a > b))))]) (by kernel_rfl) (congrArg AV.bool (show ((decide ((max a (0 - a)) < (max b (0 - b)))) || (((max a (0 - a)) == (max b (0 - b))) && (decide (a > b)))) = (Cn.ahd a b) from (by exact Cn.ahd_eq a b))) [] rfl
 ·
  cases hσ
def cx_rLit : Cx := ⟨tyR14, [(45, rIs_σ), (16, (coeF [.ld (.ints []), .ld (.ints [])] rInts_σ)), (51, (coeF [.ld (.intss []), .ld (.intss [])] rLists_σ)), (18, (coeF [.agg [.id, .ld (.intss [])]] rCheck_σ)), (20, (coeF [.agg [.id, .ld (.intss [])], .agg [.id, .ld (.intss [])]] rSame_σ)), (33, (coeF [.ld (.ints []), .id] rHas_σ)), (46, rAhead_σ)], false⟩
theorem cx_rLit_ok : CxOk Tryz.prog cx_rLit := cx_ok tyR14_ok ⟨rIs_sound, (rInts_sound.coe [.ld (.ints []), .ld (.ints [])] rfl), (rLists_sound.coe [.ld (.intss []), .ld (.intss [])] rfl), (rCheck_sound.coe [.agg [.id, .ld (.intss [])]] rfl), (rSame_sound.coe [.agg [.id, .ld (.intss [])], .agg [.id, .ld (.intss [])]] rfl), (rHas_sound.coe [.ld (.ints []), .id] rfl), rAhead_sound, trivial⟩
def rLit_σ : CtF
  | [.im (.val (.int .i64 l)), .im (.ls (.bools a))], [] => some (a.length ≤ maxLen, .bool (Cn.litV a l), [])
  | _, _ => none
theorem rLit_sound : Sound Tryz.prog 54 rLit_σ := by
 refine sound_mk (cx := cx_rLit) (fn := Tryz.f54) Tryz.func54 (by kernel_rfl) rfl ?_
 intro w0 G0 args os p r outs hσ hp hm0 hd0
 have hcx : CxOk Tryz.prog cx_rLit := cx_rLit_ok
 unfold rLit_σ at hσ
 split at hσ
 ·
  rename_i l a
  simp only [Option.some.injEq, Prod.mk.injEq] at hσ
  obtain ⟨rfl, rfl, rfl⟩ := hσ
  obtain ⟨wW, wO, wm, wβ, wd⟩ := w0
  replace hm0 : wm = 0 := hm0
  subst hm0
  replace hd0 : wd = [] := hd0
  subst hd0
  refine ⟨by kernel_rfl, ?_⟩
  change Tri ⟨_, _, _, _, _, _⟩ [(0, .int l), (1, .bools a)] [] _ _
  unfold maxLen at hp
  refine tri_seq ?_
  refine tri_regD hcx [] [] [0, 1] [] [] [] [] (by kernel_rfl) ?_ ?_
  ·
   exact az
  refine fin_then ?_
  refine tri_seq ?_
  refine tri_seq ?_
  refine tri_regD hcx [] [9] [0, 1] [] [(0 ≤ (65536 : Int) ∧ (65536 : Int) ≤ 65536)] [(9, .bool (!(Cn.mayP l (65536 : Int))))] [] (by kernel_rfl) ?_ ?_
  ·
   refine (ap ?_ az)
   omega
  refine fin_then ?_
  refine tri_cond (b := (!(Cn.mayP l (65536 : Int)))) (by kernel_rfl) (fun hb0 => ?_) (fun hb0 => ?_)
  ·
   skip
   have h0 := hb0
   have hq : Cn.mayP l 65536 = false := by simpa using h0
   refine tri_seq ?_
   refine tri_regD hcx [] [4] [] [] [] [(4, .bool false)] [] (by kernel_rfl) ?_ ?_
   ·
    exact az
   refine fin_then ?_
   refine tri_ret ?_
   refine fin_then_ret ?_
   exact fin_ret [] rfl rfl trivial hcx (avs := [.bool false]) (by kernel_rfl) (congrArg AV.bool (show false = (Cn.litV a l) from (by exact (Cn.litV_no hq).symm))) [] rfl
  ·
   skip
   have h0 := hb0
   have hq : Cn.mayP l 65536 = true := by simpa using h0
   have hmb := Cn.mayP_iff.1 hq
   refine tri_skip ?_
   refine fin_then ?_
   refine tri_seq ?_
   refine tri_regD hcx [] [5] [0, 1] [] [Fit (0 - l)] [(5, .int (max l (0 - l)))] [] (by kernel_rfl) ?_ ?_
   ·
    refine (ap ?_ az)
    omega
   refine fin_then ?_
   refine tri_seq ?_
   refine tri_regD hcx [] [6] [0] [] [((decide ((max l (0 - l)) < (a.length : Int))) = true → ((decide ((max l (0 - l)) < (a.length : Int))) = true)), ((decide ((max l (0 - l)) < (a.length : Int))) = true → ((decide ((max l (0 - l)) < (a.length : Int))) = true)), ((decide ((max l (0 - l)) < (a.length : Int))) = true → ((0 : Int) ≤ (max l (0 - l)) ∧ (max l (0 - l)) < (a.length : Int))), ((decide ((max l (0 - l)) < (a.length : Int))) = true → ((decide ((max l (0 - l)) < (a.length : Int))) = true)), ((decide ((max l (0 - l)) < (a.length : Int))) = true → (decide ((max l (0 - l)) < (a.length : Int))) = true)] [(6, .bool ((decide ((max l (0 - l)) < (a.length : Int))) && (a.getD ((max l (0 - l)).toNat) false)))] [] (by kernel_rfl) ?_ ?_
   ·
    refine (ap ?_ (ap ?_ (ap ?_ (ap ?_ (ap (by exact id) az)))))
    all_goals
     first | exact id | (intro h; simp at h; omega)
   refine fin_then ?_
   refine tri_seq ?_
   refine tri_regD hcx [] [4] [] [] [] [(4, .bool (((decide ((max l (0 - l)) < (a.length : Int))) && (a.getD ((max l (0 - l)).toNat) false)) == (decide (l > 0))))] [] (by kernel_rfl) ?_ ?_
   ·
    exact az
   refine fin_then ?_
   refine tri_ret ?_
   exact fin_ret [] rfl rfl trivial hcx (avs := [.bool (((decide ((max l (0 - l)) < (a.length : Int))) && (a.getD ((max l (0 - l)).toNat) false)) == (decide (l > 0)))]) (by kernel_rfl) (congrArg AV.bool (show (((decide ((max l (0 - l)) < (a.length : Int))) && (a.getD ((max l (0 - l)).toNat) false)) == (decide (l > 0))) = (Cn.litV a l) from (by exact Cn.lit_eq hq))) [] rfl
 ·
  cases hσ
def cx_rHolds : Cx := ⟨tyR14, [(45, rIs_σ), (16, (coeF [.ld (.ints []), .ld (.ints [])] rInts_σ)), (51, (coeF [.ld (.intss []), .ld (.intss [])] rLists_σ)), (18, (coeF [.agg [.id, .ld (.intss [])]] rCheck_σ)), (20, (coeF [.agg [.id, .ld (.intss [])], .agg [.id, .ld (.intss [])]] rSame_σ)), (33, (coeF [.ld (.ints []), .id] rHas_σ)), (46, rAhead_σ), (54, (coeF [.id, .ld (.bools [])] rLit_σ))], false⟩
theorem cx_rHolds_ok : CxOk Tryz.prog cx_rHolds := cx_ok tyR14_ok ⟨rIs_sound, (rInts_sound.coe [.ld (.ints []), .ld (.ints [])] rfl), (rLists_sound.coe [.ld (.intss []), .ld (.intss [])] rfl), (rCheck_sound.coe [.agg [.id, .ld (.intss [])]] rfl), (rSame_sound.coe [.agg [.id, .ld (.intss [])], .agg [.id, .ld (.intss [])]] rfl), (rHas_sound.coe [.ld (.ints []), .id] rfl), rAhead_sound, (rLit_sound.coe [.id, .ld (.bools [])] rfl), trivial⟩
def rHolds_σ : CtF
  | [.im (.ls (.ints l)), .im (.ls (.bools a))], [] => some (l.length ≤ maxLen ∧ a.length ≤ maxLen, .bool (Cn.holdsV a l), [])
  | _, _ => none
theorem rHolds_sound : Sound Tryz.prog 22 rHolds_σ := by
 refine sound_mk (cx := cx_rHolds) (fn := Tryz.f22) Tryz.func22 (by kernel_rfl) rfl ?_
 intro w0 G0 args os p r outs hσ hp hm0 hd0
 have hcx : CxOk Tryz.prog cx_rHolds := cx_rHolds_ok
 unfold rHolds_σ at hσ
 split at hσ
 ·
  rename_i l a
  simp only [Option.some.injEq, Prod.mk.injEq] at hσ
  obtain ⟨rfl, rfl, rfl⟩ := hσ
  obtain ⟨wW, wO, wm, wβ, wd⟩ := w0
  replace hm0 : wm = 0 := hm0
  subst hm0
  replace hd0 : wd = [] := hd0
  subst hd0
  refine ⟨by kernel_rfl, ?_⟩
  change Tri ⟨_, _, _, _, _, _⟩ [(0, .ints l), (1, .bools a)] [] _ _
  obtain ⟨hm1, hm2⟩ := hp
  have hm := hm1
  unfold maxLen at hm
  refine tri_seq ?_
  refine tri_regD hcx [] [] [0, 1] [] [] [] [] (by kernel_rfl) ?_ ?_
  ·
   exact az
  refine fin_then ?_
  refine tri_seq ?_
  refine tri_seq ?_
  refine tri_regD hcx [] [5] [0, 1] [] [] [(5, .int 0)] [] (by kernel_rfl) ?_ ?_
  ·
   exact az
  refine fin_then ?_
  refine tri_block ?_
  refine tri_loop (X := Nat) (fun x0 => x0 ≤ l.length ∧ ∀ j, j < x0 → Cn.litV a (l.getD j 0) = false) (fun x0 => [(0, .ints l), (1, .bools a), (5, .int (x0 : Int))]) (fun x0 => []) (fun x0 => l.length - x0) (0) ?_ ?_ ?_ ?_
  ·
   show 0 ≤ l.length ∧ ∀ j, j < 0 → Cn.litV a (l.getD j 0) = false
   exact ⟨Nat.zero_le _, fun j hj => by omega⟩
  ·
   exact subE_mk (l := [.ints l, .bools a, .int 0]) (m := [.ints l, .bools a, .int (0 : Int)]) (by kernel_rfl) (by kernel_rfl) (consE rfl (consE rfl (consE (congrArg AV.int (show 0 = (0 : Int) from (by first | rfl | omega | (simp; done)))) rfl)))
  ·
   kernel_rfl
  ·
   intro k hI
   replace hI : k ≤ l.length ∧ ∀ j, j < k → Cn.litV a (l.getD j 0) = false := hI
   change Tri _ [(0, .ints l), (1, .bools a), (5, .int (k : Int))] [] _ _
   obtain ⟨hk, hok⟩ := hI
   refine tri_seq ?_
   refine tri_seq ?_
   refine tri_regD hcx [] [9] [0, 1, 5] [] [] [(9, .bool (decide ((k : Int) < (l.length : Int))))] [] (by kernel_rfl) ?_ ?_
   ·
    exact az
   refine fin_then ?_
   refine tri_cond (b := (decide ((k : Int) < (l.length : Int)))) (by kernel_rfl) (fun hb0 => ?_) (fun hb0 => ?_)
   ·
    skip
    have h0 := of_decide_eq_true hb0
    refine tri_skip ?_
    refine fin_then ?_
    refine tri_seq ?_
    refine tri_block ?_
    refine tri_seq ?_
    refine tri_regD hcx [] [17] [0, 1, 5] [] [((0 : Int) ≤ (k : Int) ∧ (k : Int) < (l.length : Int)), (a.length ≤ maxLen)] [(17, .bool (Cn.litV a (l.getD k 0)))] [] (by kernel_rfl) ?_ ?_
    ·
     refine (ap ?_ (ap ?_ az))
     all_goals
      first | exact hm2 | (first | omega | exact id | exact vcNot | exact vcG | exact vcH | (intro _; omega) | exact (fun _ h => h) | (intro h; simp at h; omega) | (simp only [List.length_cons, List.length_nil, List.length_append, List.length_map, List.length_set, List.length_replicate]; omega) | (intro h; simp [h]; done))
    refine fin_then ?_
    refine tri_cond (b := (Cn.litV a (l.getD k 0))) (by kernel_rfl) (fun hb1 => ?_) (fun hb1 => ?_)
    ·
     skip
     have h1 := hb1
     have hq := h1
     refine tri_seq ?_
     refine tri_regD hcx [] [4] [] [] [] [(4, .bool true)] [] (by kernel_rfl) ?_ ?_
     ·
      exact az
     refine fin_then ?_
     refine tri_ret ?_
     refine fin_block_ret ?_
     refine fin_then_ret ?_
     refine fin_then_ret ?_
     refine fin_block_ret ?_
     refine fin_then_ret ?_
     exact fin_ret [] rfl rfl trivial hcx (avs := [.bool true]) (by kernel_rfl) (congrArg AV.bool (show true = (Cn.holdsV a l) from (by exact (Cn.any_yes (d := 0) (p := Cn.litV a) (by omega) hq).symm))) [] rfl
    ·
     skip
     have h1 := hb1
     have hq := h1
     refine tri_skip ?_
     refine fin_block ?_
     refine fin_then ?_
     refine tri_regD hcx [] [5] [0, 1] [] [Fit ((k : Int) + 1)] [(5, .int ((k : Int) + 1))] [] (by kernel_rfl) ?_ ?_
     ·
      refine (ap ?_ az)
      (first | omega | exact id | exact vcNot | exact vcG | exact vcH | (intro _; omega) | exact (fun _ h => h) | (intro h; simp at h; omega) | (simp only [List.length_cons, List.length_nil, List.length_append, List.length_map, List.length_set, List.length_replicate]; omega) | (intro h; simp [h]; done))
     refine fin_round (k + 1) ?_ ?_ ?_ ?_
     ·
      show (k + 1) ≤ l.length ∧ ∀ j, j < (k + 1) → Cn.litV a (l.getD j 0) = false
      exact ⟨by omega, Cn.falseSucc (f := fun j => Cn.litV a (l.getD j 0)) hok hq⟩
     ·
      show l.length - (k + 1) < l.length - k
      omega
     ·
      exact subE_mk (l := [.ints l, .bools a, .int ((k : Int) + 1)]) (m := [.ints l, .bools a, .int ((k + 1) : Int)]) (by kernel_rfl) (by kernel_rfl) (consE rfl (consE rfl (consE (congrArg AV.int (show ((k : Int) + 1) = ((k + 1) : Int) from (by first | rfl | omega | (simp; done)))) rfl)))
     ·
      kernel_rfl
   ·
    skip
    have h0 := of_decide_eq_false hb0
    refine tri_exit ?_
    refine fin_then_exit ?_
    refine fin_then_exit ?_
    refine fin_block_same ?_
    refine fin_then ?_
    refine tri_seq ?_
    refine tri_regD hcx [] [4] [] [] [] [(4, .bool false)] [] (by kernel_rfl) ?_ ?_
    ·
     exact az
    refine fin_then ?_
    refine tri_ret ?_
    exact fin_ret [] rfl rfl trivial hcx (avs := [.bool false]) (by kernel_rfl) (congrArg AV.bool (show false = (Cn.holdsV a l) from (by exact (Cn.any_no (d := 0) (p := Cn.litV a) (fun j hj => hok j (by omega))).symm))) [] rfl
 ·
  cases hσ
def cx_rNorm : Cx := ⟨tyR14, [(45, rIs_σ), (16, (coeF [.ld (.ints []), .ld (.ints [])] rInts_σ)), (51, (coeF [.ld (.intss []), .ld (.intss [])] rLists_σ)), (18, (coeF [.agg [.id, .ld (.intss [])]] rCheck_σ)), (20, (coeF [.agg [.id, .ld (.intss [])], .agg [.id, .ld (.intss [])]] rSame_σ)), (33, (coeF [.ld (.ints []), .id] rHas_σ)), (46, rAhead_σ), (54, (coeF [.id, .ld (.bools [])] rLit_σ)), (22, (coeF [.ld (.ints []), .ld (.bools [])] rHolds_σ))], false⟩
theorem cx_rNorm_ok : CxOk Tryz.prog cx_rNorm := cx_ok tyR14_ok ⟨rIs_sound, (rInts_sound.coe [.ld (.ints []), .ld (.ints [])] rfl), (rLists_sound.coe [.ld (.intss []), .ld (.intss [])] rfl), (rCheck_sound.coe [.agg [.id, .ld (.intss [])]] rfl), (rSame_sound.coe [.agg [.id, .ld (.intss [])], .agg [.id, .ld (.intss [])]] rfl), (rHas_sound.coe [.ld (.ints []), .id] rfl), rAhead_sound, (rLit_sound.coe [.id, .ld (.bools [])] rfl), (rHolds_sound.coe [.ld (.ints []), .ld (.bools [])] rfl), trivial⟩
end Go.Proofs.YtiokflebeojokaaGreatDoor.En
