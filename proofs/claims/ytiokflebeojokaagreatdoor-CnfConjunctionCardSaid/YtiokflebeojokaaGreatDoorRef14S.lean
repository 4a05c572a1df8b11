/- The reference of layer 14, in the reader's words. -/
import Derived.Test.YtiokflebeojokaaGreatDoorEngR
import Derived.Test.YtiokflebeojokaaGreatDoorCnfR
import Derived.Test.YtiokflebeojokaaGreatDoorProg
namespace Go.Proofs.YtiokflebeojokaaGreatDoor.En
open Go Go.RowKit
set_option linter.unusedVariables false
set_option linter.unusedSimpArgs false
set_option linter.unnecessarySimpa false
def tyR14 : List (Nat × TD) := [(3, ⟨1, false, [.int .i64 0], [], none, 8, false, 1, 1⟩),
  (4, ⟨1, false, [.bool false], [], none, 1, true, 0, 2⟩),
  (22, ⟨1, false, [.slice none 0 0], [], some 25, 24, false, 0, 0⟩),
  (24, ⟨2, true, [.int .i64 0, .slice none 0 0], [(0, 3), (1, 22)], none, 32, false, 0, 6⟩),
  (25, ⟨1, false, [.slice none 0 0], [], some 3, 24, false, 0, 3⟩),
  (26, ⟨1, false, [.slice none 0 0], [], some 4, 24, false, 0, 0⟩)]
theorem tyR14_ok : AllTy Tryz.prog tyR14 := ⟨⟨by kernel_rfl, by kernel_rfl⟩, ⟨by kernel_rfl, by kernel_rfl⟩, ⟨by kernel_rfl, by kernel_rfl⟩, ⟨by kernel_rfl, by kernel_rfl⟩, ⟨by kernel_rfl, by kernel_rfl⟩, ⟨by kernel_rfl, by kernel_rfl⟩, trivial⟩
def cx_rIs : Cx := ⟨tyR14, []⟩
theorem cx_rIs_ok : CxOk Tryz.prog cx_rIs := cx_ok tyR14_ok trivial
def rIs_σ : CtF
  | [.im (.val (.int .i64 l)), .im (.val (.int .i64 n))], [] => some (0 ≤ n ∧ n ≤ 65536, .bool (Cn.mayP l n), [])
  | _, _ => none
theorem rIs_sound : Sound Tryz.prog 45 rIs_σ := by
 refine sound_mk (cx := cx_rIs) (fn := Tryz.f45) Tryz.func45 (by kernel_rfl) rfl ?_
 intro w0 G0 args os p r outs hσ hp hm0 hd0
 have hcx : CxOk Tryz.prog cx_rIs := cx_rIs_ok
 unfold rIs_σ at hσ
 split at hσ
 ·
  rename_i l n
  simp only [Option.some.injEq, Prod.mk.injEq] at hσ
  obtain ⟨rfl, rfl, rfl⟩ := hσ
  obtain ⟨wW, wO, wm, wβ, wd⟩ := w0
  replace hm0 : wm = 0 := hm0
  subst hm0
  replace hd0 : wd = [] := hd0
  subst hd0
  refine ⟨by kernel_rfl, ?_⟩
  change Tri ⟨_, _, _, _, _, _⟩ [(0, .int l), (1, .int n)] [] _ _
  obtain ⟨hn0, hn1⟩ := hp
  refine tri_seq ?_
  refine tri_regD hcx [] [] [0, 1] [] [] [] [] (by kernel_rfl) ?_ ?_
  ·
   exact az
  refine fin_then ?_
  refine tri_seq ?_
  refine tri_regD hcx [] [4] [] [] [((l != 0) = true → ((l != 0) = true)), ((l != 0) = true → Fit (0 - n)), ((l != 0) = true → ((l != 0) = true)), ((l != 0) = true → ((l != 0) = true)), ((l != 0) = true → (l != 0) = true), (((l != 0) && (decide (l ≥ (0 - n)))) = true → (((l != 0) && (decide (l ≥ (0 - n)))) = true)), (((l != 0) && (decide (l ≥ (0 - n)))) = true → (((l != 0) && (decide (l ≥ (0 - n)))) = true)), (((l != 0) && (decide (l ≥ (0 - n)))) = true → ((l != 0) && (decide (l ≥ (0 - n)))) = true)] [(4, .bool (((l != 0) && (decide (l ≥ (0 - n)))) && (decide (l ≤ n))))] [] (by kernel_rfl) ?_ ?_
  ·
   refine (ap ?_ (ap ?_ (ap ?_ (ap ?_ (ap (by exact id) (ap ?_ (ap ?_ (ap (by exact id) az))))))))
   all_goals
    first | omega | exact id | exact vcNot | exact vcG | exact vcH | (intro _; omega) | exact (fun _ h => h) | (intro h; simp at h; omega) | (simp only [List.length_cons, List.length_nil, List.length_append, List.length_map, List.length_set, List.length_replicate]; omega) | (intro h; simp [h]; done) | (intro _; constructor <;> omega)
  refine fin_then ?_
  refine tri_ret ?_
  exact fin_ret [] rfl rfl trivial hcx (avs := [.bool (((l != 0) && (decide (l ≥ (0 - n)))) && (decide (l ≤ n)))]) (by kernel_rfl) (congrArg AV.bool (show (((l != 0) && (decide (l ≥ (0 - n)))) && (decide (l ≤ n))) = (Cn.mayP l n) from (by exact Cn.is_eq l n))) [] rfl
 ·
  cases hσ
def cx_rInts : Cx := ⟨tyR14, [(45, rIs_σ)]⟩
theorem cx_rInts_ok : CxOk Tryz.prog cx_rInts := cx_ok tyR14_ok ⟨rIs_sound, trivial⟩
def rInts_σ : CtF
  | [.im (.ls (.ints a)), .im (.ls (.ints b))], [] => some (a.length ≤ maxLen, .bool (decide (a = b)), [])
  | _, _ => none
theorem rInts_sound : Sound Tryz.prog 16 rInts_σ := by
 refine sound_mk (cx := cx_rInts) (fn := Tryz.f16) Tryz.func16 (by kernel_rfl) rfl ?_
 intro w0 G0 args os p r outs hσ hp hm0 hd0
 have hcx : CxOk Tryz.prog cx_rInts := cx_rInts_ok
 have hmx : Tryz.prog.follows .mixedOrders = true := by kernel_rfl
 unfold rInts_σ at hσ
 split at hσ
 ·
  rename_i a b
  simp only [Option.some.injEq, Prod.mk.injEq] at hσ
  obtain ⟨rfl, rfl, rfl⟩ := hσ
  obtain ⟨wW, wO, wm, wβ, wd⟩ := w0
  replace hm0 : wm = 0 := hm0
  subst hm0
  replace hd0 : wd = [] := hd0
  subst hd0
  refine ⟨by kernel_rfl, ?_⟩
  change Tri ⟨_, _, _, _, _, _⟩ [(0, .ints a), (1, .ints b)] [] _ _
  unfold maxLen at hp
  refine tri_seq ?_
  refine tri_regD hcx [] [] [0, 1] [] [] [] [] (by kernel_rfl) ?_ ?_
  ·
   exact az
  refine fin_then ?_
  refine tri_seq ?_
  refine tri_seq ?_
  refine tri_regD hcx [] [10] [0, 1] [] [] [(10, .bool ((a.length : Int) != (b.length : Int)))] [] (by kernel_rfl) ?_ ?_
  ·
   exact az
  refine fin_then ?_
  refine tri_cond (b := ((a.length : Int) != (b.length : Int))) (by kernel_rfl) (fun hb0 => ?_) (fun hb0 => ?_)
  ·
   skip
   have h0 := bne_iff_ne.1 hb0
   refine tri_seq ?_
   refine tri_regD hcx [] [4] [] [] [] [(4, .bool false)] [] (by kernel_rfl) ?_ ?_
   ·
    exact az
   refine fin_then ?_
   refine tri_ret ?_
   refine fin_then_ret ?_
   exact fin_ret [] rfl rfl trivial hcx (avs := [.bool false]) (by kernel_rfl) (congrArg AV.bool (show false = (decide (a = b)) from (by exact (Cn.ne_len (by omega)).symm))) [] rfl
  ·
   skip
   have h0 := bneF hb0
   refine tri_skip ?_
   refine fin_then ?_
   refine tri_seq ?_
   refine tri_seq ?_
   refine tri_regD hcx [] [5] [0, 1] [] [] [(5, .int 0)] [] (by kernel_rfl) ?_ ?_
   ·
    exact az
   refine fin_then ?_
   refine tri_block ?_
   refine tri_loop (X := Nat) (fun x0 => x0 ≤ a.length ∧ ∀ j, j < x0 → a.getD j 0 = b.getD j 0) (fun x0 => [(0, .ints a), (1, .ints b), (5, .int (x0 : Int))]) (fun x0 => []) (fun x0 => a.length - x0) (0) ?_ ?_ ?_ ?_
   ·
    show 0 ≤ a.length ∧ ∀ j, j < 0 → a.getD j 0 = b.getD j 0
    exact ⟨Nat.zero_le _, fun j hj => by omega⟩
   ·
    exact subE_mk (l := [.ints a, .ints b, .int 0]) (m := [.ints a, .ints b, .int (0 : Int)]) (by kernel_rfl) (by kernel_rfl) (consE rfl (consE rfl (consE (congrArg AV.int (show 0 = (0 : Int) from (by first | rfl | omega | (simp; done)))) rfl)))
   ·
    kernel_rfl
   ·
    intro k hI
    replace hI : k ≤ a.length ∧ ∀ j, j < k → a.getD j 0 = b.getD j 0 := hI
    change Tri _ [(0, .ints a), (1, .ints b), (5, .int (k : Int))] [] _ _
    obtain ⟨hk, hok⟩ := hI
    refine tri_seq ?_
    refine tri_seq ?_
    refine tri_regD hcx [] [14] [0, 1, 5] [] [] [(14, .bool (decide ((k : Int) < (a.length : Int))))] [] (by kernel_rfl) ?_ ?_
    ·
     exact az
    refine fin_then ?_
    refine tri_cond (b := (decide ((k : Int) < (a.length : Int)))) (by kernel_rfl) (fun hb1 => ?_) (fun hb1 => ?_)
    ·
     skip
     have h1 := of_decide_eq_true hb1
     refine tri_skip ?_
     refine fin_then ?_
     refine tri_seq ?_
     refine tri_block ?_
     refine tri_seq ?_
     refine tri_drawD [0, 0, 3, 7, 0, 0, 48, 112, 255] hcx hmx [] [25] [0, 1, 5] [] [((0 : Int) ≤ (k : Int) ∧ (k : Int) < (a.length : Int)), ((0 : Int) ≤ (k : Int) ∧ (k : Int) < (b.length : Int))] [(25, .bool ((a.getD k 0) != (b.getD k 0)))] [] (by kernel_rfl) ?_ ?_
     ·
      refine (ap ?_ (ap ?_ az))
      all_goals
       omega
     refine fin_then ?_
     refine tri_cond (b := ((a.getD k 0) != (b.getD k 0))) (by kernel_rfl) (fun hb2 => ?_) (fun hb2 => ?_)
     ·
      skip
      have h2 := bne_iff_ne.1 hb2
      have hq := h2
      refine tri_seq ?_
      refine tri_regD hcx [] [4] [] [] [] [(4, .bool false)] [] (by kernel_rfl) ?_ ?_
      ·
       exact az
      refine fin_then ?_
      refine tri_ret ?_
      refine fin_block_ret ?_
      refine fin_then_ret ?_
      refine fin_then_ret ?_
      refine fin_block_ret ?_
      refine fin_then_ret ?_
      exact fin_ret [] rfl rfl trivial hcx (avs := [.bool false]) (by kernel_rfl) (congrArg AV.bool (show false = (decide (a = b)) from (by exact (Cn.ne_at hq).symm))) [] rfl
     ·
      skip
      have h2 := bneF hb2
      have hq := h2
      refine tri_skip ?_
      refine fin_block ?_
      refine fin_then ?_
      refine tri_regD hcx [] [5] [0, 1] [] [Fit ((k : Int) + 1)] [(5, .int ((k : Int) + 1))] [] (by kernel_rfl) ?_ ?_
      ·
       refine (ap ?_ az)
       omega
      refine fin_round (k + 1) ?_ ?_ ?_ ?_
      ·
       show (k + 1) ≤ a.length ∧ ∀ j, j < (k + 1) → a.getD j 0 = b.getD j 0
       exact ⟨by omega, Cn.neSucc (P := fun j => a.getD j 0 = b.getD j 0) hok (by first | exact hq | omega)⟩
      ·
       show a.length - (k + 1) < a.length - k
       omega
      ·
       exact subE_mk (l := [.ints a, .ints b, .int ((k : Int) + 1)]) (m := [.ints a, .ints b, .int ((k + 1) : Int)]) (by kernel_rfl) (by kernel_rfl) (consE rfl (consE rfl (consE (congrArg AV.int (show ((k : Int) + 1) = ((k + 1) : Int) from (by first | rfl | omega | (simp; done)))) rfl)))
      ·
       kernel_rfl
    ·
     skip
     have h1 := of_decide_eq_false hb1
     refine tri_exit ?_
     refine fin_then_exit ?_
     refine fin_then_exit ?_
     refine fin_block_same ?_
     refine fin_then ?_
     refine tri_seq ?_
     refine tri_regD hcx [] [4] [] [] [] [(4, .bool true)] [] (by kernel_rfl) ?_ ?_
     ·
      exact az
     refine fin_then ?_
     refine tri_ret ?_
     exact fin_ret [] rfl rfl trivial hcx (avs := [.bool true]) (by kernel_rfl) (congrArg AV.bool (show true = (decide (a = b)) from (by exact (Cn.eq_of (d := 0) (by omega) (fun j hj => hok j (by omega))).symm))) [] rfl
 ·
  cases hσ
def cx_rLists : Cx := ⟨tyR14, [(45, rIs_σ), (16, (coeF [.ld (.ints []), .ld (.ints [])] rInts_σ))]⟩
theorem cx_rLists_ok : CxOk Tryz.prog cx_rLists := cx_ok tyR14_ok ⟨rIs_sound, (rInts_sound.coe [.ld (.ints []), .ld (.ints [])] rfl), trivial⟩
def rLists_σ : CtF
  | [.im (.ls (.intss a)), .im (.ls (.intss b))], [] => some (a.length ≤ maxLen ∧ ∀ l ∈ a, l.length ≤ maxLen, .bool (decide (a = b)), [])
  | _, _ => none
theorem rLists_sound : Sound Tryz.prog 51 rLists_σ := by
 refine sound_mk (cx := cx_rLists) (fn := Tryz.f51) Tryz.func51 (by kernel_rfl) rfl ?_
 intro w0 G0 args os p r outs hσ hp hm0 hd0
 have hcx : CxOk Tryz.prog cx_rLists := cx_rLists_ok
 have hmx : Tryz.prog.follows .mixedOrders = true := by kernel_rfl
 unfold rLists_σ at hσ
 split at hσ
 ·
  rename_i a b
  simp only [Option.some.injEq, Prod.mk.injEq] at hσ
  obtain ⟨rfl, rfl, rfl⟩ := hσ
  obtain ⟨wW, wO, wm, wβ, wd⟩ := w0
  replace hm0 : wm = 0 := hm0
  subst hm0
  replace hd0 : wd = [] := hd0
  subst hd0
  refine ⟨by kernel_rfl, ?_⟩
  change Tri ⟨_, _, _, _, _, _⟩ [(0, .intss a), (1, .intss b)] [] _ _
  obtain ⟨hm1, hm2⟩ := hp
  unfold maxLen at hm1
  refine tri_seq ?_
  refine tri_regD hcx [] [] [0, 1] [] [] [] [] (by kernel_rfl) ?_ ?_
  ·
   exact az
  refine fin_then ?_
  refine tri_seq ?_
  refine tri_seq ?_
  refine tri_regD hcx [] [10] [0, 1] [] [] [(10, .bool ((a.length : Int) != (b.length : Int)))] [] (by kernel_rfl) ?_ ?_
  ·
   exact az
  refine fin_then ?_
  refine tri_cond (b := ((a.length : Int) != (b.length : Int))) (by kernel_rfl) (fun hb0 => ?_) (fun hb0 => ?_)
  ·
   skip
   have h0 := bne_iff_ne.1 hb0
   refine tri_seq ?_
   refine tri_regD hcx [] [4] [] [] [] [(4, .bool false)] [] (by kernel_rfl) ?_ ?_
   ·
    exact az
   refine fin_then ?_
   refine tri_ret ?_
   refine fin_then_ret ?_
   exact fin_ret [] rfl rfl trivial hcx (avs := [.bool false]) (by kernel_rfl) (congrArg AV.bool (show false = (decide (a = b)) from (by exact (Cn.ne_len (by omega)).symm))) [] rfl
  ·
   skip
   have h0 := bneF hb0
   refine tri_skip ?_
   refine fin_then ?_
   refine tri_seq ?_
   refine tri_seq ?_
   refine tri_regD hcx [] [5] [0, 1] [] [] [(5, .int 0)] [] (by kernel_rfl) ?_ ?_
   ·
    exact az
   refine fin_then ?_
   refine tri_block ?_
   refine tri_loop (X := Nat) (fun x0 => x0 ≤ a.length ∧ ∀ j, j < x0 → a.getD j [] = b.getD j []) (fun x0 => [(0, .intss a), (1, .intss b), (5, .int (x0 : Int))]) (fun x0 => []) (fun x0 => a.length - x0) (0) ?_ ?_ ?_ ?_
   ·
    show 0 ≤ a.length ∧ ∀ j, j < 0 → a.getD j [] = b.getD j []
    exact ⟨Nat.zero_le _, fun j hj => by omega⟩
   ·
    exact subE_mk (l := [.intss a, .intss b, .int 0]) (m := [.intss a, .intss b, .int (0 : Int)]) (by kernel_rfl) (by kernel_rfl) (consE rfl (consE rfl (consE (congrArg AV.int (show 0 = (0 : Int) from (by first | rfl | omega | (simp; done)))) rfl)))
   ·
    kernel_rfl
   ·
    intro k hI
    replace hI : k ≤ a.length ∧ ∀ j, j < k → a.getD j [] = b.getD j [] := hI
    change Tri _ [(0, .intss a), (1, .intss b), (5, .int (k : Int))] [] _ _
    obtain ⟨hk, hok⟩ := hI
    refine tri_seq ?_
    refine tri_seq ?_
    refine tri_regD hcx [] [14] [0, 1, 5] [] [] [(14, .bool (decide ((k : Int) < (a.length : Int))))] [] (by kernel_rfl) ?_ ?_
    ·
     exact az
    refine fin_then ?_
    refine tri_cond (b := (decide ((k : Int) < (a.length : Int)))) (by kernel_rfl) (fun hb1 => ?_) (fun hb1 => ?_)
    ·
     skip
     have h1 := of_decide_eq_true hb1
     refine tri_skip ?_
     refine fin_then ?_
     refine tri_seq ?_
     refine tri_block ?_
     refine tri_seq ?_
     refine tri_drawD [0, 0, 3, 7, 0, 0, 48, 112, 255, 511] hcx hmx [] [26] [0, 1, 5] [] [((0 : Int) ≤ (k : Int) ∧ (k : Int) < (a.length : Int)), ((0 : Int) ≤ (k : Int) ∧ (k : Int) < (b.length : Int)), ((a.getD k []).length ≤ maxLen)] [(26, .bool (!(decide ((a.getD k []) = (b.getD k [])))))] [] (by kernel_rfl) ?_ ?_
     ·
      refine (ap ?_ (ap ?_ (ap ?_ az)))
      all_goals
       first | omega | exact id | exact vcNot | exact vcG | exact vcH | (intro _; omega) | exact (fun _ h => h) | (intro h; simp at h; omega) | (simp only [List.length_cons, List.length_nil, List.length_append, List.length_map, List.length_set, List.length_replicate]; omega) | (intro h; simp [h]; done) | exact hm2 _ (Cn.getD_memL (by omega))
     refine fin_then ?_
     refine tri_cond (b := (!(decide ((a.getD k []) = (b.getD k []))))) (by kernel_rfl) (fun hb2 => ?_) (fun hb2 => ?_)
     ·
      skip
      have h2 := of_decide_eq_false (notB_t hb2)
      have hq : ¬ (a.getD k [] = b.getD k []) := by simpa using h2
      refine tri_seq ?_
      refine tri_regD hcx [] [4] [] [] [] [(4, .bool false)] [] (by kernel_rfl) ?_ ?_
      ·
       exact az
      refine fin_then ?_
      refine tri_ret ?_
      refine fin_block_ret ?_
      refine fin_then_ret ?_
      refine fin_then_ret ?_
      refine fin_block_ret ?_
      refine fin_then_ret ?_
      exact fin_ret [] rfl rfl trivial hcx (avs := [.bool false]) (by kernel_rfl) (congrArg AV.bool (show false = (decide (a = b)) from (by exact (Cn.ne_at hq).symm))) [] rfl
     ·
      skip
      have h2 := of_decide_eq_true (notB_f hb2)
      have hq : a.getD k [] = b.getD k [] := by simpa using h2
      refine tri_skip ?_
      refine fin_block ?_
      refine fin_then ?_
      refine tri_regD hcx [] [5] [0, 1] [] [Fit ((k : Int) + 1)] [(5, .int ((k : Int) + 1))] [] (by kernel_rfl) ?_ ?_
      ·
       refine (ap ?_ az)
       first | omega | exact id | exact vcNot | exact vcG | exact vcH | (intro _; omega) | exact (fun _ h => h) | (intro h; simp at h; omega) | (simp only [List.length_cons, List.length_nil, List.length_append, List.length_map, List.length_set, List.length_replicate]; omega) | (intro h; simp [h]; done) | exact hm2 _ (Cn.getD_memL (by omega))
      refine fin_round (k + 1) ?_ ?_ ?_ ?_
      ·
       show (k + 1) ≤ a.length ∧ ∀ j, j < (k + 1) → a.getD j [] = b.getD j []
       exact ⟨by omega, Cn.neSucc (P := fun j => a.getD j [] = b.getD j []) hok (by first | exact hq | omega)⟩
      ·
       show a.length - (k + 1) < a.length - k
       omega
      ·
       exact subE_mk (l := [.intss a, .intss b, .int ((k : Int) + 1)]) (m := [.intss a, .intss b, .int ((k + 1) : Int)]) (by kernel_rfl) (by kernel_rfl) (consE rfl (consE rfl (consE (congrArg AV.int (show ((k : Int) + 1) = ((k + 1) : Int) from (by first | rfl | omega | (simp; done)))) rfl)))
      ·
       kernel_rfl
    ·
     skip
     have h1 := of_decide_eq_false hb1
     refine tri_exit ?_
     refine fin_then_exit ?_
     refine fin_then_exit ?_
     refine fin_block_same ?_
     refine fin_then ?_
     refine tri_seq ?_
     refine tri_regD hcx [] [4] [] [] [] [(4, .bool true)] [] (by kernel_rfl) ?_ ?_
     ·
      exact az
     refine fin_then ?_
     refine tri_ret ?_
     exact fin_ret [] rfl rfl trivial hcx (avs := [.bool true]) (by kernel_rfl) (congrArg AV.bool (show true = (decide (a = b)) from (by exact (Cn.eq_of (d := []) (by omega) (fun j hj => hok j (by omega))).symm))) [] rfl
 ·
  cases hσ
def cx_rCheck : Cx := ⟨tyR14, [(45, rIs_σ), (16, (coeF [.ld (.ints []), .ld (.ints [])] rInts_σ)), (51, (coeF [.ld (.intss []), .ld (.intss [])] rLists_σ))]⟩
theorem cx_rCheck_ok : CxOk Tryz.prog cx_rCheck := cx_ok tyR14_ok ⟨rIs_sound, (rInts_sound.coe [.ld (.ints []), .ld (.ints [])] rfl), (rLists_sound.coe [.ld (.intss []), .ld (.intss [])] rfl), trivial⟩
def rCheck_σ : CtF
  | [.agg [.im (.val (.int .i64 N)), .im (.ls (.intss L))]], [] => some (L.length ≤ maxLen ∧ ∀ l ∈ L, l.length ≤ maxLen, .int (Cn.chkV N L), [])
  | _, _ => none
theorem rCheck_sound : Sound Tryz.prog 18 rCheck_σ := by
 refine sound_mk (cx := cx_rCheck) (fn := Tryz.f18) Tryz.func18 (by kernel_rfl) rfl ?_
 intro w0 G0 args os p r outs hσ hp hm0 hd0
 have hcx : CxOk Tryz.prog cx_rCheck := cx_rCheck_ok
 have hmx : Tryz.prog.follows .mixedOrders = true := by kernel_rfl
 unfold rCheck_σ at hσ
 split at hσ
 ·
  rename_i N L
  simp only [Option.some.injEq, Prod.mk.injEq] at hσ
  obtain ⟨rfl, rfl, rfl⟩ := hσ
  obtain ⟨wW, wO, wm, wβ, wd⟩ := w0
  replace hm0 : wm = 0 := hm0
  subst hm0
  replace hd0 : wd = [] := hd0
  subst hd0
  refine ⟨by kernel_rfl, ?_⟩
  change Tri ⟨_, _, _, _, _, _⟩ [(0, .agg [.int N, .intss L])] [] _ _
  obtain ⟨hm1, hm2⟩ := hp
  unfold maxLen at hm1
  have hm3 : ∀ k, k < L.length → (L.getD k []).length ≤ 9223372036854775807 := fun k hk => hm2 _ (Cn.getD_memL hk)
  refine tri_seq ?_
  refine tri_regD hcx [(1000, .frz)] [1] [] [] [] [(1, .pto [.int N, .ls (.intss L)])] [] (by kernel_rfl) ?_ ?_
  ·
   exact az
  refine fin_then ?_
  refine tri_seq ?_
  refine tri_seq ?_
  refine tri_regD hcx [] [12] [1] [] [((!(decide (N < 0))) = true → ((!(decide (N < 0))) = true)), ((!(decide (N < 0))) = true → ((!(decide (N < 0))) = true)), ((decide (N < 0)) = false → (!(decide (N < 0))) = true)] [(12, .bool ((decide (N < 0)) || (decide (N > 65536))))] [] (by kernel_rfl) ?_ ?_
  ·
   refine (ap ?_ (ap ?_ (ap (by exact vcNot) az)))
   all_goals
    first | omega | exact id | exact vcNot | exact vcG | exact vcH | (intro _; omega) | exact (fun _ h => h) | (intro h; simp at h; omega) | (simp only [List.length_cons, List.length_nil, List.length_append, List.length_map, List.length_set, List.length_replicate]; omega) | (intro h; simp [h]; done) | (constructor <;> omega)
  refine fin_then ?_
  refine tri_cond (b := ((decide (N < 0)) || (decide (N > 65536)))) (by kernel_rfl) (fun hb0 => ?_) (fun hb0 => ?_)
  ·
   skip
   have h0 := hb0
   try simp only [Bool.or_eq_true, Bool.or_eq_false_iff, Bool.and_eq_true, Bool.and_eq_false_iff, Bool.not_eq_true', Bool.not_eq_false', decide_eq_true_eq, decide_eq_false_iff_not, bne_iff_ne, bne_eq_false_iff_eq, beq_iff_eq, beq_eq_false_iff_ne] at h0
   refine tri_seq ?_
   refine tri_regD hcx [] [2] [] [] [] [(2, .int 1)] [] (by kernel_rfl) ?_ ?_
   ·
    exact az
   refine fin_then ?_
   refine tri_ret ?_
   refine fin_then_ret ?_
   exact fin_ret [] rfl rfl trivial hcx (avs := [.int 1]) (by kernel_rfl) (congrArg AV.int (show 1 = (Cn.chkV N L) from (by exact (Cn.chk_arg (by omega)).symm))) [] rfl
  ·
   skip
   have h0 := hb0
   try simp only [Bool.or_eq_true, Bool.or_eq_false_iff, Bool.and_eq_true, Bool.and_eq_false_iff, Bool.not_eq_true', Bool.not_eq_false', decide_eq_true_eq, decide_eq_false_iff_not, bne_iff_ne, bne_eq_false_iff_eq, beq_iff_eq, beq_eq_false_iff_ne] at h0
   have hN : ¬ (N < 0 ∨ 65536 < N) := by omega
   refine tri_skip ?_
   refine fin_then ?_
   refine tri_seq ?_
   refine tri_seq ?_
   refine tri_regD hcx [] [3] [1] [] [] [(3, .int 0)] [] (by kernel_rfl) ?_ ?_
   ·
    exact az
   refine fin_then ?_
   refine tri_block ?_
   refine tri_loop (X := Nat) (fun x0 => x0 ≤ L.length ∧ ∀ j, j < x0 → Cn.badL N (L.getD j []) = false) (fun x0 => [(1, .pto [.int N, .ls (.intss L)]), (3, .int (x0 : Int))]) (fun x0 => []) (fun x0 => L.length - x0) (0) ?_ ?_ ?_ ?_
   ·
    show 0 ≤ L.length ∧ ∀ j, j < 0 → Cn.badL N (L.getD j []) = false
    exact ⟨Nat.zero_le _, fun j hj => by omega⟩
   ·
    exact subE_mk (l := [.pto [.int N, .ls (.intss L)], .int 0]) (m := [.pto [.int N, .ls (.intss L)], .int (0 : Int)]) (by kernel_rfl) (by kernel_rfl) (consE rfl (consE (congrArg AV.int (show 0 = (0 : Int) from (by first | rfl | omega | (simp; done)))) rfl))
   ·
    kernel_rfl
   ·
    intro i hI
    replace hI : i ≤ L.length ∧ ∀ j, j < i → Cn.badL N (L.getD j []) = false := hI
    change Tri _ [(1, .pto [.int N, .ls (.intss L)]), (3, .int (i : Int))] [] _ _
    obtain ⟨hk, hok⟩ := hI
    refine tri_seq ?_
    refine tri_seq ?_
    refine tri_regD hcx [] [17] [1, 3] [] [] [(17, .bool (decide ((i : Int) < (L.length : Int))))] [] (by kernel_rfl) ?_ ?_
    ·
     exact az
    refine fin_then ?_
    refine tri_cond (b := (decide ((i : Int) < (L.length : Int)))) (by kernel_rfl) (fun hb1 => ?_) (fun hb1 => ?_)
    ·
     skip
     have h1 := of_decide_eq_true hb1
     refine tri_skip ?_
     refine fin_then ?_
     refine tri_seq ?_
     refine tri_block ?_
     refine tri_seq ?_
     refine tri_regD hcx [] [4] [1, 3] [] [] [(4, .int 0)] [] (by kernel_rfl) ?_ ?_
     ·
      exact az
     refine fin_then ?_
     refine tri_block ?_
     refine tri_loop (X := Nat) (fun x0 => x0 ≤ (L.getD i []).length ∧ ∀ j, j < x0 → (!(Cn.mayP ((L.getD i []).getD j 0) N)) = false) (fun x0 => [(1, .pto [.int N, .ls (.intss L)]), (3, .int (i : Int)), (4, .int (x0 : Int))]) (fun x0 => []) (fun x0 => (L.getD i []).length - x0) (0) ?_ ?_ ?_ ?_
     ·
      show 0 ≤ (L.getD i []).length ∧ ∀ j, j < 0 → (!(Cn.mayP ((L.getD i []).getD j 0) N)) = false
      exact ⟨Nat.zero_le _, fun j hj => by omega⟩
     ·
      exact subE_mk (l := [.pto [.int N, .ls (.intss L)], .int (i : Int), .int 0]) (m := [.pto [.int N, .ls (.intss L)], .int (i : Int), .int (0 : Int)]) (by kernel_rfl) (by kernel_rfl) (consE rfl (consE rfl (consE (congrArg AV.int (show 0 = (0 : Int) from (by first | rfl | omega | (simp; done)))) rfl)))
     ·
      kernel_rfl
     ·
      intro k hI
      replace hI : k ≤ (L.getD i []).length ∧ ∀ j, j < k → (!(Cn.mayP ((L.getD i []).getD j 0) N)) = false := hI
      change Tri _ [(1, .pto [.int N, .ls (.intss L)]), (3, .int (i : Int)), (4, .int (k : Int))] [] _ _
      obtain ⟨hkk, hik⟩ := hI
      have hm4 := hm3 i (by omega)
      refine tri_seq ?_
      refine tri_seq ?_
      refine tri_regD hcx [] [27] [1, 3, 4] [] [((0 : Int) ≤ (i : Int) ∧ (i : Int) < (L.length : Int))] [(27, .bool (decide ((k : Int) < ((L.getD i []).length : Int))))] [] (by kernel_rfl) ?_ ?_
      ·
       refine (ap ?_ az)
       first | omega | exact id | exact vcNot | exact vcG | exact vcH | (intro _; omega) | exact (fun _ h => h) | (intro h; simp at h; omega) | (simp only [List.length_cons, List.length_nil, List.length_append, List.length_map, List.length_set, List.length_replicate]; omega) | (intro h; simp [h]; done) | (constructor <;> omega)
      refine fin_then ?_
      refine tri_cond (b := (decide ((k : Int) < ((L.getD i []).length : Int)))) (by kernel_rfl) (fun hb2 => ?_) (fun hb2 => ?_)
      ·
       skip
       have h2 := of_decide_eq_true hb2
       refine tri_skip ?_
       refine fin_then ?_
       refine tri_seq ?_
       refine tri_block ?_
       refine tri_seq ?_
       refine tri_drawD [0, 1, 0, 7, 15, 0, 63, 127, 0, 256, 1023, 2047] hcx hmx [] [41] [1, 3, 4] [] [((0 : Int) ≤ (i : Int) ∧ (i : Int) < (L.length : Int)), ((0 : Int) ≤ (k : Int) ∧ (k : Int) < ((L.getD i []).length : Int)), (0 ≤ N ∧ N ≤ 65536)] [(41, .bool (!(Cn.mayP ((L.getD i []).getD k 0) N)))] [] (by kernel_rfl) ?_ ?_
       ·
        refine (ap ?_ (ap ?_ (ap ?_ az)))
        all_goals
         first | omega | exact id | exact vcNot | exact vcG | exact vcH | (intro _; omega) | exact (fun _ h => h) | (intro h; simp at h; omega) | (simp only [List.length_cons, List.length_nil, List.length_append, List.length_map, List.length_set, List.length_replicate]; omega) | (intro h; simp [h]; done) | (constructor <;> omega)
       refine fin_then ?_
       refine tri_cond (b := (!(Cn.mayP ((L.getD i []).getD k 0) N))) (by kernel_rfl) (fun hb3 => ?_) (fun hb3 => ?_)
       ·
        skip
        have h3 := hb3
        have hq := h3
        refine tri_seq ?_
        refine tri_regD hcx [] [2] [] [] [] [(2, .int 1)] [] (by kernel_rfl) ?_ ?_
        ·
         exact az
        refine fin_then ?_
        refine tri_ret ?_
        refine fin_block_ret ?_
        refine fin_then_ret ?_
        refine fin_then_ret ?_
        refine fin_block_ret ?_
        refine fin_block_ret ?_
        refine fin_then_ret ?_
        refine fin_then_ret ?_
        refine fin_block_ret ?_
        refine fin_then_ret ?_
        exact fin_ret [] rfl rfl trivial hcx (avs := [.int 1]) (by kernel_rfl) (congrArg AV.int (show 1 = (Cn.chkV N L) from (by exact (Cn.chk_bad hN (k := i) (by omega) (Cn.any_yes (d := 0) (k := k) (p := fun x => !(Cn.mayP x N)) (by omega) hq)).symm))) [] rfl
       ·
        skip
        have h3 := hb3
        have hq := h3
        refine tri_skip ?_
        refine fin_block ?_
        refine fin_then ?_
        refine tri_regD hcx [] [4] [1, 3] [] [Fit ((k : Int) + 1)] [(4, .int ((k : Int) + 1))] [] (by kernel_rfl) ?_ ?_
        ·
         refine (ap ?_ az)
         first | omega | exact id | exact vcNot | exact vcG | exact vcH | (intro _; omega) | exact (fun _ h => h) | (intro h; simp at h; omega) | (simp only [List.length_cons, List.length_nil, List.length_append, List.length_map, List.length_set, List.length_replicate]; omega) | (intro h; simp [h]; done) | (constructor <;> omega)
        refine fin_round (k + 1) ?_ ?_ ?_ ?_
        ·
         show (k + 1) ≤ (L.getD i []).length ∧ ∀ j, j < (k + 1) → (!(Cn.mayP ((L.getD i []).getD j 0) N)) = false
         exact ⟨by omega, Cn.falseSucc (f := fun j => !(Cn.mayP ((L.getD i []).getD j 0) N)) hik hq⟩
        ·
         show (L.getD i []).length - (k + 1) < (L.getD i []).length - k
         omega
        ·
         exact subE_mk (l := [.pto [.int N, .ls (.intss L)], .int (i : Int), .int ((k : Int) + 1)]) (m := [.pto [.int N, .ls (.intss L)], .int (i : Int), .int ((k + 1) : Int)]) (by kernel_rfl) (by kernel_rfl) (consE rfl (consE rfl (consE (congrArg AV.int (show ((k : Int) + 1) = ((k + 1) : Int) from (by first | rfl | omega | (simp; done)))) rfl)))
        ·
         kernel_rfl
      ·
       skip
       have h2 := of_decide_eq_false hb2
       refine tri_exit ?_
       refine fin_then_exit ?_
       refine fin_then_exit ?_
       refine fin_block_same ?_
       refine fin_block ?_
       refine fin_then ?_
       refine tri_regD hcx [] [3] [1] [] [Fit ((i : Int) + 1)] [(3, .int ((i : Int) + 1))] [] (by kernel_rfl) ?_ ?_
       ·
        refine (ap ?_ az)
        first | omega | exact id | exact vcNot | exact vcG | exact vcH | (intro _; omega) | exact (fun _ h => h) | (intro h; simp at h; omega) | (simp only [List.length_cons, List.length_nil, List.length_append, List.length_map, List.length_set, List.length_replicate]; omega) | (intro h; simp [h]; done) | (constructor <;> omega)
       refine fin_round (i + 1) ?_ ?_ ?_ ?_
       ·
        show (i + 1) ≤ L.length ∧ ∀ j, j < (i + 1) → Cn.badL N (L.getD j []) = false
        exact ⟨by omega, Cn.falseSucc (f := fun j => Cn.badL N (L.getD j [])) hok (Cn.any_no (d := 0) (fun j hj => hik j (by omega)))⟩
       ·
        show L.length - (i + 1) < L.length - i
        omega
       ·
        exact subE_mk (l := [.pto [.int N, .ls (.intss L)], .int ((i : Int) + 1)]) (m := [.pto [.int N, .ls (.intss L)], .int ((i + 1) : Int)]) (by kernel_rfl) (by kernel_rfl) (consE rfl (consE (congrArg AV.int (show ((i : Int) + 1) = ((i + 1) : Int) from (by first | rfl | omega | (simp; done)))) rfl))
       ·
        kernel_rfl
    ·
     skip
     have h1 := of_decide_eq_false hb1
     refine tri_exit ?_
     refine fin_then_exit ?_
     refine fin_then_exit ?_
     refine fin_block_same ?_
     refine fin_then ?_
     refine tri_seq ?_
     refine tri_seq ?_
     refine tri_regD hcx [] [45] [] [] [] [(45, .bool (decide ((L.length : Int) > 65536)))] [] (by kernel_rfl) ?_ ?_
     ·
      exact az
     refine fin_then ?_
     refine tri_cond (b := (decide ((L.length : Int) > 65536))) (by kernel_rfl) (fun hb4 => ?_) (fun hb4 => ?_)
     ·
      skip
      have h4 := of_decide_eq_true hb4
      have hc := Cn.chk_ok hN (fun j hj => hok j (by omega))
      refine tri_seq ?_
      refine tri_regD hcx [] [2] [] [] [] [(2, .int 2)] [] (by kernel_rfl) ?_ ?_
      ·
       exact az
      refine fin_then ?_
      refine tri_ret ?_
      refine fin_then_ret ?_
      exact fin_ret [] rfl rfl trivial hcx (avs := [.int 2]) (by kernel_rfl) (congrArg AV.int (show 2 = (Cn.chkV N L) from (by rw [hc, if_pos (by omega)]))) [] rfl
     ·
      skip
      have h4 := of_decide_eq_false hb4
      have hc := Cn.chk_ok hN (fun j hj => hok j (by omega))
      refine tri_skip ?_
      refine fin_then ?_
      refine tri_seq ?_
      refine tri_regD hcx [] [2] [] [] [] [(2, .int 0)] [] (by kernel_rfl) ?_ ?_
      ·
       exact az
      refine fin_then ?_
      refine tri_ret ?_
      exact fin_ret [] rfl rfl trivial hcx (avs := [.int 0]) (by kernel_rfl) (congrArg AV.int (show 0 = (Cn.chkV N L) from (by rw [hc, if_neg (by omega)]))) [] rfl
 ·
  cases hσ
def cx_rSame : Cx := ⟨tyR14, [(45, rIs_σ), (16, (coeF [.ld (.ints []), .ld (.ints [])] rInts_σ)), (51, (coeF [.ld (.intss []), .ld (.intss [])] rLists_σ)), (18, (coeF [.agg [.id, .ld (.intss [])]] rCheck_σ))]⟩
theorem cx_rSame_ok : CxOk Tryz.prog cx_rSame := cx_ok tyR14_ok ⟨rIs_sound, (rInts_sound.coe [.ld (.ints []), .ld (.ints [])] rfl), (rLists_sound.coe [.ld (.intss []), .ld (.intss [])] rfl), (rCheck_sound.coe [.agg [.id, .ld (.intss [])]] rfl), trivial⟩
def rSame_σ : CtF
  | [.agg [.im (.val (.int .i64 N)), .im (.ls (.intss L))], .agg [.im (.val (.int .i64 N')), .im (.ls (.intss L'))]], [] => some (L.length ≤ maxLen ∧ ∀ l ∈ L, l.length ≤ maxLen, .bool ((N == N') && decide (L = L')), [])
  | _, _ => none
theorem rSame_sound : Sound Tryz.prog 20 rSame_σ := by
 refine sound_mk (cx := cx_rSame) (fn := Tryz.f20) Tryz.func20 (by kernel_rfl) rfl ?_
 intro w0 G0 args os p r outs hσ hp hm0 hd0
 have hcx : CxOk Tryz.prog cx_rSame := cx_rSame_ok
 unfold rSame_σ at hσ
 split at hσ
 ·
  rename_i N L N' L'
  simp only [Option.some.injEq, Prod.mk.injEq] at hσ
  obtain ⟨rfl, rfl, rfl⟩ := hσ
  obtain ⟨wW, wO, wm, wβ, wd⟩ := w0
  replace hm0 : wm = 0 := hm0
  subst hm0
  replace hd0 : wd = [] := hd0
  subst hd0
  refine ⟨by kernel_rfl, ?_⟩
  change Tri ⟨_, _, _, _, _, _⟩ [(0, .agg [.int N, .intss L]), (1, .agg [.int N', .intss L'])] [] _ _
  refine tri_seq ?_
  refine tri_regD hcx [(1000, .frz), (1001, .frz)] [2, 3] [] [] [] [(2, .pto [.int N, .ls (.intss L)]), (3, .pto [.int N', .ls (.intss L')])] [] (by kernel_rfl) ?_ ?_
  ·
   exact az
  refine fin_then ?_
  refine tri_seq ?_
  refine tri_regD hcx [] [4] [] [] [((N == N') = true → ((N == N') = true)), ((N == N') = true → ((N == N') = true)), ((N == N') = true → ((N == N') = true)), ((N == N') = true → ((N == N') = true)), ((N == N') = true → (L.length ≤ maxLen ∧ ∀ l ∈ L, l.length ≤ maxLen)), ((N == N') = true → (N == N') = true)] [(4, .bool ((N == N') && (decide (L = L'))))] [] (by kernel_rfl) ?_ ?_
  ·
   refine (ap ?_ (ap ?_ (ap ?_ (ap ?_ (ap ?_ (ap (by exact id) az))))))
   all_goals
    first | exact (fun _ => hp) | exact hp | (intro h; exact h) | trivial
  refine fin_then ?_
  refine tri_ret ?_
  exact fin_ret [] rfl rfl trivial hcx (avs := [.bool ((N == N') && (decide (L = L')))]) (by kernel_rfl) (congrArg AV.bool (show ((N == N') && (decide (L = L'))) = ((N == N') && decide (L = L')) from (by rfl))) [] rfl
 ·
  cases hσ
def cx_rHas : Cx := ⟨tyR14, [(45, rIs_σ), (16, (coeF [.ld (.ints []), .ld (.ints [])] rInts_σ)), (51, (coeF [.ld (.intss []), .ld (.intss [])] rLists_σ)), (18, (coeF [.agg [.id, .ld (.intss [])]] rCheck_σ)), (20, (coeF [.agg [.id, .ld (.intss [])], .agg [.id, .ld (.intss [])]] rSame_σ))]⟩
theorem cx_rHas_ok : CxOk Tryz.prog cx_rHas := cx_ok tyR14_ok ⟨rIs_sound, (rInts_sound.coe [.ld (.ints []), .ld (.ints [])] rfl), (rLists_sound.coe [.ld (.intss []), .ld (.intss [])] rfl), (rCheck_sound.coe [.agg [.id, .ld (.intss [])]] rfl), (rSame_sound.coe [.agg [.id, .ld (.intss [])], .agg [.id, .ld (.intss [])]] rfl), trivial⟩
def rHas_σ : CtF
  | [.im (.ls (.ints l)), .im (.val (.int .i64 n))], [] => some (l.length ≤ maxLen, .bool (l.contains n), [])
  | _, _ => none
theorem rHas_sound : Sound Tryz.prog 33 rHas_σ := by
 refine sound_mk (cx := cx_rHas) (fn := Tryz.f33) Tryz.func33 (by kernel_rfl) rfl ?_
 intro w0 G0 args os p r outs hσ hp hm0 hd0
 have hcx : CxOk Tryz.prog cx_rHas := cx_rHas_ok
 unfold rHas_σ at hσ
 split at hσ
 ·
  rename_i l n
  simp only [Option.some.injEq, Prod.mk.injEq] at hσ
  obtain ⟨rfl, rfl, rfl⟩ := hσ
  obtain ⟨wW, wO, wm, wβ, wd⟩ := w0
  replace hm0 : wm = 0 := hm0
  subst hm0
  replace hd0 : wd = [] := hd0
  subst hd0
  refine ⟨by kernel_rfl, ?_⟩
  change Tri ⟨_, _, _, _, _, _⟩ [(0, .ints l), (1, .int n)] [] _ _
  have hm := hp
  unfold maxLen at hm
  refine tri_seq ?_
  refine tri_regD hcx [] [] [0, 1] [] [] [] [] (by kernel_rfl) ?_ ?_
  ·
   exact az
  refine fin_then ?_
  refine tri_seq ?_
  refine tri_seq ?_
  refine tri_regD hcx [] [5] [0, 1] [] [] [(5, .int 0)] [] (by kernel_rfl) ?_ ?_
  ·
   exact az
  refine fin_then ?_
  refine tri_block ?_
  refine tri_loop (X := Nat) (fun x0 => x0 ≤ l.length ∧ ∀ j, j < x0 → l.getD j 0 ≠ n) (fun x0 => [(0, .ints l), (1, .int n), (5, .int (x0 : Int))]) (fun x0 => []) (fun x0 => l.length - x0) (0) ?_ ?_ ?_ ?_
  ·
   show 0 ≤ l.length ∧ ∀ j, j < 0 → l.getD j 0 ≠ n
   exact ⟨Nat.zero_le _, fun j hj => by omega⟩
  ·
   exact subE_mk (l := [.ints l, .int n, .int 0]) (m := [.ints l, .int n, .int (0 : Int)]) (by kernel_rfl) (by kernel_rfl) (consE rfl (consE rfl (consE (congrArg AV.int (show 0 = (0 : Int) from (by first | rfl | omega | (simp; done)))) rfl)))
  ·
   kernel_rfl
  ·
   intro k hI
   replace hI : k ≤ l.length ∧ ∀ j, j < k → l.getD j 0 ≠ n := hI
   change Tri _ [(0, .ints l), (1, .int n), (5, .int (k : Int))] [] _ _
   obtain ⟨hk, hok⟩ := hI
   refine tri_seq ?_
   refine tri_seq ?_
   refine tri_regD hcx [] [9] [0, 1, 5] [] [] [(9, .bool (decide ((k : Int) < (l.length : Int))))] [] (by kernel_rfl) ?_ ?_
   ·
    exact az
   refine fin_then ?_
   refine tri_cond (b := (decide ((k : Int) < (l.length : Int)))) (by kernel_rfl) (fun hb0 => ?_) (fun hb0 => ?_)
   ·
    skip
    have h0 := of_decide_eq_true hb0
    refine tri_skip ?_
    refine fin_then ?_
    refine tri_seq ?_
    refine tri_block ?_
    refine tri_seq ?_
    refine tri_regD hcx [] [17] [0, 1, 5] [] [((0 : Int) ≤ (k : Int) ∧ (k : Int) < (l.length : Int))] [(17, .bool ((l.getD k 0) == n))] [] (by kernel_rfl) ?_ ?_
    ·
     refine (ap ?_ az)
     omega
    refine fin_then ?_
    refine tri_cond (b := ((l.getD k 0) == n)) (by kernel_rfl) (fun hb1 => ?_) (fun hb1 => ?_)
    ·
     skip
     have h1 := eq_of_beq hb1
     have hq := h1
     refine tri_seq ?_
     refine tri_regD hcx [] [4] [] [] [] [(4, .bool true)] [] (by kernel_rfl) ?_ ?_
     ·
      exact az
     refine fin_then ?_
     refine tri_ret ?_
     refine fin_block_ret ?_
     refine fin_then_ret ?_
     refine fin_then_ret ?_
     refine fin_block_ret ?_
     refine fin_then_ret ?_
     exact fin_ret [] rfl rfl trivial hcx (avs := [.bool true]) (by kernel_rfl) (congrArg AV.bool (show true = (l.contains n) from (by exact (Cn.has_yes (by omega) hq).symm))) [] rfl
    ·
     skip
     have h1 := neB hb1
     have hq := h1
     refine tri_skip ?_
     refine fin_block ?_
     refine fin_then ?_
     refine tri_regD hcx [] [5] [0, 1] [] [Fit ((k : Int) + 1)] [(5, .int ((k : Int) + 1))] [] (by kernel_rfl) ?_ ?_
     ·
      refine (ap ?_ az)
      omega
     refine fin_round (k + 1) ?_ ?_ ?_ ?_
     ·
      show (k + 1) ≤ l.length ∧ ∀ j, j < (k + 1) → l.getD j 0 ≠ n
      exact ⟨by omega, Cn.neSucc (P := fun j => l.getD j 0 ≠ n) hok hq⟩
     ·
      show l.length - (k + 1) < l.length - k
      omega
     ·
      exact subE_mk (l := [.ints l, .int n, .int ((k : Int) + 1)]) (m := [.ints l, .int n, .int ((k + 1) : Int)]) (by kernel_rfl) (by kernel_rfl) (consE rfl (consE rfl (consE (congrArg AV.int (show ((k : Int) + 1) = ((k + 1) : Int) from (by first | rfl | omega | (simp; done)))) rfl)))
     ·
      kernel_rfl
   ·
    skip
    have h0 := of_decide_eq_false hb0
    refine tri_exit ?_
    refine fin_then_exit ?_
    refine fin_then_exit ?_
    refine fin_block_same ?_
    refine fin_then ?_
    refine tri_seq ?_
    refine tri_regD hcx [] [4] [] [] [] [(4, .bool false)] [] (by kernel_rfl) ?_ ?_
    ·
     exact az
    refine fin_then ?_
    refine tri_ret ?_
    exact fin_ret [] rfl rfl trivial hcx (avs := [.bool false]) (by kernel_rfl) (congrArg AV.bool (show false = (l.contains n) from (by exact (Cn.has_no (fun j hj => hok j (by omega))).symm))) [] rfl
 ·
  cases hσ
def cx_rAhead : Cx := ⟨tyR14, [(45, rIs_σ), (16, (coeF [.ld (.ints []), .ld (.ints [])] rInts_σ)), (51, (coeF [.ld (.intss []), .ld (.intss [])] rLists_σ)), (18, (coeF [.agg [.id, .ld (.intss [])]] rCheck_σ)), (20, (coeF [.agg [.id, .ld (.intss [])], .agg [.id, .ld (.intss [])]] rSame_σ)), (33, (coeF [.ld (.ints []), .id] rHas_σ))]⟩
theorem cx_rAhead_ok : CxOk Tryz.prog cx_rAhead := cx_ok tyR14_ok ⟨rIs_sound, (rInts_sound.coe [.ld (.ints []), .ld (.ints [])] rfl), (rLists_sound.coe [.ld (.intss []), .ld (.intss [])] rfl), (rCheck_sound.coe [.agg [.id, .ld (.intss [])]] rfl), (rSame_sound.coe [.agg [.id, .ld (.intss [])], .agg [.id, .ld (.intss [])]] rfl), (rHas_sound.coe [.ld (.ints []), .id] rfl), trivial⟩
def rAhead_σ : CtF
  | [.im (.val (.int .i64 a)), .im (.val (.int .i64 b))], [] => some (-65536 ≤ a ∧ a ≤ 65536 ∧ -65536 ≤ b ∧ b ≤ 65536, .bool (Cn.ahd a b), [])
  | _, _ => none
theorem rAhead_sound : Sound Tryz.prog 46 rAhead_σ := by
 refine sound_mk (cx := cx_rAhead) (fn := Tryz.f46) Tryz.func46 (by kernel_rfl) rfl ?_
 intro w0 G0 args os p r outs hσ hp hm0 hd0
 have hcx : CxOk Tryz.prog cx_rAhead := cx_rAhead_ok
 unfold rAhead_σ at hσ
 split at hσ
 ·
  rename_i a b
  simp only [Option.some.injEq, Prod.mk.injEq] at hσ
  obtain ⟨rfl, rfl, rfl⟩ := hσ
  obtain ⟨wW, wO, wm, wβ, wd⟩ := w0
  replace hm0 : wm = 0 := hm0
  subst hm0
  replace hd0 : wd = [] := hd0
  subst hd0
  refine ⟨by kernel_rfl, ?_⟩
  change Tri ⟨_, _, _, _, _, _⟩ [(0, .int a), (1, .int b)] [] _ _
  obtain ⟨h1, h2, h3, h4⟩ := hp
  refine tri_seq ?_
  refine tri_regD hcx [] [] [0, 1] [] [] [] [] (by kernel_rfl) ?_ ?_
  ·
   exact az
  refine fin_then ?_
  refine tri_seq ?_
  refine tri_regD hcx [] [5, 6] [0, 1] [] [Fit (0 - a), Fit (0 - b)] [(5, .int (max a (0 - a))), (6, .int (max b (0 - b)))] [] (by kernel_rfl) ?_ ?_
  ·
   refine (ap ?_ (ap ?_ az))
   all_goals
    first | omega | exact id | exact vcNot | exact vcG | exact vcH | (intro _; omega) | exact (fun _ h => h) | (intro h; simp at h; omega) | (simp only [List.length_cons, List.length_nil, List.length_append, List.length_map, List.length_set, List.length_replicate]; omega) | (intro h; simp [h]; done) | (constructor <;> omega) | trivial
  refine fin_then ?_
  refine tri_seq ?_
  refine tri_regD hcx [] [4] [] [] [((!(decide ((max a (0 - a)) < (max b (0 - b))))) = true → ((!(decide ((max a (0 - a)) < (max b (0 - b))))) = true)), ((!(decide ((max a (0 - a)) < (max b (0 - b))))) = true → ((!(decide ((max a (0 - a)) < (max b (0 - b))))) = true)), ((!(decide ((max a (0 - a)) < (max b (0 - b))))) = true → ((!(decide ((max a (0 - a)) < (max b (0 - b))))) = true)), (((!(decide ((max a (0 - a)) < (max b (0 - b))))) && ((max a (0 - a)) == (max b (0 - b)))) = true → (((!(decide ((max a (0 - a)) < (max b (0 - b))))) && ((max a (0 - a)) == (max b (0 - b)))) = true)), (((!(decide ((max a (0 - a)) < (max b (0 - b))))) && ((max a (0 - a)) == (max b (0 - b)))) = true → (((!(decide ((max a (0 - a)) < (max b (0 - b))))) && ((max a (0 - a)) == (max b (0 - b)))) = true)), ((!(decide ((max a (0 - a)) < (max b (0 - b))))) = true → ((!(decide ((max a (0 - a)) < (max b (0 - b))))) = true)), ((!(decide ((max a (0 - a)) < (max b (0 - b))))) = true → (((max a (0 - a)) == (max b (0 - b))) = true → ((!(decide ((max a (0 - a)) < (max b (0 - b))))) && ((max a (0 - a)) == (max b (0 - b)))) = true)), ((decide ((max a (0 - a)) < (max b (0 - b)))) = false → (!(decide ((max a (0 - a)) < (max b (0 - b))))) = true)] [(4, .bool ((decide ((max a (0 - a)) < (max b (0 - b)))) || (((max a (0 - a)) == (max b (0 - b))) && (decide (a > b)))))] [] (by kernel_rfl) ?_ ?_
  ·
   refine (ap ?_ (ap ?_ (ap ?_ (ap ?_ (ap ?_ (ap ?_ (ap ?_ (ap (by exact vcNot) az))))))))
   all_goals
    first | omega | exact id | exact vcNot | exact vcG | exact vcH | (intro _; omega) | exact (fun _ h => h) | (intro h; simp at h; omega) | (simp only [List.length_cons, List.length_nil, List.length_append, List.length_map, List.length_set, List.length_replicate]; omega) | (intro h; simp [h]; done) | (constructor <;> omega) | trivial
  refine fin_then ?_
  refine tri_ret ?_
  exact fin_ret [] rfl rfl trivial hcx (avs := [.bool ((decide ((max a (0 - a)) < (max b (0 - b)))) || (((max a (0 - a)) == (max b (0 - b))) && (decide (a > b))))]) (by kernel_rfl) (congrArg AV.bool (show ((decide ((max a (0 - a)) < (max b (0 - b)))) || (((max a (0 - a)) == (max b (0 - b))) && (decide (a > b)))) = (Cn.ahd a b) from (by exact Cn.ahd_eq a b))) [] rfl
 ·
  cases hσ
def cx_rLit : Cx := ⟨tyR14, [(45, rIs_σ), (16, (coeF [.ld (.ints []), .ld (.ints [])] rInts_σ)), (51, (coeF [.ld (.intss []), .ld (.intss [])] rLists_σ)), (18, (coeF [.agg [.id, .ld (.intss [])]] rCheck_σ)), (20, (coeF [.agg [.id, .ld (.intss [])], .agg [.id, .ld (.intss [])]] rSame_σ)), (33, (coeF [.ld (.ints []), .id] rHas_σ)), (46, rAhead_σ)]⟩
theorem cx_rLit_ok : CxOk Tryz.prog cx_rLit := cx_ok tyR14_ok ⟨rIs_sound, (rInts_sound.coe [.ld (.ints []), .ld (.ints [])] rfl), (rLists_sound.coe [.ld (.intss []), .ld (.intss [])] rfl), (rCheck_sound.coe [.agg [.id, .ld (.intss [])]] rfl), (rSame_sound.coe [.agg [.id, .ld (.intss [])], .agg [.id, .ld (.intss [])]] rfl), (rHas_sound.coe [.ld (.ints []), .id] rfl), rAhead_sound, trivial⟩
def rLit_σ : CtF
  | [.im (.val (.int .i64 l)), .im (.ls (.bools a))], [] => some (a.length ≤ maxLen, .bool (Cn.litV a l), [])
  | _, _ => none
theorem rLit_sound : Sound Tryz.prog 54 rLit_σ := by
 refine sound_mk (cx := cx_rLit) (fn := Tryz.f54) Tryz.func54 (by kernel_rfl) rfl ?_
 intro w0 G0 args os p r outs hσ hp hm0 hd0
 have hcx : CxOk Tryz.prog cx_rLit := cx_rLit_ok
 unfold rLit_σ at hσ
 split at hσ
 ·
  rename_i l a
  simp only [Option.some.injEq, Prod.mk.injEq] at hσ
  obtain ⟨rfl, rfl, rfl⟩ := hσ
  obtain ⟨wW, wO, wm, wβ, wd⟩ := w0
  replace hm0 : wm = 0 := hm0
  subst hm0
  replace hd0 : wd = [] := hd0
  subst hd0
  refine ⟨by kernel_rfl, ?_⟩
  change Tri ⟨_, _, _, _, _, _⟩ [(0, .int l), (1, .bools a)] [] _ _
  unfold maxLen at hp
  refine tri_seq ?_
  refine tri_regD hcx [] [] [0, 1] [] [] [] [] (by kernel_rfl) ?_ ?_
  ·
   exact az
  refine fin_then ?_
  refine tri_seq ?_
  refine tri_seq ?_
  refine tri_regD hcx [] [9] [0, 1] [] [(0 ≤ (65536 : Int) ∧ (65536 : Int) ≤ 65536)] [(9, .bool (!(Cn.mayP l (65536 : Int))))] [] (by kernel_rfl) ?_ ?_
  ·
   refine (ap ?_ az)
   first | omega | exact id | exact vcNot | exact vcG | exact vcH | (intro _; omega) | exact (fun _ h => h) | (intro h; simp at h; omega) | (simp only [List.length_cons, List.length_nil, List.length_append, List.length_map, List.length_set, List.length_replicate]; omega) | (intro h; simp [h]; done) | (constructor <;> omega) | trivial
  refine fin_then ?_
  refine tri_cond (b := (!(Cn.mayP l (65536 : Int)))) (by kernel_rfl) (fun hb0 => ?_) (fun hb0 => ?_)
  ·
   skip
   have h0 := hb0
   have hq : Cn.mayP l 65536 = false := by simpa using h0
   refine tri_seq ?_
   refine tri_regD hcx [] [4] [] [] [] [(4, .bool false)] [] (by kernel_rfl) ?_ ?_
   ·
    exact az
   refine fin_then ?_
   refine tri_ret ?_
   refine fin_then_ret ?_
   exact fin_ret [] rfl rfl trivial hcx (avs := [.bool false]) (by kernel_rfl) (congrArg AV.bool (show false = (Cn.litV a l) from (by exact (Cn.litV_no hq).symm))) [] rfl
  ·
   skip
   have h0 := hb0
   have hq : Cn.mayP l 65536 = true := by simpa using h0
   have hmb := Cn.mayP_iff.1 hq
   refine tri_skip ?_
   refine fin_then ?_
   refine tri_seq ?_
   refine tri_regD hcx [] [5] [0, 1] [] [Fit (0 - l)] [(5, .int (max l (0 - l)))] [] (by kernel_rfl) ?_ ?_
   ·
    refine (ap ?_ az)
    first | omega | exact id | exact vcNot | exact vcG | exact vcH | (intro _; omega) | exact (fun _ h => h) | (intro h; simp at h; omega) | (simp only [List.length_cons, List.length_nil, List.length_append, List.length_map, List.length_set, List.length_replicate]; omega) | (intro h; simp [h]; done) | (constructor <;> omega) | trivial
   refine fin_then ?_
   refine tri_seq ?_
   refine tri_regD hcx [] [6] [0] [] [((decide ((max l (0 - l)) < (a.length : Int))) = true → ((decide ((max l (0 - l)) < (a.length : Int))) = true)), ((decide ((max l (0 - l)) < (a.length : Int))) = true → ((decide ((max l (0 - l)) < (a.length : Int))) = true)), ((decide ((max l (0 - l)) < (a.length : Int))) = true → ((0 : Int) ≤ (max l (0 - l)) ∧ (max l (0 - l)) < (a.length : Int))), ((decide ((max l (0 - l)) < (a.length : Int))) = true → ((decide ((max l (0 - l)) < (a.length : Int))) = true)), ((decide ((max l (0 - l)) < (a.length : Int))) = true → (decide ((max l (0 - l)) < (a.length : Int))) = true)] [(6, .bool ((decide ((max l (0 - l)) < (a.length : Int))) && (a.getD ((max l (0 - l)).toNat) false)))] [] (by kernel_rfl) ?_ ?_
   ·
    refine (ap ?_ (ap ?_ (ap ?_ (ap ?_ (ap (by exact id) az)))))
    all_goals
     first | omega | exact id | exact vcNot | exact vcG | exact vcH | (intro _; omega) | exact (fun _ h => h) | (intro h; simp at h; omega) | (simp only [List.length_cons, List.length_nil, List.length_append, List.length_map, List.length_set, List.length_replicate]; omega) | (intro h; simp [h]; done) | (constructor <;> omega) | trivial
   refine fin_then ?_
   refine tri_seq ?_
   refine tri_regD hcx [] [4] [] [] [] [(4, .bool (((decide ((max l (0 - l)) < (a.length : Int))) && (a.getD ((max l (0 - l)).toNat) false)) == (decide (l > 0))))] [] (by kernel_rfl) ?_ ?_
   ·
    exact az
   refine fin_then ?_
   refine tri_ret ?_
   exact fin_ret [] rfl rfl trivial hcx (avs := [.bool (((decide ((max l (0 - l)) < (a.length : Int))) && (a.getD ((max l (0 - l)).toNat) false)) == (decide (l > 0)))]) (by kernel_rfl) (congrArg AV.bool (show (((decide ((max l (0 - l)) < (a.length : Int))) && (a.getD ((max l (0 - l)).toNat) false)) == (decide (l > 0))) = (Cn.litV a l) from (by exact Cn.lit_eq hq))) [] rfl
 ·
  cases hσ
def cx_rHolds : Cx := ⟨tyR14, [(45, rIs_σ), (16, (coeF [.ld (.ints []), .ld (.ints [])] rInts_σ)), (51, (coeF [.ld (.intss []), .ld (.intss [])] rLists_σ)), (18, (coeF [.agg [.id, .ld (.intss [])]] rCheck_σ)), (20, (coeF [.agg [.id, .ld (.intss [])], .agg [.id, .ld (.intss [])]] rSame_σ)), (33, (coeF [.ld (.ints []), .id] rHas_σ)), (46, rAhead_σ), (54, (coeF [.id, .ld (.bools [])] rLit_σ))]⟩
theorem cx_rHolds_ok : CxOk Tryz.prog cx_rHolds := cx_ok tyR14_ok ⟨rIs_sound, (rInts_sound.coe [.ld (.ints []), .ld (.ints [])] rfl), (rLists_sound.coe [.ld (.intss []), .ld (.intss [])] rfl), (rCheck_sound.coe [.agg [.id, .ld (.intss [])]] rfl), (rSame_sound.coe [.agg [.id, .ld (.intss [])], .agg [.id, .ld (.intss [])]] rfl), (rHas_sound.coe [.ld (.ints []), .id] rfl), rAhead_sound, (rLit_sound.coe [.id, .ld (.bools [])] rfl), trivial⟩
def rHolds_σ : CtF
  | [.im (.ls (.ints l)), .im (.ls (.bools a))], [] => some (l.length ≤ maxLen ∧ a.length ≤ maxLen, .bool (Cn.holdsV a l), [])
  | _, _ => none
theorem rHolds_sound : Sound Tryz.prog 22 rHolds_σ := by
 refine sound_mk (cx := cx_rHolds) (fn := Tryz.f22) Tryz.func22 (by kernel_rfl) rfl ?_
 intro w0 G0 args os p r outs hσ hp hm0 hd0
 have hcx : CxOk Tryz.prog cx_rHolds := cx_rHolds_ok
 unfold rHolds_σ at hσ
 split at hσ
 ·
  rename_i l a
  simp only [Option.some.injEq, Prod.mk.injEq] at hσ
  obtain ⟨rfl, rfl, rfl⟩ := hσ
  obtain ⟨wW, wO, wm, wβ, wd⟩ := w0
  replace hm0 : wm = 0 := hm0
  subst hm0
  replace hd0 : wd = [] := hd0
  subst hd0
  refine ⟨by kernel_rfl, ?_⟩
  change Tri ⟨_, _, _, _, _, _⟩ [(0, .ints l), (1, .bools a)] [] _ _
  obtain ⟨hm1, hm2⟩ := hp
  have hm := hm1
  unfold maxLen at hm
  refine tri_seq ?_
  refine tri_regD hcx [] [] [0, 1] [] [] [] [] (by kernel_rfl) ?_ ?_
  ·
   exact az
  refine fin_then ?_
  refine tri_seq ?_
  refine tri_seq ?_
  refine tri_regD hcx [] [5] [0, 1] [] [] [(5, .int 0)] [] (by kernel_rfl) ?_ ?_
  ·
   exact az
  refine fin_then ?_
  refine tri_block ?_
  refine tri_loop (X := Nat) (fun x0 => x0 ≤ l.length ∧ ∀ j, j < x0 → Cn.litV a (l.getD j 0) = false) (fun x0 => [(0, .ints l), (1, .bools a), (5, .int (x0 : Int))]) (fun x0 => []) (fun x0 => l.length - x0) (0) ?_ ?_ ?_ ?_
  ·
   show 0 ≤ l.length ∧ ∀ j, j < 0 → Cn.litV a (l.getD j 0) = false
   exact ⟨Nat.zero_le _, fun j hj => by omega⟩
  ·
   exact subE_mk (l := [.ints l, .bools a, .int 0]) (m := [.ints l, .bools a, .int (0 : Int)]) (by kernel_rfl) (by kernel_rfl) (consE rfl (consE rfl (consE (congrArg AV.int (show 0 = (0 : Int) from (by first | rfl | omega | (simp; done)))) rfl)))
  ·
   kernel_rfl
  ·
   intro k hI
   replace hI : k ≤ l.length ∧ ∀ j, j < k → Cn.litV a (l.getD j 0) = false := hI
   change Tri _ [(0, .ints l), (1, .bools a), (5, .int (k : Int))] [] _ _
   obtain ⟨hk, hok⟩ := hI
   refine tri_seq ?_
   refine tri_seq ?_
   refine tri_regD hcx [] [9] [0, 1, 5] [] [] [(9, .bool (decide ((k : Int) < (l.length : Int))))] [] (by kernel_rfl) ?_ ?_
   ·
    exact az
   refine fin_then ?_
   refine tri_cond (b := (decide ((k : Int) < (l.length : Int)))) (by kernel_rfl) (fun hb0 => ?_) (fun hb0 => ?_)
   ·
    skip
    have h0 := of_decide_eq_true hb0
    refine tri_skip ?_
    refine fin_then ?_
    refine tri_seq ?_
    refine tri_block ?_
    refine tri_seq ?_
    refine tri_regD hcx [] [17] [0, 1, 5] [] [((0 : Int) ≤ (k : Int) ∧ (k : Int) < (l.length : Int)), (a.length ≤ maxLen)] [(17, .bool (Cn.litV a (l.getD k 0)))] [] (by kernel_rfl) ?_ ?_
    ·
     refine (ap ?_ (ap ?_ az))
     all_goals
      first | exact hm2 | (first | omega | exact id | exact vcNot | exact vcG | exact vcH | (intro _; omega) | exact (fun _ h => h) | (intro h; simp at h; omega) | (simp only [List.length_cons, List.length_nil, List.length_append, List.length_map, List.length_set, List.length_replicate]; omega) | (intro h; simp [h]; done))
    refine fin_then ?_
    refine tri_cond (b := (Cn.litV a (l.getD k 0))) (by kernel_rfl) (fun hb1 => ?_) (fun hb1 => ?_)
    ·
     skip
     have h1 := hb1
     have hq := h1
     refine tri_seq ?_
     refine tri_regD hcx [] [4] [] [] [] [(4, .bool true)] [] (by kernel_rfl) ?_ ?_
     ·
      exact az
     refine fin_then ?_
     refine tri_ret ?_
     refine fin_block_ret ?_
     refine fin_then_ret ?_
     refine fin_then_ret ?_
     refine fin_block_ret ?_
     refine fin_then_ret ?_
     exact fin_ret [] rfl rfl trivial hcx (avs := [.bool true]) (by kernel_rfl) (congrArg AV.bool (show true = (Cn.holdsV a l) from (by exact (Cn.any_yes (d := 0) (p := Cn.litV a) (by omega) hq).symm))) [] rfl
    ·
     skip
     have h1 := hb1
     have hq := h1
     refine tri_skip ?_
     refine fin_block ?_
     refine fin_then ?_
     refine tri_regD hcx [] [5] [0, 1] [] [Fit ((k : Int) + 1)] [(5, .int ((k : Int) + 1))] [] (by kernel_rfl) ?_ ?_
     ·
      refine (ap ?_ az)
      first | exact hm2 | (first | omega | exact id | exact vcNot | exact vcG | exact vcH | (intro _; omega) | exact (fun _ h => h) | (intro h; simp at h; omega) | (simp only [List.length_cons, List.length_nil, List.length_append, List.length_map, List.length_set, List.length_replicate]; omega) | (intro h; simp [h]; done))
     refine fin_round (k + 1) ?_ ?_ ?_ ?_
     ·
      show (k + 1) ≤ l.length ∧ ∀ j, j < (k + 1) → Cn.litV a (l.getD j 0) = false
      exact ⟨by omega, Cn.falseSucc (f := fun j => Cn.litV a (l.getD j 0)) hok hq⟩
     ·
      show l.length - (k + 1) < l.length - k
      omega
     ·
      exact subE_mk (l := [.ints l, .bools a, .int ((k : Int) + 1)]) (m := [.ints l, .bools a, .int ((k + 1) : Int)]) (by kernel_rfl) (by kernel_rfl) (consE rfl (consE rfl (consE (congrArg AV.int (show ((k : Int) + 1) = ((k + 1) : Int) from (by first | rfl | omega | (simp; done)))) rfl)))
     ·
      kernel_rfl
   ·
    skip
    have h0 := of_decide_eq_false hb0
    refine tri_exit ?_
    refine fin_then_exit ?_
    refine fin_then_exit ?_
    refine fin_block_same ?_
    refine fin_then ?_
    refine tri_seq ?_
    refine tri_regD hcx [] [4] [] [] [] [(4, .bool false)] [] (by kernel_rfl) ?_ ?_
    ·
     exact az
    refine fin_then ?_
    refine tri_ret ?_
    exact fin_ret [] rfl rfl trivial hcx (avs := [.bool false]) (by kernel_rfl) (congrArg AV.bool (show false = (Cn.holdsV a l) from (by exact (Cn.any_no (d := 0) (p := Cn.litV a) (fun j hj => hok j (by omega))).symm))) [] rfl
 ·
  cases hσ
def cx_rNorm : Cx := ⟨tyR14, [(45, rIs_σ), (16, (coeF [.ld (.ints []), .ld (.ints [])] rInts_σ)), (51, (coeF [.ld (.intss []), .ld (.intss [])] rLists_σ)), (18, (coeF [.agg [.id, .ld (.intss [])]] rCheck_σ)), (20, (coeF [.agg [.id, .ld (.intss [])], .agg [.id, .ld (.intss [])]] rSame_σ)), (33, (coeF [.ld (.ints []), .id] rHas_σ)), (46, rAhead_σ), (54, (coeF [.id, .ld (.bools [])] rLit_σ)), (22, (coeF [.ld (.ints []), .ld (.bools [])] rHolds_σ))]⟩
theorem cx_rNorm_ok : CxOk Tryz.prog cx_rNorm := cx_ok tyR14_ok ⟨rIs_sound, (rInts_sound.coe [.ld (.ints []), .ld (.ints [])] rfl), (rLists_sound.coe [.ld (.intss []), .ld (.intss [])] rfl), (rCheck_sound.coe [.agg [.id, .ld (.intss [])]] rfl), (rSame_sound.coe [.agg [.id, .ld (.intss [])], .agg [.id, .ld (.intss [])]] rfl), (rHas_sound.coe [.ld (.ints []), .id] rfl), rAhead_sound, (rLit_sound.coe [.id, .ld (.bools [])] rfl), (rHolds_sound.coe [.ld (.ints []), .ld (.bools [])] rfl), trivial⟩
def rNorm_σ : CtF
  | [.im (.ls (.ints l))], [] => some (l.length ≤ 1000000, .tup [.ints (Cn.normL l), .bool (Cn.tautL l)], [])
  | _, _ => none
theorem rNorm_sound : Sound Tryz.prog 15 rNorm_σ := by
 refine sound_mk (cx := cx_rNorm) (fn := Tryz.f15) Tryz.func15 (by kernel_rfl) rfl ?_
 intro w0 G0 args os p r outs hσ hp hm0 hd0
 have hcx : CxOk Tryz.prog cx_rNorm := cx_rNorm_ok
 have hmx : Tryz.prog.follows .mixedOrders = true := by kernel_rfl
 unfold rNorm_σ at hσ
 split at hσ
 ·
  rename_i l
  simp only [Option.some.injEq, Prod.mk.injEq] at hσ
  obtain ⟨rfl, rfl, rfl⟩ := hσ
  obtain ⟨wW, wO, wm, wβ, wd⟩ := w0
  replace hm0 : wm = 0 := hm0
  subst hm0
  replace hd0 : wd = [] := hd0
  subst hd0
  refine ⟨by kernel_rfl, ?_⟩
  change Tri ⟨_, _, _, _, _, _⟩ [(0, .ints l)] [] _ _
  have hm9 : l.length ≤ maxLen := by unfold maxLen; omega
  refine tri_seq ?_
  refine tri_regD hcx [] [] [0] [] [] [] [] (by kernel_rfl) ?_ ?_
  ·
   exact az
  refine fin_then ?_
  refine tri_seq ?_
  refine tri_regD hcx [] [4] [0] [] [] [(4, .im (.val (.slice none 0 0)))] [] (by kernel_rfl) ?_ ?_
  ·
   exact az
  refine fin_then ?_
  refine tri_seq ?_
  refine tri_regD hcx [] [5] [4, 0] [] [] [(5, .bool false)] [] (by kernel_rfl) ?_ ?_
  ·
   exact az
  refine fin_then ?_
  refine tri_seq ?_
  refine tri_seq ?_
  refine tri_regD hcx [] [6] [5, 4, 0] [] [] [(6, .int 0)] [] (by kernel_rfl) ?_ ?_
  ·
   exact az
  refine fin_then ?_
  refine tri_block ?_
  refine tri_nil 4 (.ints []) (by kernel_rfl) (E' := [(6, .int 0), (5, .bool false), (4, .ints []), (0, .ints l)]) (by kernel_rfl) ?_
  refine tri_loop (X := Nat) (fun x0 => x0 ≤ l.length) (fun x0 => [(0, .ints l), (4, .ints (Cn.normL (l.take x0))), (5, .bool (Cn.tautL (l.take x0))), (6, .int (x0 : Int))]) (fun x0 => []) (fun x0 => l.length - x0) (0) ?_ ?_ ?_ ?_
  ·
   show 0 ≤ l.length
   omega
  ·
   exact subE_mk (l := [.ints l, .ints [], .bool false, .int 0]) (m := [.ints l, .ints (Cn.normL (l.take 0)), .bool (Cn.tautL (l.take 0)), .int (0 : Int)]) (by kernel_rfl) (by kernel_rfl) (consE rfl (consE (congrArg AV.ints (show [] = (Cn.normL (l.take 0)) from (by simp [Cn.norm_nil]))) (consE (congrArg AV.bool (show false = (Cn.tautL (l.take 0)) from (by simp [Cn.taut_nil]))) (consE (congrArg AV.int (show 0 = (0 : Int) from (by first | rfl | omega | (simp; done)))) rfl))))
  ·
   kernel_rfl
  ·
   intro k hI
   replace hI : k ≤ l.length := hI
   change Tri _ [(0, .ints l), (4, .ints (Cn.normL (l.take k))), (5, .bool (Cn.tautL (l.take k))), (6, .int (k : Int))] [] _ _
   have hnl := Cn.norm_len (l.take k)
   have htl : (l.take k).length ≤ l.length := by rw [List.length_take]; omega
   have hnb : ∀ j, j < (Cn.normL (l.take k)).length → _ := fun j hj => Cn.norm_bd (l := l.take k) hj
   have hnm : (Cn.normL (l.take k)).length ≤ maxLen := by unfold maxLen; omega
   refine tri_seq ?_
   refine tri_seq ?_
   refine tri_regD hcx [] [12] [0, 4, 5, 6] [] [] [(12, .bool (decide ((k : Int) < (l.length : Int))))] [] (by kernel_rfl) ?_ ?_
   ·
    exact az
   refine fin_then ?_
   refine tri_cond (b := (decide ((k : Int) < (l.length : Int)))) (by kernel_rfl) (fun hb0 => ?_) (fun hb0 => ?_)
   ·
    skip
    have h0 := of_decide_eq_true hb0
    refine tri_skip ?_
    refine fin_then ?_
    refine tri_seq ?_
    refine tri_block ?_
    refine tri_seq ?_
    refine tri_seq ?_
    refine tri_regD hcx [] [28] [0, 4, 5, 6] [] [((0 : Int) ≤ (k : Int) ∧ (k : Int) < (l.length : Int)), (0 ≤ (65536 : Int) ∧ (65536 : Int) ≤ 65536), ((!(!(Cn.mayP (l.getD k 0) (65536 : Int)))) = true → ((!(!(Cn.mayP (l.getD k 0) (65536 : Int)))) = true)), ((!(!(Cn.mayP (l.getD k 0) (65536 : Int)))) = true → ((!(!(Cn.mayP (l.getD k 0) (65536 : Int)))) = true)), ((!(!(Cn.mayP (l.getD k 0) (65536 : Int)))) = true → ((0 : Int) ≤ (k : Int) ∧ (k : Int) < (l.length : Int))), ((!(!(Cn.mayP (l.getD k 0) (65536 : Int)))) = true → ((!(!(Cn.mayP (l.getD k 0) (65536 : Int)))) = true)), ((!(!(Cn.mayP (l.getD k 0) (65536 : Int)))) = true → ((!(!(Cn.mayP (l.getD k 0) (65536 : Int)))) = true)), ((!(!(Cn.mayP (l.getD k 0) (65536 : Int)))) = true → ((!(!(Cn.mayP (l.getD k 0) (65536 : Int)))) = true)), ((!(!(Cn.mayP (l.getD k 0) (65536 : Int)))) = true → ((Cn.normL (l.take k)).length ≤ maxLen)), ((!(Cn.mayP (l.getD k 0) (65536 : Int))) = false → (!(!(Cn.mayP (l.getD k 0) (65536 : Int)))) = true)] [(28, .bool ((!(Cn.mayP (l.getD k 0) (65536 : Int))) || ((Cn.normL (l.take k)).contains (l.getD k 0))))] [] (by kernel_rfl) ?_ ?_
    ·
     refine (ap ?_ (ap ?_ (ap ?_ (ap ?_ (ap ?_ (ap ?_ (ap ?_ (ap ?_ (ap ?_ (ap (by exact vcNot) az))))))))))
     all_goals
      first | exact hnm | exact (fun _ => hnm) | (first | omega | exact id | exact vcNot | exact vcG | exact vcH | (intro _; omega) | exact (fun _ h => h) | (intro h; simp at h; omega) | (simp only [List.length_cons, List.length_nil, List.length_append, List.length_map, List.length_set, List.length_replicate]; omega) | (intro h; simp [h]; done)) | (intro _; constructor <;> omega) | (intro _; have := hbp (by omega); exact ⟨this.1, this.2, hmb.2.1, hmb.2.2⟩) | (simp only [List.length_drop, List.length_take, List.length_append, List.length_cons, List.length_nil]; omega)
    refine fin_then ?_
    refine tri_cond (b := ((!(Cn.mayP (l.getD k 0) (65536 : Int))) || ((Cn.normL (l.take k)).contains (l.getD k 0)))) (by kernel_rfl) (fun hb1 => ?_) (fun hb1 => ?_)
    ·
     skip
     have h1 := hb1
     have hq : (!(Cn.mayP (l.getD k 0) 65536)) = true ∨ (Cn.normL (l.take k)).contains (l.getD k 0) = true := by rw [← Bool.or_eq_true]; exact h1
     refine tri_exit ?_
     refine fin_then_exit ?_
     refine fin_block_same ?_
     refine fin_then ?_
     refine tri_regD hcx [] [6] [0, 4, 5] [] [Fit ((k : Int) + 1)] [(6, .int ((k : Int) + 1))] [] (by kernel_rfl) ?_ ?_
     ·
      refine (ap ?_ az)
      first | exact hnm | exact (fun _ => hnm) | (first | omega | exact id | exact vcNot | exact vcG | exact vcH | (intro _; omega) | exact (fun _ h => h) | (intro h; simp at h; omega) | (simp only [List.length_cons, List.length_nil, List.length_append, List.length_map, List.length_set, List.length_replicate]; omega) | (intro h; simp [h]; done)) | (intro _; constructor <;> omega) | (intro _; have := hbp (by omega); exact ⟨this.1, this.2, hmb.2.1, hmb.2.2⟩) | (simp only [List.length_drop, List.length_take, List.length_append, List.length_cons, List.length_nil]; omega)
     refine fin_round (k + 1) ?_ ?_ ?_ ?_
     ·
      show (k + 1) ≤ l.length
      omega
     ·
      show l.length - (k + 1) < l.length - k
      omega
     ·
      exact subE_mk (l := [.ints l, .ints (Cn.normL (l.take k)), .bool (Cn.tautL (l.take k)), .int ((k : Int) + 1)]) (m := [.ints l, .ints (Cn.normL (l.take (k + 1))), .bool (Cn.tautL (l.take (k + 1))), .int ((k + 1) : Int)]) (by kernel_rfl) (by kernel_rfl) (consE rfl (consE (congrArg AV.ints (show (Cn.normL (l.take k)) = (Cn.normL (l.take (k + 1))) from (by first | exact (Cn.norm_next_skip (by omega) hq).1 | rw [List.drop_zero, List.take_length]; exact (Cn.norm_next_ins (by omega) hq1 hq2 (by omega) hlow hat).1))) (consE (congrArg AV.bool (show (Cn.tautL (l.take k)) = (Cn.tautL (l.take (k + 1))) from (by first | exact (Cn.norm_next_skip (by omega) hq).2 | exact (Cn.norm_next_ins (by omega) hq1 hq2 (by omega) hlow hat).2))) (consE (congrArg AV.int (show ((k : Int) + 1) = ((k + 1) : Int) from (by first | rfl | omega | (simp; done)))) rfl))))
     ·
      kernel_rfl
    ·
     skip
     have h1 := hb1
     have hqq : (!(Cn.mayP (l.getD k 0) 65536)) = false ∧ (Cn.normL (l.take k)).contains (l.getD k 0) = false := by rw [← Bool.or_eq_false_iff]; exact h1
     obtain ⟨hq1, hq2⟩ := hqq
     have hmb : (l.getD k 0) ≠ 0 ∧ -65536 ≤ (l.getD k 0) ∧ (l.getD k 0) ≤ 65536 := Cn.mayP_iff.1 (by simpa using hq1)
     refine tri_skip ?_
     refine fin_then ?_
     refine tri_seq ?_
     refine tri_regD hcx [] [5] [0, 4, 6] [] [((!(Cn.tautL (l.take k))) = true → ((!(Cn.tautL (l.take k))) = true)), ((!(Cn.tautL (l.take k))) = true → ((!(Cn.tautL (l.take k))) = true)), ((!(Cn.tautL (l.take k))) = true → ((0 : Int) ≤ (k : Int) ∧ (k : Int) < (l.length : Int))), ((!(Cn.tautL (l.take k))) = true → ((!(Cn.tautL (l.take k))) = true)), ((!(Cn.tautL (l.take k))) = true → ((!(Cn.tautL (l.take k))) = true)), ((!(Cn.tautL (l.take k))) = true → Fit (0 - (l.getD k 0))), ((!(Cn.tautL (l.take k))) = true → ((!(Cn.tautL (l.take k))) = true)), ((!(Cn.tautL (l.take k))) = true → ((!(Cn.tautL (l.take k))) = true)), ((!(Cn.tautL (l.take k))) = true → ((Cn.normL (l.take k)).length ≤ maxLen)), ((Cn.tautL (l.take k)) = false → (!(Cn.tautL (l.take k))) = true)] [(5, .bool ((Cn.tautL (l.take k)) || ((Cn.normL (l.take k)).contains (0 - (l.getD k 0)))))] [] (by kernel_rfl) ?_ ?_
     ·
      refine (ap ?_ (ap ?_ (ap ?_ (ap ?_ (ap ?_ (ap ?_ (ap ?_ (ap ?_ (ap ?_ (ap (by exact vcNot) az))))))))))
      all_goals
       first | exact hnm | exact (fun _ => hnm) | (first | omega | exact id | exact vcNot | exact vcG | exact vcH | (intro _; omega) | exact (fun _ h => h) | (intro h; simp at h; omega) | (simp only [List.length_cons, List.length_nil, List.length_append, List.length_map, List.length_set, List.length_replicate]; omega) | (intro h; simp [h]; done)) | (intro _; constructor <;> omega) | (intro _; have := hbp (by omega); exact ⟨this.1, this.2, hmb.2.1, hmb.2.2⟩) | (simp only [List.length_drop, List.length_take, List.length_append, List.length_cons, List.length_nil]; omega)
     refine fin_then ?_
     refine tri_seq ?_
     refine tri_regD hcx [] [7] [5, 0, 4, 6] [] [] [(7, .int 0)] [] (by kernel_rfl) ?_ ?_
     ·
      exact az
     refine fin_then ?_
     refine tri_seq ?_
     refine tri_block ?_
     refine tri_loop (X := Nat) (fun x0 => x0 ≤ (Cn.normL (l.take k)).length ∧ ∀ j, j < x0 → Cn.ahd ((Cn.normL (l.take k)).getD j 0) (l.getD k 0) = true) (fun x0 => [(0, .ints l), (4, .ints (Cn.normL (l.take k))), (5, .bool ((Cn.tautL (l.take k)) || ((Cn.normL (l.take k)).contains (0 - (l.getD k 0))))), (6, .int (k : Int)), (7, .int (x0 : Int))]) (fun x0 => []) (fun x0 => (Cn.normL (l.take k)).length - x0) (0) ?_ ?_ ?_ ?_
     ·
      show 0 ≤ (Cn.normL (l.take k)).length ∧ ∀ j, j < 0 → Cn.ahd ((Cn.normL (l.take k)).getD j 0) (l.getD k 0) = true
      exact ⟨Nat.zero_le _, fun j hj => by omega⟩
     ·
      exact subE_mk (l := [.ints l, .ints (Cn.normL (l.take k)), .bool ((Cn.tautL (l.take k)) || ((Cn.normL (l.take k)).contains (0 - (l.getD k 0)))), .int (k : Int), .int 0]) (m := [.ints l, .ints (Cn.normL (l.take k)), .bool ((Cn.tautL (l.take k)) || ((Cn.normL (l.take k)).contains (0 - (l.getD k 0)))), .int (k : Int), .int (0 : Int)]) (by kernel_rfl) (by kernel_rfl) (consE rfl (consE rfl (consE rfl (consE rfl (consE (congrArg AV.int (show 0 = (0 : Int) from (by first | rfl | omega | (simp; done)))) rfl)))))
     ·
      kernel_rfl
     ·
      intro p hI
      replace hI : p ≤ (Cn.normL (l.take k)).length ∧ ∀ j, j < p → Cn.ahd ((Cn.normL (l.take k)).getD j 0) (l.getD k 0) = true := hI
      change Tri _ [(0, .ints l), (4, .ints (Cn.normL (l.take k))), (5, .bool ((Cn.tautL (l.take k)) || ((Cn.normL (l.take k)).contains (0 - (l.getD k 0))))), (6, .int (k : Int)), (7, .int (p : Int))] [] _ _
      obtain ⟨hpk, hlow⟩ := hI
      have hbp := hnb p
      refine tri_seq ?_
      refine tri_seq ?_
      refine tri_drawD [0, 0, 2, 7, 15, 31, 31, 127, 255, 31, 31, 1567, 3615, 8191, 16383] hcx hmx [] [53] [0, 4, 5, 6, 7] [] [((decide ((p : Int) < ((Cn.normL (l.take k)).length : Int))) = true → ((decide ((p : Int) < ((Cn.normL (l.take k)).length : Int))) = true)), ((decide ((p : Int) < ((Cn.normL (l.take k)).length : Int))) = true → ((decide ((p : Int) < ((Cn.normL (l.take k)).length : Int))) = true)), ((decide ((p : Int) < ((Cn.normL (l.take k)).length : Int))) = true → ((0 : Int) ≤ (p : Int) ∧ (p : Int) < ((Cn.normL (l.take k)).length : Int))), ((decide ((p : Int) < ((Cn.normL (l.take k)).length : Int))) = true → ((decide ((p : Int) < ((Cn.normL (l.take k)).length : Int))) = true)), ((decide ((p : Int) < ((Cn.normL (l.take k)).length : Int))) = true → ((decide ((p : Int) < ((Cn.normL (l.take k)).length : Int))) = true)), ((decide ((p : Int) < ((Cn.normL (l.take k)).length : Int))) = true → ((decide ((p : Int) < ((Cn.normL (l.take k)).length : Int))) = true)), ((decide ((p : Int) < ((Cn.normL (l.take k)).length : Int))) = true → ((0 : Int) ≤ (k : Int) ∧ (k : Int) < (l.length : Int))), ((decide ((p : Int) < ((Cn.normL (l.take k)).length : Int))) = true → ((decide ((p : Int) < ((Cn.normL (l.take k)).length : Int))) = true)), ((decide ((p : Int) < ((Cn.normL (l.take k)).length : Int))) = true → ((decide ((p : Int) < ((Cn.normL (l.take k)).length : Int))) = true)), ((decide ((p : Int) < ((Cn.normL (l.take k)).length : Int))) = true → ((decide ((p : Int) < ((Cn.normL (l.take k)).length : Int))) = true)), ((decide ((p : Int) < ((Cn.normL (l.take k)).length : Int))) = true → (-65536 ≤ ((Cn.normL (l.take k)).getD p 0) ∧ ((Cn.normL (l.take k)).getD p 0) ≤ 65536 ∧ -65536 ≤ (l.getD k 0) ∧ (l.getD k 0) ≤ 65536)), ((decide ((p : Int) < ((Cn.normL (l.take k)).length : Int))) = true → (decide ((p : Int) < ((Cn.normL (l.take k)).length : Int))) = true)] [(53, .bool ((decide ((p : Int) < ((Cn.normL (l.take k)).length : Int))) && (Cn.ahd ((Cn.normL (l.take k)).getD p 0) (l.getD k 0))))] [] (by kernel_rfl) ?_ ?_
      ·
       refine (ap ?_ (ap ?_ (ap ?_ (ap ?_ (ap ?_ (ap ?_ (ap ?_ (ap ?_ (ap ?_ (ap ?_ (ap ?_ (ap (by exact id) az))))))))))))
       all_goals
        first | exact hnm | exact (fun _ => hnm) | (first | omega | exact id | exact vcNot | exact vcG | exact vcH | (intro _; omega) | exact (fun _ h => h) | (intro h; simp at h; omega) | (simp only [List.length_cons, List.length_nil, List.length_append, List.length_map, List.length_set, List.length_replicate]; omega) | (intro h; simp [h]; done)) | (intro _; constructor <;> omega) | (intro _; have := hbp (by omega); exact ⟨this.1, this.2, hmb.2.1, hmb.2.2⟩) | (simp only [List.length_drop, List.length_take, List.length_append, List.length_cons, List.length_nil]; omega)
      refine fin_then ?_
      refine tri_cond (b := ((decide ((p : Int) < ((Cn.normL (l.take k)).length : Int))) && (Cn.ahd ((Cn.normL (l.take k)).getD p 0) (l.getD k 0)))) (by kernel_rfl) (fun hb2 => ?_) (fun hb2 => ?_)
      ·
       skip
       have h2 := hb2
       try simp only [Bool.or_eq_true, Bool.or_eq_false_iff, Bool.and_eq_true, Bool.and_eq_false_iff, Bool.not_eq_true', Bool.not_eq_false', decide_eq_true_eq, decide_eq_false_iff_not, bne_iff_ne, bne_eq_false_iff_eq, beq_iff_eq, beq_eq_false_iff_ne] at h2
       have hq := h2
       refine tri_skip ?_
       refine fin_then ?_
       refine tri_block ?_
       refine tri_regD hcx [] [7] [0, 4, 5, 6] [] [Fit ((p : Int) + 1)] [(7, .int ((p : Int) + 1))] [] (by kernel_rfl) ?_ ?_
       ·
        refine (ap ?_ az)
        first | exact hnm | exact (fun _ => hnm) | (first | omega | exact id | exact vcNot | exact vcG | exact vcH | (intro _; omega) | exact (fun _ h => h) | (intro h; simp at h; omega) | (simp only [List.length_cons, List.length_nil, List.length_append, List.length_map, List.length_set, List.length_replicate]; omega) | (intro h; simp [h]; done)) | (intro _; constructor <;> omega) | (intro _; have := hbp (by omega); exact ⟨this.1, this.2, hmb.2.1, hmb.2.2⟩) | (simp only [List.length_drop, List.length_take, List.length_append, List.length_cons, List.length_nil]; omega)
       refine fin_block ?_
       refine fin_round (p + 1) ?_ ?_ ?_ ?_
       ·
        show (p + 1) ≤ (Cn.normL (l.take k)).length ∧ ∀ j, j < (p + 1) → Cn.ahd ((Cn.normL (l.take k)).getD j 0) (l.getD k 0) = true
        exact ⟨by omega, Cn.neSucc (P := fun j => Cn.ahd ((Cn.normL (l.take k)).getD j 0) (l.getD k 0) = true) hlow hq.2⟩
       ·
        show (Cn.normL (l.take k)).length - (p + 1) < (Cn.normL (l.take k)).length - p
        omega
       ·
        exact subE_mk (l := [.ints l, .ints (Cn.normL (l.take k)), .bool ((Cn.tautL (l.take k)) || ((Cn.normL (l.take k)).contains (0 - (l.getD k 0)))), .int (k : Int), .int ((p : Int) + 1)]) (m := [.ints l, .ints (Cn.normL (l.take k)), .bool ((Cn.tautL (l.take k)) || ((Cn.normL (l.take k)).contains (0 - (l.getD k 0)))), .int (k : Int), .int ((p + 1) : Int)]) (by kernel_rfl) (by kernel_rfl) (consE rfl (consE rfl (consE rfl (consE rfl (consE (congrArg AV.int (show ((p : Int) + 1) = ((p + 1) : Int) from (by first | rfl | omega | (simp; done)))) rfl)))))
       ·
        kernel_rfl
      ·
       skip
       have h2 := hb2
       try simp only [Bool.or_eq_true, Bool.or_eq_false_iff, Bool.and_eq_true, Bool.and_eq_false_iff, Bool.not_eq_true', Bool.not_eq_false', decide_eq_true_eq, decide_eq_false_iff_not, bne_iff_ne, bne_eq_false_iff_eq, beq_iff_eq, beq_eq_false_iff_ne] at h2
       have hat : p < (Cn.normL (l.take k)).length → Cn.ahd ((Cn.normL (l.take k)).getD p 0) (l.getD k 0) = false := by rcases h2 with h | h; (exact fun h2 => absurd h (by omega)); exact fun _ => h
       refine tri_exit ?_
       refine fin_then_exit ?_
       refine fin_then_exit ?_
       refine fin_block_same ?_
       refine fin_then ?_
       refine tri_seq ?_
       refine tri_regD hcx [] [8] [0, 4, 5, 6, 7] [] [] [(8, .im (.val (.slice none 0 0)))] [] (by kernel_rfl) ?_ ?_
       ·
        exact az
       refine fin_then ?_
       refine tri_seq ?_
       refine tri_regD hcx [(1004, .to 260)] [8] [0, 4, 5, 6, 7] [] [((0 : Int) ≤ (p : Int) ∧ (p : Int) ≤ ((Cn.normL (l.take k)).length : Int)), ((((Cn.normL (l.take k)).take p).drop 0).length * 8 ≤ 140737488355328)] [(8, .row 260)] [(260, .row 3 (.ints (((Cn.normL (l.take k)).take p).drop 0)))] (by kernel_rfl) ?_ ?_
       ·
        refine (ap ?_ (ap ?_ az))
        all_goals
         first | exact hnm | exact (fun _ => hnm) | (first | omega | exact id | exact vcNot | exact vcG | exact vcH | (intro _; omega) | exact (fun _ h => h) | (intro h; simp at h; omega) | (simp only [List.length_cons, List.length_nil, List.length_append, List.length_map, List.length_set, List.length_replicate]; omega) | (intro h; simp [h]; done)) | (intro _; constructor <;> omega) | (intro _; have := hbp (by omega); exact ⟨this.1, this.2, hmb.2.1, hmb.2.2⟩) | (simp only [List.length_drop, List.length_take, List.length_append, List.length_cons, List.length_nil]; omega)
       refine fin_then ?_
       refine tri_seq ?_
       refine tri_regD hcx [(1006, .to 260)] [8] [0, 4, 5, 6, 7] [] [((0 : Int) ≤ (k : Int) ∧ (k : Int) < (l.length : Int)), (((((Cn.normL (l.take k)).take p).drop 0).length + [(l.getD k 0)].length) * 8 ≤ 140737488355328)] [(8, .row 260)] [(260, .row 3 (.ints ((((Cn.normL (l.take k)).take p).drop 0) ++ [(l.getD k 0)])))] (by kernel_rfl) ?_ ?_
       ·
        refine (ap ?_ (ap ?_ az))
        all_goals
         first | exact hnm | exact (fun _ => hnm) | (first | omega | exact id | exact vcNot | exact vcG | exact vcH | (intro _; omega) | exact (fun _ h => h) | (intro h; simp at h; omega) | (simp only [List.length_cons, List.length_nil, List.length_append, List.length_map, List.length_set, List.length_replicate]; omega) | (intro h; simp [h]; done)) | (intro _; constructor <;> omega) | (intro _; have := hbp (by omega); exact ⟨this.1, this.2, hmb.2.1, hmb.2.2⟩) | (simp only [List.length_drop, List.length_take, List.length_append, List.length_cons, List.length_nil]; omega)
       refine fin_then ?_
       refine tri_seq ?_
       refine tri_regD hcx [(1004, .to 260)] [8] [0, 5, 6] [] [((0 : Int) ≤ (p : Int) ∧ (p : Int) ≤ ((Cn.normL (l.take k)).length : Int)), ((((((Cn.normL (l.take k)).take p).drop 0) ++ [(l.getD k 0)]).length + (((Cn.normL (l.take k)).take ((Cn.normL (l.take k)).length)).drop p).length) * 8 ≤ 140737488355328)] [(8, .row 260)] [(260, .row 3 (.ints (((((Cn.normL (l.take k)).take p).drop 0) ++ [(l.getD k 0)]) ++ (((Cn.normL (l.take k)).take ((Cn.normL (l.take k)).length)).drop p))))] (by kernel_rfl) ?_ ?_
       ·
        refine (ap ?_ (ap ?_ az))
        all_goals
         first | exact hnm | exact (fun _ => hnm) | (first | omega | exact id | exact vcNot | exact vcG | exact vcH | (intro _; omega) | exact (fun _ h => h) | (intro h; simp at h; omega) | (simp only [List.length_cons, List.length_nil, List.length_append, List.length_map, List.length_set, List.length_replicate]; omega) | (intro h; simp [h]; done)) | (intro _; constructor <;> omega) | (intro _; have := hbp (by omega); exact ⟨this.1, this.2, hmb.2.1, hmb.2.2⟩) | (simp only [List.length_drop, List.length_take, List.length_append, List.length_cons, List.length_nil]; omega)
       refine fin_then ?_
       refine tri_regD hcx [] [4] [0, 5, 6] [260] [] [(4, .row 260)] [] (by kernel_rfl) ?_ ?_
       ·
        exact az
       refine fin_block ?_
       refine fin_then ?_
       refine tri_regD hcx [] [6] [4, 0, 5] [260] [Fit ((k : Int) + 1)] [(6, .int ((k : Int) + 1))] [] (by kernel_rfl) ?_ ?_
       ·
        refine (ap ?_ az)
        first | exact hnm | exact (fun _ => hnm) | (first | omega | exact id | exact vcNot | exact vcG | exact vcH | (intro _; omega) | exact (fun _ h => h) | (intro h; simp at h; omega) | (simp only [List.length_cons, List.length_nil, List.length_append, List.length_map, List.length_set, List.length_replicate]; omega) | (intro h; simp [h]; done)) | (intro _; constructor <;> omega) | (intro _; have := hbp (by omega); exact ⟨this.1, this.2, hmb.2.1, hmb.2.2⟩) | (simp only [List.length_drop, List.length_take, List.length_append, List.length_cons, List.length_nil]; omega)
       refine fin_ren (ρ := [(260, .frz)]) (keys := [0, 4, 5, 6]) (E' := [(0, .ints l), (4, .ints (((((Cn.normL (l.take k)).take p).drop 0) ++ [(l.getD k 0)]) ++ (((Cn.normL (l.take k)).take ((Cn.normL (l.take k)).length)).drop p))), (5, .bool ((Cn.tautL (l.take k)) || ((Cn.normL (l.take k)).contains (0 - (l.getD k 0))))), (6, .int ((k : Int) + 1))]) (H' := []) (by kernel_rfl) ?_
       refine fin_round (k + 1) ?_ ?_ ?_ ?_
       ·
        show (k + 1) ≤ l.length
        omega
       ·
        show l.length - (k + 1) < l.length - k
        omega
       ·
        exact subE_mk (l := [.ints l, .ints (((((Cn.normL (l.take k)).take p).drop 0) ++ [(l.getD k 0)]) ++ (((Cn.normL (l.take k)).take ((Cn.normL (l.take k)).length)).drop p)), .bool ((Cn.tautL (l.take k)) || ((Cn.normL (l.take k)).contains (0 - (l.getD k 0)))), .int ((k : Int) + 1)]) (m := [.ints l, .ints (Cn.normL (l.take (k + 1))), .bool (Cn.tautL (l.take (k + 1))), .int ((k + 1) : Int)]) (by kernel_rfl) (by kernel_rfl) (consE rfl (consE (congrArg AV.ints (show (((((Cn.normL (l.take k)).take p).drop 0) ++ [(l.getD k 0)]) ++ (((Cn.normL (l.take k)).take ((Cn.normL (l.take k)).length)).drop p)) = (Cn.normL (l.take (k + 1))) from (by first | exact (Cn.norm_next_skip (by omega) hq).1 | rw [List.drop_zero, List.take_length]; exact (Cn.norm_next_ins (by omega) hq1 hq2 (by omega) hlow hat).1))) (consE (congrArg AV.bool (show ((Cn.tautL (l.take k)) || ((Cn.normL (l.take k)).contains (0 - (l.getD k 0)))) = (Cn.tautL (l.take (k + 1))) from (by first | exact (Cn.norm_next_skip (by omega) hq).2 | exact (Cn.norm_next_ins (by omega) hq1 hq2 (by omega) hlow hat).2))) (consE (congrArg AV.int (show ((k : Int) + 1) = ((k + 1) : Int) from (by first | rfl | omega | (simp; done)))) rfl))))
       ·
        kernel_rfl
   ·
    skip
    have h0 := of_decide_eq_false hb0
    refine tri_exit ?_
    refine fin_then_exit ?_
    refine fin_then_exit ?_
    refine fin_block_same ?_
    refine fin_then ?_
    refine tri_seq ?_
    refine tri_regD hcx [] [2, 3] [] [] [] [(2, .ints (Cn.normL (l.take k))), (3, .bool (Cn.tautL (l.take k)))] [] (by kernel_rfl) ?_ ?_
    ·
     exact az
    refine fin_then ?_
    refine tri_ret ?_
    exact fin_ret [] rfl rfl trivial hcx (avs := [.ints (Cn.normL (l.take k)), .bool (Cn.tautL (l.take k))]) (by kernel_rfl) (congrArg AV.tup (consE (congrArg AV.ints (show (Cn.normL (l.take k)) = (Cn.normL l) from (by rw [show k = l.length from (by omega), List.take_length]))) (consE (congrArg AV.bool (show (Cn.tautL (l.take k)) = (Cn.tautL l) from (by rw [show k = l.length from (by omega), List.take_length]))) rfl))) [] rfl
 ·
  cases hσ
def cx_rResolve : Cx := ⟨tyR14, [(45, rIs_σ), (16, (coeF [.ld (.ints []), .ld (.ints [])] rInts_σ)), (51, (coeF [.ld (.intss []), .ld (.intss [])] rLists_σ)), (18, (coeF [.agg [.id, .ld (.intss [])]] rCheck_σ)), (20, (coeF [.agg [.id, .ld (.intss [])], .agg [.id, .ld (.intss [])]] rSame_σ)), (33, (coeF [.ld (.ints []), .id] rHas_σ)), (46, rAhead_σ), (54, (coeF [.id, .ld (.bools [])] rLit_σ)), (22, (coeF [.ld (.ints []), .ld (.bools [])] rHolds_σ)), (15, (coeF [.ld (.ints [])] rNorm_σ))]⟩
theorem cx_rResolve_ok : CxOk Tryz.prog cx_rResolve := cx_ok tyR14_ok ⟨rIs_sound, (rInts_sound.coe [.ld (.ints []), .ld (.ints [])] rfl), (rLists_sound.coe [.ld (.intss []), .ld (.intss [])] rfl), (rCheck_sound.coe [.agg [.id, .ld (.intss [])]] rfl), (rSame_sound.coe [.agg [.id, .ld (.intss [])], .agg [.id, .ld (.intss [])]] rfl), (rHas_sound.coe [.ld (.ints []), .id] rfl), rAhead_sound, (rLit_sound.coe [.id, .ld (.bools [])] rfl), (rHolds_sound.coe [.ld (.ints []), .ld (.bools [])] rfl), (rNorm_sound.coe [.ld (.ints [])] rfl), trivial⟩
def rResolve_σ : CtF
  | [.im (.ls (.ints a)), .im (.ls (.ints b)), .im (.val (.int .i64 v))], [] => some (a.length ≤ 100000 ∧ b.length ≤ 100000, .tup [.ints (Cn.resL a b v), .int (Cn.resE a b v)], [])
  | _, _ => none
theorem rResolve_sound : Sound Tryz.prog 28 rResolve_σ := by
 refine sound_mk (cx := cx_rResolve) (fn := Tryz.f28) Tryz.func28 (by kernel_rfl) rfl ?_
 intro w0 G0 args os p r outs hσ hp hm0 hd0
 have hcx : CxOk Tryz.prog cx_rResolve := cx_rResolve_ok
 unfold rResolve_σ at hσ
 split at hσ
 ·
  rename_i a b v
  simp only [Option.some.injEq, Prod.mk.injEq] at hσ
  obtain ⟨rfl, rfl, rfl⟩ := hσ
  obtain ⟨wW, wO, wm, wβ, wd⟩ := w0
  replace hm0 : wm = 0 := hm0
  subst hm0
  replace hd0 : wd = [] := hd0
  subst hd0
  refine ⟨by kernel_rfl, ?_⟩
  change Tri ⟨_, _, _, _, _, _⟩ [(0, .ints a), (1, .ints b), (2, .int v)] [] _ _
  obtain ⟨hm1, hm2⟩ := hp
  have hm5 : a.length ≤ maxLen := by unfold maxLen; omega
  have hm6 : b.length ≤ maxLen := by unfold maxLen; omega
  refine tri_seq ?_
  refine tri_regD hcx [] [] [0, 1, 2] [] [] [] [] (by kernel_rfl) ?_ ?_
  ·
   exact az
  refine fin_then ?_
  refine tri_seq ?_
  refine tri_seq ?_
  refine tri_regD hcx [] [19] [0, 1, 2] [] [((!(decide (v < 1))) = true → ((!(decide (v < 1))) = true)), ((decide (v < 1)) = false → (!(decide (v < 1))) = true)] [(19, .bool ((decide (v < 1)) || (decide (v > 65536))))] [] (by kernel_rfl) ?_ ?_
  ·
   refine (ap ?_ (ap (by exact vcNot) az))
   first | exact hm5 | exact hm6 | exact (fun _ => hm5) | exact (fun _ => hm6) | (first | omega | exact id | exact vcNot | exact vcG | exact vcH | (intro _; omega) | exact (fun _ h => h) | (intro h; simp at h; omega) | (simp only [List.length_cons, List.length_nil, List.length_append, List.length_map, List.length_set, List.length_replicate]; omega) | (intro h; simp [h]; done)) | (constructor <;> omega) | (intro _; constructor <;> omega) | (simp only [List.length_append, List.length_cons, List.length_nil]; omega)
  refine fin_then ?_
  refine tri_cond (b := ((decide (v < 1)) || (decide (v > 65536)))) (by kernel_rfl) (fun hb0 => ?_) (fun hb0 => ?_)
  ·
   skip
   have h0 := hb0
   try simp only [Bool.or_eq_true, Bool.or_eq_false_iff, Bool.and_eq_true, Bool.and_eq_false_iff, Bool.not_eq_true', Bool.not_eq_false', decide_eq_true_eq, decide_eq_false_iff_not, bne_iff_ne, bne_eq_false_iff_eq, beq_iff_eq, beq_eq_false_iff_ne] at h0
   refine tri_seq ?_
   refine tri_regD hcx [] [6, 7] [] [] [] [(6, .im (.val (.slice none 0 0))), (7, .int 140)] [] (by kernel_rfl) ?_ ?_
   ·
    exact az
   refine fin_then ?_
   refine tri_ret ?_
   refine fin_then_ret ?_
   refine fin_nil 6 (.ints []) (by kernel_rfl) (E' := [(6, .ints []), (7, .int 140)]) (by kernel_rfl) ?_
   exact fin_ret [] rfl rfl trivial hcx (avs := [.ints [], .int 140]) (by kernel_rfl) (congrArg AV.tup (consE (congrArg AV.ints (show [] = (Cn.resL a b v) from (by first | exact (Cn.res_out (by omega)).1.symm | exact (Cn.res_out (by omega)).2.symm))) (consE (congrArg AV.int (show 140 = (Cn.resE a b v) from (by first | exact (Cn.res_out (by omega)).1.symm | exact (Cn.res_out (by omega)).2.symm))) rfl))) [] rfl
  ·
   skip
   have h0 := hb0
   try simp only [Bool.or_eq_true, Bool.or_eq_false_iff, Bool.and_eq_true, Bool.and_eq_false_iff, Bool.not_eq_true', Bool.not_eq_false', decide_eq_true_eq, decide_eq_false_iff_not, bne_iff_ne, bne_eq_false_iff_eq, beq_iff_eq, beq_eq_false_iff_ne] at h0
   have hlb := Cn.lit_bd a b v (by omega) (by omega)
   refine tri_skip ?_
   refine fin_then ?_
   refine tri_seq ?_
   refine tri_regD hcx [] [8] [0, 1, 2] [] [] [(8, .int v)] [] (by kernel_rfl) ?_ ?_
   ·
    exact az
   refine fin_then ?_
   refine tri_join (X := Unit) (fun _ => True) (fun _ => [(8, .int (bif ((!(a.contains v)) || (!(b.contains (0 - v)))) then (0 - v) else v)), (0, .ints a), (1, .ints b)]) (fun _ => []) ?_ (fun _ _ => ?_)
   ·
    skip
    refine tri_seq ?_
    refine tri_regD hcx [] [31] [8, 0, 1, 2] [] [(a.length ≤ maxLen), ((!(!(a.contains v))) = true → ((!(!(a.contains v))) = true)), ((!(!(a.contains v))) = true → Fit (0 - v)), ((!(!(a.contains v))) = true → ((!(!(a.contains v))) = true)), ((!(!(a.contains v))) = true → ((!(!(a.contains v))) = true)), ((!(!(a.contains v))) = true → (b.length ≤ maxLen)), ((!(!(a.contains v))) = true → ((!(!(a.contains v))) = true)), ((!(a.contains v)) = false → (!(!(a.contains v))) = true)] [(31, .bool ((!(a.contains v)) || (!(b.contains (0 - v)))))] [] (by kernel_rfl) ?_ ?_
    ·
     refine (ap ?_ (ap ?_ (ap ?_ (ap ?_ (ap ?_ (ap ?_ (ap ?_ (ap (by exact vcNot) az))))))))
     all_goals
      first | exact hm5 | exact hm6 | exact (fun _ => hm5) | exact (fun _ => hm6) | (first | omega | exact id | exact vcNot | exact vcG | exact vcH | (intro _; omega) | exact (fun _ h => h) | (intro h; simp at h; omega) | (simp only [List.length_cons, List.length_nil, List.length_append, List.length_map, List.length_set, List.length_replicate]; omega) | (intro h; simp [h]; done)) | (constructor <;> omega) | (intro _; constructor <;> omega) | (simp only [List.length_append, List.length_cons, List.length_nil]; omega)
    refine fin_then ?_
    refine tri_cond (b := ((!(a.contains v)) || (!(b.contains (0 - v))))) (by kernel_rfl) (fun hb1 => ?_) (fun hb1 => ?_)
    ·
     skip
     have h1 := hb1
     try simp only [Bool.or_eq_true, Bool.or_eq_false_iff, Bool.and_eq_true, Bool.and_eq_false_iff, Bool.not_eq_true', Bool.not_eq_false', decide_eq_true_eq, decide_eq_false_iff_not, bne_iff_ne, bne_eq_false_iff_eq, beq_iff_eq, beq_eq_false_iff_ne] at h1
     refine tri_regD hcx [] [8] [0, 1] [] [Fit (0 - v)] [(8, .int (0 - v))] [] (by kernel_rfl) ?_ ?_
     ·
      refine (ap ?_ az)
      first | exact hm5 | exact hm6 | exact (fun _ => hm5) | exact (fun _ => hm6) | (first | omega | exact id | exact vcNot | exact vcG | exact vcH | (intro _; omega) | exact (fun _ h => h) | (intro h; simp at h; omega) | (simp only [List.length_cons, List.length_nil, List.length_append, List.length_map, List.length_set, List.length_replicate]; omega) | (intro h; simp [h]; done)) | (constructor <;> omega) | (intro _; constructor <;> omega) | (simp only [List.length_append, List.length_cons, List.length_nil]; omega)
     refine fin_join () trivial ?_ ?_
     ·
      exact subE_mk (l := [.int (0 - v), .ints a, .ints b]) (m := [.int (bif ((!(a.contains v)) || (!(b.contains (0 - v)))) then (0 - v) else v), .ints a, .ints b]) (by kernel_rfl) (by kernel_rfl) (consE (congrArg AV.int (show (0 - v) = (bif ((!(a.contains v)) || (!(b.contains (0 - v)))) then (0 - v) else v) from (by simp only [hb1, cond_true, cond_false]))) rfl)
     ·
      kernel_rfl
    ·
     skip
     have h1 := hb1
     try simp only [Bool.or_eq_true, Bool.or_eq_false_iff, Bool.and_eq_true, Bool.and_eq_false_iff, Bool.not_eq_true', Bool.not_eq_false', decide_eq_true_eq, decide_eq_false_iff_not, bne_iff_ne, bne_eq_false_iff_eq, beq_iff_eq, beq_eq_false_iff_ne] at h1
     refine tri_skip ?_
     refine fin_join () trivial ?_ ?_
     ·
      exact subE_mk (l := [.int v, .ints a, .ints b]) (m := [.int (bif ((!(a.contains v)) || (!(b.contains (0 - v)))) then (0 - v) else v), .ints a, .ints b]) (by kernel_rfl) (by kernel_rfl) (consE (congrArg AV.int (show v = (bif ((!(a.contains v)) || (!(b.contains (0 - v)))) then (0 - v) else v) from (by simp only [hb1, cond_true, cond_false]))) rfl)
     ·
      kernel_rfl
   refine tri_seq ?_
   refine tri_seq ?_
   refine tri_regD hcx [] [44] [8, 0, 1] [] [(a.length ≤ maxLen), ((!(!(a.contains (bif ((!(a.contains v)) || (!(b.contains (0 - v)))) then (0 - v) else v)))) = true → ((!(!(a.contains (bif ((!(a.contains v)) || (!(b.contains (0 - v)))) then (0 - v) else v)))) = true)), ((!(!(a.contains (bif ((!(a.contains v)) || (!(b.contains (0 - v)))) then (0 - v) else v)))) = true → Fit (0 - (bif ((!(a.contains v)) || (!(b.contains (0 - v)))) then (0 - v) else v))), ((!(!(a.contains (bif ((!(a.contains v)) || (!(b.contains (0 - v)))) then (0 - v) else v)))) = true → ((!(!(a.contains (bif ((!(a.contains v)) || (!(b.contains (0 - v)))) then (0 - v) else v)))) = true)), ((!(!(a.contains (bif ((!(a.contains v)) || (!(b.contains (0 - v)))) then (0 - v) else v)))) = true → ((!(!(a.contains (bif ((!(a.contains v)) || (!(b.contains (0 - v)))) then (0 - v) else v)))) = true)), ((!(!(a.contains (bif ((!(a.contains v)) || (!(b.contains (0 - v)))) then (0 - v) else v)))) = true → (b.length ≤ maxLen)), ((!(!(a.contains (bif ((!(a.contains v)) || (!(b.contains (0 - v)))) then (0 - v) else v)))) = true → ((!(!(a.contains (bif ((!(a.contains v)) || (!(b.contains (0 - v)))) then (0 - v) else v)))) = true)), ((!(a.contains (bif ((!(a.contains v)) || (!(b.contains (0 - v)))) then (0 - v) else v))) = false → (!(!(a.contains (bif ((!(a.contains v)) || (!(b.contains (0 - v)))) then (0 - v) else v)))) = true)] [(44, .bool ((!(a.contains (bif ((!(a.contains v)) || (!(b.contains (0 - v)))) then (0 - v) else v))) || (!(b.contains (0 - (bif ((!(a.contains v)) || (!(b.contains (0 - v)))) then (0 - v) else v))))))] [] (by kernel_rfl) ?_ ?_
   ·
    refine (ap ?_ (ap ?_ (ap ?_ (ap ?_ (ap ?_ (ap ?_ (ap ?_ (ap (by exact vcNot) az))))))))
    all_goals
     first | exact hm5 | exact hm6 | exact (fun _ => hm5) | exact (fun _ => hm6) | (first | omega | exact id | exact vcNot | exact vcG | exact vcH | (intro _; omega) | exact (fun _ h => h) | (intro h; simp at h; omega) | (simp only [List.length_cons, List.length_nil, List.length_append, List.length_map, List.length_set, List.length_replicate]; omega) | (intro h; simp [h]; done)) | (constructor <;> omega) | (intro _; constructor <;> omega) | (simp only [List.length_append, List.length_cons, List.length_nil]; omega)
   refine fin_then ?_
   refine tri_cond (b := ((!(a.contains (bif ((!(a.contains v)) || (!(b.contains (0 - v)))) then (0 - v) else v))) || (!(b.contains (0 - (bif ((!(a.contains v)) || (!(b.contains (0 - v)))) then (0 - v) else v)))))) (by kernel_rfl) (fun hb2 => ?_) (fun hb2 => ?_)
   ·
    skip
    have h2 := hb2
    have hq := Cn.ref_res_no (by omega) (by omega) h2
    refine tri_seq ?_
    refine tri_regD hcx [] [6, 7] [] [] [] [(6, .im (.val (.slice none 0 0))), (7, .int 140)] [] (by kernel_rfl) ?_ ?_
    ·
     exact az
    refine fin_then ?_
    refine tri_ret ?_
    refine fin_then_ret ?_
    refine fin_nil 6 (.ints []) (by kernel_rfl) (E' := [(6, .ints []), (7, .int 140)]) (by kernel_rfl) ?_
    exact fin_ret [] rfl rfl trivial hcx (avs := [.ints [], .int 140]) (by kernel_rfl) (congrArg AV.tup (consE (congrArg AV.ints (show [] = (Cn.resL a b v) from (by first | exact hq.1.symm | exact hq.2.symm))) (consE (congrArg AV.int (show 140 = (Cn.resE a b v) from (by first | exact hq.1.symm | exact hq.2.symm))) rfl))) [] rfl
   ·
    skip
    have h2 := hb2
    have hq := Cn.ref_res_yes (by omega) (by omega) h2
    refine tri_skip ?_
    refine fin_then ?_
    refine tri_seq ?_
    refine tri_regD hcx [] [9] [8, 0, 1] [] [] [(9, .im (.val (.slice none 0 0)))] [] (by kernel_rfl) ?_ ?_
    ·
     exact az
    refine fin_then ?_
    refine tri_seq ?_
    refine tri_seq ?_
    refine tri_regD hcx [] [10] [9, 8, 0, 1] [] [] [(10, .int 0)] [] (by kernel_rfl) ?_ ?_
    ·
     exact az
    refine fin_then ?_
    refine tri_block ?_
    refine tri_row 9 10 3 (.ints []) (by kernel_rfl) (by kernel_rfl) (by kernel_rfl) (by kernel_rfl) (E' := [(10, .int 0), (9, .row 10), (8, .int (bif ((!(a.contains v)) || (!(b.contains (0 - v)))) then (0 - v) else v)), (0, .ints a), (1, .ints b)]) (by kernel_rfl) ?_
    refine tri_loop (X := Nat) (fun x0 => x0 ≤ a.length) (fun x0 => [(0, .ints a), (1, .ints b), (8, .int (bif ((!(a.contains v)) || (!(b.contains (0 - v)))) then (0 - v) else v)), (9, .row 10), (10, .int (x0 : Int))]) (fun x0 => [(10, .row 3 (.ints ((a.take x0).filter fun z9 => z9 != (bif ((!(a.contains v)) || (!(b.contains (0 - v)))) then (0 - v) else v))))]) (fun x0 => a.length - x0) (0) ?_ ?_ ?_ ?_
    ·
     show 0 ≤ a.length
     omega
    ·
     exact subE_mk (l := [.ints a, .ints b, .int (bif ((!(a.contains v)) || (!(b.contains (0 - v)))) then (0 - v) else v), .row 10, .int 0]) (m := [.ints a, .ints b, .int (bif ((!(a.contains v)) || (!(b.contains (0 - v)))) then (0 - v) else v), .row 10, .int (0 : Int)]) (by kernel_rfl) (by kernel_rfl) (consE rfl (consE rfl (consE rfl (consE rfl (consE (congrArg AV.int (show 0 = (0 : Int) from (by first | rfl | omega | (simp; done)))) rfl)))))
    ·
     exact Eq.trans (show _ = [(10, .row 3 (.ints []))] from by kernel_rfl) (consH (congrArg (fun x => ((10 : Nat), x)) (congrArg (fun x => AObj.row 3 (.ints x)) (show [] = ((a.take 0).filter fun z9 => z9 != (bif ((!(a.contains v)) || (!(b.contains (0 - v)))) then (0 - v) else v)) from (by simp)))) rfl)
    ·
     intro k hI
     replace hI : k ≤ a.length := hI
     change Tri _ [(0, .ints a), (1, .ints b), (8, .int (bif ((!(a.contains v)) || (!(b.contains (0 - v)))) then (0 - v) else v)), (9, .row 10), (10, .int (k : Int))] [(10, .row 3 (.ints ((a.take k).filter fun z9 => z9 != (bif ((!(a.contains v)) || (!(b.contains (0 - v)))) then (0 - v) else v))))] _ _
     have hfl : ((a.take k).filter fun z9 => z9 != (bif ((!(a.contains v)) || (!(b.contains (0 - v)))) then (0 - v) else v)).length ≤ k := Nat.le_trans (List.length_filter_le _ _) (by rw [List.length_take]; omega)
     refine tri_seq ?_
     refine tri_seq ?_
     refine tri_regD hcx [] [48] [0, 1, 8, 9, 10] [10] [] [(48, .bool (decide ((k : Int) < (a.length : Int))))] [] (by kernel_rfl) ?_ ?_
     ·
      exact az
     refine fin_then ?_
     refine tri_cond (b := (decide ((k : Int) < (a.length : Int)))) (by kernel_rfl) (fun hb3 => ?_) (fun hb3 => ?_)
     ·
      skip
      have h3 := of_decide_eq_true hb3
      refine tri_skip ?_
      refine fin_then ?_
      refine tri_seq ?_
      refine tri_block ?_
      refine tri_seq ?_
      refine tri_regD hcx [] [56] [0, 1, 8, 9, 10] [10] [((0 : Int) ≤ (k : Int) ∧ (k : Int) < (a.length : Int))] [(56, .bool ((a.getD k 0) != (bif ((!(a.contains v)) || (!(b.contains (0 - v)))) then (0 - v) else v)))] [] (by kernel_rfl) ?_ ?_
      ·
       refine (ap ?_ az)
       first | exact hm5 | exact hm6 | exact (fun _ => hm5) | exact (fun _ => hm6) | (first | omega | exact id | exact vcNot | exact vcG | exact vcH | (intro _; omega) | exact (fun _ h => h) | (intro h; simp at h; omega) | (simp only [List.length_cons, List.length_nil, List.length_append, List.length_map, List.length_set, List.length_replicate]; omega) | (intro h; simp [h]; done)) | (constructor <;> omega) | (intro _; constructor <;> omega) | (simp only [List.length_append, List.length_cons, List.length_nil]; omega)
      refine fin_then ?_
      refine tri_cond (b := ((a.getD k 0) != (bif ((!(a.contains v)) || (!(b.contains (0 - v)))) then (0 - v) else v))) (by kernel_rfl) (fun hb4 => ?_) (fun hb4 => ?_)
      ·
       skip
       have h4 := bne_iff_ne.1 hb4
       have hq6 := h4
       refine tri_regD hcx [(1006, .to 10)] [9] [0, 1, 8, 10] [] [((0 : Int) ≤ (k : Int) ∧ (k : Int) < (a.length : Int)), ((((a.take k).filter fun z9 => z9 != (bif ((!(a.contains v)) || (!(b.contains (0 - v)))) then (0 - v) else v)).length + [(a.getD k 0)].length) * 8 ≤ 140737488355328)] [(9, .row 10)] [(10, .row 3 (.ints (((a.take k).filter fun z9 => z9 != (bif ((!(a.contains v)) || (!(b.contains (0 - v)))) then (0 - v) else v)) ++ [(a.getD k 0)])))] (by kernel_rfl) ?_ ?_
       ·
        refine (ap ?_ (ap ?_ az))
        all_goals
         first | exact hm5 | exact hm6 | exact (fun _ => hm5) | exact (fun _ => hm6) | (first | omega | exact id | exact vcNot | exact vcG | exact vcH | (intro _; omega) | exact (fun _ h => h) | (intro h; simp at h; omega) | (simp only [List.length_cons, List.length_nil, List.length_append, List.length_map, List.length_set, List.length_replicate]; omega) | (intro h; simp [h]; done)) | (constructor <;> omega) | (intro _; constructor <;> omega) | (simp only [List.length_append, List.length_cons, List.length_nil]; omega)
       refine fin_block ?_
       refine fin_then ?_
       refine tri_regD hcx [] [10] [9, 0, 1, 8] [10] [Fit ((k : Int) + 1)] [(10, .int ((k : Int) + 1))] [] (by kernel_rfl) ?_ ?_
       ·
        refine (ap ?_ az)
        first | exact hm5 | exact hm6 | exact (fun _ => hm5) | exact (fun _ => hm6) | (first | omega | exact id | exact vcNot | exact vcG | exact vcH | (intro _; omega) | exact (fun _ h => h) | (intro h; simp at h; omega) | (simp only [List.length_cons, List.length_nil, List.length_append, List.length_map, List.length_set, List.length_replicate]; omega) | (intro h; simp [h]; done)) | (constructor <;> omega) | (intro _; constructor <;> omega) | (simp only [List.length_append, List.length_cons, List.length_nil]; omega)
       refine fin_round (k + 1) ?_ ?_ ?_ ?_
       ·
        show (k + 1) ≤ a.length
        omega
       ·
        show a.length - (k + 1) < a.length - k
        omega
       ·
        exact subE_mk (l := [.ints a, .ints b, .int (bif ((!(a.contains v)) || (!(b.contains (0 - v)))) then (0 - v) else v), .row 10, .int ((k : Int) + 1)]) (m := [.ints a, .ints b, .int (bif ((!(a.contains v)) || (!(b.contains (0 - v)))) then (0 - v) else v), .row 10, .int ((k + 1) : Int)]) (by kernel_rfl) (by kernel_rfl) (consE rfl (consE rfl (consE rfl (consE rfl (consE (congrArg AV.int (show ((k : Int) + 1) = ((k + 1) : Int) from (by first | rfl | omega | (simp; done)))) rfl)))))
       ·
        exact Eq.trans (show _ = [(10, .row 3 (.ints (((a.take k).filter fun z9 => z9 != (bif ((!(a.contains v)) || (!(b.contains (0 - v)))) then (0 - v) else v)) ++ [(a.getD k 0)])))] from by kernel_rfl) (consH (congrArg (fun x => ((10 : Nat), x)) (congrArg (fun x => AObj.row 3 (.ints x)) (show (((a.take k).filter fun z9 => z9 != (bif ((!(a.contains v)) || (!(b.contains (0 - v)))) then (0 - v) else v)) ++ [(a.getD k 0)]) = ((a.take (k + 1)).filter fun z9 => z9 != (bif ((!(a.contains v)) || (!(b.contains (0 - v)))) then (0 - v) else v)) from (by first | exact Cn.filt_y (by omega) hq6 | exact Cn.filt_n (by omega) hq6)))) rfl)
      ·
       skip
       have h4 := bneF hb4
       have hq6 := h4
       refine tri_skip ?_
       refine fin_block ?_
       refine fin_then ?_
       refine tri_regD hcx [] [10] [0, 1, 8, 9] [10] [Fit ((k : Int) + 1)] [(10, .int ((k : Int) + 1))] [] (by kernel_rfl) ?_ ?_
       ·
        refine (ap ?_ az)
        first | exact hm5 | exact hm6 | exact (fun _ => hm5) | exact (fun _ => hm6) | (first | omega | exact id | exact vcNot | exact vcG | exact vcH | (intro _; omega) | exact (fun _ h => h) | (intro h; simp at h; omega) | (simp only [List.length_cons, List.length_nil, List.length_append, List.length_map, List.length_set, List.length_replicate]; omega) | (intro h; simp [h]; done)) | (constructor <;> omega) | (intro _; constructor <;> omega) | (simp only [List.length_append, List.length_cons, List.length_nil]; omega)
       refine fin_round (k + 1) ?_ ?_ ?_ ?_
       ·
        show (k + 1) ≤ a.length
        omega
       ·
        show a.length - (k + 1) < a.length - k
        omega
       ·
        exact subE_mk (l := [.ints a, .ints b, .int (bif ((!(a.contains v)) || (!(b.contains (0 - v)))) then (0 - v) else v), .row 10, .int ((k : Int) + 1)]) (m := [.ints a, .ints b, .int (bif ((!(a.contains v)) || (!(b.contains (0 - v)))) then (0 - v) else v), .row 10, .int ((k + 1) : Int)]) (by kernel_rfl) (by kernel_rfl) (consE rfl (consE rfl (consE rfl (consE rfl (consE (congrArg AV.int (show ((k : Int) + 1) = ((k + 1) : Int) from (by first | rfl | omega | (simp; done)))) rfl)))))
       ·
        exact Eq.trans (show _ = [(10, .row 3 (.ints ((a.take k).filter fun z9 => z9 != (bif ((!(a.contains v)) || (!(b.contains (0 - v)))) then (0 - v) else v))))] from by kernel_rfl) (consH (congrArg (fun x => ((10 : Nat), x)) (congrArg (fun x => AObj.row 3 (.ints x)) (show ((a.take k).filter fun z9 => z9 != (bif ((!(a.contains v)) || (!(b.contains (0 - v)))) then (0 - v) else v)) = ((a.take (k + 1)).filter fun z9 => z9 != (bif ((!(a.contains v)) || (!(b.contains (0 - v)))) then (0 - v) else v)) from (by first | exact Cn.filt_y (by omega) hq6 | exact Cn.filt_n (by omega) hq6)))) rfl)
     ·
      skip
      have h3 := of_decide_eq_false hb3
      refine tri_exit ?_
      refine fin_then_exit ?_
      refine fin_then_exit ?_
      refine fin_block_same ?_
      refine fin_then ?_
      refine tri_seq ?_
      refine tri_seq ?_
      refine tri_regD hcx [] [11] [1, 8, 9] [10] [] [(11, .int 0)] [] (by kernel_rfl) ?_ ?_
      ·
       exact az
      refine fin_then ?_
      refine tri_block ?_
      refine tri_loop (X := Nat) (fun x0 => x0 ≤ b.length) (fun x0 => [(1, .ints b), (8, .int (bif ((!(a.contains v)) || (!(b.contains (0 - v)))) then (0 - v) else v)), (9, .row 10), (11, .int (x0 : Int))]) (fun x0 => [(10, .row 3 (.ints ((a.filter fun z9 => z9 != (bif ((!(a.contains v)) || (!(b.contains (0 - v)))) then (0 - v) else v)) ++ ((b.take x0).filter fun z9 => z9 != 0 - (bif ((!(a.contains v)) || (!(b.contains (0 - v)))) then (0 - v) else v)))))]) (fun x0 => b.length - x0) (0) ?_ ?_ ?_ ?_
      ·
       show 0 ≤ b.length
       omega
      ·
       exact subE_mk (l := [.ints b, .int (bif ((!(a.contains v)) || (!(b.contains (0 - v)))) then (0 - v) else v), .row 10, .int 0]) (m := [.ints b, .int (bif ((!(a.contains v)) || (!(b.contains (0 - v)))) then (0 - v) else v), .row 10, .int (0 : Int)]) (by kernel_rfl) (by kernel_rfl) (consE rfl (consE rfl (consE rfl (consE (congrArg AV.int (show 0 = (0 : Int) from (by first | rfl | omega | (simp; done)))) rfl))))
      ·
       exact Eq.trans (show _ = [(10, .row 3 (.ints ((a.take k).filter fun z9 => z9 != (bif ((!(a.contains v)) || (!(b.contains (0 - v)))) then (0 - v) else v))))] from by kernel_rfl) (consH (congrArg (fun x => ((10 : Nat), x)) (congrArg (fun x => AObj.row 3 (.ints x)) (show ((a.take k).filter fun z9 => z9 != (bif ((!(a.contains v)) || (!(b.contains (0 - v)))) then (0 - v) else v)) = ((a.filter fun z9 => z9 != (bif ((!(a.contains v)) || (!(b.contains (0 - v)))) then (0 - v) else v)) ++ ((b.take 0).filter fun z9 => z9 != 0 - (bif ((!(a.contains v)) || (!(b.contains (0 - v)))) then (0 - v) else v))) from (by rw [show k = a.length from (by omega), List.take_length]; simp)))) rfl)
      ·
       intro k hI
       replace hI : k ≤ b.length := hI
       change Tri _ [(1, .ints b), (8, .int (bif ((!(a.contains v)) || (!(b.contains (0 - v)))) then (0 - v) else v)), (9, .row 10), (11, .int (k : Int))] [(10, .row 3 (.ints ((a.filter fun z9 => z9 != (bif ((!(a.contains v)) || (!(b.contains (0 - v)))) then (0 - v) else v)) ++ ((b.take k).filter fun z9 => z9 != 0 - (bif ((!(a.contains v)) || (!(b.contains (0 - v)))) then (0 - v) else v)))))] _ _
       have hfl : ((b.take k).filter fun z9 => z9 != 0 - (bif ((!(a.contains v)) || (!(b.contains (0 - v)))) then (0 - v) else v)).length ≤ k := Nat.le_trans (List.length_filter_le _ _) (by rw [List.length_take]; omega)
       have hfa : (a.filter fun z9 => z9 != (bif ((!(a.contains v)) || (!(b.contains (0 - v)))) then (0 - v) else v)).length ≤ a.length := List.length_filter_le _ _
       refine tri_seq ?_
       refine tri_seq ?_
       refine tri_regD hcx [] [67] [1, 8, 9, 11] [10] [] [(67, .bool (decide ((k : Int) < (b.length : Int))))] [] (by kernel_rfl) ?_ ?_
       ·
        exact az
       refine fin_then ?_
       refine tri_cond (b := (decide ((k : Int) < (b.length : Int)))) (by kernel_rfl) (fun hb5 => ?_) (fun hb5 => ?_)
       ·
        skip
        have h5 := of_decide_eq_true hb5
        refine tri_skip ?_
        refine fin_then ?_
        refine tri_seq ?_
        refine tri_block ?_
        refine tri_seq ?_
        refine tri_regD hcx [] [76] [1, 8, 9, 11] [10] [((0 : Int) ≤ (k : Int) ∧ (k : Int) < (b.length : Int)), Fit (0 - (bif ((!(a.contains v)) || (!(b.contains (0 - v)))) then (0 - v) else v))] [(76, .bool ((b.getD k 0) != (0 - (bif ((!(a.contains v)) || (!(b.contains (0 - v)))) then (0 - v) else v))))] [] (by kernel_rfl) ?_ ?_
        ·
         refine (ap ?_ (ap ?_ az))
         all_goals
          first | exact hm5 | exact hm6 | exact (fun _ => hm5) | exact (fun _ => hm6) | (first | omega | exact id | exact vcNot | exact vcG | exact vcH | (intro _; omega) | exact (fun _ h => h) | (intro h; simp at h; omega) | (simp only [List.length_cons, List.length_nil, List.length_append, List.length_map, List.length_set, List.length_replicate]; omega) | (intro h; simp [h]; done)) | (constructor <;> omega) | (intro _; constructor <;> omega) | (simp only [List.length_append, List.length_cons, List.length_nil]; omega)
        refine fin_then ?_
        refine tri_cond (b := ((b.getD k 0) != (0 - (bif ((!(a.contains v)) || (!(b.contains (0 - v)))) then (0 - v) else v)))) (by kernel_rfl) (fun hb6 => ?_) (fun hb6 => ?_)
        ·
         skip
         have h6 := bne_iff_ne.1 hb6
         have hq6 := h6
         refine tri_regD hcx [(1006, .to 10)] [9] [1, 8, 11] [] [((0 : Int) ≤ (k : Int) ∧ (k : Int) < (b.length : Int)), ((((a.filter fun z9 => z9 != (bif ((!(a.contains v)) || (!(b.contains (0 - v)))) then (0 - v) else v)) ++ ((b.take k).filter fun z9 => z9 != 0 - (bif ((!(a.contains v)) || (!(b.contains (0 - v)))) then (0 - v) else v))).length + [(b.getD k 0)].length) * 8 ≤ 140737488355328)] [(9, .row 10)] [(10, .row 3 (.ints (((a.filter fun z9 => z9 != (bif ((!(a.contains v)) || (!(b.contains (0 - v)))) then (0 - v) else v)) ++ ((b.take k).filter fun z9 => z9 != 0 - (bif ((!(a.contains v)) || (!(b.contains (0 - v)))) then (0 - v) else v))) ++ [(b.getD k 0)])))] (by kernel_rfl) ?_ ?_
         ·
          refine (ap ?_ (ap ?_ az))
          all_goals
           first | exact hm5 | exact hm6 | exact (fun _ => hm5) | exact (fun _ => hm6) | (first | omega | exact id | exact vcNot | exact vcG | exact vcH | (intro _; omega) | exact (fun _ h => h) | (intro h; simp at h; omega) | (simp only [List.length_cons, List.length_nil, List.length_append, List.length_map, List.length_set, List.length_replicate]; omega) | (intro h; simp [h]; done)) | (constructor <;> omega) | (intro _; constructor <;> omega) | (simp only [List.length_append, List.length_cons, List.length_nil]; omega)
         refine fin_block ?_
         refine fin_then ?_
         refine tri_regD hcx [] [11] [9, 1, 8] [10] [Fit ((k : Int) + 1)] [(11, .int ((k : Int) + 1))] [] (by kernel_rfl) ?_ ?_
         ·
          refine (ap ?_ az)
          first | exact hm5 | exact hm6 | exact (fun _ => hm5) | exact (fun _ => hm6) | (first | omega | exact id | exact vcNot | exact vcG | exact vcH | (intro _; omega) | exact (fun _ h => h) | (intro h; simp at h; omega) | (simp only [List.length_cons, List.length_nil, List.length_append, List.length_map, List.length_set, List.length_replicate]; omega) | (intro h; simp [h]; done)) | (constructor <;> omega) | (intro _; constructor <;> omega) | (simp only [List.length_append, List.length_cons, List.length_nil]; omega)
         refine fin_round (k + 1) ?_ ?_ ?_ ?_
         ·
          show (k + 1) ≤ b.length
          omega
         ·
          show b.length - (k + 1) < b.length - k
          omega
         ·
          exact subE_mk (l := [.ints b, .int (bif ((!(a.contains v)) || (!(b.contains (0 - v)))) then (0 - v) else v), .row 10, .int ((k : Int) + 1)]) (m := [.ints b, .int (bif ((!(a.contains v)) || (!(b.contains (0 - v)))) then (0 - v) else v), .row 10, .int ((k + 1) : Int)]) (by kernel_rfl) (by kernel_rfl) (consE rfl (consE rfl (consE rfl (consE (congrArg AV.int (show ((k : Int) + 1) = ((k + 1) : Int) from (by first | rfl | omega | (simp; done)))) rfl))))
         ·
          exact Eq.trans (show _ = [(10, .row 3 (.ints (((a.filter fun z9 => z9 != (bif ((!(a.contains v)) || (!(b.contains (0 - v)))) then (0 - v) else v)) ++ ((b.take k).filter fun z9 => z9 != 0 - (bif ((!(a.contains v)) || (!(b.contains (0 - v)))) then (0 - v) else v))) ++ [(b.getD k 0)])))] from by kernel_rfl) (consH (congrArg (fun x => ((10 : Nat), x)) (congrArg (fun x => AObj.row 3 (.ints x)) (show (((a.filter fun z9 => z9 != (bif ((!(a.contains v)) || (!(b.contains (0 - v)))) then (0 - v) else v)) ++ ((b.take k).filter fun z9 => z9 != 0 - (bif ((!(a.contains v)) || (!(b.contains (0 - v)))) then (0 - v) else v))) ++ [(b.getD k 0)]) = ((a.filter fun z9 => z9 != (bif ((!(a.contains v)) || (!(b.contains (0 - v)))) then (0 - v) else v)) ++ ((b.take (k + 1)).filter fun z9 => z9 != 0 - (bif ((!(a.contains v)) || (!(b.contains (0 - v)))) then (0 - v) else v))) from (by first | (rw [List.append_assoc]; exact congrArg _ (Cn.filt_y (by omega) hq6)) | exact congrArg _ (Cn.filt_n (by omega) hq6))))) rfl)
        ·
         skip
         have h6 := bneF hb6
         have hq6 := h6
         refine tri_skip ?_
         refine fin_block ?_
         refine fin_then ?_
         refine tri_regD hcx [] [11] [1, 8, 9] [10] [Fit ((k : Int) + 1)] [(11, .int ((k : Int) + 1))] [] (by kernel_rfl) ?_ ?_
         ·
          refine (ap ?_ az)
          first | exact hm5 | exact hm6 | exact (fun _ => hm5) | exact (fun _ => hm6) | (first | omega | exact id | exact vcNot | exact vcG | exact vcH | (intro _; omega) | exact (fun _ h => h) | (intro h; simp at h; omega) | (simp only [List.length_cons, List.length_nil, List.length_append, List.length_map, List.length_set, List.length_replicate]; omega) | (intro h; simp [h]; done)) | (constructor <;> omega) | (intro _; constructor <;> omega) | (simp only [List.length_append, List.length_cons, List.length_nil]; omega)
         refine fin_round (k + 1) ?_ ?_ ?_ ?_
         ·
          show (k + 1) ≤ b.length
          omega
         ·
          show b.length - (k + 1) < b.length - k
          omega
         ·
          exact subE_mk (l := [.ints b, .int (bif ((!(a.contains v)) || (!(b.contains (0 - v)))) then (0 - v) else v), .row 10, .int ((k : Int) + 1)]) (m := [.ints b, .int (bif ((!(a.contains v)) || (!(b.contains (0 - v)))) then (0 - v) else v), .row 10, .int ((k + 1) : Int)]) (by kernel_rfl) (by kernel_rfl) (consE rfl (consE rfl (consE rfl (consE (congrArg AV.int (show ((k : Int) + 1) = ((k + 1) : Int) from (by first | rfl | omega | (simp; done)))) rfl))))
         ·
          exact Eq.trans (show _ = [(10, .row 3 (.ints ((a.filter fun z9 => z9 != (bif ((!(a.contains v)) || (!(b.contains (0 - v)))) then (0 - v) else v)) ++ ((b.take k).filter fun z9 => z9 != 0 - (bif ((!(a.contains v)) || (!(b.contains (0 - v)))) then (0 - v) else v)))))] from by kernel_rfl) (consH (congrArg (fun x => ((10 : Nat), x)) (congrArg (fun x => AObj.row 3 (.ints x)) (show ((a.filter fun z9 => z9 != (bif ((!(a.contains v)) || (!(b.contains (0 - v)))) then (0 - v) else v)) ++ ((b.take k).filter fun z9 => z9 != 0 - (bif ((!(a.contains v)) || (!(b.contains (0 - v)))) then (0 - v) else v))) = ((a.filter fun z9 => z9 != (bif ((!(a.contains v)) || (!(b.contains (0 - v)))) then (0 - v) else v)) ++ ((b.take (k + 1)).filter fun z9 => z9 != 0 - (bif ((!(a.contains v)) || (!(b.contains (0 - v)))) then (0 - v) else v))) from (by first | (rw [List.append_assoc]; exact congrArg _ (Cn.filt_y (by omega) hq6)) | exact congrArg _ (Cn.filt_n (by omega) hq6))))) rfl)
       ·
        skip
        have h5 := of_decide_eq_false hb5
        refine tri_ren (ρ := [(10, .frz)]) (keys := [67, 1, 8, 9, 11]) (E' := [(67, .bool (decide ((k : Int) < (b.length : Int)))), (1, .ints b), (8, .int (bif ((!(a.contains v)) || (!(b.contains (0 - v)))) then (0 - v) else v)), (9, .ints ((a.filter fun z9 => z9 != (bif ((!(a.contains v)) || (!(b.contains (0 - v)))) then (0 - v) else v)) ++ ((b.take k).filter fun z9 => z9 != 0 - (bif ((!(a.contains v)) || (!(b.contains (0 - v)))) then (0 - v) else v)))), (11, .int (k : Int))]) (H' := []) (by kernel_rfl) ?_
        refine tri_exit ?_
        refine fin_then_exit ?_
        refine fin_then_exit ?_
        refine fin_block_same ?_
        refine fin_then ?_
        refine tri_seq ?_
        refine tri_regD hcx [] [12] [] [] [(((a.filter fun z9 => z9 != (bif ((!(a.contains v)) || (!(b.contains (0 - v)))) then (0 - v) else v)) ++ ((b.take k).filter fun z9 => z9 != 0 - (bif ((!(a.contains v)) || (!(b.contains (0 - v)))) then (0 - v) else v))).length ≤ 1000000)] [(12, .ints (Cn.normL ((a.filter fun z9 => z9 != (bif ((!(a.contains v)) || (!(b.contains (0 - v)))) then (0 - v) else v)) ++ ((b.take k).filter fun z9 => z9 != 0 - (bif ((!(a.contains v)) || (!(b.contains (0 - v)))) then (0 - v) else v)))))] [] (by kernel_rfl) ?_ ?_
        ·
         refine (ap ?_ az)
         first | exact hm5 | exact hm6 | exact (fun _ => hm5) | exact (fun _ => hm6) | (first | omega | exact id | exact vcNot | exact vcG | exact vcH | (intro _; omega) | exact (fun _ h => h) | (intro h; simp at h; omega) | (simp only [List.length_cons, List.length_nil, List.length_append, List.length_map, List.length_set, List.length_replicate]; omega) | (intro h; simp [h]; done)) | (constructor <;> omega) | (intro _; constructor <;> omega) | (simp only [List.length_append, List.length_cons, List.length_nil]; omega)
        refine fin_then ?_
        refine tri_seq ?_
        refine tri_regD hcx [] [6, 7] [] [] [] [(6, .ints (Cn.normL ((a.filter fun z9 => z9 != (bif ((!(a.contains v)) || (!(b.contains (0 - v)))) then (0 - v) else v)) ++ ((b.take k).filter fun z9 => z9 != 0 - (bif ((!(a.contains v)) || (!(b.contains (0 - v)))) then (0 - v) else v))))), (7, .int 0)] [] (by kernel_rfl) ?_ ?_
        ·
         exact az
        refine fin_then ?_
        refine tri_ret ?_
        exact fin_ret [] rfl rfl trivial hcx (avs := [.ints (Cn.normL ((a.filter fun z9 => z9 != (bif ((!(a.contains v)) || (!(b.contains (0 - v)))) then (0 - v) else v)) ++ ((b.take k).filter fun z9 => z9 != 0 - (bif ((!(a.contains v)) || (!(b.contains (0 - v)))) then (0 - v) else v)))), .int 0]) (by kernel_rfl) (congrArg AV.tup (consE (congrArg AV.ints (show (Cn.normL ((a.filter fun z9 => z9 != (bif ((!(a.contains v)) || (!(b.contains (0 - v)))) then (0 - v) else v)) ++ ((b.take k).filter fun z9 => z9 != 0 - (bif ((!(a.contains v)) || (!(b.contains (0 - v)))) then (0 - v) else v)))) = (Cn.resL a b v) from (by first | exact hq.2 | (rw [show k = b.length from (by omega), List.take_length]; exact hq.1)))) (consE (congrArg AV.int (show 0 = (Cn.resE a b v) from (by first | exact hq.2 | (rw [show k = b.length from (by omega), List.take_length]; exact hq.1)))) rfl))) [] rfl
 ·
  cases hσ
end Go.Proofs.YtiokflebeojokaaGreatDoor.En
