/- elim.Back, in the reader's words. -/
import Derived.Test.YthhfdjcaafckbaaCnfS
import Derived.Test.YthhfdjcaafckbaaShClone
import Derived.Test.YthhfdjcaafckbaaItBack
import Derived.Test.YthhfdjcaafckbaaElimB
namespace Go.Proofs.Ythhfdjcaafckbaa.En
open Go Go.RowKit
set_option linter.unusedVariables false
set_option linter.unusedSimpArgs false
set_option linter.unnecessarySimpa false
def tyBack : List (Nat × TD) := [(3, ⟨1, false, [.int .i64 0], [], none, 8, false, 1, 1⟩),
  (4, ⟨1, false, [.bool false], [], none, 1, true, 0, 2⟩),
  (22, ⟨1, false, [.slice none 0 0], [], some 43, 24, false, 0, 0⟩),
  (28, ⟨2, true, [.int .i64 0, .slice none 0 0], [(0, 3), (1, 22)], none, 32, false, 0, 6⟩),
  (34, ⟨1, false, [.slice none 0 0], [], some 28, 24, false, 0, 0⟩),
  (36, ⟨1, false, [.slice none 0 0], [], some 4, 24, false, 0, 0⟩),
  (43, ⟨1, false, [.slice none 0 0], [], some 3, 24, false, 0, 3⟩),
  (63, ⟨1, false, [.nilFunc], [], none, 8, false, 0, 0⟩)]
theorem tyBack_ok : AllTy Try.prog tyBack := ⟨⟨by kernel_rfl, by kernel_rfl⟩, ⟨by kernel_rfl, by kernel_rfl⟩, ⟨by kernel_rfl, by kernel_rfl⟩, ⟨by kernel_rfl, by kernel_rfl⟩, ⟨by kernel_rfl, by kernel_rfl⟩, ⟨by kernel_rfl, by kernel_rfl⟩, ⟨by kernel_rfl, by kernel_rfl⟩, ⟨by kernel_rfl, by kernel_rfl⟩, trivial⟩
def cx_eBack1 : Cx := ⟨tyBack, [(46, cMay_σ), (73, cOf_σ), (57, (coeF [.id, .ld (.bools [])] cTrue_σ)), (56, cHolds1_σ), (59, (orF (coeF [.ld (.ints []), .id] ixHolds_σ) (coeF [.ld (.ints []), .id] ixCheck_σ))), (41, (orF (coeF [.ld (.ints []), .id] ctHolds_σ) (coeF [.ld (.ints []), .id] ctCheck_σ))), (37, (coeF [.ld (.ints []), .ld (.bools [])] cHolds_σ)), (45, cCheck1_σ), (25, (coeF [.agg [.id, .ld (.intss [])]] cCheck_σ)), (39, (coeF [.ld (.ints []), .id] cValue1_σ)), (55, (coeF [.ld (.intss []), .id] ixValue_σ)), (35, (coeF [.ld (.intss []), .id] ctValue_σ)), (21, (coeF [.agg [.id, .ld (.intss [])], .ld (.bools [])] cValue_σ)), (61, (coeF [.ld (.ints []), .id] sIndex_σ)), (43, (coeF [.ld (.ints []), .id] sContains_σ)), (33, sCloneB)]⟩
theorem cx_eBack1_ok : CxOk Try.prog cx_eBack1 := cx_ok tyBack_ok ⟨cMay_sound, cOf_sound, (cTrue_sound.coe [.id, .ld (.bools [])] rfl), cHolds1_sound, ((ixHolds_sound.coe [.ld (.ints []), .id] rfl).or (ixCheck_sound.coe [.ld (.ints []), .id] rfl)), ((ctHolds_sound.coe [.ld (.ints []), .id] rfl).or (ctCheck_sound.coe [.ld (.ints []), .id] rfl)), (cHolds_sound.coe [.ld (.ints []), .ld (.bools [])] rfl), cCheck1_sound, (cCheck_sound.coe [.agg [.id, .ld (.intss [])]] rfl), (cValue1_sound.coe [.ld (.ints []), .id] rfl), (ixValue_sound.coe [.ld (.intss []), .id] rfl), (ctValue_sound.coe [.ld (.intss []), .id] rfl), (cValue_sound.coe [.agg [.id, .ld (.intss [])], .ld (.bools [])] rfl), (sIndex_sound.coe [.ld (.ints []), .id] rfl), (sContains_sound.coe [.ld (.ints []), .id] rfl), sCloneB_sound, trivial⟩
def eBack1_σ : CtF
  | [.im (.ls (.ints l)), .pto [.ls (.bools a)]], [] => some (l.length ≤ maxLen ∧ a.length ≤ maxLen, .bool (!(Cn.holdsV a l)), [])
  | _, _ => none
theorem eBack1_sound : Sound Try.prog 36 eBack1_σ := by
 refine sound_mk (cx := cx_eBack1) (fn := Try.f36) Try.func36 (by kernel_rfl) rfl ?_
 intro w0 G0 args os p r outs hσ hp hm0 hd0
 have hcx : CxOk Try.prog cx_eBack1 := cx_eBack1_ok
 unfold eBack1_σ at hσ
 split at hσ
 ·
  rename_i l a
  simp only [Option.some.injEq, Prod.mk.injEq] at hσ
  obtain ⟨rfl, rfl, rfl⟩ := hσ
  obtain ⟨wW, wO, wm, wβ, wd⟩ := w0
  replace hm0 : wm = 0 := hm0
  subst hm0
  replace hd0 : wd = [] := hd0
  subst hd0
  refine ⟨by kernel_rfl, ?_⟩
  change Tri ⟨_, _, _, _, _, _⟩ [(0, .ints l), (1, .pto [.ls (.bools a)])] [] _ _
  refine tri_seq ?_
  refine tri_regD hcx [] [] [0, 1] [] [] [] [] (by kernel_rfl) ?_ ?_
  ·
   exact az
  refine fin_then ?_
  refine tri_seq ?_
  refine tri_regD hcx [] [3] [] [] [(l.length ≤ maxLen ∧ a.length ≤ maxLen)] [(3, .bool (!(Cn.holdsV a l)))] [] (by kernel_rfl) ?_ ?_
  ·
   refine (ap ?_ az)
   exact hp
  refine fin_then ?_
  refine tri_ret ?_
  exact fin_ret [] rfl rfl trivial hcx (avs := [.bool (!(Cn.holdsV a l))]) (by kernel_rfl) rfl [] rfl
 ·
  cases hσ
def cx_ixBack : Cx := ⟨tyBack, [(46, cMay_σ), (73, cOf_σ), (57, (coeF [.id, .ld (.bools [])] cTrue_σ)), (56, cHolds1_σ), (59, (orF (coeF [.ld (.ints []), .id] ixHolds_σ) (coeF [.ld (.ints []), .id] ixCheck_σ))), (41, (orF (coeF [.ld (.ints []), .id] ctHolds_σ) (coeF [.ld (.ints []), .id] ctCheck_σ))), (37, (coeF [.ld (.ints []), .ld (.bools [])] cHolds_σ)), (45, cCheck1_σ), (25, (coeF [.agg [.id, .ld (.intss [])]] cCheck_σ)), (39, (coeF [.ld (.ints []), .id] cValue1_σ)), (55, (coeF [.ld (.intss []), .id] ixValue_σ)), (35, (coeF [.ld (.intss []), .id] ctValue_σ)), (21, (coeF [.agg [.id, .ld (.intss [])], .ld (.bools [])] cValue_σ)), (61, (coeF [.ld (.ints []), .id] sIndex_σ)), (43, (coeF [.ld (.ints []), .id] sContains_σ)), (33, sCloneB), (36, (coeF [.ld (.ints []), .id] eBack1_σ))]⟩
theorem cx_ixBack_ok : CxOk Try.prog cx_ixBack := cx_ok tyBack_ok ⟨cMay_sound, cOf_sound, (cTrue_sound.coe [.id, .ld (.bools [])] rfl), cHolds1_sound, ((ixHolds_sound.coe [.ld (.ints []), .id] rfl).or (ixCheck_sound.coe [.ld (.ints []), .id] rfl)), ((ctHolds_sound.coe [.ld (.ints []), .id] rfl).or (ctCheck_sound.coe [.ld (.ints []), .id] rfl)), (cHolds_sound.coe [.ld (.ints []), .ld (.bools [])] rfl), cCheck1_sound, (cCheck_sound.coe [.agg [.id, .ld (.intss [])]] rfl), (cValue1_sound.coe [.ld (.ints []), .id] rfl), (ixValue_sound.coe [.ld (.intss []), .id] rfl), (ctValue_sound.coe [.ld (.intss []), .id] rfl), (cValue_sound.coe [.agg [.id, .ld (.intss [])], .ld (.bools [])] rfl), (sIndex_sound.coe [.ld (.ints []), .id] rfl), (sContains_sound.coe [.ld (.ints []), .id] rfl), sCloneB_sound, (eBack1_sound.coe [.ld (.ints []), .id] rfl), trivial⟩
def ixBack_σ : CtF
  | [.im (.ls (.intss s)), .clo 36 [.pto [.ls (.bools a)]]], [] => some (s.length ≤ maxLen ∧ (∀ l ∈ s, l.length ≤ maxLen) ∧ a.length ≤ maxLen, .int (Cn.idxF (fun x => !(Cn.holdsV a x)) s), [])
  | _, _ => none
theorem ixBack_sound : Sound Try.prog 55 ixBack_σ := by
 refine sound_mk (cx := cx_ixBack) (fn := Try.f55) Try.func55 (by kernel_rfl) rfl ?_
 intro w0 G0 args os p r outs hσ hp hm0 hd0
 have hcx : CxOk Try.prog cx_ixBack := cx_ixBack_ok
 unfold ixBack_σ at hσ
 split at hσ
 ·
  rename_i s a
  simp only [Option.some.injEq, Prod.mk.injEq] at hσ
  obtain ⟨rfl, rfl, rfl⟩ := hσ
  obtain ⟨wW, wO, wm, wβ, wd⟩ := w0
  replace hm0 : wm = 0 := hm0
  subst hm0
  replace hd0 : wd = [] := hd0
  subst hd0
  refine ⟨by kernel_rfl, ?_⟩
  change Tri ⟨_, _, _, _, _, _⟩ [(0, .intss s), (1, .clo 36 [.pto [.ls (.bools a)]])] [] _ _
  obtain ⟨hm1, hpr⟩ := hp
  unfold maxLen at hm1
  refine tri_seq ?_
  refine tri_regD hcx [] [] [0, 1] [] [] [] [] (by kernel_rfl) ?_ ?_
  ·
   exact az
  refine fin_then ?_
  refine tri_seq ?_
  refine tri_seq ?_
  refine tri_regD hcx [] [7, 8] [0, 1] [] [] [(7, .int (s.length : Int)), (8, .int 0)] [] (by kernel_rfl) ?_ ?_
  ·
   exact az
  refine fin_then ?_
  refine tri_block ?_
  refine tri_loop (X := Nat) (fun x0 => x0 ≤ s.length ∧ ∀ j, j < x0 → (!(Cn.holdsV a (s.getD j []))) = false) (fun x0 => [(0, .intss s), (1, .clo 36 [.pto [.ls (.bools a)]]), (7, .int (s.length : Int)), (8, .int (x0 : Int))]) (fun x0 => []) (fun x0 => s.length - x0) (0) ?_ ?_ ?_ ?_
  ·
   show 0 ≤ s.length ∧ ∀ j, j < 0 → (!(Cn.holdsV a (s.getD j []))) = false
   exact ⟨Nat.zero_le _, fun j hj => by omega⟩
  ·
   exact subE_mk (l := [.intss s, .clo 36 [.pto [.ls (.bools a)]], .int (s.length : Int), .int 0]) (m := [.intss s, .clo 36 [.pto [.ls (.bools a)]], .int (s.length : Int), .int (0 : Int)]) (by kernel_rfl) (by kernel_rfl) (consE rfl (consE rfl (consE rfl (consE (congrArg AV.int (show 0 = (0 : Int) from (by first | rfl | omega | (simp; done)))) rfl))))
  ·
   kernel_rfl
  ·
   intro k hI
   replace hI : k ≤ s.length ∧ ∀ j, j < k → (!(Cn.holdsV a (s.getD j []))) = false := hI
   change Tri _ [(0, .intss s), (1, .clo 36 [.pto [.ls (.bools a)]]), (7, .int (s.length : Int)), (8, .int (k : Int))] [] _ _
   obtain ⟨hk, hok⟩ := hI
   refine tri_seq ?_
   refine tri_regD hcx [] [9] [0, 1, 7, 8] [] [] [(9, .bool (decide ((k : Int) < (s.length : Int))))] [] (by kernel_rfl) ?_ ?_
   ·
    exact az
   refine fin_then ?_
   refine tri_seq ?_
   refine tri_cond (b := (decide ((k : Int) < (s.length : Int)))) (by kernel_rfl) (fun hb0 => ?_) (fun hb0 => ?_)
   ·
    skip
    have h0 := of_decide_eq_true hb0
    refine tri_skip ?_
    refine fin_then ?_
    refine tri_seq ?_
    refine tri_block ?_
    refine tri_seq ?_
    refine tri_regD hcx [] [5] [0, 1, 7, 8] [] [] [(5, .int (k : Int))] [] (by kernel_rfl) ?_ ?_
    ·
     exact az
    refine fin_then ?_
    refine tri_seq ?_
    refine tri_regD hcx [] [16] [5, 0, 1, 7, 8] [] [((0 : Int) ≤ (k : Int) ∧ (k : Int) < (s.length : Int)), ((s.getD k []).length ≤ maxLen ∧ a.length ≤ maxLen)] [(16, .bool (!(Cn.holdsV a (s.getD k []))))] [] (by kernel_rfl) ?_ ?_
    ·
     refine (ap ?_ (ap ?_ az))
     all_goals
      first | omega | exact id | exact vcNot | exact vcG | exact vcH | (intro _; omega) | exact (fun _ h => h) | (intro h; simp at h; omega) | (simp only [List.length_cons, List.length_nil, List.length_append, List.length_map, List.length_set, List.length_replicate]; omega) | (intro h; simp [h]; done) | exact ⟨hpr.1 _ (Cn.getD_memL (by omega)), hpr.2⟩ | trivial
    refine fin_then ?_
    refine tri_cond (b := (!(Cn.holdsV a (s.getD k [])))) (by kernel_rfl) (fun hb1 => ?_) (fun hb1 => ?_)
    ·
     skip
     have h1 := hb1
     have hq := h1
     refine tri_seq ?_
     refine tri_regD hcx [] [4] [] [] [] [(4, .int (k : Int))] [] (by kernel_rfl) ?_ ?_
     ·
      exact az
     refine fin_then ?_
     refine tri_ret ?_
     refine fin_block_ret ?_
     refine fin_then_ret ?_
     refine fin_then_ret ?_
     refine fin_block_ret ?_
     refine fin_then_ret ?_
     exact fin_ret [] rfl rfl trivial hcx (avs := [.int (k : Int)]) (by kernel_rfl) (congrArg AV.int (show (k : Int) = (Cn.idxF (fun x => !(Cn.holdsV a x)) s) from (by exact (Cn.idxF_yes (p := (fun x => !(Cn.holdsV a x))) (by omega) hok hq).symm))) [] rfl
    ·
     skip
     have h1 := hb1
     have hq := h1
     refine tri_skip ?_
     refine fin_block ?_
     refine fin_then ?_
     refine tri_regD hcx [] [8] [0, 1, 7] [] [Fit ((k : Int) + 1)] [(8, .int ((k : Int) + 1))] [] (by kernel_rfl) ?_ ?_
     ·
      refine (ap ?_ az)
      first | omega | exact id | exact vcNot | exact vcG | exact vcH | (intro _; omega) | exact (fun _ h => h) | (intro h; simp at h; omega) | (simp only [List.length_cons, List.length_nil, List.length_append, List.length_map, List.length_set, List.length_replicate]; omega) | (intro h; simp [h]; done) | exact ⟨hpr.1 _ (Cn.getD_memL (by omega)), hpr.2⟩ | trivial
     refine fin_round (k + 1) ?_ ?_ ?_ ?_
     ·
      show (k + 1) ≤ s.length ∧ ∀ j, j < (k + 1) → (!(Cn.holdsV a (s.getD j []))) = false
      exact ⟨by omega, Cn.falseSucc hok hq⟩
     ·
      show s.length - (k + 1) < s.length - k
      omega
     ·
      exact subE_mk (l := [.intss s, .clo 36 [.pto [.ls (.bools a)]], .int (s.length : Int), .int ((k : Int) + 1)]) (m := [.intss s, .clo 36 [.pto [.ls (.bools a)]], .int (s.length : Int), .int ((k + 1) : Int)]) (by kernel_rfl) (by kernel_rfl) (consE rfl (consE rfl (consE rfl (consE (congrArg AV.int (show ((k : Int) + 1) = ((k + 1) : Int) from (by first | rfl | omega | (simp; done)))) rfl))))
     ·
      kernel_rfl
   ·
    skip
    have h0 := of_decide_eq_false hb0
    refine tri_exit ?_
    refine fin_then_exit ?_
    refine fin_then_exit ?_
    refine fin_block_same ?_
    refine fin_then ?_
    refine tri_seq ?_
    refine tri_regD hcx [] [4] [] [] [] [(4, .int (-1))] [] (by kernel_rfl) ?_ ?_
    ·
     exact az
    refine fin_then ?_
    refine tri_ret ?_
    exact fin_ret [] rfl rfl trivial hcx (avs := [.int (-1)]) (by kernel_rfl) (congrArg AV.int (show (-1) = (Cn.idxF (fun x => !(Cn.holdsV a x)) s) from (by exact (Cn.idxF_no (p := (fun x => !(Cn.holdsV a x))) (Cn.all_mem (d := []) (fun j hj => hok j (by omega)))).symm))) [] rfl
 ·
  cases hσ
def cx_ctBack : Cx := ⟨tyBack, [(46, cMay_σ), (73, cOf_σ), (57, (coeF [.id, .ld (.bools [])] cTrue_σ)), (56, cHolds1_σ), (59, (orF (coeF [.ld (.ints []), .id] ixHolds_σ) (coeF [.ld (.ints []), .id] ixCheck_σ))), (41, (orF (coeF [.ld (.ints []), .id] ctHolds_σ) (coeF [.ld (.ints []), .id] ctCheck_σ))), (37, (coeF [.ld (.ints []), .ld (.bools [])] cHolds_σ)), (45, cCheck1_σ), (25, (coeF [.agg [.id, .ld (.intss [])]] cCheck_σ)), (39, (coeF [.ld (.ints []), .id] cValue1_σ)), (55, (orF (coeF [.ld (.intss []), .id] ixValue_σ) (coeF [.ld (.intss []), .id] ixBack_σ))), (35, (coeF [.ld (.intss []), .id] ctValue_σ)), (21, (coeF [.agg [.id, .ld (.intss [])], .ld (.bools [])] cValue_σ)), (61, (coeF [.ld (.ints []), .id] sIndex_σ)), (43, (coeF [.ld (.ints []), .id] sContains_σ)), (33, sCloneB), (36, (coeF [.ld (.ints []), .id] eBack1_σ))]⟩
theorem cx_ctBack_ok : CxOk Try.prog cx_ctBack := cx_ok tyBack_ok ⟨cMay_sound, cOf_sound, (cTrue_sound.coe [.id, .ld (.bools [])] rfl), cHolds1_sound, ((ixHolds_sound.coe [.ld (.ints []), .id] rfl).or (ixCheck_sound.coe [.ld (.ints []), .id] rfl)), ((ctHolds_sound.coe [.ld (.ints []), .id] rfl).or (ctCheck_sound.coe [.ld (.ints []), .id] rfl)), (cHolds_sound.coe [.ld (.ints []), .ld (.bools [])] rfl), cCheck1_sound, (cCheck_sound.coe [.agg [.id, .ld (.intss [])]] rfl), (cValue1_sound.coe [.ld (.ints []), .id] rfl), ((ixValue_sound.coe [.ld (.intss []), .id] rfl).or (ixBack_sound.coe [.ld (.intss []), .id] rfl)), (ctValue_sound.coe [.ld (.intss []), .id] rfl), (cValue_sound.coe [.agg [.id, .ld (.intss [])], .ld (.bools [])] rfl), (sIndex_sound.coe [.ld (.ints []), .id] rfl), (sContains_sound.coe [.ld (.ints []), .id] rfl), sCloneB_sound, (eBack1_sound.coe [.ld (.ints []), .id] rfl), trivial⟩
def ctBack_σ : CtF
  | [.im (.ls (.intss s)), .clo 36 [.pto [.ls (.bools a)]]], [] => some (s.length ≤ maxLen ∧ (∀ l ∈ s, l.length ≤ maxLen) ∧ a.length ≤ maxLen, .bool (s.any (fun x => !(Cn.holdsV a x))), [])
  | _, _ => none
theorem ctBack_sound : Sound Try.prog 35 ctBack_σ := by
 refine sound_mk (cx := cx_ctBack) (fn := Try.f35) Try.func35 (by kernel_rfl) rfl ?_
 intro w0 G0 args os p r outs hσ hp hm0 hd0
 have hcx : CxOk Try.prog cx_ctBack := cx_ctBack_ok
 unfold ctBack_σ at hσ
 split at hσ
 ·
  rename_i s a
  simp only [Option.some.injEq, Prod.mk.injEq] at hσ
  obtain ⟨rfl, rfl, rfl⟩ := hσ
  obtain ⟨wW, wO, wm, wβ, wd⟩ := w0
  replace hm0 : wm = 0 := hm0
  subst hm0
  replace hd0 : wd = [] := hd0
  subst hd0
  refine ⟨by kernel_rfl, ?_⟩
  change Tri ⟨_, _, _, _, _, _⟩ [(0, .intss s), (1, .clo 36 [.pto [.ls (.bools a)]])] [] _ _
  refine tri_seq ?_
  refine tri_regD hcx [] [] [0, 1] [] [] [] [] (by kernel_rfl) ?_ ?_
  ·
   exact az
  refine fin_then ?_
  refine tri_seq ?_
  refine tri_regD hcx [] [4] [] [] [(s.length ≤ maxLen ∧ (∀ l ∈ s, l.length ≤ maxLen) ∧ a.length ≤ maxLen)] [(4, .bool (decide ((Cn.idxF (fun x => !(Cn.holdsV a x)) s) ≥ 0)))] [] (by kernel_rfl) ?_ ?_
  ·
   refine (ap ?_ az)
   first | exact hp | (intro h; exact h) | omega
  refine fin_then ?_
  refine tri_ret ?_
  exact fin_ret [] rfl rfl trivial hcx (avs := [.bool (decide ((Cn.idxF (fun x => !(Cn.holdsV a x)) s) ≥ 0))]) (by kernel_rfl) (congrArg AV.bool (show (decide ((Cn.idxF (fun x => !(Cn.holdsV a x)) s) ≥ 0)) = (s.any (fun x => !(Cn.holdsV a x))) from (by exact Cn.idxF_any (p := (fun x => !(Cn.holdsV a x))) s))) [] rfl
 ·
  cases hσ
def cx_sBackward : Cx := ⟨tyBack, [(46, cMay_σ), (73, cOf_σ), (57, (coeF [.id, .ld (.bools [])] cTrue_σ)), (56, cHolds1_σ), (59, (orF (coeF [.ld (.ints []), .id] ixHolds_σ) (coeF [.ld (.ints []), .id] ixCheck_σ))), (41, (orF (coeF [.ld (.ints []), .id] ctHolds_σ) (coeF [.ld (.ints []), .id] ctCheck_σ))), (37, (coeF [.ld (.ints []), .ld (.bools [])] cHolds_σ)), (45, cCheck1_σ), (25, (coeF [.agg [.id, .ld (.intss [])]] cCheck_σ)), (39, (coeF [.ld (.ints []), .id] cValue1_σ)), (55, (orF (coeF [.ld (.intss []), .id] ixValue_σ) (coeF [.ld (.intss []), .id] ixBack_σ))), (35, (orF (coeF [.ld (.intss []), .id] ctValue_σ) (coeF [.ld (.intss []), .id] ctBack_σ))), (21, (coeF [.agg [.id, .ld (.intss [])], .ld (.bools [])] cValue_σ)), (61, (coeF [.ld (.ints []), .id] sIndex_σ)), (43, (coeF [.ld (.ints []), .id] sContains_σ)), (33, sCloneB), (36, (coeF [.ld (.ints []), .id] eBack1_σ))]⟩
theorem cx_sBackward_ok : CxOk Try.prog cx_sBackward := cx_ok tyBack_ok ⟨cMay_sound, cOf_sound, (cTrue_sound.coe [.id, .ld (.bools [])] rfl), cHolds1_sound, ((ixHolds_sound.coe [.ld (.ints []), .id] rfl).or (ixCheck_sound.coe [.ld (.ints []), .id] rfl)), ((ctHolds_sound.coe [.ld (.ints []), .id] rfl).or (ctCheck_sound.coe [.ld (.ints []), .id] rfl)), (cHolds_sound.coe [.ld (.ints []), .ld (.bools [])] rfl), cCheck1_sound, (cCheck_sound.coe [.agg [.id, .ld (.intss [])]] rfl), (cValue1_sound.coe [.ld (.ints []), .id] rfl), ((ixValue_sound.coe [.ld (.intss []), .id] rfl).or (ixBack_sound.coe [.ld (.intss []), .id] rfl)), ((ctValue_sound.coe [.ld (.intss []), .id] rfl).or (ctBack_sound.coe [.ld (.intss []), .id] rfl)), (cValue_sound.coe [.agg [.id, .ld (.intss [])], .ld (.bools [])] rfl), (sIndex_sound.coe [.ld (.ints []), .id] rfl), (sContains_sound.coe [.ld (.ints []), .id] rfl), sCloneB_sound, (eBack1_sound.coe [.ld (.ints []), .id] rfl), trivial⟩
def sBackward_σ : CtF
  | [.im (.ls (.undos u))], [] => some (True, .clo 54 [.pto [.ls (.undos u)]], [])
  | _, _ => none
theorem sBackward_sound : Sound Try.prog 34 sBackward_σ := by
 refine sound_mk (cx := cx_sBackward) (fn := Try.f34) Try.func34 (by kernel_rfl) rfl ?_
 intro w0 G0 args os p r outs hσ hp hm0 hd0
 have hcx : CxOk Try.prog cx_sBackward := cx_sBackward_ok
 unfold sBackward_σ at hσ
 split at hσ
 ·
  rename_i u
  simp only [Option.some.injEq, Prod.mk.injEq] at hσ
  obtain ⟨rfl, rfl, rfl⟩ := hσ
  obtain ⟨wW, wO, wm, wβ, wd⟩ := w0
  replace hm0 : wm = 0 := hm0
  subst hm0
  replace hd0 : wd = [] := hd0
  subst hd0
  refine ⟨by kernel_rfl, ?_⟩
  change Tri ⟨_, _, _, _, _, _⟩ [(0, .undos u)] [] _ _
  refine tri_seq ?_
  refine tri_regD hcx [(1000, .frz)] [1] [] [] [] [(1, .pto [.ls (.undos u)])] [] (by kernel_rfl) ?_ ?_
  ·
   exact az
  refine fin_then ?_
  refine tri_seq ?_
  refine tri_regD hcx [] [2] [] [] [] [(2, .clo 54 [.pto [.ls (.undos u)]])] [] (by kernel_rfl) ?_ ?_
  ·
   exact az
  refine fin_then ?_
  refine tri_ret ?_
  exact fin_ret [] rfl rfl trivial hcx (avs := [.clo 54 [.pto [.ls (.undos u)]]]) (by kernel_rfl) rfl [] rfl
 ·
  cases hσ
def cx_eBack : Cx := ⟨tyBack, [(46, cMay_σ), (73, cOf_σ), (57, (coeF [.id, .ld (.bools [])] cTrue_σ)), (56, cHolds1_σ), (59, (orF (coeF [.ld (.ints []), .id] ixHolds_σ) (coeF [.ld (.ints []), .id] ixCheck_σ))), (41, (orF (coeF [.ld (.ints []), .id] ctHolds_σ) (coeF [.ld (.ints []), .id] ctCheck_σ))), (37, (coeF [.ld (.ints []), .ld (.bools [])] cHolds_σ)), (45, cCheck1_σ), (25, (coeF [.agg [.id, .ld (.intss [])]] cCheck_σ)), (39, (coeF [.ld (.ints []), .id] cValue1_σ)), (55, (orF (coeF [.ld (.intss []), .id] ixValue_σ) (coeF [.ld (.intss []), .id] ixBack_σ))), (35, (orF (coeF [.ld (.intss []), .id] ctValue_σ) (coeF [.ld (.intss []), .id] ctBack_σ))), (21, (coeF [.agg [.id, .ld (.intss [])], .ld (.bools [])] cValue_σ)), (61, (coeF [.ld (.ints []), .id] sIndex_σ)), (43, (coeF [.ld (.ints []), .id] sContains_σ)), (33, sCloneB), (36, (coeF [.ld (.ints []), .id] eBack1_σ)), (34, (coeF [.ld (.undos [])] sBackward_σ))]⟩
theorem cx_eBack_ok : CxOk Try.prog cx_eBack := cx_ok tyBack_ok ⟨cMay_sound, cOf_sound, (cTrue_sound.coe [.id, .ld (.bools [])] rfl), cHolds1_sound, ((ixHolds_sound.coe [.ld (.ints []), .id] rfl).or (ixCheck_sound.coe [.ld (.ints []), .id] rfl)), ((ctHolds_sound.coe [.ld (.ints []), .id] rfl).or (ctCheck_sound.coe [.ld (.ints []), .id] rfl)), (cHolds_sound.coe [.ld (.ints []), .ld (.bools [])] rfl), cCheck1_sound, (cCheck_sound.coe [.agg [.id, .ld (.intss [])]] rfl), (cValue1_sound.coe [.ld (.ints []), .id] rfl), ((ixValue_sound.coe [.ld (.intss []), .id] rfl).or (ixBack_sound.coe [.ld (.intss []), .id] rfl)), ((ctValue_sound.coe [.ld (.intss []), .id] rfl).or (ctBack_sound.coe [.ld (.intss []), .id] rfl)), (cValue_sound.coe [.agg [.id, .ld (.intss [])], .ld (.bools [])] rfl), (sIndex_sound.coe [.ld (.ints []), .id] rfl), (sContains_sound.coe [.ld (.ints []), .id] rfl), sCloneB_sound, (eBack1_sound.coe [.ld (.ints []), .id] rfl), (sBackward_sound.coe [.ld (.undos [])] rfl), trivial⟩
def eBack_σ : CtF
  | [.im (.ls (.undos u)), .im (.ls (.bools a))], [] => some (u.length ≤ maxLen ∧ (∀ w ∈ u, w.2.length ≤ maxLen ∧ ∀ l ∈ w.2, l.length ≤ maxLen) ∧ a.length ≤ 1000000, .row 0, [some (.row 4 (.bools (Cn.backF u a)))])
  | _, _ => none
theorem eBack_sound : Sound Try.prog 18 eBack_σ := by
 refine sound_mk (cx := cx_eBack) (fn := Try.f18) Try.func18 (by kernel_rfl) rfl ?_
 intro w0 G0 args os p r outs hσ hp hm0 hd0
 have hcx : CxOk Try.prog cx_eBack := cx_eBack_ok
 have hmx : Try.prog.follows .mixedOrders = true := by kernel_rfl
 unfold eBack_σ at hσ
 split at hσ
 ·
  rename_i u a
  simp only [Option.some.injEq, Prod.mk.injEq] at hσ
  obtain ⟨rfl, rfl, rfl⟩ := hσ
  obtain ⟨wW, wO, wm, wβ, wd⟩ := w0
  replace hm0 : wm = 0 := hm0
  subst hm0
  replace hd0 : wd = [] := hd0
  subst hd0
  refine ⟨by kernel_rfl, ?_⟩
  change Tri ⟨_, _, _, _, _, _⟩ [(0, .undos u), (1, .bools a)] [] _ _
  obtain ⟨hm1, hm2, hm3⟩ := hp
  have hm4 : ∀ k, k < u.length → (u.getD k (0, [])).2.length ≤ maxLen ∧ ∀ l ∈ (u.getD k (0, [])).2, l.length ≤ maxLen := fun k hk => hm2 _ (Cn.getD_memL hk)
  refine tri_seq ?_
  refine tri_regD hcx [(1000, .to 603)] [3, 4] [0] [] [] [(3, .loc 603 0), (4, .im (.val (.slice none 0 0)))] [(603, .box [.bools a])] (by kernel_rfl) ?_ ?_
  ·
   exact az
  refine fin_then ?_
  refine tri_seq ?_
  refine tri_regD hcx [(1001, .to 209), (603, .to 603)] [] [3, 4, 0] [] [(a.length ≤ 1000000000000)] [] [(209, .row 4 (.bools a)), (603, .box [.row 209])] (by kernel_rfl) ?_ ?_
  ·
   refine (ap ?_ az)
   first | omega | trivial | (simp only [List.length_set, List.length_append, List.length_replicate]; omega) | exact ⟨hw4.1, hw4.2, by simp only [List.length_set, List.length_append, List.length_replicate]; unfold maxLen; omega⟩ | (first | omega | exact id | exact vcNot | exact vcG | exact vcH | (intro _; omega) | exact (fun _ h => h) | (intro h; simp at h; omega) | (simp only [List.length_cons, List.length_nil, List.length_append, List.length_map, List.length_set, List.length_replicate]; omega) | (intro h; simp [h]; done)) | (constructor <;> omega)
  refine fin_then ?_
  refine tri_seq ?_
  refine tri_seq ?_
  refine tri_regD hcx [] [11] [3, 4] [209, 603] [(True)] [(11, .clo 54 [.pto [.ls (.undos u)]])] [] (by kernel_rfl) ?_ ?_
  ·
   refine (ap ?_ az)
   first | omega | trivial | (simp only [List.length_set, List.length_append, List.length_replicate]; omega) | exact ⟨hw4.1, hw4.2, by simp only [List.length_set, List.length_append, List.length_replicate]; unfold maxLen; omega⟩ | (first | omega | exact id | exact vcNot | exact vcG | exact vcH | (intro _; omega) | exact (fun _ h => h) | (intro h; simp at h; omega) | (simp only [List.length_cons, List.length_nil, List.length_append, List.length_map, List.length_set, List.length_replicate]; omega) | (intro h; simp [h]; done)) | (constructor <;> omega)
  refine fin_then ?_
  refine tri_block ?_
  refine tri_ren (ρ := [(603, .to 0), (209, .to 209)]) (keys := [11, 3, 4]) (E' := [(11, .clo 54 [.pto [.ls (.undos u)]]), (3, .loc 0 0), (4, .im (.val (.slice none 0 0)))]) (H' := [(0, .box [.row 209]), (209, .row 4 (.bools a))]) (by kernel_rfl) ?_
  refine tri_ren (ρ := [(0, .to 0), (209, .to 10)]) (keys := [3, 4, 11]) (E' := [(3, .loc 0 0), (4, .im (.val (.slice none 0 0))), (11, .clo 54 [.pto [.ls (.undos u)]])]) (H' := [(0, .box [.row 10]), (10, .row 4 (.bools a))]) (by kernel_rfl) ?_
  refine tri_range (X := Unit) rfl back_seq (caps := [.pto [.ls (.undos u)]]) (by kernel_rfl) (N := u.length) (el := fun p => [.int ((u.length : Int) - 1 - (p : Int)), .agg [.int ((u.getD (u.length - 1 - p) (0, [])).1), .intss ((u.getD (u.length - 1 - p) (0, [])).2)]]) rfl (by kernel_rfl) ?_ 1 970 989 (by kernel_rfl) (fun p x0 => True) (fun p x0 => [(0, .box [.row 10]), (10, .row 4 (.bools (Cn.backTo u a p)))]) (fun p x0 => [(11, .clo 54 [.pto [.ls (.undos u)]]), (3, .loc 0 0), (4, .im (.val (.slice none 0 0))), (6, .loc 606 0)]) (fun p x0 => [(0, .box [.row 10]), (10, .row 4 (.bools (Cn.backTo u a p))), (606, .box [.int ((u.getD (u.length - 1 - p) (0, [])).1), .intss ((u.getD (u.length - 1 - p) (0, [])).2)])]) (()) ?_ ?_ (fun _ _ => rfl) (fun _ _ _ => by kernel_rfl) (fun _ _ => by kernel_rfl) ?_ ?_ ?_
  ·
   exact hm1
  ·
   show True
   trivial
  ·
   exact Eq.trans (show _ = [(0, .box [.row 10]), (10, .row 4 (.bools a))] from by kernel_rfl) (consH rfl (consH (congrArg (fun x => ((10 : Nat), x)) (congrArg (fun x => AObj.row 4 (.bools x)) (show a = (Cn.backTo u a 0) from (by rfl)))) rfl))
  ·
   intro Wr Or βr Gr l0 r0 p un hi0 hI0
   replace hI0 : True := hI0
   have hbl := Cn.backTo_len (u := u) (i := p) hm3
   have hw4 := hm4 (u.length - 1 - p) (by omega)
   change Tri _ [(13, .agg [.int ((u.getD (u.length - 1 - p) (0, [])).1), .intss ((u.getD (u.length - 1 - p) (0, [])).2)]), (12, .int ((u.length : Int) - 1 - (p : Int))), (3, .loc 0 0), (4, .im (.val (.slice none 0 0))), (11, .clo 54 [.pto [.ls (.undos u)]])] [(970, .other l0 (.loop r0)), (0, .box [.row 10]), (10, .row 4 (.bools (Cn.backTo u a p)))] _ _
   refine tri_regD hcx [(1000, .to 606)] [6] [3, 4, 11] [970, 0, 10] [] [(6, .loc 606 0)] [(606, .box [.int ((u.getD (u.length - 1 - p) (0, [])).1), .intss ((u.getD (u.length - 1 - p) (0, [])).2)])] (by kernel_rfl) ?_ ?_
   ·
    exact az
   refine fin_ren (ρ := [(970, .to 970), (0, .to 0), (10, .to 10), (606, .to 606)]) (keys := [3, 4, 6, 11]) (E' := [(3, .loc 0 0), (4, .im (.val (.slice none 0 0))), (6, .loc 606 0), (11, .clo 54 [.pto [.ls (.undos u)]])]) (H' := [(970, .other l0 (.loop r0)), (0, .box [.row 10]), (10, .row 4 (.bools (Cn.backTo u a p))), (606, .box [.int ((u.getD (u.length - 1 - p) (0, [])).1), .intss ((u.getD (u.length - 1 - p) (0, [])).2)])]) (by kernel_rfl) ?_
   refine fin_assign ?_ ?_
   ·
    exact subE_mk (l := [.clo 54 [.pto [.ls (.undos u)]], .loc 0 0, .im (.val (.slice none 0 0)), .loc 606 0]) (m := [.clo 54 [.pto [.ls (.undos u)]], .loc 0 0, .im (.val (.slice none 0 0)), .loc 606 0]) (by kernel_rfl) (by kernel_rfl) rfl
   ·
    kernel_rfl
  ·
   intro Wr Or βr Gr l0 r0 p un hi0 hI0
   replace hI0 : True := hI0
   have hbl := Cn.backTo_len (u := u) (i := p) hm3
   have hw4 := hm4 (u.length - 1 - p) (by omega)
   change Tri _ [(11, .clo 54 [.pto [.ls (.undos u)]]), (3, .loc 0 0), (4, .im (.val (.slice none 0 0))), (6, .loc 606 0)] [(970, .other l0 (.loop r0)), (0, .box [.row 10]), (10, .row 4 (.bools (Cn.backTo u a p))), (606, .box [.int ((u.getD (u.length - 1 - p) (0, [])).1), .intss ((u.getD (u.length - 1 - p) (0, [])).2)])] _ _
   refine tri_block ?_
   refine tri_seq ?_
   refine tri_seq ?_
   refine tri_regD hcx [] [21] [3, 6] [970, 0, 10, 606] [((!(decide ((u.getD (u.length - 1 - p) (0, [])).1 < 1))) = true → ((!(decide ((u.getD (u.length - 1 - p) (0, [])).1 < 1))) = true)), ((!(decide ((u.getD (u.length - 1 - p) (0, [])).1 < 1))) = true → ((!(decide ((u.getD (u.length - 1 - p) (0, [])).1 < 1))) = true)), ((decide ((u.getD (u.length - 1 - p) (0, [])).1 < 1)) = false → (!(decide ((u.getD (u.length - 1 - p) (0, [])).1 < 1))) = true)] [(21, .bool ((decide ((u.getD (u.length - 1 - p) (0, [])).1 < 1)) || (decide ((u.getD (u.length - 1 - p) (0, [])).1 > 65536))))] [] (by kernel_rfl) ?_ ?_
   ·
    refine (ap ?_ (ap ?_ (ap (by exact vcNot) az)))
    all_goals
     first | omega | trivial | (simp only [List.length_set, List.length_append, List.length_replicate]; omega) | exact ⟨hw4.1, hw4.2, by simp only [List.length_set, List.length_append, List.length_replicate]; unfold maxLen; omega⟩ | (first | omega | exact id | exact vcNot | exact vcG | exact vcH | (intro _; omega) | exact (fun _ h => h) | (intro h; simp at h; omega) | (simp only [List.length_cons, List.length_nil, List.length_append, List.length_map, List.length_set, List.length_replicate]; omega) | (intro h; simp [h]; done)) | (constructor <;> omega)
   refine fin_then ?_
   refine tri_cond (b := ((decide ((u.getD (u.length - 1 - p) (0, [])).1 < 1)) || (decide ((u.getD (u.length - 1 - p) (0, [])).1 > 65536)))) (by kernel_rfl) (fun hb0 => ?_) (fun hb0 => ?_)
   ·
    skip
    have h0 := hb0
    try simp only [Bool.or_eq_true, Bool.or_eq_false_iff, Bool.and_eq_true, Bool.and_eq_false_iff, Bool.not_eq_true', Bool.not_eq_false', decide_eq_true_eq, decide_eq_false_iff_not, bne_iff_ne, bne_eq_false_iff_eq, beq_iff_eq, beq_eq_false_iff_ne] at h0
    refine tri_exit ?_
    refine fin_then_exit ?_
    refine fin_block_same ?_
    refine fin_ren (ρ := [(970, .to 970), (0, .to 0), (10, .to 10)]) (keys := []) (E' := []) (H' := [(970, .other l0 (.loop r0)), (0, .box [.row 10]), (10, .row 4 (.bools (Cn.backTo u a p)))]) (by kernel_rfl) ?_
    refine fin_rnext (()) ?_ ?_
    ·
     show True
     trivial
    ·
     exact Eq.trans (show _ = [(970, .other l0 (.loop r0)), (0, .box [.row 10]), (10, .row 4 (.bools (Cn.backTo u a p)))] from by kernel_rfl) (consH rfl (consH rfl (consH (congrArg (fun x => ((10 : Nat), x)) (congrArg (fun x => AObj.row 4 (.bools x)) (show (Cn.backTo u a p) = (Cn.backTo u a (p + 1)) from (by rw [Cn.backTo_succ hi0]; first | exact Cn.bs_skip (by omega) | exact Cn.bs_app (by omega) (by omega) | exact Cn.bs_no (by omega) (by omega))))) rfl)))
   ·
    skip
    have h0 := hb0
    try simp only [Bool.or_eq_true, Bool.or_eq_false_iff, Bool.and_eq_true, Bool.and_eq_false_iff, Bool.not_eq_true', Bool.not_eq_false', decide_eq_true_eq, decide_eq_false_iff_not, bne_iff_ne, bne_eq_false_iff_eq, beq_iff_eq, beq_eq_false_iff_ne] at h0
    refine tri_skip ?_
    refine fin_then ?_
    refine tri_seq ?_
    refine tri_seq ?_
    refine tri_regD hcx [] [7] [3, 6] [970, 0, 10, 606] [Fit ((u.getD (u.length - 1 - p) (0, [])).1 + 1), Fit (((u.getD (u.length - 1 - p) (0, [])).1 + 1) - ((Cn.backTo u a p).length : Int))] [(7, .int (((u.getD (u.length - 1 - p) (0, [])).1 + 1) - ((Cn.backTo u a p).length : Int)))] [] (by kernel_rfl) ?_ ?_
    ·
     refine (ap ?_ (ap ?_ az))
     all_goals
      first | omega | trivial | (simp only [List.length_set, List.length_append, List.length_replicate]; omega) | exact ⟨hw4.1, hw4.2, by simp only [List.length_set, List.length_append, List.length_replicate]; unfold maxLen; omega⟩ | (first | omega | exact id | exact vcNot | exact vcG | exact vcH | (intro _; omega) | exact (fun _ h => h) | (intro h; simp at h; omega) | (simp only [List.length_cons, List.length_nil, List.length_append, List.length_map, List.length_set, List.length_replicate]; omega) | (intro h; simp [h]; done)) | (constructor <;> omega)
    refine fin_then ?_
    refine tri_seq ?_
    refine tri_regD hcx [] [29] [7, 3, 6] [970, 0, 10, 606] [] [(29, .bool (decide ((((u.getD (u.length - 1 - p) (0, [])).1 + 1) - ((Cn.backTo u a p).length : Int)) > 0)))] [] (by kernel_rfl) ?_ ?_
    ·
     exact az
    refine fin_then ?_
    refine tri_cond (b := (decide ((((u.getD (u.length - 1 - p) (0, [])).1 + 1) - ((Cn.backTo u a p).length : Int)) > 0))) (by kernel_rfl) (fun hb1 => ?_) (fun hb1 => ?_)
    ·
     skip
     have h1 := of_decide_eq_true hb1
     refine tri_regD hcx [(0, .to 0), (1002, .to 10)] [] [3, 6] [970, 606] [((0 : Int) ≤ (((u.getD (u.length - 1 - p) (0, [])).1 + 1) - ((Cn.backTo u a p).length : Int)) ∧ ((Cn.backTo u a p).length + (((u.getD (u.length - 1 - p) (0, [])).1 + 1) - ((Cn.backTo u a p).length : Int)).toNat) * 1 ≤ 140737488355328)] [] [(0, .box [.row 10]), (10, .row 4 (.bools ((Cn.backTo u a p) ++ List.replicate (((u.getD (u.length - 1 - p) (0, [])).1 + 1) - ((Cn.backTo u a p).length : Int)).toNat false)))] (by kernel_rfl) ?_ ?_
     ·
      refine (ap ?_ az)
      first | omega | trivial | (simp only [List.length_set, List.length_append, List.length_replicate]; omega) | exact ⟨hw4.1, hw4.2, by simp only [List.length_set, List.length_append, List.length_replicate]; unfold maxLen; omega⟩ | (first | omega | exact id | exact vcNot | exact vcG | exact vcH | (intro _; omega) | exact (fun _ h => h) | (intro h; simp at h; omega) | (simp only [List.length_cons, List.length_nil, List.length_append, List.length_map, List.length_set, List.length_replicate]; omega) | (intro h; simp [h]; done)) | (constructor <;> omega)
     refine fin_then ?_
     refine tri_seq ?_
     refine tri_regD hcx [(10, .to 10)] [] [3, 6] [0, 970, 606] [((0 : Int) ≤ (u.getD (u.length - 1 - p) (0, [])).1 ∧ (u.getD (u.length - 1 - p) (0, [])).1 < (((Cn.backTo u a p) ++ List.replicate (((u.getD (u.length - 1 - p) (0, [])).1 + 1) - ((Cn.backTo u a p).length : Int)).toNat false).length : Int)), ((((u.getD (u.length - 1 - p) (0, [])).1).toNat) < ((Cn.backTo u a p) ++ List.replicate (((u.getD (u.length - 1 - p) (0, [])).1 + 1) - ((Cn.backTo u a p).length : Int)).toNat false).length)] [] [(10, .row 4 (.bools (((Cn.backTo u a p) ++ List.replicate (((u.getD (u.length - 1 - p) (0, [])).1 + 1) - ((Cn.backTo u a p).length : Int)).toNat false).set (((u.getD (u.length - 1 - p) (0, [])).1).toNat) false)))] (by kernel_rfl) ?_ ?_
     ·
      refine (ap ?_ (ap ?_ az))
      all_goals
       first | omega | trivial | (simp only [List.length_set, List.length_append, List.length_replicate]; omega) | exact ⟨hw4.1, hw4.2, by simp only [List.length_set, List.length_append, List.length_replicate]; unfold maxLen; omega⟩ | (first | omega | exact id | exact vcNot | exact vcG | exact vcH | (intro _; omega) | exact (fun _ h => h) | (intro h; simp at h; omega) | (simp only [List.length_cons, List.length_nil, List.length_append, List.length_map, List.length_set, List.length_replicate]; omega) | (intro h; simp [h]; done)) | (constructor <;> omega)
     refine fin_then ?_
     refine tri_drawD [0, 0, 2, 0, 8, 0, 56, 127, 255] hcx hmx [(10, .to 10)] [] [] [0, 970] [(((u.getD (u.length - 1 - p) (0, [])).2).length ≤ maxLen ∧ (∀ l ∈ ((u.getD (u.length - 1 - p) (0, [])).2), l.length ≤ maxLen) ∧ (((Cn.backTo u a p) ++ List.replicate (((u.getD (u.length - 1 - p) (0, [])).1 + 1) - ((Cn.backTo u a p).length : Int)).toNat false).set (((u.getD (u.length - 1 - p) (0, [])).1).toNat) false).length ≤ maxLen), ((0 : Int) ≤ (u.getD (u.length - 1 - p) (0, [])).1 ∧ (u.getD (u.length - 1 - p) (0, [])).1 < ((((Cn.backTo u a p) ++ List.replicate (((u.getD (u.length - 1 - p) (0, [])).1 + 1) - ((Cn.backTo u a p).length : Int)).toNat false).set (((u.getD (u.length - 1 - p) (0, [])).1).toNat) false).length : Int)), ((((u.getD (u.length - 1 - p) (0, [])).1).toNat) < (((Cn.backTo u a p) ++ List.replicate (((u.getD (u.length - 1 - p) (0, [])).1 + 1) - ((Cn.backTo u a p).length : Int)).toNat false).set (((u.getD (u.length - 1 - p) (0, [])).1).toNat) false).length)] [] [(10, .row 4 (.bools ((((Cn.backTo u a p) ++ List.replicate (((u.getD (u.length - 1 - p) (0, [])).1 + 1) - ((Cn.backTo u a p).length : Int)).toNat false).set (((u.getD (u.length - 1 - p) (0, [])).1).toNat) false).set (((u.getD (u.length - 1 - p) (0, [])).1).toNat) (((u.getD (u.length - 1 - p) (0, [])).2).any (fun x => !(Cn.holdsV (((Cn.backTo u a p) ++ List.replicate (((u.getD (u.length - 1 - p) (0, [])).1 + 1) - ((Cn.backTo u a p).length : Int)).toNat false).set (((u.getD (u.length - 1 - p) (0, [])).1).toNat) false) x))))))] (by kernel_rfl) ?_ ?_
     ·
      refine (ap ?_ (ap ?_ (ap ?_ az)))
      all_goals
       first | omega | trivial | (simp only [List.length_set, List.length_append, List.length_replicate]; omega) | exact ⟨hw4.1, hw4.2, by simp only [List.length_set, List.length_append, List.length_replicate]; unfold maxLen; omega⟩ | (first | omega | exact id | exact vcNot | exact vcG | exact vcH | (intro _; omega) | exact (fun _ h => h) | (intro h; simp at h; omega) | (simp only [List.length_cons, List.length_nil, List.length_append, List.length_map, List.length_set, List.length_replicate]; omega) | (intro h; simp [h]; done)) | (constructor <;> omega)
     refine fin_block ?_
     refine fin_ren (ρ := [(970, .to 970), (0, .to 0), (10, .to 10)]) (keys := []) (E' := []) (H' := [(970, .other l0 (.loop r0)), (0, .box [.row 10]), (10, .row 4 (.bools ((((Cn.backTo u a p) ++ List.replicate (((u.getD (u.length - 1 - p) (0, [])).1 + 1) - ((Cn.backTo u a p).length : Int)).toNat false).set (((u.getD (u.length - 1 - p) (0, [])).1).toNat) false).set (((u.getD (u.length - 1 - p) (0, [])).1).toNat) (((u.getD (u.length - 1 - p) (0, [])).2).any (fun x => !(Cn.holdsV (((Cn.backTo u a p) ++ List.replicate (((u.getD (u.length - 1 - p) (0, [])).1 + 1) - ((Cn.backTo u a p).length : Int)).toNat false).set (((u.getD (u.length - 1 - p) (0, [])).1).toNat) false) x))))))]) (by kernel_rfl) ?_
     refine fin_rnext (()) ?_ ?_
     ·
      show True
      trivial
     ·
      exact Eq.trans (show _ = [(970, .other l0 (.loop r0)), (0, .box [.row 10]), (10, .row 4 (.bools ((((Cn.backTo u a p) ++ List.replicate (((u.getD (u.length - 1 - p) (0, [])).1 + 1) - ((Cn.backTo u a p).length : Int)).toNat false).set (((u.getD (u.length - 1 - p) (0, [])).1).toNat) false).set (((u.getD (u.length - 1 - p) (0, [])).1).toNat) (((u.getD (u.length - 1 - p) (0, [])).2).any (fun x => !(Cn.holdsV (((Cn.backTo u a p) ++ List.replicate (((u.getD (u.length - 1 - p) (0, [])).1 + 1) - ((Cn.backTo u a p).length : Int)).toNat false).set (((u.getD (u.length - 1 - p) (0, [])).1).toNat) false) x))))))] from by kernel_rfl) (consH rfl (consH rfl (consH (congrArg (fun x => ((10 : Nat), x)) (congrArg (fun x => AObj.row 4 (.bools x)) (show ((((Cn.backTo u a p) ++ List.replicate (((u.getD (u.length - 1 - p) (0, [])).1 + 1) - ((Cn.backTo u a p).length : Int)).toNat false).set (((u.getD (u.length - 1 - p) (0, [])).1).toNat) false).set (((u.getD (u.length - 1 - p) (0, [])).1).toNat) (((u.getD (u.length - 1 - p) (0, [])).2).any (fun x => !(Cn.holdsV (((Cn.backTo u a p) ++ List.replicate (((u.getD (u.length - 1 - p) (0, [])).1 + 1) - ((Cn.backTo u a p).length : Int)).toNat false).set (((u.getD (u.length - 1 - p) (0, [])).1).toNat) false) x)))) = (Cn.backTo u a (p + 1)) from (by rw [Cn.backTo_succ hi0]; first | exact Cn.bs_skip (by omega) | exact Cn.bs_app (by omega) (by omega) | exact Cn.bs_no (by omega) (by omega))))) rfl)))
    ·
     skip
     have h1 := of_decide_eq_false hb1
     refine tri_skip ?_
     refine fin_then ?_
     refine tri_seq ?_
     refine tri_regD hcx [(10, .to 10)] [] [3, 6] [970, 0, 606] [((0 : Int) ≤ (u.getD (u.length - 1 - p) (0, [])).1 ∧ (u.getD (u.length - 1 - p) (0, [])).1 < ((Cn.backTo u a p).length : Int)), ((((u.getD (u.length - 1 - p) (0, [])).1).toNat) < (Cn.backTo u a p).length)] [] [(10, .row 4 (.bools ((Cn.backTo u a p).set (((u.getD (u.length - 1 - p) (0, [])).1).toNat) false)))] (by kernel_rfl) ?_ ?_
     ·
      refine (ap ?_ (ap ?_ az))
      all_goals
       first | omega | trivial | (simp only [List.length_set, List.length_append, List.length_replicate]; omega) | exact ⟨hw4.1, hw4.2, by simp only [List.length_set, List.length_append, List.length_replicate]; unfold maxLen; omega⟩ | (first | omega | exact id | exact vcNot | exact vcG | exact vcH | (intro _; omega) | exact (fun _ h => h) | (intro h; simp at h; omega) | (simp only [List.length_cons, List.length_nil, List.length_append, List.length_map, List.length_set, List.length_replicate]; omega) | (intro h; simp [h]; done)) | (constructor <;> omega)
     refine fin_then ?_
     refine tri_drawD [0, 0, 2, 0, 8, 0, 56, 127, 255] hcx hmx [(10, .to 10)] [] [] [970, 0] [(((u.getD (u.length - 1 - p) (0, [])).2).length ≤ maxLen ∧ (∀ l ∈ ((u.getD (u.length - 1 - p) (0, [])).2), l.length ≤ maxLen) ∧ ((Cn.backTo u a p).set (((u.getD (u.length - 1 - p) (0, [])).1).toNat) false).length ≤ maxLen), ((0 : Int) ≤ (u.getD (u.length - 1 - p) (0, [])).1 ∧ (u.getD (u.length - 1 - p) (0, [])).1 < (((Cn.backTo u a p).set (((u.getD (u.length - 1 - p) (0, [])).1).toNat) false).length : Int)), ((((u.getD (u.length - 1 - p) (0, [])).1).toNat) < ((Cn.backTo u a p).set (((u.getD (u.length - 1 - p) (0, [])).1).toNat) false).length)] [] [(10, .row 4 (.bools (((Cn.backTo u a p).set (((u.getD (u.length - 1 - p) (0, [])).1).toNat) false).set (((u.getD (u.length - 1 - p) (0, [])).1).toNat) (((u.getD (u.length - 1 - p) (0, [])).2).any (fun x => !(Cn.holdsV ((Cn.backTo u a p).set (((u.getD (u.length - 1 - p) (0, [])).1).toNat) false) x))))))] (by kernel_rfl) ?_ ?_
     ·
      refine (ap ?_ (ap ?_ (ap ?_ az)))
      all_goals
       first | omega | trivial | (simp only [List.length_set, List.length_append, List.length_replicate]; omega) | exact ⟨hw4.1, hw4.2, by simp only [List.length_set, List.length_append, List.length_replicate]; unfold maxLen; omega⟩ | (first | omega | exact id | exact vcNot | exact vcG | exact vcH | (intro _; omega) | exact (fun _ h => h) | (intro h; simp at h; omega) | (simp only [List.length_cons, List.length_nil, List.length_append, List.length_map, List.length_set, List.length_replicate]; omega) | (intro h; simp [h]; done)) | (constructor <;> omega)
     refine fin_block ?_
     refine fin_ren (ρ := [(970, .to 970), (0, .to 0), (10, .to 10)]) (keys := []) (E' := []) (H' := [(970, .other l0 (.loop r0)), (0, .box [.row 10]), (10, .row 4 (.bools (((Cn.backTo u a p).set (((u.getD (u.length - 1 - p) (0, [])).1).toNat) false).set (((u.getD (u.length - 1 - p) (0, [])).1).toNat) (((u.getD (u.length - 1 - p) (0, [])).2).any (fun x => !(Cn.holdsV ((Cn.backTo u a p).set (((u.getD (u.length - 1 - p) (0, [])).1).toNat) false) x))))))]) (by kernel_rfl) ?_
     refine fin_rnext (()) ?_ ?_
     ·
      show True
      trivial
     ·
      exact Eq.trans (show _ = [(970, .other l0 (.loop r0)), (0, .box [.row 10]), (10, .row 4 (.bools (((Cn.backTo u a p).set (((u.getD (u.length - 1 - p) (0, [])).1).toNat) false).set (((u.getD (u.length - 1 - p) (0, [])).1).toNat) (((u.getD (u.length - 1 - p) (0, [])).2).any (fun x => !(Cn.holdsV ((Cn.backTo u a p).set (((u.getD (u.length - 1 - p) (0, [])).1).toNat) false) x))))))] from by kernel_rfl) (consH rfl (consH rfl (consH (congrArg (fun x => ((10 : Nat), x)) (congrArg (fun x => AObj.row 4 (.bools x)) (show (((Cn.backTo u a p).set (((u.getD (u.length - 1 - p) (0, [])).1).toNat) false).set (((u.getD (u.length - 1 - p) (0, [])).1).toNat) (((u.getD (u.length - 1 - p) (0, [])).2).any (fun x => !(Cn.holdsV ((Cn.backTo u a p).set (((u.getD (u.length - 1 - p) (0, [])).1).toNat) false) x)))) = (Cn.backTo u a (p + 1)) from (by rw [Cn.backTo_succ hi0]; first | exact Cn.bs_skip (by omega) | exact Cn.bs_app (by omega) (by omega) | exact Cn.bs_no (by omega) (by omega))))) rfl)))
  ·
   intro D0 un hI0
   replace hI0 : True := hI0
   change Fin _ [(3, .loc 0 0), (4, .im (.val (.slice none 0 0))), (11, .clo 54 [.pto [.ls (.undos u)]])] [(989, .other D0 dfr), (0, .box [.row 10]), (10, .row 4 (.bools (Cn.backTo u a u.length)))] _ _
   refine fin_block ?_
   refine fin_then ?_
   refine tri_seq ?_
   refine tri_regD hcx [] [4] [] [989, 10] [] [(4, .row 10)] [] (by kernel_rfl) ?_ ?_
   ·
    exact az
   refine fin_then ?_
   refine tri_ret ?_
   refine fin_ren (ρ := [(10, .to 0), (989, .to 989)]) (keys := [4]) (E' := [(4, .row 0)]) (H' := [(0, .row 4 (.bools (Cn.backTo u a u.length))), (989, .other D0 dfr)]) (by kernel_rfl) ?_
   exact fin_retM _ rfl [(989, D0)] rfl rfl ⟨rfl, trivial⟩ hcx (avs := [.row 0]) (by kernel_rfl) rfl [true] (Eq.trans (show _ = [some (.row 4 (.bools (Cn.backTo u a u.length)))] from by kernel_rfl) (consO (congrArg some (congrArg (fun x => AObj.row 4 (.bools x)) (show (Cn.backTo u a u.length) = (Cn.backF u a) from (by exact Cn.backTo_all)))) rfl))
 ·
  cases hσ
end Go.Proofs.Ythhfdjcaafckbaa.En
