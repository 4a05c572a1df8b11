/- Laws of layer 23, in the reader's words. -/
import Derived.Test.YthhfdjcaafckbaaElimS
import Derived.Test.YthhfdjcaafckbaaBackS
import Derived.Test.YthhfdjcaafckbaaRef23S
import Derived.Test.YthhfdjcaafckbaaLaw23P
import Derived.Test.YthhfdjcaafckbaaFewU
namespace Go.Proofs.Ythhfdjcaafckbaa.En
open Go Go.RowKit
set_option linter.unusedVariables false
set_option linter.unusedSimpArgs false
set_option linter.unnecessarySimpa false
def tyL23 : List (Nat × TD) := [(3, ⟨1, false, [.int .i64 0], [], none, 8, false, 1, 1⟩),
  (4, ⟨1, false, [.bool false], [], none, 1, true, 0, 2⟩),
  (22, ⟨1, false, [.slice none 0 0], [], some 43, 24, false, 0, 0⟩),
  (24, ⟨2, true, [.int .i64 0, .slice none 0 0], [(0, 3), (1, 22)], none, 32, false, 0, 6⟩),
  (28, ⟨2, true, [.int .i64 0, .slice none 0 0], [(0, 3), (1, 22)], none, 32, false, 0, 6⟩),
  (29, ⟨1, false, [.int .i64 0], [], none, 8, false, 1, 1⟩),
  (34, ⟨1, false, [.slice none 0 0], [], some 28, 24, false, 0, 0⟩),
  (36, ⟨1, false, [.slice none 0 0], [], some 4, 24, false, 0, 0⟩),
  (43, ⟨1, false, [.slice none 0 0], [], some 3, 24, false, 0, 3⟩)]
theorem tyL23_ok : AllTy Try.prog tyL23 := ⟨⟨by kernel_rfl, by kernel_rfl⟩, ⟨by kernel_rfl, by kernel_rfl⟩, ⟨by kernel_rfl, by kernel_rfl⟩, ⟨by kernel_rfl, by kernel_rfl⟩, ⟨by kernel_rfl, by kernel_rfl⟩, ⟨by kernel_rfl, by kernel_rfl⟩, ⟨by kernel_rfl, by kernel_rfl⟩, ⟨by kernel_rfl, by kernel_rfl⟩, ⟨by kernel_rfl, by kernel_rfl⟩, trivial⟩
def cx_live23 : Cx := ⟨tyL23, [(12, (coeF [.agg [.id, .ld (.intss [])], .id] eOutF_σ)), (18, (coeF [.ld (.undos []), .ld (.bools [])] eBack_σ)), (13, (coeF [.agg [.id, .ld (.intss [])], .id] qOut_σ)), (19, (coeF [.ld (.undos []), .ld (.bools [])] qBack_σ)), (11, (coeF [.agg [.id, .ld (.intss [])], .id, .id] qFew_σ)), (15, (coeF [.ld (.undos []), .ld (.undos [])] qUndos_σ)), (17, (coeF [.ld (.bools []), .ld (.bools [])] qBools_σ)), (14, (coeF [.agg [.id, .ld (.intss [])], .agg [.id, .ld (.intss [])]] rSame_σ))]⟩
theorem cx_live23_ok : CxOk Try.prog cx_live23 := cx_ok tyL23_ok ⟨(eOutF_sound.coe [.agg [.id, .ld (.intss [])], .id] rfl), (eBack_sound.coe [.ld (.undos []), .ld (.bools [])] rfl), (qOut_sound.coe [.agg [.id, .ld (.intss [])], .id] rfl), (qBack_sound.coe [.ld (.undos []), .ld (.bools [])] rfl), (qFew_sound.coe [.agg [.id, .ld (.intss [])], .id, .id] rfl), (qUndos_sound.coe [.ld (.undos []), .ld (.undos [])] rfl), (qBools_sound.coe [.ld (.bools []), .ld (.bools [])] rfl), (rSame_sound.coe [.agg [.id, .ld (.intss [])], .agg [.id, .ld (.intss [])]] rfl), trivial⟩
def live23_σ : CtF
  | [], [] => some (True, .bool true, [])
  | _, _ => none
theorem live23_sound : Sound Try.prog 10 live23_σ := by
 refine sound_mk (cx := cx_live23) (fn := Try.f10) Try.func10 (by kernel_rfl) rfl ?_
 intro w0 G0 args os p r outs hσ hp hm0 hd0
 have hcx : CxOk Try.prog cx_live23 := cx_live23_ok
 unfold live23_σ at hσ
 split at hσ
 ·
  skip
  simp only [Option.some.injEq, Prod.mk.injEq] at hσ
  obtain ⟨rfl, rfl, rfl⟩ := hσ
  obtain ⟨wW, wO, wm, wβ, wd⟩ := w0
  replace hm0 : wm = 0 := hm0
  subst hm0
  replace hd0 : wd = [] := hd0
  subst hd0
  refine ⟨by kernel_rfl, ?_⟩
  change Tri ⟨_, _, _, _, _, _⟩ [] [] _ _
  obtain ⟨hE, hN3, hX, hV, hU⟩ := Cn.live_ok
  have hE4 := Cn.live_no
  refine tri_seq ?_
  refine tri_regD hcx [] [] [] [] [] [] [] (by kernel_rfl) ?_ ?_
  ·
   exact az
  refine fin_then ?_
  refine tri_seq ?_
  refine tri_regD hcx [(1005, .to 601)] [1] [] [] [] [(1, .loc 601 0)] [(601, .box [.int 3, .intss [[1, 2], [(-1), 3], [2, 3]]])] (by kernel_rfl) ?_ ?_
  ·
   exact az
  refine fin_then ?_
  refine tri_seq ?_
  refine tri_regD hcx [(1006, .to 602), (1007, .to 603), (1001, .frz), (2001, .frz)] [2, 3, 4] [1] [601] [([[1, 2], [(-1), 3], [2, 3]].length ≤ 10000 ∧ (∀ l ∈ [[1, 2], [(-1), 3], [2, 3]], l.length ≤ 1000))] [(2, .loc 602 0), (3, .loc 603 0), (4, .int (Cn.ouE (3 : Int) [[1, 2], [(-1), 3], [2, 3]] (1 : Int)))] [(602, .box [.int (Cn.ouN (3 : Int) [[1, 2], [(-1), 3], [2, 3]] (1 : Int)), .intss (Cn.ouX (3 : Int) [[1, 2], [(-1), 3], [2, 3]] (1 : Int))]), (603, .box [.int (Cn.ouV (3 : Int) [[1, 2], [(-1), 3], [2, 3]] (1 : Int)), .intss (Cn.ouU (3 : Int) [[1, 2], [(-1), 3], [2, 3]] (1 : Int))])] (by kernel_rfl) ?_ ?_
  ·
   refine (ap ?_ az)
   first | decide | (intro _; decide) | (simp only [hX, hN3, hV, hU, hE, hE4]; decide) | (intro _; simp only [hX, hN3, hV, hU, hE, hE4]; decide) | trivial
  refine fin_then ?_
  refine tri_seq ?_
  refine tri_regD hcx [(1003, .frz)] [5] [2, 3, 4, 1] [602, 603, 601] [([((Cn.ouV (3 : Int) [[1, 2], [(-1), 3], [2, 3]] (1 : Int)), (Cn.ouU (3 : Int) [[1, 2], [(-1), 3], [2, 3]] (1 : Int)))].length ≤ maxLen ∧ (∀ w ∈ [((Cn.ouV (3 : Int) [[1, 2], [(-1), 3], [2, 3]] (1 : Int)), (Cn.ouU (3 : Int) [[1, 2], [(-1), 3], [2, 3]] (1 : Int)))], w.2.length ≤ maxLen ∧ ∀ l ∈ w.2, l.length ≤ maxLen) ∧ [false, true, true, false].length ≤ 1000000)] [(5, .bools (Cn.backF [((Cn.ouV (3 : Int) [[1, 2], [(-1), 3], [2, 3]] (1 : Int)), (Cn.ouU (3 : Int) [[1, 2], [(-1), 3], [2, 3]] (1 : Int)))] [false, true, true, false]))] [] (by kernel_rfl) ?_ ?_
  ·
   refine (ap ?_ az)
   first | decide | (intro _; decide) | (simp only [hX, hN3, hV, hU, hE, hE4]; decide) | (intro _; simp only [hX, hN3, hV, hU, hE, hE4]; decide) | trivial
  refine fin_then ?_
  refine tri_seq ?_
  refine tri_regD hcx [(1003, .frz)] [6] [5, 2, 3, 4, 1] [602, 603, 601] [([((Cn.ouV (3 : Int) [[1, 2], [(-1), 3], [2, 3]] (1 : Int)), (Cn.ouU (3 : Int) [[1, 2], [(-1), 3], [2, 3]] (1 : Int)))].length ≤ maxLen ∧ (∀ w ∈ [((Cn.ouV (3 : Int) [[1, 2], [(-1), 3], [2, 3]] (1 : Int)), (Cn.ouU (3 : Int) [[1, 2], [(-1), 3], [2, 3]] (1 : Int)))], w.2.length ≤ maxLen ∧ ∀ l ∈ w.2, l.length ≤ maxLen) ∧ [false, false, false, true].length ≤ 1000000)] [(6, .bools (Cn.backF [((Cn.ouV (3 : Int) [[1, 2], [(-1), 3], [2, 3]] (1 : Int)), (Cn.ouU (3 : Int) [[1, 2], [(-1), 3], [2, 3]] (1 : Int)))] [false, false, false, true]))] [] (by kernel_rfl) ?_ ?_
  ·
   refine (ap ?_ az)
   first | decide | (intro _; decide) | (simp only [hX, hN3, hV, hU, hE, hE4]; decide) | (intro _; simp only [hX, hN3, hV, hU, hE, hE4]; decide) | trivial
  refine fin_then ?_
  refine tri_seq ?_
  refine tri_regD hcx [] [9] [6, 5, 2, 3, 4] [602, 603] [([[1, 2], [(-1), 3], [2, 3]].length ≤ 10000 ∧ (∀ l ∈ [[1, 2], [(-1), 3], [2, 3]], l.length ≤ 1000))] [(9, .int (Cn.ouE (3 : Int) [[1, 2], [(-1), 3], [2, 3]] (4 : Int)))] [] (by kernel_rfl) ?_ ?_
  ·
   refine (ap ?_ az)
   first | decide | (intro _; decide) | (simp only [hX, hN3, hV, hU, hE, hE4]; decide) | (intro _; simp only [hX, hN3, hV, hU, hE, hE4]; decide) | trivial
  refine fin_then ?_
  refine tri_seq ?_
  refine tri_regD hcx [] [0] [] [] [((Cn.ouX (3 : Int) [[1, 2], [(-1), 3], [2, 3]] (1 : Int)).length ≤ maxLen ∧ ∀ l ∈ (Cn.ouX (3 : Int) [[1, 2], [(-1), 3], [2, 3]] (1 : Int)), l.length ≤ maxLen), ((((Cn.ouN (3 : Int) [[1, 2], [(-1), 3], [2, 3]] (1 : Int)) == (3 : Int)) && decide ((Cn.ouX (3 : Int) [[1, 2], [(-1), 3], [2, 3]] (1 : Int)) = [[2, 3], [2, 3]])) = true → ((((Cn.ouN (3 : Int) [[1, 2], [(-1), 3], [2, 3]] (1 : Int)) == (3 : Int)) && decide ((Cn.ouX (3 : Int) [[1, 2], [(-1), 3], [2, 3]] (1 : Int)) = [[2, 3], [2, 3]])) = true)), ((((Cn.ouN (3 : Int) [[1, 2], [(-1), 3], [2, 3]] (1 : Int)) == (3 : Int)) && decide ((Cn.ouX (3 : Int) [[1, 2], [(-1), 3], [2, 3]] (1 : Int)) = [[2, 3], [2, 3]])) = true → (((Cn.ouN (3 : Int) [[1, 2], [(-1), 3], [2, 3]] (1 : Int)) == (3 : Int)) && decide ((Cn.ouX (3 : Int) [[1, 2], [(-1), 3], [2, 3]] (1 : Int)) = [[2, 3], [2, 3]])) = true), (((((Cn.ouN (3 : Int) [[1, 2], [(-1), 3], [2, 3]] (1 : Int)) == (3 : Int)) && decide ((Cn.ouX (3 : Int) [[1, 2], [(-1), 3], [2, 3]] (1 : Int)) = [[2, 3], [2, 3]])) && ((Cn.ouE (3 : Int) [[1, 2], [(-1), 3], [2, 3]] (1 : Int)) == 0)) = true → (((((Cn.ouN (3 : Int) [[1, 2], [(-1), 3], [2, 3]] (1 : Int)) == (3 : Int)) && decide ((Cn.ouX (3 : Int) [[1, 2], [(-1), 3], [2, 3]] (1 : Int)) = [[2, 3], [2, 3]])) && ((Cn.ouE (3 : Int) [[1, 2], [(-1), 3], [2, 3]] (1 : Int)) == 0)) = true)), (((((Cn.ouN (3 : Int) [[1, 2], [(-1), 3], [2, 3]] (1 : Int)) == (3 : Int)) && decide ((Cn.ouX (3 : Int) [[1, 2], [(-1), 3], [2, 3]] (1 : Int)) = [[2, 3], [2, 3]])) && ((Cn.ouE (3 : Int) [[1, 2], [(-1), 3], [2, 3]] (1 : Int)) == 0)) = true → (((((Cn.ouN (3 : Int) [[1, 2], [(-1), 3], [2, 3]] (1 : Int)) == (3 : Int)) && decide ((Cn.ouX (3 : Int) [[1, 2], [(-1), 3], [2, 3]] (1 : Int)) = [[2, 3], [2, 3]])) && ((Cn.ouE (3 : Int) [[1, 2], [(-1), 3], [2, 3]] (1 : Int)) == 0)) = true)), (((((Cn.ouN (3 : Int) [[1, 2], [(-1), 3], [2, 3]] (1 : Int)) == (3 : Int)) && decide ((Cn.ouX (3 : Int) [[1, 2], [(-1), 3], [2, 3]] (1 : Int)) = [[2, 3], [2, 3]])) && ((Cn.ouE (3 : Int) [[1, 2], [(-1), 3], [2, 3]] (1 : Int)) == 0)) = true → ((((Cn.ouN (3 : Int) [[1, 2], [(-1), 3], [2, 3]] (1 : Int)) == (3 : Int)) && decide ((Cn.ouX (3 : Int) [[1, 2], [(-1), 3], [2, 3]] (1 : Int)) = [[2, 3], [2, 3]])) && ((Cn.ouE (3 : Int) [[1, 2], [(-1), 3], [2, 3]] (1 : Int)) == 0)) = true), ((((((Cn.ouN (3 : Int) [[1, 2], [(-1), 3], [2, 3]] (1 : Int)) == (3 : Int)) && decide ((Cn.ouX (3 : Int) [[1, 2], [(-1), 3], [2, 3]] (1 : Int)) = [[2, 3], [2, 3]])) && ((Cn.ouE (3 : Int) [[1, 2], [(-1), 3], [2, 3]] (1 : Int)) == 0)) && ((Cn.ouV (3 : Int) [[1, 2], [(-1), 3], [2, 3]] (1 : Int)) == 1)) = true → ((((((Cn.ouN (3 : Int) [[1, 2], [(-1), 3], [2, 3]] (1 : Int)) == (3 : Int)) && decide ((Cn.ouX (3 : Int) [[1, 2], [(-1), 3], [2, 3]] (1 : Int)) = [[2, 3], [2, 3]])) && ((Cn.ouE (3 : Int) [[1, 2], [(-1), 3], [2, 3]] (1 : Int)) == 0)) && ((Cn.ouV (3 : Int) [[1, 2], [(-1), 3], [2, 3]] (1 : Int)) == 1)) = true)), ((((((Cn.ouN (3 : Int) [[1, 2], [(-1), 3], [2, 3]] (1 : Int)) == (3 : Int)) && decide ((Cn.ouX (3 : Int) [[1, 2], [(-1), 3], [2, 3]] (1 : Int)) = [[2, 3], [2, 3]])) && ((Cn.ouE (3 : Int) [[1, 2], [(-1), 3], [2, 3]] (1 : Int)) == 0)) && ((Cn.ouV (3 : Int) [[1, 2], [(-1), 3], [2, 3]] (1 : Int)) == 1)) = true → ((((((Cn.ouN (3 : Int) [[1, 2], [(-1), 3], [2, 3]] (1 : Int)) == (3 : Int)) && decide ((Cn.ouX (3 : Int) [[1, 2], [(-1), 3], [2, 3]] (1 : Int)) = [[2, 3], [2, 3]])) && ((Cn.ouE (3 : Int) [[1, 2], [(-1), 3], [2, 3]] (1 : Int)) == 0)) && ((Cn.ouV (3 : Int) [[1, 2], [(-1), 3], [2, 3]] (1 : Int)) == 1)) = true)), ((((((Cn.ouN (3 : Int) [[1, 2], [(-1), 3], [2, 3]] (1 : Int)) == (3 : Int)) && decide ((Cn.ouX (3 : Int) [[1, 2], [(-1), 3], [2, 3]] (1 : Int)) = [[2, 3], [2, 3]])) && ((Cn.ouE (3 : Int) [[1, 2], [(-1), 3], [2, 3]] (1 : Int)) == 0)) && ((Cn.ouV (3 : Int) [[1, 2], [(-1), 3], [2, 3]] (1 : Int)) == 1)) = true → ((((((Cn.ouN (3 : Int) [[1, 2], [(-1), 3], [2, 3]] (1 : Int)) == (3 : Int)) && decide ((Cn.ouX (3 : Int) [[1, 2], [(-1), 3], [2, 3]] (1 : Int)) = [[2, 3], [2, 3]])) && ((Cn.ouE (3 : Int) [[1, 2], [(-1), 3], [2, 3]] (1 : Int)) == 0)) && ((Cn.ouV (3 : Int) [[1, 2], [(-1), 3], [2, 3]] (1 : Int)) == 1)) = true)), ((((((Cn.ouN (3 : Int) [[1, 2], [(-1), 3], [2, 3]] (1 : Int)) == (3 : Int)) && decide ((Cn.ouX (3 : Int) [[1, 2], [(-1), 3], [2, 3]] (1 : Int)) = [[2, 3], [2, 3]])) && ((Cn.ouE (3 : Int) [[1, 2], [(-1), 3], [2, 3]] (1 : Int)) == 0)) && ((Cn.ouV (3 : Int) [[1, 2], [(-1), 3], [2, 3]] (1 : Int)) == 1)) = true → (((((Cn.ouN (3 : Int) [[1, 2], [(-1), 3], [2, 3]] (1 : Int)) == (3 : Int)) && decide ((Cn.ouX (3 : Int) [[1, 2], [(-1), 3], [2, 3]] (1 : Int)) = [[2, 3], [2, 3]])) && ((Cn.ouE (3 : Int) [[1, 2], [(-1), 3], [2, 3]] (1 : Int)) == 0)) && ((Cn.ouV (3 : Int) [[1, 2], [(-1), 3], [2, 3]] (1 : Int)) == 1)) = true), (((((((Cn.ouN (3 : Int) [[1, 2], [(-1), 3], [2, 3]] (1 : Int)) == (3 : Int)) && decide ((Cn.ouX (3 : Int) [[1, 2], [(-1), 3], [2, 3]] (1 : Int)) = [[2, 3], [2, 3]])) && ((Cn.ouE (3 : Int) [[1, 2], [(-1), 3], [2, 3]] (1 : Int)) == 0)) && ((Cn.ouV (3 : Int) [[1, 2], [(-1), 3], [2, 3]] (1 : Int)) == 1)) && (((Cn.ouU (3 : Int) [[1, 2], [(-1), 3], [2, 3]] (1 : Int)).length : Int) == 2)) = true → (((((((Cn.ouN (3 : Int) [[1, 2], [(-1), 3], [2, 3]] (1 : Int)) == (3 : Int)) && decide ((Cn.ouX (3 : Int) [[1, 2], [(-1), 3], [2, 3]] (1 : Int)) = [[2, 3], [2, 3]])) && ((Cn.ouE (3 : Int) [[1, 2], [(-1), 3], [2, 3]] (1 : Int)) == 0)) && ((Cn.ouV (3 : Int) [[1, 2], [(-1), 3], [2, 3]] (1 : Int)) == 1)) && (((Cn.ouU (3 : Int) [[1, 2], [(-1), 3], [2, 3]] (1 : Int)).length : Int) == 2)) = true)), (((((((Cn.ouN (3 : Int) [[1, 2], [(-1), 3], [2, 3]] (1 : Int)) == (3 : Int)) && decide ((Cn.ouX (3 : Int) [[1, 2], [(-1), 3], [2, 3]] (1 : Int)) = [[2, 3], [2, 3]])) && ((Cn.ouE (3 : Int) [[1, 2], [(-1), 3], [2, 3]] (1 : Int)) == 0)) && ((Cn.ouV (3 : Int) [[1, 2], [(-1), 3], [2, 3]] (1 : Int)) == 1)) && (((Cn.ouU (3 : Int) [[1, 2], [(-1), 3], [2, 3]] (1 : Int)).length : Int) == 2)) = true → (((((((Cn.ouN (3 : Int) [[1, 2], [(-1), 3], [2, 3]] (1 : Int)) == (3 : Int)) && decide ((Cn.ouX (3 : Int) [[1, 2], [(-1), 3], [2, 3]] (1 : Int)) = [[2, 3], [2, 3]])) && ((Cn.ouE (3 : Int) [[1, 2], [(-1), 3], [2, 3]] (1 : Int)) == 0)) && ((Cn.ouV (3 : Int) [[1, 2], [(-1), 3], [2, 3]] (1 : Int)) == 1)) && (((Cn.ouU (3 : Int) [[1, 2], [(-1), 3], [2, 3]] (1 : Int)).length : Int) == 2)) = true)), (((((((Cn.ouN (3 : Int) [[1, 2], [(-1), 3], [2, 3]] (1 : Int)) == (3 : Int)) && decide ((Cn.ouX (3 : Int) [[1, 2], [(-1), 3], [2, 3]] (1 : Int)) = [[2, 3], [2, 3]])) && ((Cn.ouE (3 : Int) [[1, 2], [(-1), 3], [2, 3]] (1 : Int)) == 0)) && ((Cn.ouV (3 : Int) [[1, 2], [(-1), 3], [2, 3]] (1 : Int)) == 1)) && (((Cn.ouU (3 : Int) [[1, 2], [(-1), 3], [2, 3]] (1 : Int)).length : Int) == 2)) = true → ((Cn.backF [((Cn.ouV (3 : Int) [[1, 2], [(-1), 3], [2, 3]] (1 : Int)), (Cn.ouU (3 : Int) [[1, 2], [(-1), 3], [2, 3]] (1 : Int)))] [false, true, true, false]).length ≤ maxLen)), (((((((Cn.ouN (3 : Int) [[1, 2], [(-1), 3], [2, 3]] (1 : Int)) == (3 : Int)) && decide ((Cn.ouX (3 : Int) [[1, 2], [(-1), 3], [2, 3]] (1 : Int)) = [[2, 3], [2, 3]])) && ((Cn.ouE (3 : Int) [[1, 2], [(-1), 3], [2, 3]] (1 : Int)) == 0)) && ((Cn.ouV (3 : Int) [[1, 2], [(-1), 3], [2, 3]] (1 : Int)) == 1)) && (((Cn.ouU (3 : Int) [[1, 2], [(-1), 3], [2, 3]] (1 : Int)).length : Int) == 2)) = true → ((((((Cn.ouN (3 : Int) [[1, 2], [(-1), 3], [2, 3]] (1 : Int)) == (3 : Int)) && decide ((Cn.ouX (3 : Int) [[1, 2], [(-1), 3], [2, 3]] (1 : Int)) = [[2, 3], [2, 3]])) && ((Cn.ouE (3 : Int) [[1, 2], [(-1), 3], [2, 3]] (1 : Int)) == 0)) && ((Cn.ouV (3 : Int) [[1, 2], [(-1), 3], [2, 3]] (1 : Int)) == 1)) && (((Cn.ouU (3 : Int) [[1, 2], [(-1), 3], [2, 3]] (1 : Int)).length : Int) == 2)) = true), ((((((((Cn.ouN (3 : Int) [[1, 2], [(-1), 3], [2, 3]] (1 : Int)) == (3 : Int)) && decide ((Cn.ouX (3 : Int) [[1, 2], [(-1), 3], [2, 3]] (1 : Int)) = [[2, 3], [2, 3]])) && ((Cn.ouE (3 : Int) [[1, 2], [(-1), 3], [2, 3]] (1 : Int)) == 0)) && ((Cn.ouV (3 : Int) [[1, 2], [(-1), 3], [2, 3]] (1 : Int)) == 1)) && (((Cn.ouU (3 : Int) [[1, 2], [(-1), 3], [2, 3]] (1 : Int)).length : Int) == 2)) && (decide ((Cn.backF [((Cn.ouV (3 : Int) [[1, 2], [(-1), 3], [2, 3]] (1 : Int)), (Cn.ouU (3 : Int) [[1, 2], [(-1), 3], [2, 3]] (1 : Int)))] [false, true, true, false]) = [false, false, true, false]))) = true → ((((((((Cn.ouN (3 : Int) [[1, 2], [(-1), 3], [2, 3]] (1 : Int)) == (3 : Int)) && decide ((Cn.ouX (3 : Int) [[1, 2], [(-1), 3], [2, 3]] (1 : Int)) = [[2, 3], [2, 3]])) && ((Cn.ouE (3 : Int) [[1, 2], [(-1), 3], [2, 3]] (1 : Int)) == 0)) && ((Cn.ouV (3 : Int) [[1, 2], [(-1), 3], [2, 3]] (1 : Int)) == 1)) && (((Cn.ouU (3 : Int) [[1, 2], [(-1), 3], [2, 3]] (1 : Int)).length : Int) == 2)) && (decide ((Cn.backF [((Cn.ouV (3 : Int) [[1, 2], [(-1), 3], [2, 3]] (1 : Int)), (Cn.ouU (3 : Int) [[1, 2], [(-1), 3], [2, 3]] (1 : Int)))] [false, true, true, false]) = [false, false, true, false]))) = true)), ((((((((Cn.ouN (3 : Int) [[1, 2], [(-1), 3], [2, 3]] (1 : Int)) == (3 : Int)) && decide ((Cn.ouX (3 : Int) [[1, 2], [(-1), 3], [2, 3]] (1 : Int)) = [[2, 3], [2, 3]])) && ((Cn.ouE (3 : Int) [[1, 2], [(-1), 3], [2, 3]] (1 : Int)) == 0)) && ((Cn.ouV (3 : Int) [[1, 2], [(-1), 3], [2, 3]] (1 : Int)) == 1)) && (((Cn.ouU (3 : Int) [[1, 2], [(-1), 3], [2, 3]] (1 : Int)).length : Int) == 2)) && (decide ((Cn.backF [((Cn.ouV (3 : Int) [[1, 2], [(-1), 3], [2, 3]] (1 : Int)), (Cn.ouU (3 : Int) [[1, 2], [(-1), 3], [2, 3]] (1 : Int)))] [false, true, true, false]) = [false, false, true, false]))) = true → ((((((((Cn.ouN (3 : Int) [[1, 2], [(-1), 3], [2, 3]] (1 : Int)) == (3 : Int)) && decide ((Cn.ouX (3 : Int) [[1, 2], [(-1), 3], [2, 3]] (1 : Int)) = [[2, 3], [2, 3]])) && ((Cn.ouE (3 : Int) [[1, 2], [(-1), 3], [2, 3]] (1 : Int)) == 0)) && ((Cn.ouV (3 : Int) [[1, 2], [(-1), 3], [2, 3]] (1 : Int)) == 1)) && (((Cn.ouU (3 : Int) [[1, 2], [(-1), 3], [2, 3]] (1 : Int)).length : Int) == 2)) && (decide ((Cn.backF [((Cn.ouV (3 : Int) [[1, 2], [(-1), 3], [2, 3]] (1 : Int)), (Cn.ouU (3 : Int) [[1, 2], [(-1), 3], [2, 3]] (1 : Int)))] [false, true, true, false]) = [false, false, true, false]))) = true)), ((((((((Cn.ouN (3 : Int) [[1, 2], [(-1), 3], [2, 3]] (1 : Int)) == (3 : Int)) && decide ((Cn.ouX (3 : Int) [[1, 2], [(-1), 3], [2, 3]] (1 : Int)) = [[2, 3], [2, 3]])) && ((Cn.ouE (3 : Int) [[1, 2], [(-1), 3], [2, 3]] (1 : Int)) == 0)) && ((Cn.ouV (3 : Int) [[1, 2], [(-1), 3], [2, 3]] (1 : Int)) == 1)) && (((Cn.ouU (3 : Int) [[1, 2], [(-1), 3], [2, 3]] (1 : Int)).length : Int) == 2)) && (decide ((Cn.backF [((Cn.ouV (3 : Int) [[1, 2], [(-1), 3], [2, 3]] (1 : Int)), (Cn.ouU (3 : Int) [[1, 2], [(-1), 3], [2, 3]] (1 : Int)))] [false, true, true, false]) = [false, false, true, false]))) = true → ((Cn.backF [((Cn.ouV (3 : Int) [[1, 2], [(-1), 3], [2, 3]] (1 : Int)), (Cn.ouU (3 : Int) [[1, 2], [(-1), 3], [2, 3]] (1 : Int)))] [false, false, false, true]).length ≤ maxLen)), ((((((((Cn.ouN (3 : Int) [[1, 2], [(-1), 3], [2, 3]] (1 : Int)) == (3 : Int)) && decide ((Cn.ouX (3 : Int) [[1, 2], [(-1), 3], [2, 3]] (1 : Int)) = [[2, 3], [2, 3]])) && ((Cn.ouE (3 : Int) [[1, 2], [(-1), 3], [2, 3]] (1 : Int)) == 0)) && ((Cn.ouV (3 : Int) [[1, 2], [(-1), 3], [2, 3]] (1 : Int)) == 1)) && (((Cn.ouU (3 : Int) [[1, 2], [(-1), 3], [2, 3]] (1 : Int)).length : Int) == 2)) && (decide ((Cn.backF [((Cn.ouV (3 : Int) [[1, 2], [(-1), 3], [2, 3]] (1 : Int)), (Cn.ouU (3 : Int) [[1, 2], [(-1), 3], [2, 3]] (1 : Int)))] [false, true, true, false]) = [false, false, true, false]))) = true → (((((((Cn.ouN (3 : Int) [[1, 2], [(-1), 3], [2, 3]] (1 : Int)) == (3 : Int)) && decide ((Cn.ouX (3 : Int) [[1, 2], [(-1), 3], [2, 3]] (1 : Int)) = [[2, 3], [2, 3]])) && ((Cn.ouE (3 : Int) [[1, 2], [(-1), 3], [2, 3]] (1 : Int)) == 0)) && ((Cn.ouV (3 : Int) [[1, 2], [(-1), 3], [2, 3]] (1 : Int)) == 1)) && (((Cn.ouU (3 : Int) [[1, 2], [(-1), 3], [2, 3]] (1 : Int)).length : Int) == 2)) && (decide ((Cn.backF [((Cn.ouV (3 : Int) [[1, 2], [(-1), 3], [2, 3]] (1 : Int)), (Cn.ouU (3 : Int) [[1, 2], [(-1), 3], [2, 3]] (1 : Int)))] [false, true, true, false]) = [false, false, true, false]))) = true), (((((((((Cn.ouN (3 : Int) [[1, 2], [(-1), 3], [2, 3]] (1 : Int)) == (3 : Int)) && decide ((Cn.ouX (3 : Int) [[1, 2], [(-1), 3], [2, 3]] (1 : Int)) = [[2, 3], [2, 3]])) && ((Cn.ouE (3 : Int) [[1, 2], [(-1), 3], [2, 3]] (1 : Int)) == 0)) && ((Cn.ouV (3 : Int) [[1, 2], [(-1), 3], [2, 3]] (1 : Int)) == 1)) && (((Cn.ouU (3 : Int) [[1, 2], [(-1), 3], [2, 3]] (1 : Int)).length : Int) == 2)) && (decide ((Cn.backF [((Cn.ouV (3 : Int) [[1, 2], [(-1), 3], [2, 3]] (1 : Int)), (Cn.ouU (3 : Int) [[1, 2], [(-1), 3], [2, 3]] (1 : Int)))] [false, true, true, false]) = [false, false, true, false]))) && (decide ((Cn.backF [((Cn.ouV (3 : Int) [[1, 2], [(-1), 3], [2, 3]] (1 : Int)), (Cn.ouU (3 : Int) [[1, 2], [(-1), 3], [2, 3]] (1 : Int)))] [false, false, false, true]) = [false, true, false, true]))) = true → (((((((((Cn.ouN (3 : Int) [[1, 2], [(-1), 3], [2, 3]] (1 : Int)) == (3 : Int)) && decide ((Cn.ouX (3 : Int) [[1, 2], [(-1), 3], [2, 3]] (1 : Int)) = [[2, 3], [2, 3]])) && ((Cn.ouE (3 : Int) [[1, 2], [(-1), 3], [2, 3]] (1 : Int)) == 0)) && ((Cn.ouV (3 : Int) [[1, 2], [(-1), 3], [2, 3]] (1 : Int)) == 1)) && (((Cn.ouU (3 : Int) [[1, 2], [(-1), 3], [2, 3]] (1 : Int)).length : Int) == 2)) && (decide ((Cn.backF [((Cn.ouV (3 : Int) [[1, 2], [(-1), 3], [2, 3]] (1 : Int)), (Cn.ouU (3 : Int) [[1, 2], [(-1), 3], [2, 3]] (1 : Int)))] [false, true, true, false]) = [false, false, true, false]))) && (decide ((Cn.backF [((Cn.ouV (3 : Int) [[1, 2], [(-1), 3], [2, 3]] (1 : Int)), (Cn.ouU (3 : Int) [[1, 2], [(-1), 3], [2, 3]] (1 : Int)))] [false, false, false, true]) = [false, true, false, true]))) = true)), (((((((((Cn.ouN (3 : Int) [[1, 2], [(-1), 3], [2, 3]] (1 : Int)) == (3 : Int)) && decide ((Cn.ouX (3 : Int) [[1, 2], [(-1), 3], [2, 3]] (1 : Int)) = [[2, 3], [2, 3]])) && ((Cn.ouE (3 : Int) [[1, 2], [(-1), 3], [2, 3]] (1 : Int)) == 0)) && ((Cn.ouV (3 : Int) [[1, 2], [(-1), 3], [2, 3]] (1 : Int)) == 1)) && (((Cn.ouU (3 : Int) [[1, 2], [(-1), 3], [2, 3]] (1 : Int)).length : Int) == 2)) && (decide ((Cn.backF [((Cn.ouV (3 : Int) [[1, 2], [(-1), 3], [2, 3]] (1 : Int)), (Cn.ouU (3 : Int) [[1, 2], [(-1), 3], [2, 3]] (1 : Int)))] [false, true, true, false]) = [false, false, true, false]))) && (decide ((Cn.backF [((Cn.ouV (3 : Int) [[1, 2], [(-1), 3], [2, 3]] (1 : Int)), (Cn.ouU (3 : Int) [[1, 2], [(-1), 3], [2, 3]] (1 : Int)))] [false, false, false, true]) = [false, true, false, true]))) = true → ((((((((Cn.ouN (3 : Int) [[1, 2], [(-1), 3], [2, 3]] (1 : Int)) == (3 : Int)) && decide ((Cn.ouX (3 : Int) [[1, 2], [(-1), 3], [2, 3]] (1 : Int)) = [[2, 3], [2, 3]])) && ((Cn.ouE (3 : Int) [[1, 2], [(-1), 3], [2, 3]] (1 : Int)) == 0)) && ((Cn.ouV (3 : Int) [[1, 2], [(-1), 3], [2, 3]] (1 : Int)) == 1)) && (((Cn.ouU (3 : Int) [[1, 2], [(-1), 3], [2, 3]] (1 : Int)).length : Int) == 2)) && (decide ((Cn.backF [((Cn.ouV (3 : Int) [[1, 2], [(-1), 3], [2, 3]] (1 : Int)), (Cn.ouU (3 : Int) [[1, 2], [(-1), 3], [2, 3]] (1 : Int)))] [false, true, true, false]) = [false, false, true, false]))) && (decide ((Cn.backF [((Cn.ouV (3 : Int) [[1, 2], [(-1), 3], [2, 3]] (1 : Int)), (Cn.ouU (3 : Int) [[1, 2], [(-1), 3], [2, 3]] (1 : Int)))] [false, false, false, true]) = [false, true, false, true]))) = true)] [(0, .bool (((((((((Cn.ouN (3 : Int) [[1, 2], [(-1), 3], [2, 3]] (1 : Int)) == (3 : Int)) && decide ((Cn.ouX (3 : Int) [[1, 2], [(-1), 3], [2, 3]] (1 : Int)) = [[2, 3], [2, 3]])) && ((Cn.ouE (3 : Int) [[1, 2], [(-1), 3], [2, 3]] (1 : Int)) == 0)) && ((Cn.ouV (3 : Int) [[1, 2], [(-1), 3], [2, 3]] (1 : Int)) == 1)) && (((Cn.ouU (3 : Int) [[1, 2], [(-1), 3], [2, 3]] (1 : Int)).length : Int) == 2)) && (decide ((Cn.backF [((Cn.ouV (3 : Int) [[1, 2], [(-1), 3], [2, 3]] (1 : Int)), (Cn.ouU (3 : Int) [[1, 2], [(-1), 3], [2, 3]] (1 : Int)))] [false, true, true, false]) = [false, false, true, false]))) && (decide ((Cn.backF [((Cn.ouV (3 : Int) [[1, 2], [(-1), 3], [2, 3]] (1 : Int)), (Cn.ouU (3 : Int) [[1, 2], [(-1), 3], [2, 3]] (1 : Int)))] [false, false, false, true]) = [false, true, false, true]))) && ((Cn.ouE (3 : Int) [[1, 2], [(-1), 3], [2, 3]] (4 : Int)) == 140)))] [] (by kernel_rfl) ?_ ?_
  ·
   refine (ap ?_ (ap ?_ (ap (by exact id) (ap ?_ (ap ?_ (ap (by exact id) (ap ?_ (ap ?_ (ap ?_ (ap (by exact id) (ap ?_ (ap ?_ (ap ?_ (ap (by exact id) (ap ?_ (ap ?_ (ap ?_ (ap (by exact id) (ap ?_ (ap (by exact id) az))))))))))))))))))))
   all_goals
    first | decide | (intro _; decide) | (simp only [hX, hN3, hV, hU, hE, hE4]; decide) | (intro _; simp only [hX, hN3, hV, hU, hE, hE4]; decide) | trivial
  refine fin_then ?_
  refine tri_ret ?_
  exact fin_ret [] rfl rfl trivial hcx (avs := [.bool (((((((((Cn.ouN (3 : Int) [[1, 2], [(-1), 3], [2, 3]] (1 : Int)) == (3 : Int)) && decide ((Cn.ouX (3 : Int) [[1, 2], [(-1), 3], [2, 3]] (1 : Int)) = [[2, 3], [2, 3]])) && ((Cn.ouE (3 : Int) [[1, 2], [(-1), 3], [2, 3]] (1 : Int)) == 0)) && ((Cn.ouV (3 : Int) [[1, 2], [(-1), 3], [2, 3]] (1 : Int)) == 1)) && (((Cn.ouU (3 : Int) [[1, 2], [(-1), 3], [2, 3]] (1 : Int)).length : Int) == 2)) && (decide ((Cn.backF [((Cn.ouV (3 : Int) [[1, 2], [(-1), 3], [2, 3]] (1 : Int)), (Cn.ouU (3 : Int) [[1, 2], [(-1), 3], [2, 3]] (1 : Int)))] [false, true, true, false]) = [false, false, true, false]))) && (decide ((Cn.backF [((Cn.ouV (3 : Int) [[1, 2], [(-1), 3], [2, 3]] (1 : Int)), (Cn.ouU (3 : Int) [[1, 2], [(-1), 3], [2, 3]] (1 : Int)))] [false, false, false, true]) = [false, true, false, true]))) && ((Cn.ouE (3 : Int) [[1, 2], [(-1), 3], [2, 3]] (4 : Int)) == 140))]) (by kernel_rfl) (congrArg AV.bool (show (((((((((Cn.ouN (3 : Int) [[1, 2], [(-1), 3], [2, 3]] (1 : Int)) == (3 : Int)) && decide ((Cn.ouX (3 : Int) [[1, 2], [(-1), 3], [2, 3]] (1 : Int)) = [[2, 3], [2, 3]])) && ((Cn.ouE (3 : Int) [[1, 2], [(-1), 3], [2, 3]] (1 : Int)) == 0)) && ((Cn.ouV (3 : Int) [[1, 2], [(-1), 3], [2, 3]] (1 : Int)) == 1)) && (((Cn.ouU (3 : Int) [[1, 2], [(-1), 3], [2, 3]] (1 : Int)).length : Int) == 2)) && (decide ((Cn.backF [((Cn.ouV (3 : Int) [[1, 2], [(-1), 3], [2, 3]] (1 : Int)), (Cn.ouU (3 : Int) [[1, 2], [(-1), 3], [2, 3]] (1 : Int)))] [false, true, true, false]) = [false, false, true, false]))) && (decide ((Cn.backF [((Cn.ouV (3 : Int) [[1, 2], [(-1), 3], [2, 3]] (1 : Int)), (Cn.ouU (3 : Int) [[1, 2], [(-1), 3], [2, 3]] (1 : Int)))] [false, false, false, true]) = [false, true, false, true]))) && ((Cn.ouE (3 : Int) [[1, 2], [(-1), 3], [2, 3]] (4 : Int)) == 140)) = true from (by simp only [hX, hN3, hV, hU, hE, hE4]; decide))) [] rfl
 ·
  cases hσ
def cx_elimOuts : Cx := ⟨tyL23, [(12, (coeF [.agg [.id, .ld (.intss [])], .id] eOutF_σ)), (18, (coeF [.ld (.undos []), .ld (.bools [])] eBack_σ)), (13, (coeF [.agg [.id, .ld (.intss [])], .id] qOut_σ)), (19, (coeF [.ld (.undos []), .ld (.bools [])] qBack_σ)), (11, (coeF [.agg [.id, .ld (.intss [])], .id, .id] qFew_σ)), (15, (coeF [.ld (.undos []), .ld (.undos [])] qUndos_σ)), (17, (coeF [.ld (.bools []), .ld (.bools [])] qBools_σ)), (14, (coeF [.agg [.id, .ld (.intss [])], .agg [.id, .ld (.intss [])]] rSame_σ)), (10, live23_σ)]⟩
theorem cx_elimOuts_ok : CxOk Try.prog cx_elimOuts := cx_ok tyL23_ok ⟨(eOutF_sound.coe [.agg [.id, .ld (.intss [])], .id] rfl), (eBack_sound.coe [.ld (.undos []), .ld (.bools [])] rfl), (qOut_sound.coe [.agg [.id, .ld (.intss [])], .id] rfl), (qBack_sound.coe [.ld (.undos []), .ld (.bools [])] rfl), (qFew_sound.coe [.agg [.id, .ld (.intss [])], .id, .id] rfl), (qUndos_sound.coe [.ld (.undos []), .ld (.undos [])] rfl), (qBools_sound.coe [.ld (.bools []), .ld (.bools [])] rfl), (rSame_sound.coe [.agg [.id, .ld (.intss [])], .agg [.id, .ld (.intss [])]] rfl), live23_sound, trivial⟩
def elimOuts_σ : CtF
  | [.agg [.im (.val (.int .i64 N)), .im (.ls (.intss L))], .im (.val (.int .i64 v))], [] => some (L.length ≤ maxLen, .bool true, [])
  | _, _ => none
theorem elimOuts_sound : Sound Try.prog 3 elimOuts_σ := by
 refine sound_mk (cx := cx_elimOuts) (fn := Try.f3) Try.func3 (by kernel_rfl) rfl ?_
 intro w0 G0 args os p r outs hσ hp hm0 hd0
 have hcx : CxOk Try.prog cx_elimOuts := cx_elimOuts_ok
 unfold elimOuts_σ at hσ
 split at hσ
 ·
  rename_i N L v
  simp only [Option.some.injEq, Prod.mk.injEq] at hσ
  obtain ⟨rfl, rfl, rfl⟩ := hσ
  obtain ⟨wW, wO, wm, wβ, wd⟩ := w0
  replace hm0 : wm = 0 := hm0
  subst hm0
  replace hd0 : wd = [] := hd0
  subst hd0
  refine ⟨by kernel_rfl, ?_⟩
  change Tri ⟨_, _, _, _, _, _⟩ [(0, .agg [.int N, .intss L]), (1, .int v)] [] _ _
  refine tri_seq ?_
  refine tri_regD hcx [(1000, .frz)] [2] [1] [] [] [(2, .pto [.int N, .ls (.intss L)])] [] (by kernel_rfl) ?_ ?_
  ·
   exact az
  refine fin_then ?_
  refine tri_seq ?_
  refine tri_seq ?_
  refine tri_regD hcx [] [12] [2, 1] [] [(True)] [(12, .bool (!true))] [] (by kernel_rfl) ?_ ?_
  ·
   refine (ap ?_ az)
   first | trivial | exact id | exact (fun _ h => h) | exact ⟨hp, by decide, by decide⟩ | exact ⟨hc1, hc2⟩ | exact hX | exact (fun _ => ⟨by show (1 : Nat) ≤ maxLen; decide, fun w hw => by rw [List.mem_singleton] at hw; subst hw; exact hU⟩)
  refine fin_then ?_
  refine tri_cond (b := (!true)) (by kernel_rfl) (fun hb0 => ?_) (fun hb0 => ?_)
  ·
   skip
   have h0 := hb0
   cases h0
  ·
   skip
   have h0 := (notB_f hb0)
   refine tri_skip ?_
   refine fin_then ?_
   refine tri_seq ?_
   refine tri_seq ?_
   refine tri_regD hcx [] [15] [2, 1] [] [(L.length ≤ maxLen ∧ 0 ≤ (60 : Int) ∧ (60 : Int) ≤ 1000000)] [(15, .bool (!(Cn.fewB N L (70000 : Int) (60 : Int))))] [] (by kernel_rfl) ?_ ?_
   ·
    refine (ap ?_ az)
    first | trivial | exact id | exact (fun _ h => h) | exact ⟨hp, by decide, by decide⟩ | exact ⟨hc1, hc2⟩ | exact hX | exact (fun _ => ⟨by show (1 : Nat) ≤ maxLen; decide, fun w hw => by rw [List.mem_singleton] at hw; subst hw; exact hU⟩)
   refine fin_then ?_
   refine tri_cond (b := (!(Cn.fewB N L (70000 : Int) (60 : Int)))) (by kernel_rfl) (fun hb1 => ?_) (fun hb1 => ?_)
   ·
    skip
    have h1 := (notB_t hb1)
    refine tri_seq ?_
    refine tri_regD hcx [] [4] [] [] [] [(4, .bool true)] [] (by kernel_rfl) ?_ ?_
    ·
     exact az
    refine fin_then ?_
    refine tri_ret ?_
    refine fin_then_ret ?_
    exact fin_ret [] rfl rfl trivial hcx (avs := [.bool true]) (by kernel_rfl) rfl [] rfl
   ·
    skip
    have h1 := hb1
    have hfw := Cn.few_iff (by simpa using h1)
    have hc1 : L.length ≤ 10000 := by have := hfw.2.1; omega
    have hc2 : ∀ l ∈ L, l.length ≤ 1000 := fun l hl => by have := hfw.2.2 l hl; omega
    have hX := Cn.ouX_bd (N := N) (v := v) hc1 hc2
    have hU := Cn.ouU_bd (N := N) (v := v) hc1 hc2
    refine tri_skip ?_
    refine fin_then ?_
    refine tri_seq ?_
    refine tri_regD hcx [(1007, .to 605), (1008, .to 606), (1002, .frz), (2002, .frz)] [5, 6, 7] [2, 1] [] [(L.length ≤ 10000 ∧ (∀ l ∈ L, l.length ≤ 1000))] [(5, .loc 605 0), (6, .loc 606 0), (7, .int (Cn.ouE N L v))] [(605, .box [.int (Cn.ouN N L v), .intss (Cn.ouX N L v)]), (606, .box [.int (Cn.ouV N L v), .intss (Cn.ouU N L v)])] (by kernel_rfl) ?_ ?_
    ·
     refine (ap ?_ az)
     first | trivial | exact id | exact (fun _ h => h) | exact ⟨hp, by decide, by decide⟩ | exact ⟨hc1, hc2⟩ | exact hX | exact (fun _ => ⟨by show (1 : Nat) ≤ maxLen; decide, fun w hw => by rw [List.mem_singleton] at hw; subst hw; exact hU⟩)
    refine fin_then ?_
    refine tri_seq ?_
    refine tri_regD hcx [(1007, .to 608), (1008, .to 609), (1002, .frz), (2002, .frz)] [8, 9, 10] [5, 6, 7] [605, 606] [(L.length ≤ 10000 ∧ (∀ l ∈ L, l.length ≤ 1000))] [(8, .loc 608 0), (9, .loc 609 0), (10, .int (Cn.ouE N L v))] [(608, .box [.int (Cn.ouN N L v), .intss (Cn.ouX N L v)]), (609, .box [.int (Cn.ouV N L v), .intss (Cn.ouU N L v)])] (by kernel_rfl) ?_ ?_
    ·
     refine (ap ?_ az)
     first | trivial | exact id | exact (fun _ h => h) | exact ⟨hp, by decide, by decide⟩ | exact ⟨hc1, hc2⟩ | exact hX | exact (fun _ => ⟨by show (1 : Nat) ≤ maxLen; decide, fun w hw => by rw [List.mem_singleton] at hw; subst hw; exact hU⟩)
    refine fin_then ?_
    refine tri_seq ?_
    refine tri_regD hcx [] [4] [] [] [((Cn.ouX N L v).length ≤ maxLen ∧ ∀ l ∈ (Cn.ouX N L v), l.length ≤ maxLen), ((((Cn.ouN N L v) == (Cn.ouN N L v)) && decide ((Cn.ouX N L v) = (Cn.ouX N L v))) = true → ((((Cn.ouN N L v) == (Cn.ouN N L v)) && decide ((Cn.ouX N L v) = (Cn.ouX N L v))) = true)), ((((Cn.ouN N L v) == (Cn.ouN N L v)) && decide ((Cn.ouX N L v) = (Cn.ouX N L v))) = true → ((((Cn.ouN N L v) == (Cn.ouN N L v)) && decide ((Cn.ouX N L v) = (Cn.ouX N L v))) = true)), ((((Cn.ouN N L v) == (Cn.ouN N L v)) && decide ((Cn.ouX N L v) = (Cn.ouX N L v))) = true → ((((Cn.ouN N L v) == (Cn.ouN N L v)) && decide ((Cn.ouX N L v) = (Cn.ouX N L v))) = true)), ((((Cn.ouN N L v) == (Cn.ouN N L v)) && decide ((Cn.ouX N L v) = (Cn.ouX N L v))) = true → ((((Cn.ouN N L v) == (Cn.ouN N L v)) && decide ((Cn.ouX N L v) = (Cn.ouX N L v))) = true)), ((((Cn.ouN N L v) == (Cn.ouN N L v)) && decide ((Cn.ouX N L v) = (Cn.ouX N L v))) = true → ([((Cn.ouV N L v), (Cn.ouU N L v))].length ≤ maxLen ∧ ∀ w ∈ [((Cn.ouV N L v), (Cn.ouU N L v))], w.2.length ≤ maxLen ∧ ∀ l ∈ w.2, l.length ≤ maxLen)), ((((Cn.ouN N L v) == (Cn.ouN N L v)) && decide ((Cn.ouX N L v) = (Cn.ouX N L v))) = true → (((Cn.ouN N L v) == (Cn.ouN N L v)) && decide ((Cn.ouX N L v) = (Cn.ouX N L v))) = true), (((((Cn.ouN N L v) == (Cn.ouN N L v)) && decide ((Cn.ouX N L v) = (Cn.ouX N L v))) && (decide ([((Cn.ouV N L v), (Cn.ouU N L v))] = [((Cn.ouV N L v), (Cn.ouU N L v))]))) = true → (((((Cn.ouN N L v) == (Cn.ouN N L v)) && decide ((Cn.ouX N L v) = (Cn.ouX N L v))) && (decide ([((Cn.ouV N L v), (Cn.ouU N L v))] = [((Cn.ouV N L v), (Cn.ouU N L v))]))) = true)), (((((Cn.ouN N L v) == (Cn.ouN N L v)) && decide ((Cn.ouX N L v) = (Cn.ouX N L v))) && (decide ([((Cn.ouV N L v), (Cn.ouU N L v))] = [((Cn.ouV N L v), (Cn.ouU N L v))]))) = true → (((((Cn.ouN N L v) == (Cn.ouN N L v)) && decide ((Cn.ouX N L v) = (Cn.ouX N L v))) && (decide ([((Cn.ouV N L v), (Cn.ouU N L v))] = [((Cn.ouV N L v), (Cn.ouU N L v))]))) = true)), (((((Cn.ouN N L v) == (Cn.ouN N L v)) && decide ((Cn.ouX N L v) = (Cn.ouX N L v))) && (decide ([((Cn.ouV N L v), (Cn.ouU N L v))] = [((Cn.ouV N L v), (Cn.ouU N L v))]))) = true → ((((Cn.ouN N L v) == (Cn.ouN N L v)) && decide ((Cn.ouX N L v) = (Cn.ouX N L v))) && (decide ([((Cn.ouV N L v), (Cn.ouU N L v))] = [((Cn.ouV N L v), (Cn.ouU N L v))]))) = true)] [(4, .bool (((((Cn.ouN N L v) == (Cn.ouN N L v)) && decide ((Cn.ouX N L v) = (Cn.ouX N L v))) && (decide ([((Cn.ouV N L v), (Cn.ouU N L v))] = [((Cn.ouV N L v), (Cn.ouU N L v))]))) && ((Cn.ouE N L v) == (Cn.ouE N L v))))] [] (by kernel_rfl) ?_ ?_
    ·
     refine (ap ?_ (ap ?_ (ap ?_ (ap ?_ (ap ?_ (ap ?_ (ap (by exact id) (ap ?_ (ap ?_ (ap (by exact id) az))))))))))
     all_goals
      first | trivial | exact id | exact (fun _ h => h) | exact ⟨hp, by decide, by decide⟩ | exact ⟨hc1, hc2⟩ | exact hX | exact (fun _ => ⟨by show (1 : Nat) ≤ maxLen; decide, fun w hw => by rw [List.mem_singleton] at hw; subst hw; exact hU⟩)
    refine fin_then ?_
    refine tri_ret ?_
    exact fin_ret [] rfl rfl trivial hcx (avs := [.bool (((((Cn.ouN N L v) == (Cn.ouN N L v)) && decide ((Cn.ouX N L v) = (Cn.ouX N L v))) && (decide ([((Cn.ouV N L v), (Cn.ouU N L v))] = [((Cn.ouV N L v), (Cn.ouU N L v))]))) && ((Cn.ouE N L v) == (Cn.ouE N L v)))]) (by kernel_rfl) (congrArg AV.bool (show (((((Cn.ouN N L v) == (Cn.ouN N L v)) && decide ((Cn.ouX N L v) = (Cn.ouX N L v))) && (decide ([((Cn.ouV N L v), (Cn.ouU N L v))] = [((Cn.ouV N L v), (Cn.ouU N L v))]))) && ((Cn.ouE N L v) == (Cn.ouE N L v))) = true from (by first | rfl | simp))) [] rfl
 ·
  cases hσ
def cx_elimBacks : Cx := ⟨tyL23, [(12, (coeF [.agg [.id, .ld (.intss [])], .id] eOutF_σ)), (18, (coeF [.ld (.undos []), .ld (.bools [])] eBack_σ)), (13, (coeF [.agg [.id, .ld (.intss [])], .id] qOut_σ)), (19, (coeF [.ld (.undos []), .ld (.bools [])] qBack_σ)), (11, (coeF [.agg [.id, .ld (.intss [])], .id, .id] qFew_σ)), (15, (coeF [.ld (.undos []), .ld (.undos [])] qUndos_σ)), (17, (coeF [.ld (.bools []), .ld (.bools [])] qBools_σ)), (14, (coeF [.agg [.id, .ld (.intss [])], .agg [.id, .ld (.intss [])]] rSame_σ)), (10, live23_σ), (3, (coeF [.agg [.id, .ld (.intss [])], .id] elimOuts_σ)), (16, sFewU)]⟩
theorem cx_elimBacks_ok : CxOk Try.prog cx_elimBacks := cx_ok tyL23_ok ⟨(eOutF_sound.coe [.agg [.id, .ld (.intss [])], .id] rfl), (eBack_sound.coe [.ld (.undos []), .ld (.bools [])] rfl), (qOut_sound.coe [.agg [.id, .ld (.intss [])], .id] rfl), (qBack_sound.coe [.ld (.undos []), .ld (.bools [])] rfl), (qFew_sound.coe [.agg [.id, .ld (.intss [])], .id, .id] rfl), (qUndos_sound.coe [.ld (.undos []), .ld (.undos [])] rfl), (qBools_sound.coe [.ld (.bools []), .ld (.bools [])] rfl), (rSame_sound.coe [.agg [.id, .ld (.intss [])], .agg [.id, .ld (.intss [])]] rfl), live23_sound, (elimOuts_sound.coe [.agg [.id, .ld (.intss [])], .id] rfl), sFewU_sound, trivial⟩
def elimBacks_σ : CtF
  | [.im (.ls (.undos u)), .im (.ls (.bools a))], [] => some ((u.length ≤ maxLen ∧ ∀ k, k < u.length → (u.getD k (0, [])).2.length ≤ maxLen) ∧ a.length ≤ maxLen, .bool true, [])
  | _, _ => none
theorem elimBacks_sound : Sound Try.prog 4 elimBacks_σ := by
 refine sound_mk (cx := cx_elimBacks) (fn := Try.f4) Try.func4 (by kernel_rfl) rfl ?_
 intro w0 G0 args os p r outs hσ hp hm0 hd0
 have hcx : CxOk Try.prog cx_elimBacks := cx_elimBacks_ok
 unfold elimBacks_σ at hσ
 split at hσ
 ·
  rename_i u a
  simp only [Option.some.injEq, Prod.mk.injEq] at hσ
  obtain ⟨rfl, rfl, rfl⟩ := hσ
  obtain ⟨wW, wO, wm, wβ, wd⟩ := w0
  replace hm0 : wm = 0 := hm0
  subst hm0
  replace hd0 : wd = [] := hd0
  subst hd0
  refine ⟨by kernel_rfl, ?_⟩
  change Tri ⟨_, _, _, _, _, _⟩ [(0, .undos u), (1, .bools a)] [] _ _
  refine tri_seq ?_
  refine tri_regD hcx [] [] [0, 1] [] [] [] [] (by kernel_rfl) ?_ ?_
  ·
   exact az
  refine fin_then ?_
  refine tri_seq ?_
  refine tri_seq ?_
  refine tri_regD hcx [] [6] [0, 1] [] [(True)] [(6, .bool (!true))] [] (by kernel_rfl) ?_ ?_
  ·
   refine (ap ?_ az)
   first | trivial | exact id | exact hp.1 | exact hbk | exact hbl | exact (fun _ h => h)
  refine fin_then ?_
  refine tri_cond (b := (!true)) (by kernel_rfl) (fun hb0 => ?_) (fun hb0 => ?_)
  ·
   skip
   have h0 := hb0
   cases h0
  ·
   skip
   have h0 := (notB_f hb0)
   refine tri_skip ?_
   refine fin_then ?_
   refine tri_seq ?_
   refine tri_seq ?_
   refine tri_regD hcx [] [14] [0, 1] [] [(u.length ≤ maxLen ∧ ∀ k, k < u.length → (u.getD k (0, [])).2.length ≤ maxLen), ((!(!(Cn.fuB u))) = true → ((!(!(Cn.fuB u))) = true)), ((!(!(Cn.fuB u))) = true → ((!(!(Cn.fuB u))) = true)), ((!(Cn.fuB u)) = false → (!(!(Cn.fuB u))) = true)] [(14, .bool ((!(Cn.fuB u)) || (decide ((a.length : Int) > 2000))))] [] (by kernel_rfl) ?_ ?_
   ·
    refine (ap ?_ (ap ?_ (ap ?_ (ap (by exact vcNot) az))))
    all_goals
     first | trivial | exact id | exact hp.1 | exact hbk | exact hbl | exact (fun _ h => h)
   refine fin_then ?_
   refine tri_cond (b := ((!(Cn.fuB u)) || (decide ((a.length : Int) > 2000)))) (by kernel_rfl) (fun hb1 => ?_) (fun hb1 => ?_)
   ·
    skip
    have h1 := hb1
    try simp only [Bool.or_eq_true, Bool.or_eq_false_iff, Bool.and_eq_true, Bool.and_eq_false_iff, Bool.not_eq_true', Bool.not_eq_false', decide_eq_true_eq, decide_eq_false_iff_not, bne_iff_ne, bne_eq_false_iff_eq, beq_iff_eq, beq_eq_false_iff_ne] at h1
    refine tri_seq ?_
    refine tri_regD hcx [] [4] [] [] [] [(4, .bool true)] [] (by kernel_rfl) ?_ ?_
    ·
     exact az
    refine fin_then ?_
    refine tri_ret ?_
    refine fin_then_ret ?_
    exact fin_ret [] rfl rfl trivial hcx (avs := [.bool true]) (by kernel_rfl) rfl [] rfl
   ·
    skip
    have h1 := hb1
    have hz : Cn.fuB u = true ∧ a.length ≤ 2000 := by have hz := h1; rw [Bool.or_eq_false_iff] at hz; exact ⟨by simpa using hz.1, by have := hz.2; simp at this; omega⟩
    have hfw := Cn.fu_iff hz.1
    have hbk : u.length ≤ maxLen ∧ (∀ w ∈ u, w.2.length ≤ maxLen ∧ ∀ l ∈ w.2, l.length ≤ maxLen) ∧ a.length ≤ 1000000 := ⟨hp.1.1, fun w hw => ⟨by have := (hfw.2 w hw).1; unfold maxLen; omega, fun l hl => by have := (hfw.2 w hw).2 l hl; unfold maxLen; omega⟩, by omega⟩
    have hbl : (Cn.backF u a).length ≤ maxLen := Nat.le_trans (Cn.fold_len (l := u.reverse) (a := a) (by omega)) (by decide)
    refine tri_skip ?_
    refine fin_then ?_
    refine tri_seq ?_
    refine tri_regD hcx [] [4] [] [] [(u.length ≤ maxLen ∧ (∀ w ∈ u, w.2.length ≤ maxLen ∧ ∀ l ∈ w.2, l.length ≤ maxLen) ∧ a.length ≤ 1000000), (u.length ≤ maxLen ∧ (∀ w ∈ u, w.2.length ≤ maxLen ∧ ∀ l ∈ w.2, l.length ≤ maxLen) ∧ a.length ≤ 1000000), ((Cn.backF u a).length ≤ maxLen)] [(4, .bool (decide ((Cn.backF u a) = (Cn.backF u a))))] [] (by kernel_rfl) ?_ ?_
    ·
     refine (ap ?_ (ap ?_ (ap ?_ az)))
     all_goals
      first | trivial | exact id | exact hp.1 | exact hbk | exact hbl | exact (fun _ h => h)
    refine fin_then ?_
    refine tri_ret ?_
    exact fin_ret [] rfl rfl trivial hcx (avs := [.bool (decide ((Cn.backF u a) = (Cn.backF u a)))]) (by kernel_rfl) (congrArg AV.bool (show (decide ((Cn.backF u a) = (Cn.backF u a))) = true from (by first | rfl | simp))) [] rfl
 ·
  cases hσ
end Go.Proofs.Ythhfdjcaafckbaa.En
