/- Laws of elimination: the example of 'live', and sizes. Plain lemmas; no program in sight. -/
import Derived.Test.YthhfdjcaafckbaaElimR
set_option linter.unusedSimpArgs false
set_option linter.unusedVariables false
set_option linter.unnecessarySimpa false
namespace Go.Proofs.Ythhfdjcaafckbaa.Cn
open Go

theorem n23 : normL [2, 3] = [2, 3] := norm_of (by decide) fun x => by
  simp only [List.mem_cons, List.not_mem_nil, or_false]
  constructor
  · rintro (rfl | rfl) <;> decide
  · exact fun h => h.1
theorem r23 : resL [1, 2] [-1, 3] 1 = [2, 3] := by
  unfold resL
  rw [if_pos (by decide), if_pos (by decide)]
  exact n23
theorem t23 : tautL [2, 3] = false := by unfold tautL; rw [n23]; rfl
theorem o23 : outX [[1, 2], [-1, 3], [2, 3]] 1 65536 = [[2, 3], [2, 3]] := by
  have hA : resA [[1, 2]] [[-1, 3]] 1 1 = [[2, 3]] := by
    show resT [1, 2] 1 [-1, 3] ++ [] ++ [] = _
    unfold resT
    rw [r23, t23]
    rfl
  show cutX 65536 [[2, 3]] (resA [[1, 2]] [[-1, 3]] 1 1) = _
  rw [hA]
  rfl
theorem live_ok : ouE 3 [[1, 2], [-1, 3], [2, 3]] 1 = 0 ∧ ouN 3 [[1, 2], [-1, 3], [2, 3]] 1 = 3 ∧ ouX 3 [[1, 2], [-1, 3], [2, 3]] 1 = [[2, 3], [2, 3]] ∧ ouV 3 [[1, 2], [-1, 3], [2, 3]] 1 = 1 ∧ ouU 3 [[1, 2], [-1, 3], [2, 3]] 1 = [[1, 2], [-1, 3]] := by
  obtain ⟨h1, h2, h3, h4, h5⟩ := ou_ok (N := 3) (L := [[1, 2], [-1, 3], [2, 3]]) (v := 1) (by decide) (by omega) (by rw [o23]; decide)
  exact ⟨h1, h2, h3.trans o23, h4, h5⟩
theorem live_no : ouE 3 [[1, 2], [-1, 3], [2, 3]] 4 = 140 := ou_lit (by decide) (by omega)
section
variable {N v : Int} {L : List (List Int)}
theorem ouX_bd (hc : L.length ≤ 10000) (hl : ∀ m ∈ L, m.length ≤ 1000) : (ouX N L v).length ≤ maxLen ∧ ∀ l ∈ ouX N L v, l.length ≤ maxLen := by
  unfold ouX
  split
  · refine ⟨?_, fun l h => ?_⟩
    · have := out_len (c := L) (v := v) (many := 65536) hc (by decide); unfold maxLen; omega
    · have := out_lens hl l h; unfold maxLen; omega
  · exact ⟨by decide, fun l h => by cases h⟩
theorem ouU_bd (hc : L.length ≤ 10000) (hl : ∀ m ∈ L, m.length ≤ 1000) : (ouU N L v).length ≤ maxLen ∧ ∀ l ∈ ouU N L v, l.length ≤ maxLen := by
  unfold ouU
  split
  · refine ⟨?_, fun l h => ?_⟩
    · have := uOf_len (c := L) (v := v); unfold maxLen; omega
    · have := hl l (List.mem_filter.1 h).1; unfold maxLen; omega
  · exact ⟨by decide, fun l h => by cases h⟩
end
end Go.Proofs.Ythhfdjcaafckbaa.Cn
