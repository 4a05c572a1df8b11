/- CnfDimacsRoundTrip: a comment ahead or behind changes nothing. Plain lemmas. -/
import Derived.Test.YtiokflebeojokaaGreatDoorLaw14P
import Derived.Test.YtiokflebeojokaaGreatDoorFewZ
set_option linter.unusedSimpArgs false
set_option linter.unusedVariables false
set_option linter.unnecessarySimpa false
namespace Go.Proofs.YtiokflebeojokaaGreatDoor.Cn
open Go Go.RowKit
variable {N : Int} {L : List (List Int)} {m B : List Int}
theorem rt_no {i : Nat} (hi : ¬ i < m.length) (h : ∀ j, j < i → m.getD j 0 ≠ 10) : ∀ x ∈ m, x ≠ 10 := fun x hx => by
  obtain ⟨j, hj, rfl⟩ := List.mem_iff_getElem.1 hx
  have := h j (by omega)
  rwa [List.getD_eq_getElem?_getD, List.getElem?_eq_getElem hj] at this
theorem rt_get1 (hc : chkV N L = 0) (h : ∀ x ∈ m, x ≠ 10) : getV (wordsV ((([99] ++ m) ++ [10, 32, 9]) ++ (if chkV N L = 0 then putB N L else []))) = (N, L, 0) := by
  rw [if_pos hc]; exact get_talk hc h
theorem rt_get2 (hc : chkV N L = 0) (h : ∀ x ∈ m, x ≠ 10) : getV (wordsV (([] ++ (if chkV N L = 0 then putB N L else [])) ++ (([99] ++ m) ++ [10, 32, 9]))) = (N, L, 0) := by
  rw [if_pos hc, List.nil_append]; exact get_after hc h
theorem rt_bytes1 (h1 : isBytes m) (h2 : isBytes B) : isBytes ((([99] ++ m) ++ [10, 32, 9]) ++ B) := fun x hx => by
  rcases List.mem_append.1 hx with hx | hx
  · exact talk_bytes h1 x hx
  · exact h2 x hx
theorem rt_bytes2 (h1 : isBytes m) (h2 : isBytes B) : isBytes (([] ++ B) ++ (([99] ++ m) ++ [10, 32, 9])) := fun x hx => by
  rw [List.nil_append] at hx
  rcases List.mem_append.1 hx with hx | hx
  · exact h2 x hx
  · exact talk_bytes h1 x hx
end Go.Proofs.YtiokflebeojokaaGreatDoor.Cn
