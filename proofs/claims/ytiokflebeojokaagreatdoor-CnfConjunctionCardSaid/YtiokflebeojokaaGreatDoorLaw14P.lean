/- Plain facts for the laws of layer 14. -/
import Derived.Test.YtiokflebeojokaaGreatDoorGetP
set_option linter.unusedSimpArgs false
set_option linter.unusedVariables false
namespace Go.Proofs.YtiokflebeojokaaGreatDoor.Cn
theorem val_no {N : Int} {L : List (List Int)} {a : List Bool} {k : Nat} (hk : k < L.length) (h : holdsV a (L.getD k []) = false) : valV N L a = false := by
  have : L.all (holdsV a) = false := List.all_eq_false.2 ⟨L[k], List.getElem_mem hk, by rw [List.getD_eq_getElem?_getD, List.getElem?_eq_getElem hk] at h; simpa using h⟩
  unfold valV; rw [this, Bool.and_false]
theorem val_yes {N : Int} {L : List (List Int)} {a : List Bool} (h : ∀ j, j < L.length → holdsV a (L.getD j []) = true) : valV N L a = (chkV N L == 0) := by
  have : L.all (holdsV a) = true := List.all_eq_true.2 fun l hl => by
    obtain ⟨j, hj, rfl⟩ := List.getElem_of_mem hl
    have := h j hj
    rwa [List.getD_eq_getElem?_getD, List.getElem?_eq_getElem hj] at this
  unfold valV; rw [this, Bool.and_true]
theorem sub_no {a b : List Int} {k : Nat} (hk : k < a.length) (h : b.contains (a.getD k 0) = false) : (!(a.any fun x => !(b.contains x))) = false := by
  have : (a.any fun x => !(b.contains x)) = true := List.any_eq_true.2 ⟨a[k], List.getElem_mem hk, by rw [List.getD_eq_getElem?_getD, List.getElem?_eq_getElem hk] at h; simp only [Option.getD_some] at h; rw [h]; rfl⟩
  rw [this]; rfl
theorem sub_yes {a b : List Int} (h : ∀ j, j < a.length → b.contains (a.getD j 0) = true) : (!(a.any fun x => !(b.contains x))) = true := by
  have : (a.any fun x => !(b.contains x)) = false := List.any_eq_false.2 fun x hx => by
    obtain ⟨j, hj, rfl⟩ := List.getElem_of_mem hx
    have := h j hj
    rw [List.getD_eq_getElem?_getD, List.getElem?_eq_getElem hj] at this
    simp only [Option.getD_some] at this
    rw [this]; simp
  rw [this]; rfl
end Go.Proofs.YtiokflebeojokaaGreatDoor.Cn
