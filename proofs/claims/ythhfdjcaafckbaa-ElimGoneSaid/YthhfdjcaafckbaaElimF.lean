/- The reference's Elim against the step of elimination. Plain lemmas; no program in sight. -/
import Derived.Test.YthhfdjcaafckbaaElimE
import Derived.Test.YthhfdjcaafckbaaLaw23Q
set_option linter.unusedSimpArgs false
set_option linter.unusedVariables false
set_option linter.unnecessarySimpa false
namespace Go.Proofs.Ythhfdjcaafckbaa.Cn
open Go
variable {N g v : Int} {X : List (List Int)}
theorem any_succ {α : Type} {p : α → Bool} {l : List α} {d : α} {k : Nat} (hk : k < l.length) : ((l.take k).any p || p (l.getD k d)) = (l.take (k + 1)).any p := by
  rw [take_sD (d := d) hk, List.any_append]; simp
theorem ref_yes (h : ((ouE N X v == 0) && decide (((ouX N X v).length : Int) ≤ (X.length : Int) + g)) = true) :
    ((outX X v 65536).length : Int) ≤ 65536 ∧ ((outX X v 65536).length : Int) ≤ (X.length : Int) + g ∧ ouX N X v = outX X v 65536 ∧ ouV N X v = v ∧ ouU N X v = uOf X v ∧ ouN N X v = N := by
  rw [Bool.and_eq_true] at h
  obtain ⟨_, _, _, h1, h6, h2, h3, h4⟩ := ou_yes (eq_of_beq h.1)
  have h5 := of_decide_eq_true h.2
  rw [h2] at h5
  exact ⟨h1, h5, h2, h3, h4, h6⟩
theorem ref_no (hc : chkV N X = 0) (hv1 : 1 ≤ v) (hv2 : v ≤ N) (h : ((ouE N X v == 0) && decide (((ouX N X v).length : Int) ≤ (X.length : Int) + g)) = false) :
    ¬ (((outX X v 65536).length : Int) ≤ 65536 ∧ ((outX X v 65536).length : Int) ≤ (X.length : Int) + g) := by
  rintro ⟨h1, h2⟩
  obtain ⟨h3, _, h4, _, _⟩ := ou_ok hc (show ¬ (v < 1 ∨ N < v) by omega) h1
  rw [h3, h4] at h
  simp at h
  omega
end Go.Proofs.Ythhfdjcaafckbaa.Cn
