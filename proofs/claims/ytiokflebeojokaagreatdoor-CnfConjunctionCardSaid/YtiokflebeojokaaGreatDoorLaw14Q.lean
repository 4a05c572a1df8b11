/- More plain facts for the laws of layer 14. -/
import Derived.Test.YtiokflebeojokaaGreatDoorLaw14P
import Derived.Test.YtiokflebeojokaaGreatDoorCnfR
set_option linter.unusedSimpArgs false
set_option linter.unusedVariables false
namespace Go.Proofs.YtiokflebeojokaaGreatDoor.Cn
theorem resL_len (a b : List Int) (v : Int) : (resL a b v).length ≤ a.length + b.length := by
  have hn : ∀ x, (resOn a b x).length ≤ a.length + b.length := fun x => by
    unfold resOn
    refine Nat.le_trans (norm_len _) ?_
    rw [List.length_append]
    exact Nat.add_le_add (List.length_filter_le _ _) (List.length_filter_le _ _)
  unfold resL
  split
  · split
    · exact hn v
    · split
      · exact hn (-v)
      · simp
  · simp
end Go.Proofs.YtiokflebeojokaaGreatDoor.Cn
