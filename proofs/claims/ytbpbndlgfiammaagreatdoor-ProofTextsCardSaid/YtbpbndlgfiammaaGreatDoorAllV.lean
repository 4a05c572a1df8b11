/- The assignments that the laws of elimination try. Plain definition. -/
import Derived.Test.YtbpbndlgfiammaaGreatDoorEngR
set_option linter.unusedSimpArgs false
set_option linter.unusedVariables false
namespace Go.Proofs.YtbpbndlgfiammaaGreatDoor.En
open Go
/-- the bits of m, behind a first false -/
def allV (n : Nat) (m : Int) : List Bool := false :: (List.range n).map fun i => andI (m / 2 ^ i) 1 == 1
theorem allV_len {n : Nat} {m : Int} : (allV n m).length = n + 1 := by simp [allV]
theorem allV_zero {m : Int} : [false] = allV 0 m := rfl
theorem allV_succ {n : Nat} {m : Int} : allV n m ++ [andI (m / 2 ^ n) 1 == 1] = allV (n + 1) m := by
  simp [allV, List.range_succ]
end Go.Proofs.YtbpbndlgfiammaaGreatDoor.En
