/- Lemmas and contracts for the row. -/
import Derived.Test.YtkkapbnopmmmjaaGreatDoorPkRowEncodeMatchesB
import Derived.Lib.RowBridge
set_option linter.unusedVariables false
set_option linter.unusedSimpArgs false
set_option linter.unnecessarySimpa false
namespace Go.Proofs.YtkkapbnopmmmjaaGreatDoor.Cn
open Go
def ahd (x y : Int) : Bool := decide (x.natAbs < y.natAbs ∨ x.natAbs = y.natAbs ∧ y < x)
def k7q (xs : List Int) : List Int := xs.mergeSort fun x y => !ahd y x
end Go.Proofs.YtkkapbnopmmmjaaGreatDoor.Cn
