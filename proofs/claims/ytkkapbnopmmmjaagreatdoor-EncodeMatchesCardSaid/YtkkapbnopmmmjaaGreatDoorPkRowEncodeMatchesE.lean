/- Lemmas and contracts for the row. -/
import Derived.Test.YtkkapbnopmmmjaaGreatDoorPkRowEncodeMatchesB
import Derived.Lib.TrailingZeros
set_option linter.unusedVariables false
set_option linter.unusedSimpArgs false
set_option linter.unnecessarySimpa false
namespace Go.Proofs.YtkkapbnopmmmjaaGreatDoor.En
open Go
def glb : List (Nat × List Value) := [(1, Lib.deBruijn64tab.map fun (n : Nat) => Value.int .u8 (n : Int))]
def k9h : List (Nat × Nat) := []
end Go.Proofs.YtkkapbnopmmmjaaGreatDoor.En
