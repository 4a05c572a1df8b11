/- Lemmas and contracts for the row. -/
import Derived.Test.YteikjpbbhopkaaaGreatDoorPkRowElimGatesB
import Derived.Lib.TrailingZeros
set_option linter.unusedVariables false
set_option linter.unusedSimpArgs false
set_option linter.unnecessarySimpa false
namespace Go.Proofs.YteikjpbbhopkaaaGreatDoor.En
open Go
def glb:List (Nat×List Value):=[(1,Lib.deBruijn64tab.map fun(n:Nat)=>Value.int .u8 (n:Int))]
def v3n:List (Nat×Nat):=[]
end Go.Proofs.YteikjpbbhopkaaaGreatDoor.En
