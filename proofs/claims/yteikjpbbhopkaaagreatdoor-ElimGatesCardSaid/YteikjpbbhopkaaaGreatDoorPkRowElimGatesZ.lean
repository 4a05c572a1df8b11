/- Lemmas and contracts for the row. -/
import Derived.Test.YteikjpbbhopkaaaGreatDoorPkRowElimGatesY
import Derived.Lib.RowBridge
set_option linter.unusedVariables false
set_option linter.unusedSimpArgs false
set_option linter.unnecessarySimpa false
namespace Go.Proofs.YteikjpbbhopkaaaGreatDoor.Fl
open Go En
theorem k8n {n:Int} {x:Tree} (h:(!(q5o n x.kind x.v x.k x.l.length))=false):q8l n x=true:=by unfold q8l;simpa using h
end Go.Proofs.YteikjpbbhopkaaaGreatDoor.Fl
