/- Lemmas and contracts for the row. -/
import Derived.Test.YteikjpbbhopkaaaGreatDoorPkRowElimGatesAB
set_option linter.unusedVariables false
set_option linter.unusedSimpArgs false
set_option linter.unnecessarySimpa false
namespace Go.Proofs.YteikjpbbhopkaaaGreatDoor.En
open Go Go.RowKit
section
variable {k : Ct} {E : Env} {H : Hp} {Q : Exit → Act → World → Prop}
end
end Go.Proofs.YteikjpbbhopkaaaGreatDoor.En
