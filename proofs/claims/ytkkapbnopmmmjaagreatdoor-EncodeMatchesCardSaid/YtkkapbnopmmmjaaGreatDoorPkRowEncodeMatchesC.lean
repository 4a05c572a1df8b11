/- Lemmas and contracts for the row. -/
import Derived.Test.YtkkapbnopmmmjaaGreatDoorProg
import Derived.Test.YtkkapbnopmmmjaaGreatDoorPkRowEncodeMatchesB
import Derived.Deep.QuietTactic
import Derived.BigQuiet
import Derived.Lib.Hide
import Derived.Sort.Grow
set_option linter.unusedVariables false
set_option linter.unusedSimpArgs false
set_option linter.unnecessarySimpa false
namespace Go.Proofs.YtkkapbnopmmmjaaGreatDoor
open Go Go.RowKit
end Go.Proofs.YtkkapbnopmmmjaaGreatDoor
