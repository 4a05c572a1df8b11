/- Lemmas and contracts for the row. -/
import Derived.Test.YteikjpbbhopkaaaGreatDoorPkRowElimGatesB
import Derived.Lib.SmallJoins
import Derived.Deep.Grids
import Derived.Test.YteikjpbbhopkaaaGreatDoorProg
set_option linter.unusedVariables false
set_option linter.unusedSimpArgs false
set_option linter.unnecessarySimpa false
namespace Go.Proofs.YteikjpbbhopkaaaGreatDoor
open Go.ChangeShapes Go.WideShapes Go.ChangeAt Go.RowKit Go.Joins Go.Deep
theorem own:ownKnob Tryz.prog.godebug=none:=by kernel_rfl
theorem laidOut:laidOutB Tryz.prog=true:=by kernel_rfl
abbrev v1t (n:Int):Prop:= -9223372036854775808≤n∧n≤9223372036854775807
theorem y0b {n:Int} (h:(Lit.int .i64 n).wf=true):v1t n:=by
 simp[Lit.wf]at h
 exact h
section
variable {H:Type} {enc:TypeId×Value→H} {P:Program} {w:World} {base:Nat} {spare:Nat→Bool}
end
end Go.Proofs.YteikjpbbhopkaaaGreatDoor
