/- Lemmas and contracts for the row. -/
import Derived.Test.YteikjpbbhopkaaaGreatDoorPkRowElimGatesS
import Derived.Test.YteikjpbbhopkaaaGreatDoorPkRowElimGatesAB
set_option linter.unusedVariables false
set_option linter.unusedSimpArgs false
set_option linter.unnecessarySimpa false
namespace Go.Proofs.YteikjpbbhopkaaaGreatDoor.En
open Go Go.ChangeShapes Go.WideShapes Go.ChangeAt Go.RowKit Go.Joins Go.Deep
abbrev gW (W:World):Gh:=g0 W (· <W.heap.size)
section
variable {H:Type} {enc:TypeId×Value→H} {P:Program} {w:World} {b0:Nat} {v:Value} {d:DataW H} {p:List MemPlace} {r:Reach}
end
section
variable {H:Type} {enc:TypeId×Value→H} {P:Program} {w:World} {b0:Nat} {v:Value} {d:DataW H} {p:List MemPlace} {r:Reach}
theorem cell_spot {a:Addr} {u:Value} (h:w.cell? a=some u):∃b off,a=⟨b,off,none⟩∧b<w.heap.size:=by
 have hb:=World.block_lt_of_cell? w a h
 obtain⟨b,off,s⟩:=a
 cases s with
 |none=>exact⟨b,off,rfl,hb⟩
 |some s=>simp[World.cell?]at h;split at h<;>simp at h
theorem z0v {H:Type} {P:Program} {t:TypeId} {ts:List TypeId} {d:DataW H} {ds:List (DataW H)} {q:Nat→Bool} (h:(DataW.weightsEach P (t::ts) (d::ds)).all q=true):(DataW.weights P t d).all q=true∧(DataW.weightsEach P ts ds).all q=true:=by
 simpa[DataW.weightsEach,Qj0]using h
end
end Go.Proofs.YteikjpbbhopkaaaGreatDoor.En
