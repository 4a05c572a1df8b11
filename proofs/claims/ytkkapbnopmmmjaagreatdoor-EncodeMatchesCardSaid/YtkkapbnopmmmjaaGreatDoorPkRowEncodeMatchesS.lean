/- Lemmas and contracts for the row. -/
import Derived.Test.YtkkapbnopmmmjaaGreatDoorPkRowEncodeMatchesB
import Derived.WalkKit
import Derived.Below
import Derived.ChangeSlices
import Derived.WideShapes
import Derived.Lib.SmallJoins
import Derived.Deep.Grids
import Derived.Test.YtkkapbnopmmmjaaGreatDoorProg
import Derived.KernelRfl
set_option linter.unusedVariables false
set_option linter.unusedSimpArgs false
set_option linter.unnecessarySimpa false
namespace Go.Proofs.YtkkapbnopmmmjaaGreatDoor
open Go.ChangeShapes Go.WideShapes Go.ChangeAt Go.RowKit Go.Joins Go.Deep
theorem own : ownKnob Tryz.prog.godebug = none := by kernel_rfl
theorem laidOut : laidOutB Tryz.prog = true := by kernel_rfl
abbrev y8w (n : Int) : Prop := -9223372036854775808 ≤ n ∧ n ≤ 9223372036854775807
theorem q9l {n : Int} (h : (Lit.int .i64 n).wf = true) : y8w n := by
 simp [Lit.wf] at h
 exact h
section
variable {H : Type} {enc : TypeId × Value → H} {P : Program} {w : World} {base : Nat} {spare : Nat → Bool}
theorem x4d {α : Type} {encV : α → Value} {a : Addr} {zs : List α} {len : Nat} {z : α} (hl : len ≤ zs.length) (hc : ∀ i, i < zs.length → w.cell? (a.add i) = some (encV (zs.getD i z))) : Rd encV (· < w.heap.size) w (some a) (zs.take len) := fun hn => by
 rw [List.length_take] at hn
 have h0 := hc 0 (by omega)
 obtain ⟨b, off, spot⟩ := a
 have hs : spot = none := by simpa [Addr.add] using World.cell?_spot h0
 subst hs
 refine ⟨b, off, rfl, ?_, fun j hj => ?_⟩
 · exact World.block_lt_of_cell? w _ (by simpa [Addr.add] using h0)
 · rw [List.length_take] at hj
   have := hc j (by omega)
   rw [q4n] at this
   rw [this, List.getElem_take, List.getD_eq_getElem?_getD, List.getElem?_eq_getElem (by omega)]
   rfl
end
end Go.Proofs.YtkkapbnopmmmjaaGreatDoor
