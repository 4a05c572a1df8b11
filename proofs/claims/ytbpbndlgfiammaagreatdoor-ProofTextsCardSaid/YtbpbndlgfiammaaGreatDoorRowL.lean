/- How the arguments of a row read: slices of integers, slices of bools, integers. -/
import Derived.Test.YtbpbndlgfiammaaGreatDoorMem
import Derived.WalkKit
import Derived.Below
import Derived.ChangeSlices
import Derived.WideShapes
import Derived.Lib.SmallJoins
import Derived.Deep.Grids
import Derived.Test.YtbpbndlgfiammaaGreatDoorProg
import Derived.KernelRfl
set_option linter.unusedSimpArgs false
set_option linter.unusedVariables false
set_option linter.unnecessarySimpa false
namespace Go.Proofs.YtbpbndlgfiammaaGreatDoor
open Go.ChangeShapes Go.WideShapes Go.ChangeAt Go.RowKit Go.Joins Go.Deep
theorem own : ownKnob Tryz.prog.godebug = none := by kernel_rfl
theorem laidOut : laidOutB Tryz.prog = true := by kernel_rfl
abbrev InI64 (n : Int) : Prop := -9223372036854775808 ≤ n ∧ n ≤ 9223372036854775807
theorem i64_of_wf {n : Int} (h : (Lit.int .i64 n).wf = true) : InI64 n := by
  simp [Lit.wf] at h
  exact h
section
variable {H : Type} {enc : TypeId × Value → H} {P : Program} {w : World} {base : Nat} {spare : Nat → Bool}
theorem cells_rd {α : Type} {encV : α → Value} {a : Addr} {zs : List α} {len : Nat} {z : α} (hl : len ≤ zs.length) (hc : ∀ i, i < zs.length → w.cell? (a.add i) = some (encV (zs.getD i z))) : Rd encV (· < w.heap.size) w (some a) (zs.take len) := fun hn => by
  rw [List.length_take] at hn
  have h0 := hc 0 (by omega)
  obtain ⟨b, off, spot⟩ := a
  have hs : spot = none := by simpa [Addr.add] using World.cell?_spot h0
  subst hs
  refine ⟨b, off, rfl, ?_, fun j hj => ?_⟩
  · exact World.block_lt_of_cell? w _ (by simpa [Addr.add] using h0)
  · rw [List.length_take] at hj
    have := hc j (by omega)
    rw [add_mk] at this
    rw [this, List.getElem_take, List.getD_eq_getElem?_getD, List.getElem?_eq_getElem (by omega)]
    rfl
theorem ints_open {t e : TypeId} {fuel : Nat} {cs : List Value} {x : DataW H × List MemPlace} (ht : P.underlying t = some (.slice e)) (he : P.underlying e = some (.int .i64)) (hc : P.cellsOf e = 1)
    (h : DataW.trod enc P w base (fun _ => true) true fuel t cs = some x) : ∃ A c xs, cs = [.slice A (List.length xs) c] ∧ Rd I64 (· < w.heap.size) w A xs ∧ xs.length ≤ maxLen ∧ ∀ n ∈ xs, InI64 n := by
  rcases open_ints ht he hc h with ⟨rfl, _⟩ | ⟨a, len, cap, zs, rfl, _, hl, hm, hz, _, hcell, hwz⟩
  · exact ⟨none, 0, [], rfl, Rd.nil _, by simp, by simp⟩
  · simp only [if_true] at hz
    refine ⟨some a, cap, zs.take len, by rw [List.length_take, Nat.min_eq_left (by omega)], cells_rd (by omega) hcell, by rw [List.length_take]; omega, fun n hn => i64_of_wf (hwz n (List.mem_of_mem_take hn))⟩
theorem bools_open {t e : TypeId} {fuel : Nat} {cs : List Value} {x : DataW H × List MemPlace} (ht : P.underlying t = some (.slice e)) (he : P.underlying e = some .bool) (hc : P.cellsOf e = 1)
    (h : DataW.trod enc P w base (fun _ => true) true fuel t cs = some x) : ∃ A c xs, cs = [.slice A (List.length xs) c] ∧ Rd Value.bool (· < w.heap.size) w A xs ∧ xs.length ≤ maxLen := by
  rcases open_bools ht he hc h with ⟨rfl, _⟩ | ⟨a, len, cap, B, rfl, _, hl, hm, _, hcell⟩
  · exact ⟨none, 0, [], rfl, Rd.nil _, by simp⟩
  · refine ⟨some a, cap, ((List.range cap).map B).take len, by rw [List.length_take, List.length_map, List.length_range, Nat.min_eq_left (by omega)], cells_rd (z := false) (by simpa using hl) (fun i hi => ?_), by rw [List.length_take]; simp; omega⟩
    simp only [List.length_map, List.length_range] at hi
    rw [hcell i hi, List.getD_eq_getElem?_getD]
    simp [hi]
end
end Go.Proofs.YtbpbndlgfiammaaGreatDoor
