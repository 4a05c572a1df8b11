/- How a constraint that came in reads. -/
import Derived.Test.YtogolfneckhnaaaDoorMem
import Derived.WalkKit
import Derived.Below
import Derived.ChangeSlices
import Derived.WideShapes
import Derived.Lib.SmallJoins
import Derived.Deep.Grids
import Derived.Test.YtogolfneckhnaaaDoorProg
import Derived.KernelRfl
import Derived.Test.YtogolfneckhnaaaDoorLin1
import Derived.Test.YtogolfneckhnaaaDoorRowTab
set_option linter.unusedSimpArgs false
set_option linter.unusedVariables false
set_option linter.unnecessarySimpa false
namespace Go.Proofs.YtogolfneckhnaaaDoor
open Go.ChangeShapes Go.WideShapes Go.ChangeAt Go.RowKit Go.Joins Go.Deep
abbrev InI64 (n : Int) : Prop := -9223372036854775808 ≤ n ∧ n ≤ 9223372036854775807
theorem i64_of_wf2 {n : Int} (h : (Lit.int .i64 n).wf = true) : InI64 n := by
  simp [Lit.wf] at h
  exact h
section
variable {H : Type} {enc : TypeId × Value → H} {P : Program} {w : World} {base : Nat} {spare : Nat → Bool}
theorem cells_rd {α : Type} {encV : α → Value} {a : Addr} {zs : List α} {len : Nat} {z : α} (hl : len ≤ zs.length) (hc : ∀ i, i < zs.length → w.cell? (a.add i) = some (encV (zs.getD i z))) : Rd encV (· < w.heap.size) w (some a) (zs.take len) := fun hn => by
  rw [List.length_take] at hn
  have h0 := hc 0 (by omega)
  obtain ⟨b, off, spot⟩ := a
  have hs : spot = none := by simpa [Addr.add] using World.cell?_spot h0
  subst hs
  refine ⟨b, off, rfl, ?_, fun j hj => ?_⟩
  · exact World.block_lt_of_cell? w _ (by simpa [Addr.add] using h0)
  · rw [List.length_take] at hj
    have := hc j (by omega)
    rw [add_mk] at this
    rw [this, List.getElem_take, List.getD_eq_getElem?_getD, List.getElem?_eq_getElem (by omega)]
    rfl
theorem ints_open {t e : TypeId} {fuel : Nat} {cs : List Value} {x : DataW H × List MemPlace} (ht : P.underlying t = some (.slice e)) (he : P.underlying e = some (.int .i64)) (hc : P.cellsOf e = 1)
    (h : DataW.trod enc P w base (fun _ => true) true fuel t cs = some x) : ∃ A c xs, cs = [.slice A (List.length xs) c] ∧ Rd I64 (· < w.heap.size) w A xs ∧ xs.length ≤ maxLen ∧ ∀ n ∈ xs, InI64 n := by
  rcases open_ints ht he hc h with ⟨rfl, _⟩ | ⟨a, len, cap, zs, rfl, _, hl, hm, hz, _, hcell, hwz⟩
  · exact ⟨none, 0, [], rfl, Rd.nil _, by simp, by simp⟩
  · simp only [if_true] at hz
    refine ⟨some a, cap, zs.take len, by rw [List.length_take, Nat.min_eq_left (by omega)], cells_rd (by omega) hcell, by rw [List.length_take]; omega, fun n hn => i64_of_wf2 (hwz n (List.mem_of_mem_take hn))⟩
theorem bools_open {t e : TypeId} {fuel : Nat} {cs : List Value} {x : DataW H × List MemPlace} (ht : P.underlying t = some (.slice e)) (he : P.underlying e = some .bool) (hc : P.cellsOf e = 1)
    (h : DataW.trod enc P w base (fun _ => true) true fuel t cs = some x) : ∃ A c xs, cs = [.slice A (List.length xs) c] ∧ Rd Value.bool (· < w.heap.size) w A xs ∧ xs.length ≤ maxLen := by
  rcases open_bools ht he hc h with ⟨rfl, _⟩ | ⟨a, len, cap, B, rfl, _, hl, hm, _, hcell⟩
  · exact ⟨none, 0, [], rfl, Rd.nil _, by simp⟩
  · refine ⟨some a, cap, ((List.range cap).map B).take len, by rw [List.length_take, List.length_map, List.length_range, Nat.min_eq_left (by omega)], cells_rd (z := false) (by simpa using hl) (fun i hi => ?_), by rw [List.length_take]; simp; omega⟩
    simp only [List.length_map, List.length_range] at hi
    rw [hcell i hi, List.getD_eq_getElem?_getD]
    simp [hi]
end
end Go.Proofs.YtogolfneckhnaaaDoor
namespace Go.Proofs.YtogolfneckhnaaaDoor
open Go.ChangeShapes Go.WideShapes Go.ChangeAt Go.RowKit Go.Joins Go.Deep
structure LinBd (l : LinV) : Prop where
  hc : ∀ x ∈ l.C, InI64 x
  hl : ∀ x ∈ l.L, InI64 x
  hb : InI64 l.B
set_option maxRecDepth 100000 in
theorem lin_open {H : Type} {enc : TypeId × Value → H} {w : World} {r : Reach} {b0 : Nat} {v : Value} {d : DataW H} {p : List MemPlace} (hv : Value.okWide Tryd.prog w r b0 49 v) (h : DataW.Trod enc Tryd.prog w 0 (fun _ => true) true 49 v d p) :
    ∃ A L cA cL l, v = linV A L cA cL l ∧ LinAt w A L l ∧ LinBd l := by
  obtain ⟨v0, v1, v2, y0, y1, y2, n, rfl, rfl, rfl, h0, h1, h2⟩ := open_agg3 Tryd.underlying49 (by kernel_rfl) (by kernel_rfl) hv h
  obtain ⟨A, cA, cs, e0, r0, m0, b0⟩ := ints_open Tryd.underlying22 Tryd.underlying3 (by kernel_rfl) h0
  obtain ⟨L, cL, ls, e1, r1, m1, b1⟩ := ints_open Tryd.underlying22 Tryd.underlying3 (by kernel_rfl) h1
  obtain ⟨B, e2, _, wB⟩ := DataW.trod_int Tryd.underlying3 h2
  simp at e0 e1 e2
  subst e0 e1 e2
  exact ⟨A, L, cA, cL, ⟨cs, ls, B⟩, rfl, ⟨r0, r1, m0, m1⟩, ⟨b0, b1, i64_of_wf2 wB⟩⟩
end Go.Proofs.YtogolfneckhnaaaDoor
