/- What the rows of layer 17 have in common: the listed bit tables give TabAt; a slice of integers that came in gives Rd; the door's own heap meets the list. -/
import Derived.Test.YtogolfneckhnaaaDoorLive17b
import Derived.Test.YtogolfneckhnaaaDoorRows
import Derived.ProofKit
import Derived.LaidMore
import Derived.OpenShut
import Derived.Stop.Joined
import Derived.Lib.LaidTab
namespace Go.Proofs.YtogolfneckhnaaaDoor
open Go.ChangeShapes Go.WideShapes Go.ChangeAt Go.RowKit

theorem own : ownKnob Tryd.prog.godebug = none := by kernel_rfl
theorem laidOut : laidOutB Tryd.prog = true := by kernel_rfl
theorem g64 : Tryd.prog.globalNamed "math/bits.deBruijn64tab" = some 1 := by kernel_rfl
abbrev lay : List (String × DataW Unit) := [("math/bits.deBruijn32tab", Rows.laid_math_bits_deBruijn32tab), ("math/bits.deBruijn64tab", Rows.laid_math_bits_deBruijn64tab)]
def tab64 : List Int := Lib.deBruijn64tab.map Int.ofNat
theorem tab64_eq {H : Type} : (Rows.laid_math_bits_deBruijn64tab : DataW H) = Lib.tabData .u8 tab64 := rfl
theorem tab64_at : ∀ j, j < 64 → tab64.getD j 0 = ((Lib.deBruijn64tab.getD j 0 : Nat) : Int) := by decide +kernel

theorem door_met (os : Os) (args : Array Value) : laidMetH Tryd.prog lay ((World.doorLaid Tryd.prog 19 os).forCall (fun _ _ => 0) ⟨#[], args, []⟩).memory :=
  laidMetH_of_parts3 (fuel := 8) (laidMet_of_run' 8 (by kernel_rfl) (by kernel_rfl)) (by kernel_rfl) (by kernel_rfl)

theorem tab_of_laid {W : World} (h : laidMetH Tryd.prog lay W) : TabAt W := by
  rw [MakeChecks.laidMetH_plain _ _ _ (by kernel_rfl)] at h
  obtain ⟨ps, ⟨g0, t0, cs0, f0, p0, q0, hg0, ht0, hv0, hd0, ⟨g1, t1, cs1, f1, p1, q1, hg1, ht1, hv1, hd1, _, _⟩, _⟩, _, _⟩ := h
  obtain rfl := Option.some.inj (g64.symm.trans hg1)
  obtain rfl := Option.some.inj ((show (Tryd.prog.globals[1]?).map (·.type) = some 104 by kernel_rfl).symm.trans ht1)
  rw [tab64_eq] at hd1
  have hc := Lib.cells_of_tab Tryd.underlying104 Tryd.underlying5 (by kernel_rfl) (by kernel_rfl) hd1
  have ht : Lib.TabIs Tryd.prog W "math/bits.deBruijn64tab" .u8 tab64 := by
    unfold Lib.TabIs
    rw [hv1, ← hc]
  intro j hj
  rw [← tab64_at j hj]
  exact ht.cell g64 j hj

/-- A slice of integers that came in. -/
def IsRow (k : IntKind) (w : World) (a : Option Addr) (len cap : Nat) (zs : List Int) : Prop :=
  (a = none ∧ len = 0 ∧ cap = 0 ∧ zs = []) ∨
  ∃ x, a = some x ∧ len ≤ cap ∧ cap ≤ maxLen ∧ zs.length = cap ∧ (∀ i, i < zs.length → w.cell? (x.add i) = some (.int k (zs.getD i 0))) ∧ ∀ n ∈ zs, (Lit.int k n).wf = true
theorem IsRow.rd {w : World} {a : Option Addr} {len cap : Nat} {zs : List Int} (h : IsRow .i64 w a len cap zs) : Rd I64 (· < w.heap.size) w a (zs.take len) ∧ (zs.take len).length = len := by
  rcases h with ⟨rfl, rfl, rfl, rfl⟩ | ⟨⟨b, off, sp⟩, rfl, h1, h2, h3, h4, h5⟩
  · exact ⟨Rd.nil _, rfl⟩
  · refine ⟨fun hn => ?_, by rw [List.length_take]; omega⟩
    rw [List.length_take] at hn
    have hs : sp = none := by
      have := h4 0 (by omega)
      cases sp with
      | none => rfl
      | some s => simp [World.cell?, Addr.add] at this; split at this <;> cases this
    subst hs
    refine ⟨b, off, rfl, World.block_lt_of_cell? w _ (h4 0 (by omega)), fun j hj => ?_⟩
    rw [List.length_take] at hj
    have := h4 j (by omega)
    have ea : (⟨b, off, none⟩ : Addr).add j = ⟨b, off + j, none⟩ := by unfold Addr.add; split <;> simp_all
    rw [ea] at this
    rw [this, List.getElem_take, List.getD_eq_getElem?_getD, List.getElem?_eq_getElem (by omega)]
    rfl
end Go.Proofs.YtogolfneckhnaaaDoor
