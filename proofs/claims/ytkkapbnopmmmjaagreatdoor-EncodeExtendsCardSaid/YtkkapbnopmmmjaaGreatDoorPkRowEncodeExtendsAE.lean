/- Lemmas and contracts for the row. -/
import Derived.Test.YtkkapbnopmmmjaaGreatDoorPkRowEncodeExtendsS
import Derived.Test.YtkkapbnopmmmjaaGreatDoorPkRowEncodeExtendsY
import Derived.Deep.Slices
import Derived.ChangeSame
set_option linter.unusedVariables false
set_option linter.unusedSimpArgs false
set_option linter.unnecessarySimpa false
namespace Go.Proofs.YtkkapbnopmmmjaaGreatDoor.En
open Go Go.ChangeShapes Go.WideShapes Go.ChangeAt Go.RowKit Go.Joins Go.Deep
abbrev gW (W : World) : Gh := g0 W (· < W.heap.size)
section
variable {H : Type} {enc : TypeId × Value → H} {P : Program} {w : World} {b0 : Nat} {v : Value} {d : DataW H} {p : List MemPlace} {r : Reach}
theorem trod_intsE {t e : TypeId} {fuel : Nat} {cs : List Value} {base : Nat} {x : DataW H × List MemPlace} (ht : P.underlying t = some (.slice e)) (he : P.underlying e = some (.int .i64)) (hc : P.cellsOf e = 1)
    (h : DataW.trod enc P w base (fun _ => true) true fuel t cs = some x) : ∃ v xs, cs = [v] ∧ Den (gW w) (.ints xs) v ∧ xs.length ≤ maxLen ∧ ∀ n ∈ xs, InI64 n := by
  rcases open_ints ht he hc h with ⟨rfl, _⟩ | ⟨a, len, cap, zs, rfl, _, hl, hm, hz, _, hcell, hwz⟩
  · exact ⟨_, [], rfl, by simp only [Den]; exact .nil _ none 0 rfl, by simp, by simp⟩
  · simp only [if_true] at hz
    have hlen : (zs.take len).length = len := by rw [List.length_take, Nat.min_eq_left (by omega)]
    refine ⟨_, zs.take len, rfl, ?_, by omega, fun n hn => i64_of_wf (hwz n (List.mem_of_mem_take hn))⟩
    have := den_ints (W := w) (A := some a) (xs := zs.take len) (c := cap) (cells_rd (by omega) hcell) (by omega) (by omega)
    rwa [hlen] at this
theorem trod_boolsE {t e : TypeId} {fuel : Nat} {cs : List Value} {base : Nat} {x : DataW H × List MemPlace} (ht : P.underlying t = some (.slice e)) (he : P.underlying e = some .bool) (hc : P.cellsOf e = 1)
    (h : DataW.trod enc P w base (fun _ => true) true fuel t cs = some x) : ∃ v xs, cs = [v] ∧ Den (gW w) (.bools xs) v ∧ xs.length ≤ maxLen := by
  rcases open_bools ht he hc h with ⟨rfl, _⟩ | ⟨a, len, cap, B, rfl, _, hl, hm, _, hcell⟩
  · exact ⟨_, [], rfl, by simp only [Den]; exact .nil _ none 0 rfl, by simp⟩
  · have hlen : (((List.range cap).map B).take len).length = len := by rw [List.length_take, List.length_map, List.length_range, Nat.min_eq_left (by omega)]
    refine ⟨_, ((List.range cap).map B).take len, rfl, ?_, by omega⟩
    have := den_bools (W := w) (A := some a) (xs := ((List.range cap).map B).take len) (c := cap) (cells_rd (z := false) (by simpa using hl) (fun i hi => by
      simp only [List.length_map, List.length_range] at hi
      rw [hcell i hi, List.getD_eq_getElem?_getD]
      simp [hi])) (by omega) (by omega)
    rwa [hlen] at this
theorem open_boolsE {t e : TypeId} (ht : P.underlying t = some (.slice e)) (he : P.underlying e = some .bool) (hc : P.cellsOf e = 1) (hv : Value.okWide P w r b0 t v) (h : DataW.Trod enc P w 0 (fun _ => true) true t v d p) :
    ∃ xs, Den (gW w) (.bools xs) v ∧ xs.length ≤ maxLen := by
  obtain ⟨fuel, hf⟩ := h
  obtain ⟨u, xs, e1, h1, h2⟩ := trod_boolsE ht he hc hf
  obtain ⟨a, l, c, rfl⟩ := okWide_slice ht hv
  simp [Value.cells] at e1
  subst e1
  exact ⟨xs, h1, h2⟩
end
set_option maxRecDepth 100000 in
theorem open_linE {H : Type} {enc : TypeId × Value → H} {w : World} {r : Reach} {b0 : Nat} {v : Value} {d : DataW H} {p : List MemPlace} (hv : Value.okWide Tryz.prog w r b0 24 v) (h : DataW.Trod enc Tryz.prog w 0 (fun _ => true) true 24 v d p) :
    ∃ C L B, Den (gW w) (.agg [.ints C, .ints L, .int B]) v ∧ C.length ≤ maxLen ∧ L.length ≤ maxLen ∧ (∀ x ∈ C, InI64 x) ∧ (∀ x ∈ L, InI64 x) ∧ InI64 B := by
  obtain ⟨v0, v1, v2, y0, y1, y2, n, rfl, rfl, rfl, h0, h1, h2⟩ := open_agg3 Tryz.underlying24 (by kernel_rfl) (by kernel_rfl) hv h
  obtain ⟨u0, C, e0, r0, m0, b0⟩ := trod_intsE Tryz.underlying22 Tryz.underlying3 (by kernel_rfl) h0
  obtain ⟨u1, L, e1, r1, m1, b1⟩ := trod_intsE Tryz.underlying22 Tryz.underlying3 (by kernel_rfl) h1
  obtain ⟨B, e2, _, wB⟩ := DataW.trod_int Tryz.underlying3 h2
  simp at e0 e1 e2
  subst e0 e1 e2
  refine ⟨C, L, B, ?_, m0, m1, b0, b1, i64_of_wf wB⟩
  rw [Den]
  refine ⟨[_, _, _], rfl, ?_⟩
  simp only [DenL]
  exact ⟨_, _, rfl, r0, _, _, rfl, r1, _, _, rfl, den_val_mk _, rfl⟩
section
variable {H : Type} {enc : TypeId × Value → H} {P : Program} {w : World} {b0 : Nat} {v : Value} {d : DataW H} {p : List MemPlace} {r : Reach}
theorem weights_one {H : Type} {P : Program} {t : TypeId} {ts : List TypeId} {d : DataW H} {ds : List (DataW H)} {q : Nat → Bool} (h : (DataW.weightsEach P (t :: ts) (d :: ds)).all q = true) : (DataW.weights P t d).all q = true ∧ (DataW.weightsEach P ts ds).all q = true := by
  simpa [DataW.weightsEach, List.all_append] using h
end
end Go.Proofs.YtkkapbnopmmmjaaGreatDoor.En
