/- How the arguments of a row of layer 14 read, in the reader's words. -/
import Derived.Test.YtbpbndlgfiammaaGreatDoorRowL
import Derived.Test.YtbpbndlgfiammaaGreatDoorEngCalls
import Derived.Deep.Slices
import Derived.Deep.SlicePairs
set_option linter.unusedSimpArgs false
set_option linter.unusedVariables false
set_option linter.unnecessarySimpa false
namespace Go.Proofs.YtbpbndlgfiammaaGreatDoor.En
open Go Go.ChangeShapes Go.WideShapes Go.ChangeAt Go.RowKit Go.Joins Go.Deep

abbrev gW (W : World) : Gh := g0 W (· < W.heap.size)
section
variable {H : Type} {enc : TypeId × Value → H} {P : Program} {w : World} {b0 : Nat} {v : Value} {d : DataW H} {p : List MemPlace} {r : Reach}
theorem trod_intsE {t e : TypeId} {fuel : Nat} {cs : List Value} {base : Nat} {x : DataW H × List MemPlace} (ht : P.underlying t = some (.slice e)) (he : P.underlying e = some (.int .i64)) (hc : P.cellsOf e = 1)
    (h : DataW.trod enc P w base (fun _ => true) true fuel t cs = some x) : ∃ v xs, cs = [v] ∧ Den (gW w) (.ints xs) v ∧ xs.length ≤ maxLen := by
  rcases open_ints ht he hc h with ⟨rfl, _⟩ | ⟨a, len, cap, zs, rfl, _, hl, hm, hz, _, hcell, hwz⟩
  · exact ⟨_, [], rfl, by simp only [Den]; exact .nil _ none 0 rfl, by simp⟩
  · simp only [if_true] at hz
    have hlen : (zs.take len).length = len := by rw [List.length_take, Nat.min_eq_left (by omega)]
    refine ⟨_, zs.take len, rfl, ?_, by omega⟩
    have := den_ints (W := w) (A := some a) (xs := zs.take len) (c := cap) (cells_rd (by omega) hcell) (by omega) (by omega)
    rwa [hlen] at this
theorem trod_boolsE {t e : TypeId} {fuel : Nat} {cs : List Value} {base : Nat} {x : DataW H × List MemPlace} (ht : P.underlying t = some (.slice e)) (he : P.underlying e = some .bool) (hc : P.cellsOf e = 1)
    (h : DataW.trod enc P w base (fun _ => true) true fuel t cs = some x) : ∃ v xs, cs = [v] ∧ Den (gW w) (.bools xs) v ∧ xs.length ≤ maxLen := by
  rcases open_bools ht he hc h with ⟨rfl, _⟩ | ⟨a, len, cap, B, rfl, _, hl, hm, _, hcell⟩
  · exact ⟨_, [], rfl, by simp only [Den]; exact .nil _ none 0 rfl, by simp⟩
  · have hlen : (((List.range cap).map B).take len).length = len := by rw [List.length_take, List.length_map, List.length_range, Nat.min_eq_left (by omega)]
    refine ⟨_, ((List.range cap).map B).take len, rfl, ?_, by omega⟩
    have := den_bools (W := w) (A := some a) (xs := ((List.range cap).map B).take len) (c := cap) (cells_rd (z := false) (by simpa using hl) (fun i hi => by
      simp only [List.length_map, List.length_range] at hi
      rw [hcell i hi, List.getD_eq_getElem?_getD]
      simp [hi])) (by omega) (by omega)
    rwa [hlen] at this
theorem cell_spot {a : Addr} {u : Value} (h : w.cell? a = some u) : ∃ b off, a = ⟨b, off, none⟩ ∧ b < w.heap.size := by
  have hb := World.block_lt_of_cell? w a h
  obtain ⟨b, off, s⟩ := a
  cases s with
  | none => exact ⟨b, off, rfl, hb⟩
  | some s => simp [World.cell?] at h; split at h <;> simp at h
theorem trod_intssE {t e e2 : TypeId} {fuel : Nat} {cs : List Value} {base : Nat} {x : DataW H × List MemPlace} (ht : P.underlying t = some (.slice e)) (he : P.underlying e = some (.slice e2)) (he2 : P.underlying e2 = some (.int .i64)) (hc : P.cellsOf e = 1) (hc2 : P.cellsOf e2 = 1)
    (h : DataW.trod enc P w base (fun _ => true) true fuel t cs = some x) : ∃ v xss, cs = [v] ∧ Den (gW w) (.intss xss) v ∧ xss.length ≤ maxLen ∧ ∀ l ∈ xss, l.length ≤ maxLen := by
  rcases open_slice1 ht hc h with ⟨rfl, _⟩ | ⟨a, len, cap, m, n, V, D, Pl, rfl, _, hl, hm, hmm, _, hcell⟩
  · exact ⟨_, [], rfl, by simp only [Den]; exact .nil _ none 0 rfl, by simp, by simp⟩
  · simp only [if_true] at hmm
    subst hmm
    have hx : ∀ i, ∃ xs : List Int, i < len → Den (gW w) (.ints xs) (V i) ∧ xs.length ≤ maxLen := fun i => by
      by_cases hi : i < len
      · obtain ⟨v, xs, e1, h1, h2⟩ := trod_intsE he he2 hc2 (hcell i (by omega)).2
        injection e1 with e1
        subst e1
        exact ⟨xs, fun _ => ⟨h1, h2⟩⟩
      · exact ⟨[], fun h => absurd h hi⟩
    obtain ⟨X, hX⟩ := Classical.axiomOfChoice hx
    have hlen : ((List.range len).map X).length = len := by simp
    refine ⟨_, (List.range len).map X, rfl, ?_, by omega, fun l hl => by obtain ⟨i, hi, rfl⟩ := List.mem_map.1 hl; exact (hX i (List.mem_range.1 hi)).2⟩
    simp only [Den]
    by_cases h0 : len = 0
    · subst h0; exact .nil _ _ _ rfl
    · obtain ⟨b, off, hab, hb⟩ := cell_spot (hcell 0 (by omega)).1
      have haa : a = ⟨b, off, none⟩ := by rwa [show a.add 0 = a from rfl] at hab
      subst haa
      have := Rep.ls (W := w) (G := (gW w).G) (.intss ((List.range len).map X)) b off m (fun i _ => V i) (by show ((List.range len).map X).length ≤ _; omega) (by show ((List.range len).map X).length ≤ _; omega) hb (fun i j hi hj => by
        have hi' : i < len := by simpa [LD.len] using hi
        have hj' : j = 0 := by have : j < 1 := hj; omega
        subst hj'
        have h1 := (hcell i (by omega)).1
        rw [add_mk] at h1
        show w.cell? ⟨b, off + i * 1 + 0, none⟩ = _
        rw [Nat.mul_one, Nat.add_zero]; exact h1) (fun i j hi hj => by
        have hi' : i < len := by simpa [LD.len] using hi
        have h1 := (hX i hi').1
        simp only [Den] at h1
        have e1 : ((List.range len).map X).getD i [] = X i := by simp [List.getD, hi']
        show Rep w _ (.ls (.ints (((List.range len).map X).getD i []))) (V i)
        rw [e1]; exact h1)
      have hl2 : LD.len (.intss ((List.range len).map X)) = len := hlen
      rw [hl2] at this
      exact this
theorem open_boolsE {t e : TypeId} (ht : P.underlying t = some (.slice e)) (he : P.underlying e = some .bool) (hc : P.cellsOf e = 1) (hv : Value.okWide P w r b0 t v) (h : DataW.Trod enc P w 0 (fun _ => true) true t v d p) :
    ∃ xs, Den (gW w) (.bools xs) v ∧ xs.length ≤ maxLen := by
  obtain ⟨fuel, hf⟩ := h
  obtain ⟨u, xs, e1, h1, h2⟩ := trod_boolsE ht he hc hf
  obtain ⟨a, l, c, rfl⟩ := okWide_slice ht hv
  simp [Value.cells] at e1
  subst e1
  exact ⟨xs, h1, h2⟩
theorem open_intsE {t e : TypeId} (ht : P.underlying t = some (.slice e)) (he : P.underlying e = some (.int .i64)) (hc : P.cellsOf e = 1) (hv : Value.okWide P w r b0 t v) (h : DataW.Trod enc P w 0 (fun _ => true) true t v d p) :
    ∃ xs, Den (gW w) (.ints xs) v ∧ xs.length ≤ maxLen := by
  obtain ⟨fuel, hf⟩ := h
  obtain ⟨u, xs, e1, h1, h2⟩ := trod_intsE ht he hc hf
  obtain ⟨a, l, c, rfl⟩ := okWide_slice ht hv
  simp [Value.cells] at e1
  subst e1
  exact ⟨xs, h1, h2⟩
theorem open_intssE {t e e2 : TypeId} (ht : P.underlying t = some (.slice e)) (he : P.underlying e = some (.slice e2)) (he2 : P.underlying e2 = some (.int .i64)) (hc : P.cellsOf e = 1) (hc2 : P.cellsOf e2 = 1) (hv : Value.okWide P w r b0 t v) (h : DataW.Trod enc P w 0 (fun _ => true) true t v d p) :
    ∃ xs, Den (gW w) (.intss xs) v ∧ (xs.length ≤ maxLen ∧ ∀ l ∈ xs, l.length ≤ maxLen) := by
  obtain ⟨fuel, hf⟩ := h
  obtain ⟨u, xs, e1, h1, h2⟩ := trod_intssE ht he he2 hc hc2 hf
  obtain ⟨a, l, c, rfl⟩ := okWide_slice ht hv
  simp [Value.cells] at e1
  subst e1
  exact ⟨xs, h1, h2⟩
end
set_option maxRecDepth 100000 in
theorem open_cnfE {H : Type} {enc : TypeId × Value → H} {w : World} {r : Reach} {b0 : Nat} {v : Value} {d : DataW H} {p : List MemPlace} (hv : Value.okWide Tryz.prog w r b0 28 v) (h : DataW.Trod enc Tryz.prog w 0 (fun _ => true) true 28 v d p) :
    ∃ N L, Den (gW w) (.agg [.int N, .intss L]) v ∧ (L.length ≤ maxLen ∧ ∀ l ∈ L, l.length ≤ maxLen) := by
  obtain ⟨v0, v1, y0, y1, n, rfl, rfl, rfl, h0, h1⟩ := open_agg2 Tryz.underlying28 (by kernel_rfl) (by kernel_rfl) hv h
  obtain ⟨N, e2, _, wN⟩ := DataW.trod_int Tryz.underlying3 h0
  obtain ⟨u1, L, e1, r1, m1⟩ := trod_intssE Tryz.underlying22 Tryz.underlying23 Tryz.underlying3 (by kernel_rfl) (by kernel_rfl) h1
  simp at e1 e2
  subst e1 e2
  refine ⟨N, L, ?_, m1⟩
  rw [Den]
  refine ⟨[_, _], rfl, ?_⟩
  simp only [DenL]
  exact ⟨_, _, rfl, den_val_mk _, _, _, rfl, r1, rfl⟩
end Go.Proofs.YtbpbndlgfiammaaGreatDoor.En
