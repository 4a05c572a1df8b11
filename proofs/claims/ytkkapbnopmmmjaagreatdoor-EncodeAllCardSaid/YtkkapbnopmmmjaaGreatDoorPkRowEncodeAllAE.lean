/- Lemmas and contracts for the row. -/
import Derived.Test.YtkkapbnopmmmjaaGreatDoorPkRowEncodeAllS
import Derived.Test.YtkkapbnopmmmjaaGreatDoorPkRowEncodeAllY
import Derived.Deep.Slices
import Derived.ChangeSame
set_option linter.unusedVariables false
set_option linter.unusedSimpArgs false
set_option linter.unnecessarySimpa false
namespace Go.Proofs.YtkkapbnopmmmjaaGreatDoor.En
open Go Go.ChangeShapes Go.WideShapes Go.ChangeAt Go.RowKit Go.Joins Go.Deep
abbrev gW (W : World) : Gh := g0 W (· < W.heap.size)
section
variable {H : Type} {enc : TypeId × Value → H} {P : Program} {w : World} {b0 : Nat} {v : Value} {d : DataW H} {p : List MemPlace} {r : Reach}
theorem trod_intsE {t e : TypeId} {fuel : Nat} {cs : List Value} {base : Nat} {x : DataW H × List MemPlace} (ht : P.underlying t = some (.slice e)) (he : P.underlying e = some (.int .i64)) (hc : P.cellsOf e = 1)
    (h : DataW.trod enc P w base (fun _ => true) true fuel t cs = some x) : ∃ v xs, cs = [v] ∧ Den (gW w) (.ints xs) v ∧ xs.length ≤ maxLen ∧ ∀ n ∈ xs, InI64 n := by
  rcases open_ints ht he hc h with ⟨rfl, _⟩ | ⟨a, len, cap, zs, rfl, _, hl, hm, hz, _, hcell, hwz⟩
  · exact ⟨_, [], rfl, by simp only [Den]; exact .nil _ none 0 rfl, by simp, by simp⟩
  · simp only [if_true] at hz
    have hlen : (zs.take len).length = len := by rw [List.length_take, Nat.min_eq_left (by omega)]
    refine ⟨_, zs.take len, rfl, ?_, by omega, fun n hn => i64_of_wf (hwz n (List.mem_of_mem_take hn))⟩
    have := den_ints (W := w) (A := some a) (xs := zs.take len) (c := cap) (cells_rd (by omega) hcell) (by omega) (by omega)
    rwa [hlen] at this
theorem trod_boolsE {t e : TypeId} {fuel : Nat} {cs : List Value} {base : Nat} {x : DataW H × List MemPlace} (ht : P.underlying t = some (.slice e)) (he : P.underlying e = some .bool) (hc : P.cellsOf e = 1)
    (h : DataW.trod enc P w base (fun _ => true) true fuel t cs = some x) : ∃ v xs, cs = [v] ∧ Den (gW w) (.bools xs) v ∧ xs.length ≤ maxLen := by
  rcases open_bools ht he hc h with ⟨rfl, _⟩ | ⟨a, len, cap, B, rfl, _, hl, hm, _, hcell⟩
  · exact ⟨_, [], rfl, by simp only [Den]; exact .nil _ none 0 rfl, by simp⟩
  · have hlen : (((List.range cap).map B).take len).length = len := by rw [List.length_take, List.length_map, List.length_range, Nat.min_eq_left (by omega)]
    refine ⟨_, ((List.range cap).map B).take len, rfl, ?_, by omega⟩
    have := den_bools (W := w) (A := some a) (xs := ((List.range cap).map B).take len) (c := cap) (cells_rd (z := false) (by simpa using hl) (fun i hi => by
      simp only [List.length_map, List.length_range] at hi
      rw [hcell i hi, List.getD_eq_getElem?_getD]
      simp [hi])) (by omega) (by omega)
    rwa [hlen] at this
theorem open_boolsE {t e : TypeId} (ht : P.underlying t = some (.slice e)) (he : P.underlying e = some .bool) (hc : P.cellsOf e = 1) (hv : Value.okWide P w r b0 t v) (h : DataW.Trod enc P w 0 (fun _ => true) true t v d p) :
    ∃ xs, Den (gW w) (.bools xs) v ∧ xs.length ≤ maxLen := by
  obtain ⟨fuel, hf⟩ := h
  obtain ⟨u, xs, e1, h1, h2⟩ := trod_boolsE ht he hc hf
  obtain ⟨a, l, c, rfl⟩ := okWide_slice ht hv
  simp [Value.cells] at e1
  subst e1
  exact ⟨xs, h1, h2⟩
end
section
variable {H : Type} {enc : TypeId × Value → H} {P : Program} {w : World} {b0 : Nat} {v : Value} {d : DataW H} {p : List MemPlace} {r : Reach}
theorem cell_spot {a : Addr} {u : Value} (h : w.cell? a = some u) : ∃ b off, a = ⟨b, off, none⟩ ∧ b < w.heap.size := by
  have hb := World.block_lt_of_cell? w a h
  obtain ⟨b, off, s⟩ := a
  cases s with
  | none => exact ⟨b, off, rfl, hb⟩
  | some s => simp [World.cell?] at h; split at h <;> simp at h
theorem weights_one {H : Type} {P : Program} {t : TypeId} {ts : List TypeId} {d : DataW H} {ds : List (DataW H)} {q : Nat → Bool} (h : (DataW.weightsEach P (t :: ts) (d :: ds)).all q = true) : (DataW.weights P t d).all q = true ∧ (DataW.weightsEach P ts ds).all q = true := by
  simpa [DataW.weightsEach, List.all_append] using h
theorem open_trip {t e : TypeId} {f0 f1 f2 : Field} {fuel : Nat} {cs : List Value} {base : Nat} {x : DataW H × List MemPlace} (ht : P.underlying t = some (.slice e)) (he : P.underlying e = some (.struct #[f0, f1, f2]))
    (ce : P.cellsOf e = 3) (o0 : f0.offset = 0) (o1 : f1.offset = 1) (o2 : f2.offset = 2) (c0 : P.cellsOf f0.type = 1) (c1 : P.cellsOf f1.type = 1) (c2 : P.cellsOf f2.type = 1)
    (h : DataW.trod enc P w base (fun _ => true) true fuel t cs = some x) :
    cs = [.slice none 0 0] ∨ ∃ (a : Addr) (len cap n : Nat), cs = [.slice (some a) len cap] ∧ len ≤ cap ∧ cap ≤ maxLen ∧
      ∀ i, i < cap → ∃ (v0 v1 v2 : Value) (y0 y1 y2 : DataW H × List MemPlace), w.cell? (a.add (i * 3)) = some v0 ∧ w.cell? (a.add (i * 3 + 1)) = some v1 ∧ w.cell? (a.add (i * 3 + 2)) = some v2 ∧
        DataW.trod enc P w base (fun _ => true) true n f0.type [v0] = some y0 ∧ DataW.trod enc P w base (fun _ => true) true n f1.type [v1] = some y1 ∧ DataW.trod enc P w base (fun _ => true) true n f2.type [v2] = some y2 := by
  rcases open_slice ht h with h0 | ⟨a, len, cap, m, n, D, Pl, rfl, hb, hl, hm, hmm, rfl, hx⟩
  · exact .inl h0.1
  right
  simp only [if_true] at hmm
  subst hmm
  refine ⟨a, len, m, n - 1, rfl, hl, hm, fun i hi => ?_⟩
  obtain ⟨cs', h1, h2⟩ := hx i hi
  rw [ce] at h1
  obtain ⟨_, hlen, hcell⟩ := World.cells?_some h1
  obtain ⟨xs, k, hk, hxy, _, hxl, hf⟩ := DataW.trod_struct he h2
  have hk' : k = n - 1 := by omega
  subst hk'
  match xs, hxl, cs', hlen with
  | [y0, y1, y2], _, [v0, v1, v2], _ =>
    have g0 := hf 0 f0 rfl
    have g1 := hf 1 f1 rfl
    have g2 := hf 2 f2 rfl
    simp [o0, o1, o2, c0, c1, c2] at g0 g1 g2
    have e0 := hcell 0 (by omega)
    have e1 := hcell 1 (by omega)
    have e2 := hcell 2 (by omega)
    rw [add_add] at e0 e1 e2
    exact ⟨v0, v1, v2, y0, y1, y2, by simpa using e0, by simpa using e1, by simpa using e2, g0, g1, g2⟩
end
set_option maxRecDepth 100000 in
theorem open_linsE {H : Type} {enc : TypeId × Value → H} {w : World} {r : Reach} {b0 : Nat} {v : Value} {d : DataW H} {p : List MemPlace} (hv : Value.okWide Tryz.prog w r b0 44 v) (h : DataW.Trod enc Tryz.prog w 0 (fun _ => true) true 44 v d p) :
    ∃ u, Den (gW w) (.lins u) v ∧ u.length ≤ maxLen := by
  obtain ⟨fuel, hf⟩ := h
  obtain ⟨a0, l0, c0, rfl⟩ := okWide_slice Tryz.underlying44 hv
  rcases open_trip Tryz.underlying44 Tryz.underlying24 (by kernel_rfl) rfl rfl rfl (by kernel_rfl) (by kernel_rfl) (by kernel_rfl) hf with e1 | ⟨a, len, cap, n, e1, hl, hm, hcell⟩
  · simp [Value.cells] at e1
    obtain ⟨rfl, rfl, rfl⟩ := e1
    exact ⟨[], by simp only [Den]; exact .nil _ none 0 rfl, by decide⟩
  · simp [Value.cells] at e1
    obtain ⟨ea, el, ec⟩ := e1
    rw [ea, el, ec]
    clear hv hf ea el ec
    have hx : ∀ i, ∃ q : (Value × Value × Value) × (List Int × List Int × Int), i < len → w.cell? (a.add (i * 3)) = some q.1.1 ∧ w.cell? (a.add (i * 3 + 1)) = some q.1.2.1 ∧ w.cell? (a.add (i * 3 + 2)) = some q.1.2.2 ∧
        Den (gW w) (.ints q.2.1) q.1.1 ∧ Den (gW w) (.ints q.2.2.1) q.1.2.1 ∧ q.1.2.2 = .int .i64 q.2.2.2 := fun i => by
      by_cases hi : i < len
      · obtain ⟨v0, v1, v2, y0, y1, y2, h0, h1, h2, g0, g1, g2⟩ := hcell i (by omega)
        obtain ⟨u0, C, e0, r0, _, _⟩ := trod_intsE Tryz.underlying22 Tryz.underlying3 (by kernel_rfl) g0
        obtain ⟨u1, L, e1, r1, _, _⟩ := trod_intsE Tryz.underlying22 Tryz.underlying3 (by kernel_rfl) g1
        obtain ⟨B, e2, _, _⟩ := DataW.trod_int Tryz.underlying3 g2
        simp at e0 e1 e2
        subst e0 e1 e2
        exact ⟨((v0, v1, .int .i64 B), (C, L, B)), fun _ => ⟨h0, h1, h2, r0, r1, rfl⟩⟩
      · exact ⟨((.bool false, .bool false, .bool false), ([], [], 0)), fun h => absurd h hi⟩
    obtain ⟨X, hX⟩ := Classical.axiomOfChoice hx
    have hlen : ((List.range len).map fun i => (X i).2).length = len := by simp
    have hget : ∀ i, i < len → ((List.range len).map fun i => (X i).2).getD i ([], [], 0) = (X i).2 := fun i hi => by simp [List.getD, hi]
    refine ⟨(List.range len).map fun i => (X i).2, ?_, by omega⟩
    simp only [Den]
    by_cases h0 : len = 0
    · subst h0; exact .nil _ _ _ rfl
    · obtain ⟨b, off, hab, hb⟩ := cell_spot (hX 0 (by omega)).1
      have haa : a = ⟨b, off, none⟩ := by rwa [show a.add (0 * 3) = a from rfl] at hab
      subst haa
      have := Rep.ls (W := w) (G := (gW w).G) (.lins ((List.range len).map fun i => (X i).2)) b off cap (fun i j => if j = 0 then (X i).1.1 else if j = 1 then (X i).1.2.1 else (X i).1.2.2) (by show ((List.range len).map fun i => (X i).2).length ≤ _; omega) (by show ((List.range len).map fun i => (X i).2).length ≤ _; omega) hb (fun i j hi hj => by
        have hi' : i < len := by simpa [LD.len] using hi
        have hj' : j < 3 := hj
        obtain ⟨h1, h2, h3, _⟩ := hX i hi'
        rw [add_mk] at h1 h2 h3
        show w.cell? ⟨b, off + i * 3 + j, none⟩ = _
        match j, hj' with
        | 0, _ => exact h1
        | 1, _ => exact h2
        | 2, _ => exact h3) (fun i j hi hj => by
        have hi' : i < len := by simpa [LD.len] using hi
        have hj' : j < 3 := hj
        obtain ⟨_, _, _, h4, h5, h6⟩ := hX i hi'
        simp only [Den] at h4 h5
        show Rep w _ (linCell (((List.range len).map fun i => (X i).2).getD i ([], [], 0)) j) _
        rw [hget i hi']
        match j, hj' with
        | 0, _ => exact h4
        | 1, _ => exact h5
        | 2, _ => show Rep w _ (.int (X i).2.2.2) (X i).1.2.2; rw [h6]; exact .val _)
      have hl2 : LD.len (.lins ((List.range len).map fun i => (X i).2)) = len := hlen
      rw [hl2] at this
      exact this
end Go.Proofs.YtkkapbnopmmmjaaGreatDoor.En
