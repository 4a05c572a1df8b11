/- How the arguments of a row of layer 24 read, in the reader's words: the lines of a proof, clauses, with the bounds that the row's weights give. -/
import Derived.Test.YtbpbndlgfiammaaGreatDoorRowB14
set_option linter.unusedSimpArgs false
set_option linter.unusedVariables false
set_option linter.unnecessarySimpa false
namespace Go.Proofs.YtbpbndlgfiammaaGreatDoor.En
open Go Go.ChangeShapes Go.WideShapes Go.ChangeAt Go.RowKit Go.Joins Go.Deep

set_option maxRecDepth 100000 in
theorem open_intssZ {H : Type} {enc : TypeId × Value → H} {w : World} {r : Reach} {b0 : Nat} {v : Value} {d : DataW H} {p : List MemPlace} (hv : Value.okWide Tryz.prog w r b0 22 v) (h : DataW.Trod enc Tryz.prog w 0 (fun _ => true) true 22 v d p)
    (hw : (DataW.weights Tryz.prog 22 d).all (· ≤ reachBytes) = true) : ∃ L, Den (gW w) (.intss L) v ∧ (L.length ≤ maxLen ∧ ∀ l ∈ L, l.length ≤ 17592186043904) := by
  obtain ⟨fuel, hf⟩ := h
  obtain ⟨a, l, c, rfl⟩ := okWide_slice Tryz.underlying22 hv
  obtain ⟨u, xs, e1, h1, h2⟩ := trod_intssZ Tryz.underlying22 Tryz.underlying23 Tryz.underlying3 (by kernel_rfl) (by kernel_rfl) (by kernel_rfl) hf hw
  simp [Value.cells] at e1
  subst e1
  exact ⟨xs, h1, h2⟩
set_option maxRecDepth 100000 in
theorem open_linesZ {H : Type} {enc : TypeId × Value → H} {w : World} {r : Reach} {b0 : Nat} {v : Value} {d : DataW H} {p : List MemPlace} (hv : Value.okWide Tryz.prog w r b0 29 v) (h : DataW.Trod enc Tryz.prog w 0 (fun _ => true) true 29 v d p) (hw : (DataW.weights Tryz.prog 29 d).all (· ≤ reachBytes) = true) :
    ∃ u, Den (gW w) (.lines u) v ∧ (u.length ≤ maxLen ∧ ∀ x ∈ u, x.2.length ≤ 17592186043904) := by
  obtain ⟨fuel, hf⟩ := h
  obtain ⟨a0, l0, c0, rfl⟩ := okWide_slice Tryz.underlying29 hv
  rcases open_slice_pairs Tryz.underlying29 Tryz.underlying43 (by kernel_rfl) rfl rfl (by kernel_rfl) (by kernel_rfl) hf with ⟨e1, _⟩ | ⟨a, len, cap, m, n, V0, V1, D0, D1, P0, P1, e1, _, hl, hm, hmm, hxd, hcell⟩
  · simp [Value.cells] at e1
    obtain ⟨rfl, rfl, rfl⟩ := e1
    exact ⟨[], by simp only [Den]; exact .nil _ none 0 rfl, by decide, fun k hk => by cases hk⟩
  · simp only [if_true] at hmm
    have hxd' : d = .slice ((List.range len).map fun i => .agg [D0 i, D1 i]) ((List.range (m - len)).map fun j => .agg [D0 (len + j), D1 (len + j)]) := congrArg Prod.fst hxd
    have hwd := (weights_slice Tryz.underlying29 (by rw [hxd'] at hw; exact hw)).2
    have hwi : ∀ i, i < len → (DataW.weights Tryz.prog 23 (D1 i)).all (· ≤ reachBytes) = true := fun i hi => by
      have h9 := hwd (.agg [D0 i, D1 i]) (List.mem_map.2 ⟨i, List.mem_range.2 hi, rfl⟩)
      rw [DataW.weights, Tryz.underlying43] at h9
      simp only [DataW.weightsEach, List.all_append, Bool.and_eq_true, List.map_cons, List.map_nil] at h9
      exact h9.2.1
    rw [hmm] at hcell
    clear hmm hxd hxd' hw
    simp [Value.cells] at e1
    obtain ⟨ea, el, ec⟩ := e1
    rw [ea, el, ec]
    clear hv hf ea el ec
    have hx : ∀ i, ∃ y : Int × List Int, i < len → V0 i = .int .i64 y.1 ∧ Den (gW w) (.ints y.2) (V1 i) ∧ y.2.length ≤ 17592186043904 := fun i => by
      by_cases hi : i < len
      · obtain ⟨_, _, h0, h1⟩ := hcell i (by omega)
        obtain ⟨N, e2, _, _⟩ := DataW.trod_int Tryz.underlying3 h0
        obtain ⟨u1, L, e3, r1, m1⟩ := trod_intsZ Tryz.underlying23 Tryz.underlying3 (by kernel_rfl) (by kernel_rfl) h1 (hwi i hi)
        simp at e2 e3
        subst e3
        exact ⟨(N, L), fun _ => ⟨e2, r1, m1⟩⟩
      · exact ⟨(0, []), fun h => absurd h hi⟩
    obtain ⟨X, hX⟩ := Classical.axiomOfChoice hx
    have hlen : ((List.range len).map X).length = len := by simp
    have hget : ∀ i, i < len → ((List.range len).map X).getD i (0, []) = X i := fun i hi => by simp [List.getD, hi]
    refine ⟨(List.range len).map X, ?_, by omega, fun x hx => by obtain ⟨i, hi, rfl⟩ := List.mem_map.1 hx; exact (hX i (List.mem_range.1 hi)).2.2⟩
    simp only [Den]
    by_cases h0 : len = 0
    · subst h0; exact .nil _ _ _ rfl
    · obtain ⟨b, off, hab, hb⟩ := cell_spot (hcell 0 (by omega)).1
      have haa : a = ⟨b, off, none⟩ := by rwa [show a.add (0 * 2) = a from rfl] at hab
      subst haa
      have := Rep.ls (W := w) (G := (gW w).G) (.lines ((List.range len).map X)) b off cap (fun i j => if j = 0 then V0 i else V1 i) (by show ((List.range len).map X).length ≤ _; omega) (by show ((List.range len).map X).length ≤ _; omega) hb (fun i j hi hj => by
        have hi' : i < len := by simpa [LD.len] using hi
        have hj' : j < 2 := hj
        obtain ⟨h1, h2, _⟩ := hcell i (by omega)
        rw [add_mk] at h1 h2
        show w.cell? ⟨b, off + i * 2 + j, none⟩ = _
        match j, hj' with
        | 0, _ => exact h1
        | 1, _ => exact h2) (fun i j hi hj => by
        have hi' : i < len := by simpa [LD.len] using hi
        have hj' : j < 2 := hj
        obtain ⟨h1, h2, _⟩ := hX i hi'
        simp only [Den] at h2
        match j, hj' with
        | 0, _ =>
          show Rep w _ (.int (((List.range len).map X).getD i (0, [])).1) (V0 i)
          rw [hget i hi', h1]; exact .val _
        | 1, _ =>
          show Rep w _ (.ls (.ints (((List.range len).map X).getD i (0, [])).2)) (V1 i)
          rw [hget i hi']; exact h2)
      have hl2 : LD.len (.lines ((List.range len).map X)) = len := hlen
      rw [hl2] at this
      exact this
end Go.Proofs.YtbpbndlgfiammaaGreatDoor.En
