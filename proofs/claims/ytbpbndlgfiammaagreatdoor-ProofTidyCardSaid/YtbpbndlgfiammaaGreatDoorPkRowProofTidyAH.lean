/- Lemmas and contracts for the row. -/
import Derived.Test.YtbpbndlgfiammaaGreatDoorPkRowProofTidyAG
import Derived.Test.YtbpbndlgfiammaaGreatDoorPkRowProofTidyA
set_option linter.unusedVariables false
set_option linter.unusedSimpArgs false
set_option linter.unnecessarySimpa false
namespace Go.Proofs.YtbpbndlgfiammaaGreatDoor.En
open Go Go.ChangeShapes Go.WideShapes Go.ChangeAt Go.RowKit Go.Joins Go.Deep
section
variable {H : Type} {enc : TypeId × Value → H} {P : Program} {w : World} {b0 : Nat} {v : Value} {d : DataW H} {p : List MemPlace} {r : Reach}
end
end Go.Proofs.YtbpbndlgfiammaaGreatDoor.En
namespace Go.Proofs.YtbpbndlgfiammaaGreatDoor.En
open Go Go.ChangeShapes Go.WideShapes Go.ChangeAt Go.RowKit Go.Joins Go.Deep
theorem weights_one {H : Type} {P : Program} {t : TypeId} {ts : List TypeId} {d : DataW H} {ds : List (DataW H)} {q : Nat → Bool} (h : (DataW.weightsEach P (t :: ts) (d :: ds)).all q = true) : (DataW.weights P t d).all q = true ∧ (DataW.weightsEach P ts ds).all q = true := by
  rw [DataW.weightsEach, List.all_append, Bool.and_eq_true] at h
  exact h
section
variable {H : Type} {enc : TypeId × Value → H} {P : Program} {w : World} {b0 : Nat} {v : Value} {d : DataW H} {p : List MemPlace} {r : Reach}
theorem weights_mem {e : TypeId} {q : Nat → Bool} : ∀ {ds : List (DataW H)}, (DataW.weightsAll P e ds).all q = true → ∀ d ∈ ds, (DataW.weights P e d).all q = true
  | [], _, d, hd => by cases hd
  | x :: ds, h, d, hd => by
    rw [DataW.weightsAll, List.all_append, Bool.and_eq_true] at h
    rcases List.mem_cons.1 hd with e | e
    · rw [e]; exact h.1
    · exact weights_mem h.2 d e
theorem weights_slice {t e : TypeId} {q : Nat → Bool} {el sp : List (DataW H)} (ht : P.underlying t = some (.slice e)) (h : (DataW.weights P t (.slice el sp)).all q = true) : q ((el.length + sp.length) * P.bytesOf e) = true ∧ ∀ d ∈ el, (DataW.weights P e d).all q = true := by
  rw [DataW.weights, ht] at h
  simp only [List.all_cons, List.all_append, Bool.and_eq_true] at h
  exact ⟨h.1, weights_mem h.2.1⟩
theorem trod_intsZ {t e : TypeId} {fuel : Nat} {cs : List Value} {base : Nat} {x : DataW H × List MemPlace} (ht : P.underlying t = some (.slice e)) (he : P.underlying e = some (.int .i64)) (hc : P.cellsOf e = 1) (hb : P.bytesOf e = 8)
    (h : DataW.trod enc P w base (fun _ => true) true fuel t cs = some x) (hw : (DataW.weights P t x.1).all (· ≤ reachBytes) = true) : ∃ v xs, cs = [v] ∧ Den (gW w) (.ints xs) v ∧ xs.length ≤ 17592186043904 := by
  rcases open_ints ht he hc h with ⟨rfl, _⟩ | ⟨a, len, cap, zs, rfl, _, hl, hm, hz, hx, hcell, hwz⟩
  · exact ⟨_, [], rfl, by simp only [Den]; exact .nil _ none 0 rfl, by simp⟩
  · simp only [if_true] at hz
    have hlen : (zs.take len).length = len := by rw [List.length_take, Nat.min_eq_left (by omega)]
    have hwt := (weights_slice ht (by rw [hx] at hw; exact hw)).1
    rw [hb] at hwt
    have hle : (zs.take len).length * 8 ≤ reachBytes := by
      have := of_decide_eq_true hwt
      simp only [lits, List.length_map] at this
      omega
    have hR : reachBytes = 140737488351232 := rfl
    refine ⟨_, zs.take len, rfl, ?_, by omega⟩
    have := den_ints (W := w) (A := some a) (xs := zs.take len) (c := cap) (cells_rd (by omega) hcell) (by omega) (by omega)
    rwa [hlen] at this
theorem trod_intssZ {t e e2 : TypeId} {fuel : Nat} {cs : List Value} {base : Nat} {x : DataW H × List MemPlace} (ht : P.underlying t = some (.slice e)) (he : P.underlying e = some (.slice e2)) (he2 : P.underlying e2 = some (.int .i64)) (hc : P.cellsOf e = 1) (hc2 : P.cellsOf e2 = 1) (hb : P.bytesOf e2 = 8)
    (h : DataW.trod enc P w base (fun _ => true) true fuel t cs = some x) (hw : (DataW.weights P t x.1).all (· ≤ reachBytes) = true) : ∃ v xss, cs = [v] ∧ Den (gW w) (.intss xss) v ∧ xss.length ≤ maxLen ∧ ∀ l ∈ xss, l.length ≤ 17592186043904 := by
  rcases open_slice1 ht hc h with ⟨rfl, _⟩ | ⟨a, len, cap, m, n, V, D, Pl, rfl, _, hl, hm, hmm, hxd, hcell⟩
  · exact ⟨_, [], rfl, by simp only [Den]; exact .nil _ none 0 rfl, by simp, by simp⟩
  · simp only [if_true] at hmm
    subst hmm
    have hwd := (weights_slice ht (by rw [hxd] at hw; exact hw)).2
    have hx : ∀ i, ∃ xs : List Int, i < len → Den (gW w) (.ints xs) (V i) ∧ xs.length ≤ 17592186043904 := fun i => by
      by_cases hi : i < len
      · obtain ⟨v, xs, e1, h1, h2⟩ := trod_intsZ he he2 hc2 hb (hcell i (by omega)).2 (hwd (D i) (List.mem_map.2 ⟨i, List.mem_range.2 hi, rfl⟩))
        injection e1 with e1
        subst e1
        exact ⟨xs, fun _ => ⟨h1, h2⟩⟩
      · exact ⟨[], fun h => absurd h hi⟩
    obtain ⟨X, hX⟩ := Classical.axiomOfChoice hx
    have hlen : ((List.range len).map X).length = len := by simp
    refine ⟨_, (List.range len).map X, rfl, ?_, by omega, fun l hl => by obtain ⟨i, hi, rfl⟩ := List.mem_map.1 hl; exact (hX i (List.mem_range.1 hi)).2⟩
    simp only [Den]
    by_cases h0 : len = 0
    · subst h0; exact .nil _ _ _ rfl
    · obtain ⟨b, off, hab, hb⟩ := cell_spot (hcell 0 (by omega)).1
      have haa : a = ⟨b, off, none⟩ := by rwa [show a.add 0 = a from rfl] at hab
      subst haa
      have := Rep.ls (W := w) (G := (gW w).G) (.intss ((List.range len).map X)) b off m (fun i _ => V i) (by show ((List.range len).map X).length ≤ _; omega) (by show ((List.range len).map X).length ≤ _; omega) hb (fun i j hi hj => by
        have hi' : i < len := by simpa [LD.len] using hi
        have hj' : j = 0 := by have : j < 1 := hj; omega
        subst hj'
        have h1 := (hcell i (by omega)).1
        rw [add_mk] at h1
        show w.cell? ⟨b, off + i * 1 + 0, none⟩ = _
        rw [Nat.mul_one, Nat.add_zero]; exact h1) (fun i j hi hj => by
        have hi' : i < len := by simpa [LD.len] using hi
        have h1 := (hX i hi').1
        simp only [Den] at h1
        have e1 : ((List.range len).map X).getD i [] = X i := by simp [List.getD, hi']
        show Rep w _ (.ls (.ints (((List.range len).map X).getD i []))) (V i)
        rw [e1]; exact h1)
      have hl2 : LD.len (.intss ((List.range len).map X)) = len := hlen
      rw [hl2] at this
      exact this
end
set_option maxRecDepth 100000 in
theorem open_cnfZ {H : Type} {enc : TypeId × Value → H} {w : World} {r : Reach} {b0 : Nat} {v : Value} {d : DataW H} {p : List MemPlace} (hv : Value.okWide Tryz.prog w r b0 28 v) (h : DataW.Trod enc Tryz.prog w 0 (fun _ => true) true 28 v d p)
    (hw : (DataW.weights Tryz.prog 28 d).all (· ≤ reachBytes) = true) : ∃ N L, Den (gW w) (.agg [.int N, .intss L]) v ∧ (L.length ≤ maxLen ∧ ∀ l ∈ L, l.length ≤ 17592186043904) := by
  obtain ⟨v0, v1, y0, y1, n, rfl, rfl, rfl, h0, h1⟩ := open_agg2 Tryz.underlying28 (by kernel_rfl) (by kernel_rfl) hv h
  rw [DataW.weights, Tryz.underlying28] at hw
  simp only [DataW.weightsEach, List.all_append, Bool.and_eq_true, List.map_cons, List.map_nil] at hw
  obtain ⟨N, e2, _, wN⟩ := DataW.trod_int Tryz.underlying3 h0
  obtain ⟨u1, L, e1, r1, m1⟩ := trod_intssZ Tryz.underlying22 Tryz.underlying23 Tryz.underlying3 (by kernel_rfl) (by kernel_rfl) (by kernel_rfl) h1 hw.2.1
  simp at e1 e2
  subst e1 e2
  refine ⟨N, L, ?_, m1⟩
  rw [Den]
  refine ⟨[_, _], rfl, ?_⟩
  simp only [DenL]
  exact ⟨_, _, rfl, den_val_mk _, _, _, rfl, r1, rfl⟩
end Go.Proofs.YtbpbndlgfiammaaGreatDoor.En
namespace Go.Proofs.YtbpbndlgfiammaaGreatDoor.En
open Go Go.ChangeShapes Go.WideShapes Go.ChangeAt Go.RowKit Go.Joins Go.Deep
end Go.Proofs.YtbpbndlgfiammaaGreatDoor.En
