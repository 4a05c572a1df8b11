/- Lemmas and contracts for the row. -/
import Derived.Test.YtkkapbnopmmmjaaGreatDoorPkRowEncodeMatchesS
import Derived.Test.YtkkapbnopmmmjaaGreatDoorPkRowEncodeMatchesY
import Derived.Deep.Slices
import Derived.ChangeSame
set_option linter.unusedVariables false
set_option linter.unusedSimpArgs false
set_option linter.unnecessarySimpa false
namespace Go.Proofs.YtkkapbnopmmmjaaGreatDoor.En
open Go Go.ChangeShapes Go.WideShapes Go.ChangeAt Go.RowKit Go.Joins Go.Deep
abbrev gW (W : World) : Gh := g0 W (· < W.heap.size)
section
variable {H : Type} {enc : TypeId × Value → H} {P : Program} {w : World} {b0 : Nat} {v : Value} {d : DataW H} {p : List MemPlace} {r : Reach}
theorem z7q {t e : TypeId} {fuel : Nat} {cs : List Value} {base : Nat} {x : DataW H × List MemPlace} (ht : P.underlying t = some (.slice e)) (he : P.underlying e = some (.int .i64)) (hc : P.cellsOf e = 1)
 (h : DataW.trod enc P w base (fun _ => true) true fuel t cs = some x) : ∃ v xs, cs = [v] ∧ Den (gW w) (.ints xs) v ∧ xs.length ≤ maxLen ∧ ∀ n ∈ xs, y8w n := by
 rcases open_ints ht he hc h with ⟨rfl, _⟩ | ⟨a, len, cap, zs, rfl, _, hl, hm, hz, _, hcell, hwz⟩
 · exact ⟨_, [], rfl, by simp only [Den]; exact .nil _ none 0 rfl, by simp, by simp⟩
 · simp only [if_true] at hz
   have hlen : (zs.take len).length = len := by rw [List.length_take, Nat.min_eq_left (by omega)]
   refine ⟨_, zs.take len, rfl, ?_, by omega, fun n hn => q9l (hwz n (List.mem_of_mem_take hn))⟩
   have := x1g (W := w) (A := some a) (xs := zs.take len) (c := cap) (x4d (by omega) hcell) (by omega) (by omega)
   rwa [hlen] at this
end
set_option maxRecDepth 100000 in
theorem y7m {H : Type} {enc : TypeId × Value → H} {w : World} {r : Reach} {b0 : Nat} {v : Value} {d : DataW H} {p : List MemPlace} (hv : Value.okWide Tryz.prog w r b0 24 v) (h : DataW.Trod enc Tryz.prog w 0 (fun _ => true) true 24 v d p) :
 ∃ C L B, Den (gW w) (.agg [.ints C, .ints L, .int B]) v ∧ C.length ≤ maxLen ∧ L.length ≤ maxLen ∧ (∀ x ∈ C, y8w x) ∧ (∀ x ∈ L, y8w x) ∧ y8w B := by
 obtain ⟨v0, v1, v2, y0, y1, y2, n, rfl, rfl, rfl, h0, h1, h2⟩ := open_agg3 Tryz.underlying24 (by kernel_rfl) (by kernel_rfl) hv h
 obtain ⟨u0, C, e0, r0, m0, b0⟩ := z7q Tryz.underlying22 Tryz.underlying3 (by kernel_rfl) h0
 obtain ⟨u1, L, e1, r1, m1, b1⟩ := z7q Tryz.underlying22 Tryz.underlying3 (by kernel_rfl) h1
 obtain ⟨B, e2, _, wB⟩ := DataW.trod_int Tryz.underlying3 h2
 simp at e0 e1 e2
 subst e0 e1 e2
 refine ⟨C, L, B, ?_, m0, m1, b0, b1, q9l wB⟩
 rw [Den]
 refine ⟨[_, _, _], rfl, ?_⟩
 simp only [q0l]
 exact ⟨_, _, rfl, r0, _, _, rfl, r1, _, _, rfl, q0g _, rfl⟩
section
variable {H : Type} {enc : TypeId × Value → H} {P : Program} {w : World} {b0 : Nat} {v : Value} {d : DataW H} {p : List MemPlace} {r : Reach}
theorem q9d {H : Type} {P : Program} {t : TypeId} {ts : List TypeId} {d : DataW H} {ds : List (DataW H)} {q : Nat → Bool} (h : (DataW.weightsEach P (t :: ts) (d :: ds)).all q = true) : (DataW.weights P t d).all q = true ∧ (DataW.weightsEach P ts ds).all q = true := by
 simpa [DataW.weightsEach, List.all_append] using h
end
end Go.Proofs.YtkkapbnopmmmjaaGreatDoor.En
