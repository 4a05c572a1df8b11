/- The reference of elimination, step by step. Plain lemmas; no program in sight. -/
import Derived.Test.YthhfdjcaafckbaaElimB
set_option linter.unusedSimpArgs false
set_option linter.unusedVariables false
set_option linter.unnecessarySimpa false
namespace Go.Proofs.Ythhfdjcaafckbaa.Cn
open Go

/-- few enough variables and clauses -/
def fewB (N : Int) (L : List (List Int)) (vars clauses : Int) : Bool := decide (N ≤ vars) && decide ((L.length : Int) ≤ clauses) && (L.take (clauses + 1).toNat).all fun l => decide (l.length ≤ 20)
section
variable {N vars clauses : Int} {L : List (List Int)}
theorem few_bad {k : Nat} (h1 : k < L.length) (h2 : (k : Int) ≤ clauses) (h : (20 : Int) < ((L.getD k []).length : Int)) : fewB N L vars clauses = false := by
  unfold fewB
  have : (L.take (clauses + 1).toNat).all (fun l => decide (l.length ≤ 20)) = false := by
    rw [List.all_eq_false]
    refine ⟨L.getD k [], ?_, by rw [decide_eq_true_eq]; omega⟩
    rw [List.getD_eq_getElem?_getD, List.getElem?_eq_getElem h1]
    exact List.mem_iff_getElem.2 ⟨k, by rw [List.length_take]; omega, by rw [List.getElem_take]; rfl⟩
  rw [this, Bool.and_false]
theorem few_ok {k : Nat} (hk : ¬ (k < L.length ∧ (k : Int) ≤ clauses)) (h : ∀ j, j < k → (L.getD j []).length ≤ 20) : fewB N L vars clauses = (decide (N ≤ vars) && decide ((L.length : Int) ≤ clauses)) := by
  unfold fewB
  have : (L.take (clauses + 1).toNat).all (fun l => decide (l.length ≤ 20)) = true := by
    rw [List.all_eq_true]
    intro l hl
    obtain ⟨j, hj, rfl⟩ := List.mem_iff_getElem.1 hl
    rw [List.length_take] at hj
    have := h j (by omega)
    rw [List.getElem_take]
    rw [List.getD_eq_getElem?_getD, List.getElem?_eq_getElem (by omega)] at this
    simpa using this
  rw [this, Bool.and_true]
theorem few_iff (h : fewB N L vars clauses = true) : N ≤ vars ∧ (L.length : Int) ≤ clauses ∧ ∀ l ∈ L, l.length ≤ 20 := by
  unfold fewB at h
  simp only [Bool.and_eq_true, decide_eq_true_eq] at h
  refine ⟨h.1.1, h.1.2, fun l hl => ?_⟩
  have := List.all_eq_true.1 h.2 l (by rw [List.take_of_length_le (by omega)]; exact hl)
  simpa using this
end
section
variable {c : List (List Int)} {v : Int} {k : Nat}
theorem pos_with {l : List Int} : (hasV v l && wP v l) = wP v l := by
  unfold hasV wP; cases l.contains v <;> cases l.contains (-v) <;> rfl
theorem neg_with {l : List Int} : (hasV v l && wP (-v) l) = wP (-v) l := by
  unfold hasV wP; rw [Int.neg_neg]; cases l.contains v <;> cases l.contains (-v) <;> rfl
theorem pos_eq : posL c v = c.filter (wP v) := by
  unfold posL withL uOf
  rw [List.filter_filter]
  exact List.filter_congr fun l _ => by rw [Bool.and_comm, pos_with]
theorem neg_eq : negL c v = c.filter (wP (-v)) := by
  unfold negL withL uOf
  rw [List.filter_filter]
  exact List.filter_congr fun l _ => by rw [Bool.and_comm, neg_with]
theorem filt_add {p : List Int → Bool} (hk : k < c.length) (h : p (c.getD k []) = true) : (c.take k).filter p ++ [c.getD k []] = (c.take (k + 1)).filter p := by
  rw [take_sD (d := []) hk, List.filter_append, List.filter_cons_of_pos h, List.filter_nil]
theorem filt_same {p : List Int → Bool} (hk : k < c.length) (h : p (c.getD k []) = false) : (c.take k).filter p = (c.take (k + 1)).filter p := by
  rw [take_sD (d := []) hk, List.filter_append, List.filter_cons_of_neg (by rw [h]; simp), List.filter_nil, List.append_nil]
/-- a clause without v goes into neither list -/
theorem w_none (h : (!(hasV v (c.getD k []))) = true) : wP v (c.getD k []) = false ∧ wP (-v) (c.getD k []) = false ∧ (!(hasV v (c.getD k []))) = true := by
  have h' : hasV v (c.getD k []) = false := by simpa using h
  refine ⟨?_, ?_, h⟩
  · rw [← pos_with, h']; rfl
  · rw [← neg_with, h']; rfl
theorem w_pos_t (h0 : (!(hasV v (c.getD k []))) = false) (h : (!((c.getD k []).contains (-v))) = true) : wP v (c.getD k []) = true := by
  unfold hasV at h0; unfold wP
  revert h0 h; cases (c.getD k []).contains v <;> cases (c.getD k []).contains (-v) <;> simp
theorem w_pos_f (h : (!((c.getD k []).contains (-v))) = false) : wP v (c.getD k []) = false := by
  unfold wP
  revert h; cases (c.getD k []).contains v <;> cases (c.getD k []).contains (-v) <;> simp
theorem w_neg_t (h0 : (!(hasV v (c.getD k []))) = false) (h : (!((c.getD k []).contains v)) = true) : wP (-v) (c.getD k []) = true := by
  unfold hasV at h0; unfold wP; rw [Int.neg_neg]
  revert h0 h; cases (c.getD k []).contains v <;> cases (c.getD k []).contains (-v) <;> simp
theorem w_neg_f (h : (!((c.getD k []).contains v)) = false) : wP (-v) (c.getD k []) = false := by
  unfold wP; rw [Int.neg_neg]
  revert h; cases (c.getD k []).contains v <;> cases (c.getD k []).contains (-v) <;> simp
end
theorem pad_eq {a : List Bool} {V : Int} {r : Nat} (h1 : r ≤ (V + 1 - (a.length : Int)).toNat) (h2 : ¬ (((a ++ List.replicate r false).length : Int) ≤ V)) : a ++ List.replicate r false = padB a V := by
  rw [List.length_append, List.length_replicate] at h2
  unfold padB
  split
  · rw [show r = (V + 1 - (a.length : Int)).toNat by omega]
  · obtain rfl : r = 0 := by omega
    simp
theorem rep_succ {a : List Bool} {r : Nat} : a ++ List.replicate r false ++ [false] = a ++ List.replicate (r + 1) false := by
  rw [List.replicate_succ', List.append_assoc]
theorem set_eq {b : List Bool} {V : Int} {L : List (List Int)} {a : Bool} (h : a = L.all (holdsV (b.set V.toNat false))) : (b.set V.toNat false).set V.toNat (!a) = setB b V L := by
  unfold setB
  rw [h, ← not_any_not, Bool.not_not]
theorem all_succ {L : List (List Int)} {p : List Int → Bool} {k : Nat} (hk : k < L.length) : ((L.take k).all p && p (L.getD k [])) = (L.take (k + 1)).all p := by
  rw [take_sD (d := []) hk, List.all_append]; simp
theorem und_ne {a b : Int × List (List Int)} (h : ((a.1 != b.1) || (!(((0 : Int) == (0 : Int)) && decide (a.2 = b.2)))) = true) : a ≠ b := by
  rintro rfl; simp at h
theorem und_eq {a b : Int × List (List Int)} (h : ((a.1 != b.1) || (!(((0 : Int) == (0 : Int)) && decide (a.2 = b.2)))) = false) : a = b := by
  simp at h; exact Prod.ext h.1 h.2
theorem bs_pad {a : List Bool} {w : Int × List (List Int)} {x : List Bool} (h : ¬ (w.1 < 1 ∨ 65536 < w.1)) (hx : x = setB (padB a w.1) w.1 w.2) : x = backStep a w := by
  unfold backStep; rw [if_neg h]; exact hx
theorem backTo_succ2 {u : List (Int × List (List Int))} {a : List Bool} {i : Nat} (h : i < u.length) : backTo u a (i + 1) = backStep (backTo u a i) (u.getD ((u.length : Int) - 1 - (i : Int)).toNat (0, [])) := by
  rw [backTo_succ h, show ((u.length : Int) - 1 - (i : Int)).toNat = u.length - 1 - i by omega]
end Go.Proofs.Ythhfdjcaafckbaa.Cn
