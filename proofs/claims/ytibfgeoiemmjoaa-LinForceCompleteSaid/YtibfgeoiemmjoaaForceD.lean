/- What the walk of LinForceComplete asks, plainly. No program in sight. -/
import Derived.Test.YtibfgeoiemmjoaaForceC
import Derived.Test.YtibfgeoiemmjoaaRef12R
import Derived.Test.YtibfgeoiemmjoaaLaw12a
import Derived.Test.YtibfgeoiemmjoaaEngB
set_option linter.unusedSimpArgs false
set_option linter.unusedVariables false
set_option linter.unnecessarySimpa false
namespace Go.Proofs.Ytibfgeoiemmjoaa.En
open Go Go.RowKit

theorem and1 {a : Int} (h0 : 0 ≤ a) : andI a 1 = a % 2 := by
  obtain ⟨n, rfl⟩ := Int.eq_ofNat_of_zero_le h0
  have e : (BitVec.ofInt 64 (n : Int) &&& BitVec.ofInt 64 1).toNat = n % 2 := by
    rw [BitVec.toNat_and, BitVec.toNat_ofInt, BitVec.toNat_ofInt]
    have h1 : ((n : Int) % ((2 ^ 64 : Nat) : Int)).toNat = n % 2 ^ 64 := by omega
    have h2 : ((1 : Int) % ((2 ^ 64 : Nat) : Int)).toNat = 1 := by decide
    rw [h1, h2, Nat.and_one_is_mod]
    omega
  unfold andI
  rw [e, wrap_in (k := .i64) (show inK .i64 ((n % 2 : Nat) : Int) from ⟨by omega, by omega⟩)]
  omega
theorem bit1 {a : Int} (h0 : 0 ≤ a) (k : Nat) : (andI (a / 2 ^ k) 1 == 1) = a.toNat.testBit k := by
  obtain ⟨n, rfl⟩ := Int.eq_ofNat_of_zero_le h0
  have e : ((n : Int) / 2 ^ k) = ((n / 2 ^ k : Nat) : Int) := by push_cast; rfl
  rw [e, and1 (Int.natCast_nonneg _)]
  show ((((n / 2 ^ k : Nat) : Int) % 2 : Int) == 1) = n.testBit k
  rw [Nat.testBit_eq_decide_div_mod_eq]
  rw [Bool.eq_iff_iff]
  simp
  omega
theorem fV_eq {b x : Int} (hb : 0 ≤ b) (h0 : x ≠ 0) : (((andI (b / 2 ^ ((max x (0 - x)) - 1).toNat) 1) == 1) == (decide (x > 0))) = fV b.toNat x := by
  rw [bit1 hb ((max x (0 - x)) - 1).toNat, show ((max x (0 - x)) - 1).toNat = x.natAbs - 1 by omega]
  rfl
theorem allF_no {p : Int → Bool} {l : List Int} {k : Nat} (hk : k < l.length) (h : p (l.getD k 0) = false) : l.all p = false := by
  rw [List.all_eq_false]
  refine ⟨l.getD k 0, ?_, by rw [h]; simp⟩
  rw [List.getD_eq_getElem?_getD, List.getElem?_eq_getElem hk]; exact List.getElem_mem hk
theorem allF_yes {p : Int → Bool} {l : List Int} (h : ∀ j, j < l.length → p (l.getD j 0) = true) : l.all p = true := by
  rw [List.all_eq_true]
  intro x hx
  obtain ⟨j, hj, rfl⟩ := List.getElem_of_mem hx
  have := h j hj
  rwa [List.getD_eq_getElem?_getD, List.getElem?_eq_getElem hj] at this
theorem allF_succ {f : Nat → Bool} {k : Nat} (h : ∀ j, j < k → f j = true) (hk : f k = true) : ∀ j, j < k + 1 → f j = true := fun j hj => by
  by_cases e : j = k
  · subst e; exact hk
  · exact h j (by omega)
section
variable {l : LinV} {lits : List Int} {m v : Nat}
theorem g_no (h : ((!(lits.all (fV ((m : Int)).toNat))) || (!(lholds (fV ((m : Int)).toNat) l))) = true) : goodB l lits m = false := by
  rw [Int.toNat_natCast] at h
  unfold goodB
  cases h1 : lits.all (fV m) <;> cases h2 : lholds (fV m) l <;> rw [h1, h2] at h <;> first | rfl | cases h
theorem g_yes (h : ((!(lits.all (fV ((m : Int)).toNat))) || (!(lholds (fV ((m : Int)).toNat) l))) = false) : goodB l lits m = true := by
  rw [Int.toNat_natCast] at h
  unfold goodB
  cases h1 : lits.all (fV m) <;> cases h2 : lholds (fV m) l <;> rw [h1, h2] at h <;> first | rfl | cases h
theorem any_no {G : Nat → Bool} (h : G m = false) : (List.range m).any G = (List.range (m + 1)).any G := by
  rw [List.range_succ, List.any_append]; simp [h]
theorem any_yes1 {G : Nat → Bool} (h : G m = true) : true = (List.range (m + 1)).any G := by
  rw [List.range_succ, List.any_append]; simp [h]
def ini (i : Nat) : List Bool := (List.range 17).map fun k => decide (k < i)
theorem ini_len {i : Nat} : (ini i).length = 17 := by simp [ini]
theorem ini_set {i : Nat} (h : i < 17) : (ini i).set i true = ini (i + 1) := by
  refine List.ext_getElem (by simp [ini]) fun k h1 h2 => ?_
  rw [List.getElem_set]
  simp only [ini, List.getElem_map, List.getElem_range]
  split
  · subst_vars; simp
  · rw [Bool.eq_iff_iff]; simp; omega
theorem bit_t (h : ((andI ((m : Int) / 2 ^ ((v : Int) - 1).toNat) 1) == 1) = true) : m.testBit (v - 1) = true := by
  rw [bit1 (a := (m : Int)) (by omega) ((v : Int) - 1).toNat, show ((v : Int) - 1).toNat = v - 1 by omega] at h; simpa using h
theorem bit_f (h : ((andI ((m : Int) / 2 ^ ((v : Int) - 1).toNat) 1) == 1) = false) : m.testBit (v - 1) = false := by
  rw [bit1 (a := (m : Int)) (by omega) ((v : Int) - 1).toNat, show ((v : Int) - 1).toNat = v - 1 by omega] at h; simpa using h
theorem end_ok (hc : lcheck l 8 = 0) (hu : unlikeP 8 lits = true) (h : ((!((forceB l lits) == ((List.range 256).any (goodB l lits)))) || (!(forceB l lits))) = true) :
    (((forceB l lits) == ((List.range 256).any (goodB l lits))) && (((forceF l lits).length : Int) == 0)) = true := by
  have e := can_iff hc hu
  unfold forceB at h ⊢
  rw [← e] at h ⊢
  cases hf : forceP l lits with
  | none => rw [show forceF l lits = [] by unfold forceF; rw [hf]; rfl]; simp
  | some fs => rw [hf] at h; simp at h
theorem end_some (h : ((!((forceB l lits) == ((List.range 256).any (goodB l lits)))) || (!(forceB l lits))) = false) : forceP l lits = some (forceF l lits) := by
  unfold forceB at h
  cases hf : forceP l lits with
  | none => rw [hf] at h; simp at h
  | some fs => unfold forceF; rw [hf]; rfl
theorem last_dead (hc : lcheck l 8 = 0) (hu : unlikeP 8 lits = true) {fs : List Int} (hf : forceP l lits = some fs) (hv1 : 1 ≤ v) (hv2 : v ≤ 8) {X : List Bool} (hX : X = arrL (goodB l lits) 256)
    (h : ((!((fs.contains (v : Int)) == (((!(lits.contains (v : Int))) && (!(lits.contains (0 - (v : Int))))) && (X.getD (8 + v) false)))) || (!((fs.contains (0 - (v : Int))) == (((!(lits.contains (v : Int))) && (!(lits.contains (0 - (v : Int))))) && (X.getD (8 - (v : Int)).toNat false))))) = true) : False := by
  rw [Int.zero_sub, show (8 - (v : Int)).toNat = 8 - v by omega, hX, last_pos hc hu hf hv1 hv2, last_neg hc hu hf hv1 hv2] at h
  simp at h
theorem guard12 (h : ((((!(fewP l)) || (decide ((lits.length : Int) > 8))) || (!(unlikeP 8 lits))) || (lcheck l 8 != 0)) = false) : lits.length ≤ 8 ∧ unlikeP 8 lits = true ∧ lcheck l 8 = 0 := by
  rw [Bool.or_eq_false_iff, Bool.or_eq_false_iff, Bool.or_eq_false_iff] at h
  exact ⟨by have := of_decide_eq_false h.1.1.2; omega, by simpa using h.1.2, by simpa using h.2⟩
end
end Go.Proofs.Ytibfgeoiemmjoaa.En
