/- The reference of layer 14: what its functions compute, in plain words. No program in sight. -/
import Derived.Test.YtbpbndlgfiammaaGreatDoorCnfN
set_option linter.unusedSimpArgs false
set_option linter.unusedVariables false
set_option linter.unnecessarySimpa false
namespace Go.Proofs.YtbpbndlgfiammaaGreatDoor.Cn
open Go

theorem is_eq (l n : Int) : ((l != 0) && decide (l ≥ 0 - n) && decide (l ≤ n)) = mayP l n := by unfold mayP; rw [Int.zero_sub]
theorem ahd_eq (a b : Int) : (decide (max a (0 - a) < max b (0 - b)) || (max a (0 - a) == max b (0 - b) && decide (a > b))) = ahd a b := by
  unfold ahd
  rw [Bool.eq_iff_iff, Bool.or_eq_true, Bool.and_eq_true, decide_eq_true_eq, decide_eq_true_eq, beq_iff_eq, decide_eq_true_eq]
  omega
theorem abs_max (a : Int) : max a (0 - a) = (a.natAbs : Int) := by omega
theorem lit_eq {a : List Bool} {x : Int} (h : mayP x 65536 = true) : ((decide (max x (0 - x) < (a.length : Int)) && a.getD (max x (0 - x)).toNat false) == decide (x > 0)) = litV a x := by
  rw [litV_yes h, abs_max]
/-- lists that agree place by place -/
theorem eq_of {α : Type} [DecidableEq α] {d : α} {a b : List α} (hl : a.length = b.length) (h : ∀ j, j < a.length → a.getD j d = b.getD j d) : decide (a = b) = true := by
  rw [decide_eq_true_eq]
  refine List.ext_getElem hl fun i h1 h2 => ?_
  have := h i h1
  rwa [List.getD_eq_getElem?_getD, List.getD_eq_getElem?_getD, List.getElem?_eq_getElem h1, List.getElem?_eq_getElem h2] at this
theorem ne_at {α : Type} [DecidableEq α] {d : α} {a b : List α} {k : Nat} (h : a.getD k d ≠ b.getD k d) : decide (a = b) = false := by
  rw [decide_eq_false_iff_not]; rintro rfl; exact h rfl
theorem ne_len {α : Type} [DecidableEq α] {a b : List α} (h : a.length ≠ b.length) : decide (a = b) = false := by
  rw [decide_eq_false_iff_not]; rintro rfl; exact h rfl
theorem has_yes {l : List Int} {k : Nat} {n : Int} (hk : k < l.length) (h : l.getD k 0 = n) : l.contains n = true := by
  rw [List.contains_iff_mem, ← h]; exact getD_memL hk
theorem has_no {l : List Int} {n : Int} (h : ∀ j, j < l.length → l.getD j 0 ≠ n) : l.contains n = false := by
  rw [Bool.eq_false_iff]
  intro hc
  obtain ⟨j, hj, e⟩ := List.mem_iff_getElem.1 (List.contains_iff_mem.1 hc)
  apply h j hj
  rw [List.getD_eq_getElem?_getD, List.getElem?_eq_getElem hj, ← e]; rfl
theorem neSucc {P : Nat → Prop} {k : Nat} (h : ∀ j, j < k → P j) (hk : P k) : ∀ j, j < k + 1 → P j := fun j hj => by
  rcases Nat.lt_succ_iff_lt_or_eq.1 hj with h1 | rfl
  · exact h j h1
  · exact hk
/-- one more literal -/
theorem norm_next_skip {l : List Int} {k : Nat} (hk : k < l.length) (h : (!(mayP (l.getD k 0) 65536)) = true ∨ (normL (l.take k)).contains (l.getD k 0) = true) :
    normL (l.take k) = normL (l.take (k + 1)) ∧ tautL (l.take k) = tautL (l.take (k + 1)) := by
  rw [take_sD (d := 0) hk]
  have h' : mayP (l.getD k 0) 65536 = false ∨ l.getD k 0 ∈ normL (l.take k) := h.imp (fun h => by simpa using h) (fun h => List.contains_iff_mem.1 h)
  exact ⟨(norm_skip h').symm, (taut_skip h').symm⟩
theorem norm_next_ins {l : List Int} {k at_ : Nat} (hk : k < l.length) (h1 : (!(mayP (l.getD k 0) 65536)) = false) (h2 : (normL (l.take k)).contains (l.getD k 0) = false) (ha : at_ ≤ (normL (l.take k)).length)
    (hlow : ∀ j, j < at_ → ahd ((normL (l.take k)).getD j 0) (l.getD k 0) = true) (hat : at_ < (normL (l.take k)).length → ahd ((normL (l.take k)).getD at_ 0) (l.getD k 0) = false) :
    (normL (l.take k)).take at_ ++ [l.getD k 0] ++ (normL (l.take k)).drop at_ = normL (l.take (k + 1)) ∧ (tautL (l.take k) || (normL (l.take k)).contains (0 - l.getD k 0)) = tautL (l.take (k + 1)) := by
  rw [take_sD (d := 0) hk]
  have hm : mayP (l.getD k 0) 65536 = true := by simpa using h1
  refine ⟨(norm_ins rfl hm (fun h => by rw [List.contains_iff_mem.2 h] at h2; cases h2) ha hlow hat).symm, ?_⟩
  rw [taut_ins hm, Int.zero_sub]
theorem lit_bd (a b : List Int) (v : Int) (h1 : 1 ≤ v) (h2 : v ≤ 65536) : -65536 ≤ (bif ((!(a.contains v)) || (!(b.contains (0 - v)))) then (0 - v) else v) ∧ (bif ((!(a.contains v)) || (!(b.contains (0 - v)))) then (0 - v) else v) ≤ 65536 := by
  cases ((!(a.contains v)) || (!(b.contains (0 - v)))) <;> simp only [cond_true, cond_false] <;> omega
theorem lit_of (a b : List Int) (v : Int) : (onB a b v = true ∧ (bif ((!(a.contains v)) || (!(b.contains (0 - v)))) then (0 - v) else v) = v) ∨ (onB a b v = false ∧ (bif ((!(a.contains v)) || (!(b.contains (0 - v)))) then (0 - v) else v) = -v) := by
  rw [Int.zero_sub]
  cases h : ((!(a.contains v)) || (!(b.contains (-v)))) with
  | false => left; exact ⟨onB_yes h, rfl⟩
  | true => right; exact ⟨onB_no h, rfl⟩
theorem ref_res_no {a b : List Int} {v : Int} (h1 : 1 ≤ v) (h2 : v ≤ 65536) (h : ((!(a.contains (bif ((!(a.contains v)) || (!(b.contains (0 - v)))) then (0 - v) else v))) || (!(b.contains (0 - (bif ((!(a.contains v)) || (!(b.contains (0 - v)))) then (0 - v) else v))))) = true) :
    resL a b v = [] ∧ resE a b v = 140 := by
  rcases lit_of a b v with ⟨h3, h4⟩ | ⟨h3, h4⟩ <;> rw [h4, Int.zero_sub] at h
  · rw [onB_no h] at h3; cases h3
  · exact res_no fun j hj => by
      match j, hj with
      | 0, _ => exact h3
      | 1, _ => exact onB_no h
theorem ref_res_yes {a b : List Int} {v : Int} (h1 : 1 ≤ v) (h2 : v ≤ 65536) (h : ((!(a.contains (bif ((!(a.contains v)) || (!(b.contains (0 - v)))) then (0 - v) else v))) || (!(b.contains (0 - (bif ((!(a.contains v)) || (!(b.contains (0 - v)))) then (0 - v) else v))))) = false) :
    normL ((a.filter fun z9 => z9 != (bif ((!(a.contains v)) || (!(b.contains (0 - v)))) then (0 - v) else v)) ++ (b.filter fun z9 => z9 != 0 - (bif ((!(a.contains v)) || (!(b.contains (0 - v)))) then (0 - v) else v))) = resL a b v ∧ 0 = resE a b v := by
  rcases lit_of a b v with ⟨h3, h4⟩ | ⟨h3, h4⟩ <;> rw [h4, Int.zero_sub] at h ⊢
  · have := res_yes (k := 0) (by omega) h1 h2 (fun j hj => by omega) (show onB a b v = true from h3)
    exact ⟨this.1.symm, this.2.symm⟩
  · have := res_yes (k := 1) (by omega) h1 h2 (fun j hj => (by have hj0 : j = 0 := (by omega); subst hj0; exact h3)) (show onB a b (-v) = true from onB_yes h)
    exact ⟨this.1.symm, this.2.symm⟩
theorem filt_y {a : List Int} {k : Nat} {x : Int} (hk : k < a.length) (h : a.getD k 0 ≠ x) : ((a.take k).filter fun z9 => z9 != x) ++ [a.getD k 0] = (a.take (k + 1)).filter fun z9 => z9 != x := by
  rw [take_sD (d := 0) hk, List.filter_append, List.filter_cons_of_pos (by simpa using h), List.filter_nil]
theorem filt_n {a : List Int} {k : Nat} {x : Int} (hk : k < a.length) (h : a.getD k 0 = x) : ((a.take k).filter fun z9 => z9 != x) = (a.take (k + 1)).filter fun z9 => z9 != x := by
  rw [take_sD (d := 0) hk, List.filter_append, List.filter_cons_of_neg (by simpa using h), List.filter_nil, List.append_nil]
theorem norm_nil : normL [] = [] := norm_of List.Pairwise.nil (by simp)
theorem taut_nil : tautL [] = false := by unfold tautL; rw [norm_nil]; rfl
end Go.Proofs.YtbpbndlgfiammaaGreatDoor.Cn
