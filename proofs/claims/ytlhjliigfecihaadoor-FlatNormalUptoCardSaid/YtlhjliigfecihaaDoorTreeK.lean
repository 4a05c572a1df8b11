/- The threshold, round by round. Plain. -/
import Derived.Test.YtlhjliigfecihaaDoorTreeJ
set_option linter.unusedSimpArgs false
set_option linter.unusedVariables false
namespace Go.Proofs.YtlhjliigfecihaaDoor.Fl
open Go En
variable {k : Int} {l : List Tree} {i : Nat}
theorem rest_y (hi : i < l.length) (h : ¬ (l.getD i tree0).kind = 1) : restL (l.take i) ++ [l.getD i tree0] = restL (l.take (i + 1)) := filtP_yes (p := fun x => x.kind != 1) hi (by simpa using h)
theorem rest_n (hi : i < l.length) (h : (l.getD i tree0).kind = 1) : restL (l.take i) = restL (l.take (i + 1)) := filtP_no (p := fun x => x.kind != 1) hi (by simpa using h)
theorem ones_take (hi : i < l.length) : onesL (l.take (i + 1)) = onesL (l.take i) + (if (l.getD i tree0).kind = 1 ∧ (l.getD i tree0).v = 1 then 1 else 0) := by
  have e : l[i] = l.getD i tree0 := by rw [List.getD_eq_getElem?_getD, List.getElem?_eq_getElem hi]; rfl
  unfold onesL
  rw [List.take_succ_eq_append_getElem hi, List.countP_append, e, List.countP_cons, List.countP_nil]
  by_cases h : (l.getD i tree0).kind = 1 ∧ (l.getD i tree0).v = 1
  · rw [if_pos h, h.1, h.2]; rfl
  · rw [if_neg h, if_neg (by simpa using h)]
theorem ones_le (i : Nat) : onesL (l.take i) ≤ i := Nat.le_trans List.countP_le_length (by rw [List.length_take]; omega)
theorem rest_le (i : Nat) : (restL (l.take i)).length ≤ i := Nat.le_trans (List.length_filter_le _ _) (by rw [List.length_take]; omega)
theorem lens_sub : ∀ {l m : List Tree}, lensL l → (∀ x ∈ m, x ∈ l) → lensL m
  | _, [], _, _ => trivial
  | l, x :: m, h, hs => by
    simp only [lensL]
    exact ⟨lens_mem h (hs x (by simp)), lens_sub h fun y hy => hs y (by simp [hy])⟩
theorem rest_ok (h : lensL l) (i : Nat) : lensL (restL (l.take i)) := lens_sub h fun x hx => List.mem_of_mem_take (List.mem_filter.1 hx).1
theorem rest_sz (i : Nat) : sizeL (restL (l.take i)) ≤ sizeL l := Nat.le_trans (size_rest _) (size_take l i)
theorem least_1 (e : i = l.length) (h : k - (onesL (l.take i) : Int) ≤ 0) : leastT k l = cst 1 := by
  subst e; rw [List.take_length] at h; unfold leastT; rw [if_pos h]
theorem least_2 (e : i = l.length) (h : ¬ k - (onesL (l.take i) : Int) ≤ 0) (h2 : k - (onesL (l.take i) : Int) > (restL (l.take i)).length) : leastT k l = cst 0 := by
  subst e; rw [List.take_length] at h h2; unfold leastT; rw [if_neg h, if_pos h2]
theorem least_3 (e : i = l.length) (h : ¬ k - (onesL (l.take i) : Int) ≤ 0) (h2 : ¬ k - (onesL (l.take i) : Int) > (restL (l.take i)).length) (h3 : k - (onesL (l.take i) : Int) = (restL (l.take i)).length) : leastT k l = joinT 4 1 (restL (l.take i)) := by
  subst e; rw [List.take_length] at h h2 h3 ⊢; unfold leastT; rw [if_neg h, if_neg h2, if_pos h3]
theorem least_4 (e : i = l.length) (h : ¬ k - (onesL (l.take i) : Int) ≤ 0) (h2 : ¬ k - (onesL (l.take i) : Int) > (restL (l.take i)).length) (h3 : ¬ k - (onesL (l.take i) : Int) = (restL (l.take i)).length) (h4 : k - (onesL (l.take i) : Int) = 1) : leastT k l = joinT 5 0 (restL (l.take i)) := by
  subst e; rw [List.take_length] at h h2 h3 h4 ⊢; unfold leastT; rw [if_neg h, if_neg h2, if_neg h3, if_pos h4]
theorem least_5 (e : i = l.length) (h : ¬ k - (onesL (l.take i) : Int) ≤ 0) (h2 : ¬ k - (onesL (l.take i) : Int) > (restL (l.take i)).length) (h3 : ¬ k - (onesL (l.take i) : Int) = (restL (l.take i)).length) (h4 : ¬ k - (onesL (l.take i) : Int) = 1) : leastT k l = .node 6 0 (k - (onesL (l.take i) : Int)) (restL (l.take i)) := by
  subst e; rw [List.take_length] at h h2 h3 h4 ⊢; unfold leastT; rw [if_neg h, if_neg h2, if_neg h3, if_neg h4]
end Go.Proofs.YtlhjliigfecihaaDoor.Fl
