/- Simplification, as the code walks it. Plain. -/
import Derived.Test.YtlhjliigfecihaaDoorTreeK
set_option linter.unusedSimpArgs false
set_option linter.unusedVariables false
namespace Go.Proofs.YtlhjliigfecihaaDoor.Fl
open Go En
variable {q v k : Int} {l : List Tree} {i : Nat}
theorem lens_size : ∀ t : Tree, sizeT t ≤ 2932031007317 → lensT t := tree_ind fun kind v k l ih h => by
  rw [size_node] at h
  rw [lens_t]
  refine ⟨by have := len_size l; show l.length ≤ _; omega, ?_⟩
  show lensL l
  have key : ∀ m : List Tree, (∀ x ∈ m, lensT x) → lensL m := fun m => by
    induction m with
    | nil => intro _; trivial
    | cons x m ihm => intro hm; simp only [lensL]; exact ⟨hm x (by simp), ihm fun y hy => hm y (by simp [hy])⟩
  exact key l fun x hx => ih x hx (by have := size_mem hx; omega)
theorem lensL_size {l : List Tree} (h : sizeL l ≤ 2932031007316) : lensL l := by
  have := lens_t.1 (lens_size (.node 0 0 0 l) (by rw [size_node]; omega))
  exact this.2
theorem map_step (hi : i < l.length) : (l.take i).map simpT ++ [simpT (l.getD i tree0)] = (l.take (i + 1)).map simpT := by
  have e : l[i] = l.getD i tree0 := by rw [List.getD_eq_getElem?_getD, List.getElem?_eq_getElem hi]; rfl
  rw [List.take_succ_eq_append_getElem hi, List.map_append, e]; rfl
theorem map_len (h : i ≤ l.length) : ((l.take i).map simpT).length = i := by rw [List.length_map, List.length_take]; omega
theorem map_size (i : Nat) : sizeL ((l.take i).map simpT) ≤ sizeL l := Nat.le_trans (size_map _ fun x _ => size_simp x) (size_take l i)
theorem simp_at (e : i = l.length) : simpT (.node q v k l) = simpN q v k l ((l.take i).map simpT) := by subst e; rw [List.take_length, simp_eq]
theorem simp_3a (e : i = l.length) (hq : q = 3) (h : (((l.take i).map simpT).getD 0 tree0).kind = 1) : simpT (.node q v k l) = cst (1 - (((l.take i).map simpT).getD 0 tree0).v) := by
  rw [simp_at e]; unfold simpN; rw [if_pos hq, if_pos h]
theorem simp_3b (e : i = l.length) (hq : q = 3) (h : ¬ (((l.take i).map simpT).getD 0 tree0).kind = 1) (h3 : (((l.take i).map simpT).getD 0 tree0).kind = 3) : simpT (.node q v k l) = (((l.take i).map simpT).getD 0 tree0).l.getD 0 tree0 := by
  rw [simp_at e]; unfold simpN; rw [if_pos hq, if_neg h, if_pos h3]
theorem simp_3c (e : i = l.length) (hq : q = 3) (h : ¬ (((l.take i).map simpT).getD 0 tree0).kind = 1) (h3 : ¬ (((l.take i).map simpT).getD 0 tree0).kind = 3) : simpT (.node q v k l) = .node 3 0 0 ((l.take i).map simpT) := by
  rw [simp_at e]; unfold simpN; rw [if_pos hq, if_neg h, if_neg h3]
theorem simp_4 (e : i = l.length) (hq : q = 4) : simpT (.node q v k l) = joinT 4 1 ((l.take i).map simpT) := by
  rw [simp_at e]; unfold simpN; rw [if_neg (by omega), if_pos hq]
theorem simp_5 (e : i = l.length) (hq : q = 5) : simpT (.node q v k l) = joinT 5 0 ((l.take i).map simpT) := by
  rw [simp_at e]; unfold simpN; rw [if_neg (by omega), if_neg (by omega), if_pos hq]
theorem simp_6 (e : i = l.length) (hq : q = 6) : simpT (.node q v k l) = leastT k ((l.take i).map simpT) := by
  rw [simp_at e]; unfold simpN; rw [if_neg (by omega), if_neg (by omega), if_neg (by omega), if_pos hq]
theorem simp_0 (e : i = l.length) (h3 : ¬ q = 3) (h4 : ¬ q = 4) (h5 : ¬ q = 5) (h6 : ¬ q = 6) : simpT (.node q v k l) = .node q v k l := by
  rw [simp_at e]; unfold simpN; rw [if_neg h3, if_neg h4, if_neg h5, if_neg h6]
/-- what the form gives -/
theorem may_parts {n : Int} (h : mayN n q v k l = true) : mayH n q v k l.length = true ∧ ∀ j, j < l.length → mayT n (l.getD j tree0) = true := by
  unfold mayN at h
  rw [Bool.and_eq_true, List.all_eq_true] at h
  exact ⟨h.1, fun j hj => h.2 _ (by rw [List.getD_eq_getElem?_getD, List.getElem?_eq_getElem hj]; exact List.getElem_mem _)⟩
theorem may_3 {n : Int} {len : Nat} (h : mayH n q v k len = true) (hq : q = 3) : len = 1 := by
  subst hq; unfold mayH at h; simp at h; exact h.2
theorem may_6 {n : Int} {len : Nat} (h : mayH n q v k len = true) (hq : q = 6) : 0 ≤ k ∧ k ≤ 1099511627776 := by
  subst hq; unfold mayH at h; simp at h; exact ⟨h.1.2, h.2⟩
theorem simp_not {n : Int} {x : Tree} (h : mayT n x = true) (h3 : (simpT x).kind = 3) : (simpT x).l.length = 1 := by
  have hm := may_simp x h
  cases hs : simpT x with
  | node p r s t =>
    rw [hs] at hm h3
    have h3 : p = 3 := h3
    exact may_3 ((may_iff p).1 hm).1 h3
theorem sub_not {n : Int} (h0 : 0 < l.length) (hi : 0 < i) (hC : ∀ j, j < l.length → mayT n (l.getD j tree0) = true) (h3 : (((l.take i).map simpT).getD 0 tree0).kind = 3) : (((l.take i).map simpT).getD 0 tree0).l.length = 1 := by
  have e : ((l.take i).map simpT).getD 0 tree0 = simpT (l.getD 0 tree0) := by
    match l, i, h0, hi with
    | x :: l, i + 1, _, _ => rfl
  rw [e] at h3 ⊢
  exact simp_not (hC 0 h0) h3
theorem sub_k1 {n : Int} (h0 : 0 < l.length) (hi : 0 < i) (hC : ∀ j, j < l.length → mayT n (l.getD j tree0) = true) (h1 : (((l.take i).map simpT).getD 0 tree0).kind = 1) : (((l.take i).map simpT).getD 0 tree0).v = 0 ∨ (((l.take i).map simpT).getD 0 tree0).v = 1 := by
  have e : ((l.take i).map simpT).getD 0 tree0 = simpT (l.getD 0 tree0) := by
    match l, i, h0, hi with
    | x :: l, i + 1, _, _ => rfl
  rw [e] at h1 ⊢
  exact may_k1 (may_simp _ (hC 0 h0)) h1
end Go.Proofs.YtlhjliigfecihaaDoor.Fl
