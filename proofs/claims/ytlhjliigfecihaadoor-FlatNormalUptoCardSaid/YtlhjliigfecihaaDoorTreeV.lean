/- Formulas as trees: the nodes in preorder, and lists laid one behind the other. Plain definitions and lemmas. -/
import Derived.Test.YtlhjliigfecihaaDoorTreeS
import Derived.Test.YtlhjliigfecihaaDoorTreeL
set_option linter.unusedSimpArgs false
set_option linter.unusedVariables false
set_option linter.unnecessarySimpa false
namespace Go.Proofs.YtlhjliigfecihaaDoor.Fl
open Go En
mutual
def nodesT : Tree → List Tree
  | .node q v k l => .node q v k l :: nodesL l
def nodesL : List Tree → List Tree
  | [] => []
  | t :: l => nodesT t ++ nodesL l
end
theorem nodes_t (t : Tree) : nodesT t = t :: nodesL t.l := by cases t with | node a b c l => rw [nodesT]; rfl
theorem size_t (t : Tree) : sizeT t = 1 + sizeL t.l := by cases t with | node a b c l => rw [sizeT]; rfl
theorem sizeL_sum : ∀ l : List Tree, sizeL l = (l.map sizeT).sum
  | [] => rfl
  | x :: l => by rw [sizeL, sizeL_sum l]; rfl
theorem nodes_len : ∀ t : Tree, (nodesT t).length = sizeT t := tree_ind fun q v k l ih => by
  rw [nodes_t, size_t]
  have h : ∀ m : List Tree, (∀ x ∈ m, (nodesT x).length = sizeT x) → (nodesL m).length = sizeL m := fun m => by
    induction m with
    | nil => intro _; rfl
    | cons x m ihm => intro hm; rw [nodesL, sizeL, List.length_append, hm x (by simp), ihm fun y hy => hm y (by simp [hy])]
  show (_ :: nodesL l).length = 1 + sizeL l
  rw [List.length_cons, h l ih]; omega
theorem nodesL_app : ∀ l m : List Tree, nodesL (l ++ m) = nodesL l ++ nodesL m
  | [], m => rfl
  | x :: l, m => by rw [List.cons_append, nodesL, nodesL, nodesL_app l m, List.append_assoc]
theorem sizeL_app (l m : List Tree) : sizeL (l ++ m) = sizeL l + sizeL m := by rw [sizeL_sum, sizeL_sum, sizeL_sum, List.map_append, List.sum_append]
theorem nodesL_len (l : List Tree) : (nodesL l).length = sizeL l := by
  have h := nodes_len (.node 0 0 0 l)
  rw [nodes_t, size_t] at h
  simp only [List.length_cons] at h
  show (nodesL (Tree.node 0 0 0 l).l).length = sizeL (Tree.node 0 0 0 l).l
  omega
theorem size_take_succ {l : List Tree} {k : Nat} (h : k < l.length) : sizeL (l.take (k + 1)) = sizeL (l.take k) + sizeT (l.getD k tree0) := by
  rw [List.take_succ_eq_append_getElem h, sizeL_app, List.getD_eq_getElem?_getD, List.getElem?_eq_getElem h]
  simp [sizeL]
theorem size_take_le {l : List Tree} (k : Nat) : sizeL (l.take k) ≤ sizeL l := by
  have h := sizeL_app (l.take k) (l.drop k)
  rw [List.take_append_drop] at h; omega
theorem size_take_lt {l : List Tree} {k j : Nat} (h : k < l.length) (hj : j < sizeT (l.getD k tree0)) : sizeL (l.take k) + j < sizeL l := by
  have h1 := size_take_succ h
  have h2 := size_take_le (l := l) (k + 1)
  omega
theorem nodes_at {l : List Tree} {k j : Nat} (h : k < l.length) (hj : j < sizeT (l.getD k tree0)) : (nodesL l).getD (sizeL (l.take k) + j) tree0 = (nodesT (l.getD k tree0)).getD j tree0 := by
  have e : l = l.take k ++ (l.getD k tree0 :: l.drop (k + 1)) := by
    rw [List.getD_eq_getElem?_getD, List.getElem?_eq_getElem h]
    simp
  have h1 : nodesL l = nodesL (l.take k) ++ (nodesT (l.getD k tree0) ++ nodesL (l.drop (k + 1))) := by
    conv => lhs; rw [e]
    rw [nodesL_app, nodesL]
  rw [h1]
  generalize l.getD k tree0 = x at hj ⊢
  rw [List.getD_eq_getElem?_getD, List.getD_eq_getElem?_getD, List.getElem?_append_right (by rw [nodesL_len]; omega), nodesL_len, show sizeL (l.take k) + j - sizeL (l.take k) = j by omega, List.getElem?_append_left (by rw [nodes_len]; exact hj)]
/-- an index below the whole falls into one of the parts -/
theorem idx_split {l : List Tree} {i : Nat} : ∀ m, m ≤ l.length → i < sizeL (l.take m) → ∃ k j, k < m ∧ j < sizeT (l.getD k tree0) ∧ i = sizeL (l.take k) + j
  | 0, _, h => by simp [sizeL] at h
  | m + 1, hm, h => by
    have h1 := size_take_succ (l := l) (k := m) (by omega)
    by_cases hc : i < sizeL (l.take m)
    · obtain ⟨k, j, h2, h3, h4⟩ := idx_split m (by omega) hc
      exact ⟨k, j, by omega, h3, h4⟩
    · exact ⟨m, i - sizeL (l.take m), by omega, by omega, by omega⟩
/-- lists laid one behind the other -/
def cat {α : Type} (f : Nat → List α) : Nat → List α
  | 0 => []
  | k + 1 => cat f k ++ f k
theorem cat_len {α : Type} {f : Nat → List α} {l : List Tree} : ∀ k, k ≤ l.length → (∀ i, i < l.length → (f i).length = sizeT (l.getD i tree0)) → (cat f k).length = sizeL (l.take k)
  | 0, _, _ => by simp [cat, sizeL]
  | k + 1, hk, h => by rw [cat, List.length_append, cat_len k (by omega) h, h k (by omega), size_take_succ (by omega)]
theorem cat_pre {α : Type} {f : Nat → List α} {k : Nat} : ∀ m, k ≤ m → ∃ r, cat f m = cat f k ++ r
  | 0, h => ⟨[], by rw [show k = 0 by omega]; rfl⟩
  | m + 1, h => by
    by_cases e : k = m + 1
    · exact ⟨[], by rw [e, List.append_nil]⟩
    · obtain ⟨r, hr⟩ := cat_pre (f := f) (k := k) m (by omega)
      exact ⟨r ++ f m, by rw [cat, hr, List.append_assoc]⟩
theorem cat_at {α : Type} {f : Nat → List α} {l : List Tree} {d : α} (h : ∀ i, i < l.length → (f i).length = sizeT (l.getD i tree0)) {k j : Nat} (hk : k < l.length) (hj : j < sizeT (l.getD k tree0)) :
    (cat f l.length).getD (sizeL (l.take k) + j) d = (f k).getD j d := by
  obtain ⟨r, hr⟩ := cat_pre (f := f) (k := k + 1) l.length (by omega)
  have hl := cat_len (f := f) k (by omega) h
  rw [hr, cat, List.getD_eq_getElem?_getD, List.getD_eq_getElem?_getD, List.append_assoc, List.getElem?_append_right (by omega), hl, show sizeL (l.take k) + j - sizeL (l.take k) = j by omega, List.getElem?_append_left (by rw [h k hk]; exact hj)]
end Go.Proofs.YtlhjliigfecihaaDoor.Fl
