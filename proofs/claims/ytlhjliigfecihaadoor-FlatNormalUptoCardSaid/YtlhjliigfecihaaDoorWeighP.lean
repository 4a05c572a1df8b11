/- The weight of a tree as the reference reckons it: the sum may wrap, and the count stops behind the bound. Plain lemmas. -/
import Derived.Test.YtlhjliigfecihaaDoorTreeV
set_option linter.unusedSimpArgs false
set_option linter.unusedVariables false
set_option linter.unnecessarySimpa false
namespace Go.Proofs.YtlhjliigfecihaaDoor.Fl
open Go En Go.RowKit
mutual
def weighT (bd : Int) : Tree → Int
  | .node _ _ _ l => weighL bd 1 l
def weighL (bd : Int) (n : Int) : List Tree → Int
  | [] => n
  | x :: l => if n ≤ bd then weighL bd (wrap64 (n + weighT bd x)) l else n
end
theorem weigh_t (bd : Int) (t : Tree) : weighT bd t = weighL bd 1 t.l := by cases t with | node a b c l => rw [weighT]; rfl
theorem weigh_nil (bd n : Int) : weighL bd n [] = n := by rw [weighL]
theorem weigh_go {bd n : Int} {l : List Tree} {k : Nat} (hk : k < l.length) (h : n ≤ bd) : weighL bd n (l.drop k) = weighL bd (wrap64 (n + weighT bd (l.getD k tree0))) (l.drop (k + 1)) := by
  rw [List.drop_eq_getElem_cons hk, weighL, if_pos h, List.getD_eq_getElem?_getD, List.getElem?_eq_getElem hk]; rfl
theorem weigh_stop {bd n : Int} {l : List Tree} {k : Nat} (hk : k < l.length) (h : ¬ n ≤ bd) : weighL bd n (l.drop k) = n := by
  rw [List.drop_eq_getElem_cons hk, weighL, if_neg h]
theorem weigh_list {bd : Int} : ∀ (l : List Tree), (∀ x ∈ l, sizeT x ≤ 2305843009213693952 → 1 ≤ weighT bd x ∧ weighT bd x ≤ (sizeT x : Int) ∧ (weighT bd x ≤ bd → weighT bd x = (sizeT x : Int))) → ∀ n : Int, 0 ≤ n → n + (sizeL l : Int) ≤ 2305843009213693952 →
    n ≤ weighL bd n l ∧ weighL bd n l ≤ n + (sizeL l : Int) ∧ (weighL bd n l ≤ bd → weighL bd n l = n + (sizeL l : Int))
  | [], _, n, h0, h1 => by rw [weighL]; simp only [sizeL]; omega
  | x :: l, h, n, h0, h1 => by
    rw [weighL]
    simp only [sizeL] at h1 ⊢
    have hx := h x (by simp) (by omega)
    have hp := size_pos x
    by_cases hn : n ≤ bd
    · rw [if_pos hn]
      have hw : wrap64 (n + weighT bd x) = n + weighT bd x := by unfold wrap64; omega
      rw [hw]
      have ih := weigh_list l (fun y hy => h y (by simp [hy])) (n + weighT bd x) (by omega) (by omega)
      omega
    · rw [if_neg hn]; omega
theorem weigh_size {bd : Int} : ∀ t : Tree, sizeT t ≤ 2305843009213693952 → 1 ≤ weighT bd t ∧ weighT bd t ≤ (sizeT t : Int) ∧ (weighT bd t ≤ bd → weighT bd t = (sizeT t : Int)) := tree_ind fun q v k l ih h => by
  rw [size_node] at h
  have := weigh_list (bd := bd) l ih 1 (by omega) (by omega)
  rw [weigh_t, size_node]
  simp only [show (Tree.node q v k l).l = l from rfl]
  omega
/-- few nodes -/
def fewT (l : List Tree) : Bool := decide (weighL 400 1 l ≤ 400)
theorem few_size {q v k : Int} {l : List Tree} (h : sizeL l ≤ 1000000000000000000) (hf : fewT l = true) : sizeL l ≤ 400 := by
  have h1 := weigh_size (bd := 400) (.node q v k l) (by rw [size_node]; omega)
  rw [weigh_t, size_node] at h1
  have h2 := of_decide_eq_true hf
  have h3 : weighL 400 1 (Tree.node q v k l).l = weighL 400 1 l := rfl
  rw [h3] at h1
  have := h1.2.2 h2
  omega
end Go.Proofs.YtlhjliigfecihaaDoor.Fl
