/- The variables of a tree, in increasing order, each once. Plain lemmas. -/
import Derived.Test.YtlhjliigfecihaaDoorTreeW
import Derived.Test.YtlhjliigfecihaaDoorTreeJ
import Derived.Lib.RowBridge
set_option linter.unusedSimpArgs false
set_option linter.unusedVariables false
set_option linter.unnecessarySimpa false
namespace Go.Proofs.YtlhjliigfecihaaDoor.Fl
open Go En
/-- in increasing order -/
def sortI (xs : List Int) : List Int := xs.mergeSort fun x y => decide (x ≤ y)
/-- in increasing order, each once -/
def setI (xs : List Int) : List Int := Lib.compact (sortI xs)
theorem sortI_mem {xs : List Int} {x : Int} : x ∈ sortI xs ↔ x ∈ xs := by unfold sortI; exact List.mem_mergeSort
theorem sortI_len (xs : List Int) : (sortI xs).length = xs.length := by unfold sortI; exact List.length_mergeSort _
theorem sortI_pw (xs : List Int) : (sortI xs).Pairwise fun x y => x ≤ y := by
  have h := List.pairwise_mergeSort (le := fun x y : Int => decide (x ≤ y)) (fun a b c => by simp only [decide_eq_true_eq]; omega) (fun a b => by simp only [Bool.or_eq_true, decide_eq_true_eq]; omega) xs
  exact h.imp fun h => of_decide_eq_true h
theorem nodes_le {x : Tree} : ∀ t : Tree, x ∈ nodesT t → sizeT x ≤ sizeT t := tree_ind fun q v k l ih h => by
  rw [nodes_t] at h
  rcases List.mem_cons.1 h with h | h
  · rw [h]; exact Nat.le_refl _
  · rw [size_node]
    have hm : ∀ m : List Tree, (∀ y ∈ m, x ∈ nodesT y → sizeT x ≤ sizeT y) → x ∈ nodesL m → sizeT x ≤ sizeL m := fun m => by
      induction m with
      | nil => intro _ h; cases h
      | cons y m ihm =>
        intro hh h
        rw [nodesL, List.mem_append] at h
        rw [sizeL]
        rcases h with h | h
        · have := hh y (by simp) h; omega
        · have := ihm (fun z hz => hh z (by simp [hz])) h; omega
    have := hm l ih h
    omega
theorem node_max {t : Tree} {i : Nat} (hi : i < sizeT t) : ((nodesT t).getD i tree0).l.length ≤ sizeT t := by
  rw [← nodes_len] at hi
  have h := nodes_le t (List.getElem_mem hi)
  have e : (nodesT t).getD i tree0 = (nodesT t)[i] := by rw [List.getD_eq_getElem?_getD, List.getElem?_eq_getElem hi]; rfl
  rw [e]
  rw [size_t (nodesT t)[i]] at h
  have := len_size (nodesT t)[i].l
  omega
theorem head_yes {n : Int} {x : Tree} (h : (!(mayH n x.kind x.v x.k x.l.length)) = false) : headB n x = true := by unfold headB; simpa using h
end Go.Proofs.YtlhjliigfecihaaDoor.Fl
