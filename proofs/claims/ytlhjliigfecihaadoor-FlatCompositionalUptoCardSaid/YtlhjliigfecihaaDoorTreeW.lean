/- Formulas as trees: what holds of all nodes. Plain lemmas. -/
import Derived.Test.YtlhjliigfecihaaDoorTreeV
import Derived.Test.YtlhjliigfecihaaDoorTreeN
set_option linter.unusedSimpArgs false
set_option linter.unusedVariables false
set_option linter.unnecessarySimpa false
namespace Go.Proofs.YtlhjliigfecihaaDoor.Fl
open Go En
variable {n q v k : Int} {l : List Tree}
def headB (n : Int) (x : Tree) : Bool := mayH n x.kind x.v x.k x.l.length
theorem nodes_may : ∀ t, (nodesT t).all (headB n) = mayT n t := tree_ind fun q v k l ih => by
  rw [nodes_t, List.all_cons, may_eq]
  have h : ∀ m : List Tree, (∀ x ∈ m, (nodesT x).all (headB n) = mayT n x) → (nodesL m).all (headB n) = m.all (mayT n) := fun m => by
    induction m with
    | nil => intro _; rfl
    | cons x m ihm => intro hm; rw [nodesL, List.all_append, List.all_cons, hm x (by simp), ihm fun y hy => hm y (by simp [hy])]
  show (headB n (.node q v k l) && (nodesL l).all (headB n)) = _
  rw [h l ih]; rfl
theorem nodes_mayN : (nodesT (.node q v k l)).all (headB n) = mayN n q v k l := by rw [nodes_may, may_eq]; rfl
theorem node_len : (nodesT (.node q v k l)).length = 1 + sizeL l := by rw [nodes_len, size_node]
theorem chk_out (h : (decide (n < 0) || decide (n > 65536)) = true) : (1 : Int) = chkN n q v k l := by unfold chkN; rw [h]; rfl
theorem head_no {i : Nat} (hi : i < sizeT (.node q v k l)) (h : (!(mayH n ((nodesT (.node q v k l)).getD i tree0).kind ((nodesT (.node q v k l)).getD i tree0).v ((nodesT (.node q v k l)).getD i tree0).k ((nodesT (.node q v k l)).getD i tree0).l.length)) = true) : (1 : Int) = chkN n q v k l := by
  have h1 : mayN n q v k l = false := by
    rw [← nodes_mayN, Bool.eq_false_iff]
    intro h2
    rw [List.all_eq_true] at h2
    rw [← nodes_len] at hi
    have h3 := h2 ((nodesT (.node q v k l)).getD i tree0) (by rw [List.getD_eq_getElem?_getD, List.getElem?_eq_getElem hi]; exact List.getElem_mem _)
    unfold headB at h3
    rw [h3] at h
    cases h
  unfold chkN; rw [h1]; simp
theorem heads_all {m : Nat} (hm : m = sizeT (.node q v k l)) (h : ∀ j, j < m → headB n ((nodesT (.node q v k l)).getD j tree0) = true) : mayN n q v k l = true := by
  rw [← nodes_mayN, List.all_eq_true]
  intro x hx
  obtain ⟨j, hj, rfl⟩ := List.mem_iff_getElem.1 hx
  have := h j (by rw [hm, ← nodes_len]; exact hj)
  rwa [List.getD_eq_getElem?_getD, List.getElem?_eq_getElem hj] at this
theorem chk_end {m : Nat} {s : Int} (h0 : (decide (n < 0) || decide (n > 65536)) = false) (hm : m = sizeT (.node q v k l)) (hs : s = (m : Int)) (h : ∀ j, j < m → headB n ((nodesT (.node q v k l)).getD j tree0) = true) :
    chkN n q v k l = bif decide (s > 65536) then 2 else 0 := by
  unfold chkN
  rw [h0, heads_all hm h, hs, hm, size_node]; rfl
/-! ### the variables, node by node -/
def vOf (xs : List Tree) : List Int := (xs.filter fun x => x.kind == 2).map Tree.v
theorem vOf_app (a b : List Tree) : vOf (a ++ b) = vOf a ++ vOf b := by unfold vOf; rw [List.filter_append, List.map_append]
theorem nodes_vars : ∀ t, vOf (nodesT t) = varsT t := tree_ind fun q v k l ih => by
  rw [nodes_t, varsT]
  have h : ∀ m : List Tree, (∀ x ∈ m, vOf (nodesT x) = varsT x) → vOf (nodesL m) = varsL m := fun m => by
    induction m with
    | nil => intro _; rfl
    | cons x m ihm => intro hm; rw [nodesL, vOf_app, varsL, hm x (by simp), ihm fun y hy => hm y (by simp [hy])]
  show vOf ([.node q v k l] ++ nodesL l) = _
  rw [vOf_app, h l ih]
  congr 1
  unfold vOf
  by_cases e : q = 2
  · rw [if_pos e]; simp [List.filter_cons, Tree.kind, Tree.v, e]
  · rw [if_neg e]; simp [List.filter_cons, Tree.kind, Tree.v, e]
theorem vOf_take {xs : List Tree} {i : Nat} (hi : i < xs.length) : vOf (xs.take (i + 1)) = vOf (xs.take i) ++ (if (xs.getD i tree0).kind = 2 then [(xs.getD i tree0).v] else []) := by
  rw [List.take_succ_eq_append_getElem hi, vOf_app]
  congr 1
  rw [List.getD_eq_getElem?_getD, List.getElem?_eq_getElem hi]
  unfold vOf
  by_cases e : xs[i].kind = 2 <;> simp [List.filter_cons, e]
theorem vOf_yes {t : Tree} {i : Nat} (hi : i < sizeT t) (h : ((nodesT t).getD i tree0).kind = 2) : vOf ((nodesT t).take i) ++ [((nodesT t).getD i tree0).v] = vOf ((nodesT t).take (i + 1)) := by
  rw [vOf_take (by rw [nodes_len]; exact hi), if_pos h]
theorem vOf_no {t : Tree} {i : Nat} (hi : i < sizeT t) (h : ¬ ((nodesT t).getD i tree0).kind = 2) : vOf ((nodesT t).take i) = vOf ((nodesT t).take (i + 1)) := by
  rw [vOf_take (by rw [nodes_len]; exact hi), if_neg h, List.append_nil]
theorem vOf_len {t : Tree} (i : Nat) : (vOf ((nodesT t).take i)).length ≤ sizeT t := by
  unfold vOf
  rw [List.length_map]
  refine Nat.le_trans (List.length_filter_le _ _) ?_
  rw [List.length_take, nodes_len]; omega
theorem vOf_all {t : Tree} : vOf ((nodesT t).take (sizeT t)) = varsT t := by rw [← nodes_len, List.take_length, nodes_vars]
end Go.Proofs.YtlhjliigfecihaaDoor.Fl
