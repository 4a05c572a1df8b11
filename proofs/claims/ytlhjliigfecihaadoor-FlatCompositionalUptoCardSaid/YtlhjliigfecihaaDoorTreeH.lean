/- Filters of subtrees, round by round. Plain. -/
import Derived.Test.YtlhjliigfecihaaDoorTreeG
set_option linter.unusedSimpArgs false
set_option linter.unusedVariables false
namespace Go.Proofs.YtlhjliigfecihaaDoor.Fl
open Go En
theorem filtP_yes {p : Tree → Bool} {l : List Tree} {i : Nat} (hi : i < l.length) (h : p (l.getD i tree0) = true) : ((l.take i).filter p) ++ [l.getD i tree0] = (l.take (i + 1)).filter p := by
  have e : l[i] = l.getD i tree0 := by rw [List.getD_eq_getElem?_getD, List.getElem?_eq_getElem hi]; rfl
  rw [List.take_succ_eq_append_getElem hi, List.filter_append, e, List.filter_cons, h]; rfl
theorem filtP_no {p : Tree → Bool} {l : List Tree} {i : Nat} (hi : i < l.length) (h : p (l.getD i tree0) = false) : ((l.take i).filter p) = (l.take (i + 1)).filter p := by
  have e : l[i] = l.getD i tree0 := by rw [List.getD_eq_getElem?_getD, List.getElem?_eq_getElem hi]; rfl
  rw [List.take_succ_eq_append_getElem hi, List.filter_append, e, List.filter_cons, h]; simp
end Go.Proofs.YtlhjliigfecihaaDoor.Fl
