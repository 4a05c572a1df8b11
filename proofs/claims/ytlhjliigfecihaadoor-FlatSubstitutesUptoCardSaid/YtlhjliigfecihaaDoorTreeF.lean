/- A tree's truth, kind by kind, as the code reckons it. Plain. -/
import Derived.Test.YtlhjliigfecihaaDoorTreeQ
import Derived.Test.YtlhjliigfecihaaDoorTreeL
set_option linter.unusedSimpArgs false
set_option linter.unusedVariables false
set_option linter.unnecessarySimpa false
namespace Go.Proofs.YtlhjliigfecihaaDoor.Fl
open Go En
variable {a : List Bool} {q v k : Int} {l : List Tree}
theorem vn1 (h : q = 1) : (v == 1) = valN a q v k l := by unfold valN valB; rw [if_pos h]
theorem vn2 (h1 : ¬ q = 1) (h : q = 2) : ((decide (1 ≤ v) && decide (v < (a.length : Int))) && a.getD v.toNat false) = valN a q v k l := by unfold valN valB; rw [if_neg h1, if_pos h]
theorem vn2' (h1 : ¬ q = 1) (h : q = 2) : ((decide (0 < v) && decide (v < (a.length : Int))) && a.getD v.toNat false) = valN a q v k l := vn2 h1 h
theorem vn_node (h : q = q) : valN a q v k l = valT a (.node q v k l) := (val_node q).symm
theorem vn3 (h : q = 3) : (!(l.any (valT a))) = valN a q v k l := by
  subst h
  unfold valN valB
  rw [if_neg (by decide), if_neg (by decide), if_pos rfl, Bool.eq_iff_iff, Bool.not_eq_true', beq_iff_eq, List.any_eq_false, List.countP_map, show (0 : Int) = ((0 : Nat) : Int) from rfl, Int.natCast_inj, List.countP_eq_zero]
  rfl
theorem vn4 (h : q = 4) : (((l.filter (valT a)).length : Int) == (l.length : Int)) = valN a q v k l := by
  subst h
  unfold valN valB
  rw [if_neg (by decide), if_neg (by decide), if_neg (by decide), if_pos rfl, List.countP_map, List.length_map, ← List.countP_eq_length_filter]
  rfl
theorem vn5 (h : q = 5) : l.any (valT a) = valN a q v k l := by
  subst h
  rw [vn_node rfl, val_or]
theorem vn6 (h : q = 6) : decide (((l.filter (valT a)).length : Int) ≥ k) = valN a q v k l := by
  subst h
  rw [vn_node rfl, val_least, ← List.countP_eq_length_filter]
theorem vn0 (h1 : ¬ q = 1) (h2 : ¬ q = 2) (h3 : ¬ q = 3) (h4 : ¬ q = 4) (h5 : ¬ q = 5) (h6 : ¬ q = 6) : false = valN a q v k l := by
  unfold valN valB
  rw [if_neg h1, if_neg h2, if_neg h3, if_neg h4, if_neg h5, if_neg h6]
/-! with the count -/
theorem cn3 (h : q = 3) : (((cntV a l l.length : Nat) : Int) == 0) = valN a q v k l := by
  subst h; unfold valN valB; rw [if_neg (by decide), if_neg (by decide), if_pos rfl, cnt_all]
theorem cn4 (h : q = 4) : (((cntV a l l.length : Nat) : Int) == (l.length : Int)) = valN a q v k l := by
  subst h; unfold valN valB; rw [if_neg (by decide), if_neg (by decide), if_neg (by decide), if_pos rfl, cnt_all, List.length_map]
theorem cn5 (h : q = 5) : decide (((cntV a l l.length : Nat) : Int) > 0) = valN a q v k l := by
  subst h; unfold valN valB; rw [if_neg (by decide), if_neg (by decide), if_neg (by decide), if_neg (by decide), if_pos rfl, cnt_all]
theorem cn6 (h : q = 6) : decide (((cntV a l l.length : Nat) : Int) ≥ k) = valN a q v k l := by
  subst h; unfold valN valB; rw [if_neg (by decide), if_neg (by decide), if_neg (by decide), if_neg (by decide), if_neg (by decide), if_pos rfl, cnt_all]
theorem filt_yes {i : Nat} (hi : i < l.length) (h : valT a (l.getD i tree0) = true) : ((l.take i).filter (valT a)) ++ [l.getD i tree0] = (l.take (i + 1)).filter (valT a) := by
  have e : l[i] = l.getD i tree0 := by rw [List.getD_eq_getElem?_getD, List.getElem?_eq_getElem hi]; rfl
  rw [List.take_succ_eq_append_getElem hi, List.filter_append, e, List.filter_cons, h]; rfl
theorem filt_no {i : Nat} (hi : i < l.length) (h : valT a (l.getD i tree0) = false) : ((l.take i).filter (valT a)) = (l.take (i + 1)).filter (valT a) := by
  have e : l[i] = l.getD i tree0 := by rw [List.getD_eq_getElem?_getD, List.getElem?_eq_getElem hi]; rfl
  rw [List.take_succ_eq_append_getElem hi, List.filter_append, e, List.filter_cons, h]; simp
end Go.Proofs.YtlhjliigfecihaaDoor.Fl
