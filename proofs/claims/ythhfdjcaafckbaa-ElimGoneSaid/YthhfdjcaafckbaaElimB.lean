/- Extending a model over undos, as plain functions. No program in sight. -/
import Derived.Test.YthhfdjcaafckbaaElimQ
set_option linter.unusedSimpArgs false
set_option linter.unusedVariables false
set_option linter.unnecessarySimpa false
namespace Go.Proofs.Ythhfdjcaafckbaa.Cn
open Go

def padB (a : List Bool) (V : Int) : List Bool := if V + 1 - (a.length : Int) > 0 then a ++ List.replicate (V + 1 - (a.length : Int)).toNat false else a
def setB (b : List Bool) (V : Int) (L : List (List Int)) : List Bool := (b.set V.toNat false).set V.toNat (L.any fun l => !(holdsV (b.set V.toNat false) l))
def backStep (a : List Bool) (w : Int × List (List Int)) : List Bool := if w.1 < 1 ∨ 65536 < w.1 then a else setB (padB a w.1) w.1 w.2
/-- the last i undos -/
def backTo (u : List (Int × List (List Int))) (a : List Bool) (i : Nat) : List Bool := (u.reverse.take i).foldl backStep a
def backF (u : List (Int × List (List Int))) (a : List Bool) : List Bool := u.reverse.foldl backStep a
section
variable {u : List (Int × List (List Int))} {a : List Bool} {i : Nat} {w : Int × List (List Int)}
theorem backTo_zero : a = backTo u a 0 := rfl
theorem backTo_all : backTo u a u.length = backF u a := by unfold backTo backF; rw [List.take_of_length_le (by simp)]
theorem backTo_succ (h : i < u.length) : backTo u a (i + 1) = backStep (backTo u a i) (u.getD (u.length - 1 - i) (0, [])) := by
  unfold backTo
  have hr : i < u.reverse.length := by simpa using h
  rw [List.take_succ_eq_append_getElem hr, List.foldl_append, List.getElem_reverse, List.getD_eq_getElem?_getD, List.getElem?_eq_getElem (by omega)]
  rfl
theorem padB_len (ha : a.length ≤ 1000000) (hv : w.1 ≤ 65536) : (padB a w.1).length ≤ 1000000 := by
  unfold padB; split
  · rw [List.length_append, List.length_replicate]; omega
  · exact ha
theorem padB_gt (hv : 1 ≤ w.1) : w.1.toNat < (padB a w.1).length := by
  unfold padB; split
  · rw [List.length_append, List.length_replicate]; omega
  · omega
theorem step_len (ha : a.length ≤ 1000000) : (backStep a w).length ≤ 1000000 := by
  unfold backStep; split
  · exact ha
  · unfold setB; rw [List.length_set, List.length_set]; exact padB_len ha (by omega)
theorem fold_len : ∀ {l : List (Int × List (List Int))} {a : List Bool}, a.length ≤ 1000000 → (l.foldl backStep a).length ≤ 1000000
  | [], _, h => h
  | _ :: l, _, h => fold_len (l := l) (step_len h)
theorem backTo_len (ha : a.length ≤ 1000000) : (backTo u a i).length ≤ 1000000 := fold_len ha
theorem bs_skip (h : w.1 < 1 ∨ 65536 < w.1) : a = backStep a w := by unfold backStep; rw [if_pos h]
theorem bs_app (h : ¬ (w.1 < 1 ∨ 65536 < w.1)) (hn : w.1 + 1 - (a.length : Int) > 0) : setB (a ++ List.replicate (w.1 + 1 - (a.length : Int)).toNat false) w.1 w.2 = backStep a w := by
  unfold backStep padB; rw [if_neg h, if_pos hn]
theorem bs_no (h : ¬ (w.1 < 1 ∨ 65536 < w.1)) (hn : ¬ (w.1 + 1 - (a.length : Int) > 0)) : setB a w.1 w.2 = backStep a w := by
  unfold backStep padB; rw [if_neg h, if_neg hn]
end
end Go.Proofs.Ythhfdjcaafckbaa.Cn
