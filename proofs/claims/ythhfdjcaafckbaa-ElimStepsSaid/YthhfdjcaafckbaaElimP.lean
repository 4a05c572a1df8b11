/- Elimination as plain functions: what layer 23's functions compute. No program in sight. -/
import Derived.Test.YthhfdjcaafckbaaCnfR
set_option linter.unusedSimpArgs false
set_option linter.unusedVariables false
set_option linter.unnecessarySimpa false
namespace Go.Proofs.Ythhfdjcaafckbaa.Cn
open Go

/-- contains x but not its negation -/
def wP (x : Int) (l : List Int) : Bool := l.contains x && !(l.contains (-x))
def withL (c : List (List Int)) (x : Int) : List (List Int) := c.filter (wP x)
/-- places of the clauses that are yielded; how many come before place k -/
def wIdx (c : List (List Int)) (x : Int) (k : Nat) : List Nat := (List.range k).filter fun i => wP x (c.getD i [])
theorem wIdx_succ {c : List (List Int)} {x : Int} {k : Nat} : wIdx c x (k + 1) = if wP x (c.getD k []) then wIdx c x k ++ [k] else wIdx c x k := by
  unfold wIdx
  rw [List.range_succ, List.filter_append]
  by_cases h : wP x (c.getD k []) = true
  · rw [if_pos h, List.filter_cons_of_pos (p := fun i => wP x (c.getD i [])) h, List.filter_nil]
  · rw [if_neg h, List.filter_cons_of_neg (p := fun i => wP x (c.getD i [])) h, List.filter_nil, List.append_nil]
theorem wIdx_mono {c : List (List Int)} {x : Int} {k n : Nat} (h : k ≤ n) : ∃ t, wIdx c x n = wIdx c x k ++ t := by
  induction n with
  | zero => obtain rfl : k = 0 := (by omega); exact ⟨[], by simp⟩
  | succ n ih =>
    by_cases hk : k = n + 1
    · subst hk; exact ⟨[], by simp⟩
    · obtain ⟨t, ht⟩ := ih (by omega)
      rw [wIdx_succ, ht]
      split
      · exact ⟨t ++ [n], by simp⟩
      · exact ⟨t, rfl⟩
theorem wIdx_at {c : List (List Int)} {x : Int} {k n : Nat} (h : k < n) (hp : wP x (c.getD k []) = true) : (wIdx c x k).length < (wIdx c x n).length ∧ (wIdx c x n).getD (wIdx c x k).length 0 = k := by
  obtain ⟨t, ht⟩ := wIdx_mono (c := c) (x := x) (show k + 1 ≤ n from h)
  rw [wIdx_succ, if_pos hp] at ht
  rw [ht]
  constructor
  · simp
  · rw [List.append_assoc, List.getD_eq_getElem?_getD, List.getElem?_append_right (Nat.le_refl _), Nat.sub_self]; rfl
theorem range_get (c : List (List Int)) : (List.range c.length).map (fun i => c.getD i []) = c := by
  refine List.ext_getElem (by simp) fun i h1 h2 => ?_
  simp [List.getD, h2]
theorem withL_idx (c : List (List Int)) (x : Int) : withL c x = (wIdx c x c.length).map fun i => c.getD i [] := by
  have e : c.filter (wP x) = ((List.range c.length).map fun i => c.getD i []).filter (wP x) := by rw [range_get]
  unfold withL wIdx
  rw [e, List.filter_map]
  rfl
theorem wIdx_lt {c : List (List Int)} {x : Int} {n j : Nat} (h : j < (wIdx c x n).length) : (wIdx c x n).getD j 0 < n := by
  rw [List.getD_eq_getElem?_getD, List.getElem?_eq_getElem h]
  have := (List.mem_filter.1 (List.getElem_mem h)).1
  exact List.mem_range.1 this
theorem withL_get {c : List (List Int)} {x : Int} {j : Nat} (h : j < (withL c x).length) : (withL c x).getD j [] = c.getD ((wIdx c x c.length).getD j 0) [] := by
  have hl : j < (wIdx c x c.length).length := by rw [withL_idx] at h; simpa using h
  have e : (wIdx c x c.length).getD j 0 = (wIdx c x c.length)[j] := by rw [List.getD_eq_getElem?_getD, List.getElem?_eq_getElem hl]; rfl
  rw [withL_idx, e, List.getD_eq_getElem?_getD, List.getElem?_map, List.getElem?_eq_getElem hl]
  rfl
theorem withL_len (c : List (List Int)) (x : Int) : (withL c x).length = (wIdx c x c.length).length := by rw [withL_idx]; simp
/-- mentions the variable v -/
def hasV (v : Int) (l : List Int) : Bool := l.contains v || l.contains (-v)
def uOf (c : List (List Int)) (v : Int) : List (List Int) := c.filter (hasV v)
def xOf (c : List (List Int)) (v : Int) : List (List Int) := c.filter fun l => !(hasV v l)
/-- what a pair of clauses adds -/
def resT (a : List Int) (v : Int) (b : List Int) : List (List Int) := if tautL (resL a b v) then [] else [resL a b v]
/-- what a and the first j clauses of bs add -/
def resB (a : List Int) (bs : List (List Int)) (v : Int) (j : Nat) : List (List Int) := (bs.take j).flatMap (resT a v)
/-- what the first i clauses of as add, each with all of bs -/
def resA (as bs : List (List Int)) (v : Int) (i : Nat) : List (List Int) := (as.take i).flatMap fun a => bs.flatMap (resT a v)
/-- clauses appended till there are more than many -/
def cutX (many : Int) : List (List Int) → List (List Int) → List (List Int)
  | acc, [] => acc
  | acc, l :: ls => if many < ((acc ++ [l]).length : Int) then acc ++ [l] else cutX many (acc ++ [l]) ls
def outX (c : List (List Int)) (v many : Int) : List (List Int) := cutX many (xOf c v) (resA (withL (uOf c v) v) (withL (uOf c v) (-v)) v (withL (uOf c v) v).length)
end Go.Proofs.Ythhfdjcaafckbaa.Cn
