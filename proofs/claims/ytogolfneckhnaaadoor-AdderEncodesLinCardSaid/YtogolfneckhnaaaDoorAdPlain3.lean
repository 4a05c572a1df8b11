/- What the adder's Least computes, as plain functions on lists and numbers; no program in sight. -/
import Derived.Test.YtogolfneckhnaaaDoorAdPlain2
namespace Go.Proofs.YtogolfneckhnaaaDoor

def lcond (K : Nat) (bits : List Int) (t i : Nat) : Bool := bits.getD i 0 != 0 && (i == t || (decide (t < i) && !K.testBit i))
def clTo (bits : List Int) (K t i : Nat) : List Int := ((List.range i).filter (lcond K bits t)).map (fun j => bits.getD j 0)
def leastTo (bits : List Int) (K j : Nat) : List (List Int) := ((List.range j).filter K.testBit).map fun t => clTo bits K t bits.length
def oddB (x : Int) : Bool := decide (x < -65536) || decide (65536 < x)
inductive LeastR where
  | err (e : Int)
  | ok (cs : List (List Int))
def leastP (bits : List Int) (k : Int) : LeastR :=
  if k < 0 ∨ 4503599627370496 < k ∨ bits.any oddB = true then .err 1 else if 60 < bits.length then .err 2 else .ok (leastTo bits k.toNat 64)

theorem clTo_succ (bits : List Int) (K t i : Nat) : clTo bits K t (i + 1) = clTo bits K t i ++ if lcond K bits t i then [bits.getD i 0] else [] := by
  unfold clTo
  rw [List.range_succ, List.filter_append, List.map_append]
  congr 1
  by_cases h : lcond K bits t i = true
  · simp [h]
  · simp [h]
theorem clTo_len (bits : List Int) (K t i : Nat) : (clTo bits K t i).length ≤ i := by
  unfold clTo
  rw [List.length_map]
  exact Nat.le_trans (List.length_filter_le _ _) (by simp)
theorem leastTo_succ (bits : List Int) (K j : Nat) : leastTo bits K (j + 1) = leastTo bits K j ++ if K.testBit j then [clTo bits K j bits.length] else [] := by
  unfold leastTo
  rw [List.range_succ, List.filter_append, List.map_append]
  congr 1
  by_cases h : K.testBit j = true
  · simp [h]
  · simp [h]
theorem leastTo_len (bits : List Int) (K j : Nat) : (leastTo bits K j).length ≤ j := by
  unfold leastTo
  rw [List.length_map]
  exact Nat.le_trans (List.length_filter_le _ _) (by simp)
theorem leastTo_skip (bits : List Int) (K j t : Nat) (hjt : j ≤ t) (h : ∀ k, j ≤ k → k < t → K.testBit k = false) : leastTo bits K t = leastTo bits K j := by
  induction t with
  | zero => have : j = 0 := by omega
            subst this; rfl
  | succ t ih =>
    by_cases e : j = t + 1
    · subst e; rfl
    · rw [leastTo_succ, h t (by omega) (by omega), if_neg (by simp), List.append_nil, ih (by omega) (fun k hk hk' => h k hk (by omega))]
theorem leastTo_end (bits : List Int) (K j : Nat) (hj : j ≤ 64) (h : K / 2 ^ j * 2 ^ j = 0) : leastTo bits K 64 = leastTo bits K j :=
  leastTo_skip bits K j 64 hj (fun k hk _ => by
    have := trunc_bit K j k
    rw [h] at this
    simpa [hk] using this.symm)
end Go.Proofs.YtogolfneckhnaaaDoor
