/- Plain facts on the reference of layer 17: its rows as a list, and what one queue's change does to it. -/
import Derived.Test.YtogolfneckhnaaaDoorAdPlain2
import Derived.Test.YtogolfneckhnaaaDoorEngB
namespace Go.Proofs.YtogolfneckhnaaaDoor
open Go Go.RowKit
open En (andI inK wrap_in)

theorem andI_one {a : Int} (h0 : 0 ≤ a) : andI a 1 = a % 2 := by
  obtain ⟨n, rfl⟩ := Int.eq_ofNat_of_zero_le h0
  have e : (BitVec.ofInt 64 (n : Int) &&& BitVec.ofInt 64 1).toNat = n % 2 := by
    rw [BitVec.toNat_and, BitVec.toNat_ofInt, BitVec.toNat_ofInt]
    have h1 : ((n : Int) % ((2 ^ 64 : Nat) : Int)).toNat = n % 2 ^ 64 := by omega
    have h2 : ((1 : Int) % ((2 ^ 64 : Nat) : Int)).toNat = 1 := by decide
    rw [h1, h2, Nat.and_one_is_mod]
    omega
  unfold andI
  rw [e, wrap_in (k := .i64) (show inK .i64 ((n % 2 : Nat) : Int) from ⟨by omega, by omega⟩)]
  omega
/-- bit k -/
theorem bitI {a : Int} (h0 : 0 ≤ a) (k : Nat) : (andI (a / 2 ^ k) 1 == 1) = a.toNat.testBit k := by
  obtain ⟨n, rfl⟩ := Int.eq_ofNat_of_zero_le h0
  have e : ((n : Int) / 2 ^ k) = ((n / 2 ^ k : Nat) : Int) := by push_cast; rfl
  rw [e, andI_one (Int.natCast_nonneg _)]
  show ((((n / 2 ^ k : Nat) : Int) % 2 : Int) == 1) = n.testBit k
  rw [Nat.testBit_eq_decide_div_mod_eq]
  generalize n / 2 ^ k = m
  by_cases h : m % 2 = 1
  · rw [decide_eq_true h]
    have : ((m : Int) % 2) = 1 := by omega
    rw [this]; rfl
  · rw [decide_eq_false h]
    have : ((m : Int) % 2) = 0 := by omega
    rw [this]; rfl

/-- the rows up to top, as a list -/
def rl (f : Int → List Int) (t : Int) : List (List Int) := (List.range t.toNat).map fun j : Nat => f (j : Int)
theorem rl_len (f : Int → List Int) (t : Int) : (rl f t).length = t.toNat := by simp [rl]
theorem rl_get {f : Int → List Int} {t : Int} {k : Nat} (h : (k : Int) < t) : (rl f t).getD k [] = f k := by
  have hk : k < t.toNat := by omega
  simp [rl, List.getD, List.getElem?_map, List.getElem?_range hk]
theorem rl_mem {f : Int → List Int} {t : Int} {l : List Int} (h : l ∈ rl f t) : ∃ j : Int, l = f j := by
  obtain ⟨j, _, rfl⟩ := List.mem_map.1 h
  exact ⟨_, rfl⟩
def Emp (f : Int → List Int) (t : Int) : Prop := 0 ≤ t ∧ ∀ j, t ≤ j → f j = []
def padR (rows : List (List Int)) (k : Nat) : List (List Int) := rows ++ List.replicate (k + 1 - rows.length) []
def putR (rows : List (List Int)) (k : Nat) (x : Int) : List (List Int) := (padR rows k).set k ((padR rows k).getD k [] ++ [x])
theorem rl_ext {a b : List (List Int)} (h : a.length = b.length) (hg : ∀ j, j < a.length → a.getD j [] = b.getD j []) : a = b := by
  apply List.ext_getElem h
  intro j h1 h2
  have := hg j h1
  simpa [List.getD, List.getElem?_eq_getElem h1, List.getElem?_eq_getElem h2] using this
theorem padR_len (rows : List (List Int)) (k : Nat) : (padR rows k).length = max rows.length (k + 1) := by
  simp [padR]; omega
theorem padR_get (rows : List (List Int)) (k j : Nat) : (padR rows k).getD j [] = rows.getD j [] := by
  unfold padR
  simp only [List.getD]
  by_cases h : j < rows.length
  · rw [List.getElem?_append_left h]
  · rw [List.getElem?_append_right (by omega), List.getElem?_eq_none (by omega : rows.length ≤ j), List.getElem?_replicate]
    split <;> rfl
theorem rl_get' {f : Int → List Int} {t : Int} (h : Emp f t) (k : Nat) : (rl f t).getD k [] = f k := by
  by_cases hk : (k : Int) < t
  · exact rl_get hk
  · rw [h.2 k (by omega)]
    have : (rl f t).length ≤ k := by rw [rl_len]; omega
    simp [List.getD, List.getElem?_eq_none this]
theorem set_get (l : List (List Int)) (k j : Nat) (x : List Int) (hk : k < l.length) : (l.set k x).getD j [] = if j = k then x else l.getD j [] := by
  simp only [List.getD, List.getElem?_set]
  by_cases h : k = j
  · subst h; simp [hk]
  · rw [if_neg h, if_neg (fun e => h e.symm)]
theorem put_rl {f : Int → List Int} {t : Int} (h : Emp f t) (k : Nat) (x : Int) : putR (rl f t) k x = rl (updr f k x) (max t (k + 1)) := by
  have h0 := h.1
  apply rl_ext
  · simp only [putR, List.length_set, padR_len, rl_len]; omega
  · intro j hj
    simp only [putR, List.length_set, padR_len, rl_len] at hj
    unfold putR
    rw [set_get _ _ _ _ (by rw [padR_len]; omega), padR_get, padR_get, rl_get' h, rl_get' h, rl_get (by omega)]
    simp only [updr]
    by_cases e : j = k
    · subst e; simp
    · rw [if_neg e, if_neg (by omega)]
theorem Emp.upd {f : Int → List Int} {t : Int} (h : Emp f t) (k x : Int) : Emp (updr f k x) (max t (k + 1)) :=
  ⟨by have := h.1; omega, fun j hj => by simp only [updr]; rw [if_neg (by omega)]; exact h.2 j (by omega)⟩
theorem set_rl {f : Int → List Int} {t : Int} (k : Nat) (l : List Int) (hk : (k : Int) < t) : (rl f t).set k l = rl (setr f k l) t := by
  apply rl_ext
  · simp [rl_len]
  · intro j hj
    simp only [List.length_set, rl_len] at hj
    rw [set_get _ _ _ _ (by rw [rl_len]; omega), rl_get (by omega), rl_get (by omega)]
    simp only [setr]
    by_cases e : j = k
    · subst e; simp
    · rw [if_neg e, if_neg (by omega)]
theorem Emp.set {f : Int → List Int} {t : Int} (h : Emp f t) (k : Int) (l : List Int) (hk : k < t) : Emp (setr f k l) t :=
  ⟨h.1, fun j hj => by simp only [setr]; rw [if_neg (by omega)]; exact h.2 j hj⟩
theorem Emp.feedTo {s : Fd} (h : Emp s.1 s.2) (n : Nat) (x : Int) : ∀ j, Emp (feedTo n x s j).1 (feedTo n x s j).2
  | 0 => h
  | j + 1 => by
    rw [feedTo_succ]
    split
    · exact (h.feedTo n x j).upd j x
    · exact h.feedTo n x j
theorem Emp.all : ∀ (cl : List (Int × Int)) (s : Fd), Emp s.1 s.2 → Emp (feedAll s cl).1 (feedAll s cl).2
  | [], _, h => h
  | q :: cl, s, h => Emp.all cl _ (h.feedTo q.1.toNat q.2 64)
theorem Emp.zero : Emp fd0.1 fd0.2 := ⟨Int.le_refl _, fun _ _ => rfl⟩
theorem Emp.step {k : Int} {s : Ps} (h : Emp s.rows s.top) (hk : k < s.top) : Emp (stepA k s).rows (stepA k s).top :=
  ((h.set k _ hk).upd k s.nx).upd (k + 1) (s.nx + 1)
/-- the rows of a feed -/
def fdL (s : Fd) : List (List Int) := rl s.1 s.2
theorem fdL_put {s : Fd} (h : Emp s.1 s.2) (k : Nat) (x : Int) : putR (fdL s) k x = fdL (feed1 s x k) := put_rl h k x
def psL (s : Ps) : List (List Int) := rl s.rows s.top
theorem psL_step {k : Nat} {s : Ps} (h : Emp s.rows s.top) (hk : (k : Int) < s.top) : putR (putR ((psL s).set k ((s.rows k).drop 3)) k s.nx) (k + 1) (s.nx + 1) = psL (stepA k s) := by
  unfold psL
  rw [set_rl k _ hk, put_rl (h.set k _ hk), put_rl ((h.set k _ hk).upd k s.nx)]
  rfl
/-- coefficient i of l, and all before -/
def fdA (coef l : List Int) (i : Nat) : Fd := feedAll fd0 ((coef.zip l).take i)
theorem fdA_succ {coef l : List Int} {i : Nat} (h1 : i < coef.length) (h2 : i < l.length) : fdA coef l (i + 1) = feedTo (coef.getD i 0).toNat (l.getD i 0) (fdA coef l i) 64 := by
  unfold fdA
  have h : i < (coef.zip l).length := by simp; omega
  rw [List.take_succ_eq_append_getElem h, feedAll_snoc]
  simp [List.getD, List.getElem?_eq_getElem h1, List.getElem?_eq_getElem h2]
theorem fdA_emp (coef l : List Int) (i : Nat) : Emp (fdA coef l i).1 (fdA coef l i).2 := Emp.all _ _ Emp.zero
theorem fdT_emp (coef l : List Int) (i : Nat) (n : Nat) (x : Int) (j : Nat) : Emp (feedTo n x (fdA coef l i) j).1 (feedTo n x (fdA coef l i) j).2 := (fdA_emp coef l i).feedTo n x j
theorem feed_stop {c : Int} {x : Int} {s : Fd} {k : Nat} (h0 : 0 ≤ c) (hk : k ≤ 64) (h : ¬ 0 < c / 2 ^ k) : feedTo c.toNat x s 64 = feedTo c.toNat x s k := by
  refine feed_end _ _ _ _ hk ?_
  obtain ⟨n, rfl⟩ := Int.eq_ofNat_of_zero_le h0
  have e : ((n : Int) / 2 ^ k) = ((n / 2 ^ k : Nat) : Int) := by push_cast; rfl
  rw [e] at h
  show n / 2 ^ k * 2 ^ k = 0
  have : n / 2 ^ k = 0 := Nat.eq_zero_of_not_pos (fun hp => h (Int.natCast_pos.2 hp))
  rw [this]; simp
/-- the bits seen so far have an odd number of ones -/
def par (n i : Nat) : Bool := (List.range i).foldl (fun b j => b != n.testBit j) false
theorem par_succ (n i : Nat) : par n (i + 1) = (par n i != n.testBit i) := by simp [par, List.range_succ]
theorem par_odd {n i : Nat} (h : i = 2 ∨ i = 3) (hn : n < 2 ^ i) : par n i = odd8 n := by
  rcases h with rfl | rfl
  · have : n = 0 ∨ n = 1 ∨ n = 2 ∨ n = 3 := by omega
    rcases this with rfl | rfl | rfl | rfl <;> rfl
  · have : n = 0 ∨ n = 1 ∨ n = 2 ∨ n = 3 ∨ n = 4 ∨ n = 5 ∨ n = 6 ∨ n = 7 := by omega
    rcases this with rfl | rfl | rfl | rfl | rfl | rfl | rfl | rfl <;> rfl
def sgs (l : List Int) (n i : Nat) : List Int := (l.take i).mapIdx fun j x => sgn n j x
theorem sgs_succ {l : List Int} {n i : Nat} (h : i < l.length) : sgs l n (i + 1) = sgs l n i ++ [sgn n i (l.getD i 0)] := by
  unfold sgs
  rw [List.take_succ_eq_append_getElem h, List.mapIdx_append]
  simp [List.getD, List.getElem?_eq_getElem h, Nat.min_eq_left (Nat.le_of_lt h)]
theorem sgs_all {l : List Int} {n i : Nat} (h : i = l.length) : sgs l n i = negl l n l.length := by
  subst h
  unfold sgs negl
  rw [List.take_length]
  apply List.ext_getElem
  · simp
  · intro j h1 h2
    have hj : j < l.length := by simpa using h1
    simp [hj]
theorem addC_two (l : List Int) (s c : Int) (h : l.length = 2) : addC l s c = (List.range (2 ^ l.length)).map (cls1 l s) ++ [[0 - l.getD 0 0, 0 - l.getD 1 0, c], [l.getD 0 0, 0 - c], [l.getD 1 0, 0 - c]] := by
  match l, h with
  | [a, b], _ => simp [addC, prs, List.range_succ]
theorem addC_three (l : List Int) (s c : Int) (h : l.length = 3) : addC l s c = (List.range (2 ^ l.length)).map (cls1 l s) ++ [[0 - l.getD 0 0, 0 - l.getD 1 0, c], [0 - l.getD 0 0, 0 - l.getD 2 0, c], [0 - l.getD 1 0, 0 - l.getD 2 0, c]] ++
    [[l.getD 0 0, l.getD 1 0, 0 - c], [l.getD 0 0, l.getD 2 0, 0 - c], [l.getD 1 0, l.getD 2 0, 0 - c]] := by
  match l, h with
  | [a, b, d], _ => simp [addC, prs, List.range_succ]
def stepP (k : Int) (s : Ps) : Ps := stepA k s
/-- the run's result, as results of the function -/
def sumBits : SumR → List Int | .err _ => [] | .ok b _ _ => b
def sumCs : SumR → List (List Int) | .err _ => [] | .ok _ c _ => c
def sumNx : SumR → Int | .err _ => 0 | .ok _ _ n => n
def sumErr : SumR → Int | .err e => e | .ok _ _ _ => 0
end Go.Proofs.YtogolfneckhnaaaDoor
