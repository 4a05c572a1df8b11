/- What the adder computes, as plain functions on lists and numbers; no program in sight. -/
namespace Go.Proofs.YtogolfneckhnaaaDoor

def prs (l : List Int) (i : Nat) : List (Int × Int) := (List.range i).flatMap fun a => (l.drop (a + 1)).map fun y => (l.getD a 0, y)
/-- the sign pattern n on the literals -/
def sgn (n i : Nat) (x : Int) : Int := if n.testBit i then -x else x
def negl (l : List Int) (n k : Nat) : List Int := l.mapIdx fun i x => if i < k then sgn n i x else x
def pop8 (n : Nat) : Nat := [0, 1, 1, 2, 1, 2, 2, 3].getD n 0
def odd8 (n : Nat) : Bool := pop8 n % 2 == 1
def cls1 (l : List Int) (s : Int) (n : Nat) : List Int := negl l n l.length ++ [if odd8 n then s else -s]
/-- the clauses of one adder -/
def addC (l : List Int) (s c : Int) : List (List Int) :=
  (List.range (2 ^ l.length)).map (cls1 l s) ++ (prs l l.length).map (fun q => [-q.1, -q.2, c]) ++
    if l.length = 2 then [[l.getD 0 0, -c], [l.getD 1 0, -c]] else (prs l l.length).map (fun q => [q.1, q.2, -c])

def updr (rows : Int → List Int) (k x : Int) : Int → List Int := fun j => if j = k then rows k ++ [x] else rows j
def setr (rows : Int → List Int) (k : Int) (l : List Int) : Int → List Int := fun j => if j = k then l else rows j

abbrev Fd := (Int → List Int) × Int
def feed1 (s : Fd) (x : Int) (k : Nat) : Fd := (updr s.1 k x, max s.2 (k + 1))
def feedTo (n : Nat) (x : Int) (s : Fd) (j : Nat) : Fd := (List.range j).foldl (fun s k => if n.testBit k then feed1 s x k else s) s
def feedAll (s : Fd) (cl : List (Int × Int)) : Fd := cl.foldl (fun s q => feedTo q.1.toNat q.2 s 64) s
def fd0 : Fd := (fun _ => [], 0)

theorem feedTo_succ (n : Nat) (x : Int) (s : Fd) (j : Nat) : feedTo n x s (j + 1) = if n.testBit j then feed1 (feedTo n x s j) x j else feedTo n x s j := by
  simp [feedTo, List.range_succ]
theorem feedTo_skip (n : Nat) (x : Int) (s : Fd) (j t : Nat) (hjt : j ≤ t) (h : ∀ k, j ≤ k → k < t → n.testBit k = false) : feedTo n x s t = feedTo n x s j := by
  induction t with
  | zero => have : j = 0 := by omega
            subst this; rfl
  | succ t ih =>
    by_cases e : j = t + 1
    · subst e; rfl
    · rw [feedTo_succ, h t (by omega) (by omega), if_neg (by simp), ih (by omega) (fun k hk hk' => h k hk (by omega))]
theorem feedAll_snoc (s : Fd) (cl : List (Int × Int)) (q : Int × Int) : feedAll s (cl ++ [q]) = feedTo q.1.toNat q.2 (feedAll s cl) 64 := by simp [feedAll]

structure Ps where
  rows : Int → List Int
  cs : List (List Int)
  nx : Int
  top : Int
/-- one adder at position k -/
def stepA (k : Int) (s : Ps) : Ps :=
  { rows := updr (updr (setr s.rows k ((s.rows k).drop 3)) k s.nx) (k + 1) (s.nx + 1), cs := s.cs ++ addC ((s.rows k).take 3) s.nx (s.nx + 1), nx := s.nx + 2, top := max (max s.top (k + 1)) (k + 1 + 1) }
def sumF : Nat → Int → Ps → List Int → Option (List Int × List (List Int) × Int)
  | 0, _, _, _ => none
  | f + 1, k, s, out =>
    if k < s.top then
      if 1 < (s.rows k).length then
        if 65537 < s.nx + 2 then none else sumF f k (stepA k s) out
      else sumF f (k + 1) s (out ++ [(s.rows k).headD 0])
    else some (out, s.cs, s.nx)
def mu (k : Int) (s : Ps) : Nat := (3 * (70000 - s.nx) + (s.top - k)).toNat
def fuel0 : Nat := 300000
def okAt (next : Int) (q : Int × Int) : Bool := decide (0 ≤ q.1) && decide (q.1 ≤ 1099511627776) && decide (q.2 ≠ 0) && decide (q.2 < next) && decide (-next < q.2)
inductive SumR where
  | err (e : Int)
  | ok (bits : List Int) (cs : List (List Int)) (after : Int)
def sumP (coef l : List Int) (next : Int) : SumR :=
  if next < 1 ∨ 65537 < next ∨ coef.length ≠ l.length then .err 1
  else if (coef.zip l).all (okAt next) = false then .err 1
  else if 4096 < l.length then .err 2
  else match sumF fuel0 0 { rows := (feedAll fd0 (coef.zip l)).1, cs := [], nx := next, top := (feedAll fd0 (coef.zip l)).2 } [] with
    | none => .err 2
    | some r => .ok r.1 r.2.1 r.2.2

/-- clearing the lowest set bit -/
theorem low_spec (n : Nat) : ∀ (t m : Nat), n = 2 ^ t * (2 * m + 1) → n &&& (n - 1) = 2 ^ (t + 1) * m ∧ n.testBit t = true ∧ ∀ k, k < t → n.testBit k = false := by
  intro t m hn
  have hb : ∀ k, n.testBit k = (decide (t ≤ k) && (2 * m + 1).testBit (k - t)) := fun k => by rw [hn, Nat.mul_comm, Nat.testBit_mul_two_pow]
  have hp : 0 < 2 ^ t := Nat.two_pow_pos t
  refine ⟨?_, ?_, fun k hk => ?_⟩
  · have e1 : n - 1 = 2 ^ (t + 1) * m + (2 ^ t - 1) := by
      rw [hn, Nat.pow_succ, Nat.mul_add, Nat.mul_assoc]
      omega
    apply Nat.eq_of_testBit_eq
    intro k
    rw [Nat.testBit_and, hb k, e1, Nat.mul_comm (2 ^ (t + 1)) m]
    have e2 : (m * 2 ^ (t + 1) + (2 ^ t - 1)).testBit k = if k < t + 1 then (2 ^ t - 1).testBit k else m.testBit (k - (t + 1)) := by
      rw [Nat.mul_comm]
      exact Nat.testBit_two_pow_mul_add m (by rw [Nat.pow_succ]; omega) k
    rw [e2, Nat.testBit_mul_two_pow, Nat.testBit_two_pow_sub_one]
    by_cases hk : k < t + 1
    · rw [if_pos hk]
      by_cases hkt : k < t
      · have : ¬ t ≤ k := by omega
        have h3 : ¬ t + 1 ≤ k := by omega
        simp [this, h3]
      · have : k = t := by omega
        subst this
        have h3 : ¬ k + 1 ≤ k := by omega
        simp [h3]
    · rw [if_neg hk]
      have h1 : t ≤ k := by omega
      have h2 : t + 1 ≤ k := by omega
      obtain ⟨d, rfl⟩ : ∃ d, k = t + 1 + d := ⟨k - (t + 1), by omega⟩
      rw [show t + 1 + d - t = d + 1 by omega, show t + 1 + d - (t + 1) = d by omega, Nat.testBit_succ, show (2 * m + 1) / 2 = m by omega]
      simp [h1]
  · rw [hb]; simp [Nat.testBit_zero]
  · rw [hb]
    have : ¬ t ≤ k := by omega
    simp [this]
end Go.Proofs.YtogolfneckhnaaaDoor
