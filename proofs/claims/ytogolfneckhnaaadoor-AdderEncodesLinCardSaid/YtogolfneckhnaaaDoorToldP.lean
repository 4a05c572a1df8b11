/- What the law's helpers has, other and told compute, as plain functions. -/
import Derived.Test.YtogolfneckhnaaaDoorAdPlainL
namespace Go.Proofs.YtogolfneckhnaaaDoor

def hasB (l : List Int) (n : Int) : Bool := l.any (· == n)
/-- x is a false literal of a variable below known -/
def okO (a : List Bool) (known x : Int) : Bool := decide (1 ≤ x.natAbs) && (decide ((x.natAbs : Int) < known) && (decide (x.natAbs < a.length) && (a.getD x.natAbs false != decide (0 < x))))
def otherB (l : List Int) (lit : Int) (a : List Bool) (known : Int) : Bool := l.all fun x => x == lit || okO a known x
def forcedB (cs : List (List Int)) (lit v : Int) (a : List Bool) : Bool := cs.any fun c => hasB c lit && otherB c lit a v
def toldP (cs : List (List Int)) : List Bool → Int → Nat → List Bool × Bool
  | out, _, 0 => (out, true)
  | out, v, n + 1 => if forcedB cs v v out = forcedB cs (-v) v out then (out, false) else toldP cs (out ++ [forcedB cs v v out]) (v + 1) n
theorem toldP_len (cs : List (List Int)) : ∀ (n : Nat) (out : List Bool) (v : Int), (toldP cs out v n).1.length ≤ out.length + n
  | 0, out, v => by simp [toldP]
  | n + 1, out, v => by
    rw [toldP]
    split
    · simp only; omega
    · have := toldP_len cs n (out ++ [forcedB cs v v out]) (v + 1)
      rw [List.length_append, List.length_singleton] at this
      omega
/-- the sum of the coefficients of the true literals among the first k -/
def sumTo (coef l : List Int) (a : List Bool) : Nat → Int
  | 0 => 0
  | k + 1 => sumTo coef l a k + if litT a (l.getD k 0) then coef.getD k 0 else 0
theorem sumTo_bd (coef l : List Int) (a : List Bool) (h : ∀ c ∈ coef, 0 ≤ c ∧ c ≤ 1099511627776) : ∀ k, 0 ≤ sumTo coef l a k ∧ sumTo coef l a k ≤ 1099511627776 * k
  | 0 => by simp [sumTo]
  | k + 1 => by
    have ih := sumTo_bd coef l a h k
    have hc : 0 ≤ coef.getD k 0 ∧ coef.getD k 0 ≤ 1099511627776 := by
      rw [List.getD_eq_getElem?_getD]
      rcases Nat.lt_or_ge k coef.length with hk | hk
      · rw [List.getElem?_eq_getElem hk]; exact h _ (List.getElem_mem hk)
      · rw [List.getElem?_eq_none hk]; decide
    rw [sumTo]
    split <;> omega
end Go.Proofs.YtogolfneckhnaaaDoor
