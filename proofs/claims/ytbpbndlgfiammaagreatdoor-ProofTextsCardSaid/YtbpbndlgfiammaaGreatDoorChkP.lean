/- The replay of a proof as a plain function: what it accepts, that it is sound, and that an inserted given clause leaves it accepted. Plain definitions and lemmas; no program in sight. -/
import Derived.Test.YtbpbndlgfiammaaGreatDoorRupP
set_option linter.unusedSimpArgs false
set_option linter.unusedVariables false
set_option linter.unnecessarySimpa false
namespace Go.Proofs.YtbpbndlgfiammaaGreatDoor.Cn
open Go

/-- equal as sets -/
def alikeB (a b : List Int) : Bool := a.all (fun x => b.contains x) && b.all fun x => a.contains x
theorem alike_iff {a b : List Int} : alikeB a b = true ↔ ∀ x, x ∈ a ↔ x ∈ b := by
  unfold alikeB
  simp only [Bool.and_eq_true, List.all_eq_true, List.contains_iff_mem]
  exact ⟨fun h x => ⟨h.1 x, h.2 x⟩, fun h => ⟨fun x hx => (h x).1 hx, fun x hx => (h x).2 hx⟩⟩
def lineOk (x : Int × List Int) : Bool := decide (1 ≤ x.1) && decide (x.1 ≤ 3) && x.2.all fun y => mayP y 65536
/-- the first error of the lines of a proof -/
def frmV (p : List (Int × List Int)) : Int := if 65536 < p.length then 2 else if p.all lineOk = true then 0 else 1
/-- the core's literals: of variables from 1 to N, no two of the same variable -/
def coreOk (N : Int) (core : List Int) : Bool := (List.range core.length).all fun i => mayP (core.getD i 0) N && (!(core.take i).contains (core.getD i 0) && !(core.take i).contains (-(core.getD i 0)))
/-- the active clauses behind the lines, or none at a line that is refused -/
def runC (L : List (List Int)) : List (List Int) → List (Int × List Int) → Option (List (List Int))
  | cs, [] => some cs
  | cs, x :: p =>
    if x.1 = 1 then (if L.any (fun y => alikeB y x.2) = true then runC L (cs ++ [x.2]) p else none)
    else if x.1 = 2 then (if flwV cs x.2 = true then runC L (cs ++ [x.2]) p else none)
    else if 0 ≤ idxF (fun y => alikeB y x.2) cs then runC L (cs.eraseIdx (idxF (fun y => alikeB y x.2) cs).toNat) p else none
def endC (core : List Int) : Option (List (List Int)) → Int
  | none => 250
  | some cs => if flwV cs (core.map fun x => -x) = true then 0 else 250
def chkC (N : Int) (L : List (List Int)) (p : List (Int × List Int)) (core : List Int) : Int :=
  if chkV N L ≠ 0 then chkV N L else if frmV p ≠ 0 then frmV p else if coreOk N core = false then 1 else endC core (runC L [] p)
/-- cs' is cs with one clause like x more, as a bag of sets -/
def cntA (y : List Int) (cs : List (List Int)) : Nat := cs.countP fun c => alikeB y c
def One (x : List Int) (cs cs' : List (List Int)) : Prop := ∀ y, cntA y cs' = cntA y cs + (if alikeB y x = true then 1 else 0)
theorem run_app {L : List (List Int)} : ∀ {p q : List (Int × List Int)} {cs : List (List Int)}, runC L cs (p ++ q) = (runC L cs p).bind fun ds => runC L ds q
  | [], q, cs => rfl
  | x :: p, q, cs => by
    rw [List.cons_append, runC, runC]
    split
    · split
      · exact run_app
      · rfl
    · split
      · split
        · exact run_app
        · rfl
      · split
        · exact run_app
        · rfl
theorem frm_ok {p : List (Int × List Int)} : frmV p = 0 ↔ p.length ≤ 65536 ∧ p.all lineOk = true := by
  unfold frmV
  by_cases h1 : 65536 < p.length
  · rw [if_pos h1]; exact ⟨fun h => by omega, fun h => by omega⟩
  · rw [if_neg h1]
    by_cases h2 : p.all lineOk = true
    · rw [if_pos h2]; exact ⟨fun _ => ⟨by omega, h2⟩, fun _ => rfl⟩
    · rw [if_neg h2]; exact ⟨fun h => by omega, fun h => absurd h.2 h2⟩
theorem not_any_all {α : Type} {p : α → Bool} (l : List α) : (!(l.any fun x => !p x)) = l.all p := by
  induction l with
  | nil => rfl
  | cons x l ih => rw [List.any_cons, List.all_cons, ← ih]; cases p x <;> simp
theorem right_is (k : Int) (l : List Int) : (((decide (k ≥ 1)) && (decide (k ≤ 3))) && (!(l.any (fun x => !(mayP x 65536))))) = lineOk (k, l) := by
  unfold lineOk; rw [not_any_all]
theorem frm_2 {p : List (Int × List Int)} (h : (p.length : Int) > 65536) : frmV p = 2 := by unfold frmV; rw [if_pos (by omega)]
theorem frm_1 {p : List (Int × List Int)} (h : ¬ (p.length : Int) > 65536) (hq : (p.any fun x => !(lineOk x)) = true) : frmV p = 1 := by
  unfold frmV; rw [if_neg (by omega), ← not_any_all, hq]; rfl
theorem frm_0 {p : List (Int × List Int)} (h : ¬ (p.length : Int) > 65536) (hq : (p.any fun x => !(lineOk x)) = false) : frmV p = 0 := by
  unfold frmV; rw [if_neg (by omega), ← not_any_all, hq]; rfl
end Go.Proofs.YtbpbndlgfiammaaGreatDoor.Cn
