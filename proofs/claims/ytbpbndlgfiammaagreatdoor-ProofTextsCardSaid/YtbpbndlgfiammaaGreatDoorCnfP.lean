/- Clauses and formulas as plain lists: what the functions of layer 14 compute. Plain definitions and lemmas; no program in sight. -/
import Derived.Test.YtbpbndlgfiammaaGreatDoorMem
set_option linter.unusedSimpArgs false
set_option linter.unusedVariables false
set_option linter.unnecessarySimpa false
namespace Go.Proofs.YtbpbndlgfiammaaGreatDoor.Cn
open Go

def mayP (x n : Int) : Bool := x != 0 && decide (-n ≤ x) && decide (x ≤ n)
def litV (a : List Bool) (x : Int) : Bool := mayP x 65536 && ((decide (x.natAbs < a.length) && a.getD x.natAbs false) == decide (0 < x))
def holdsV (a : List Bool) (l : List Int) : Bool := l.any (litV a)
def badL (N : Int) (l : List Int) : Bool := l.any fun x => !mayP x N
def chkV (N : Int) (cs : List (List Int)) : Int := if N < 0 ∨ 65536 < N then 1 else if cs.any (badL N) = true then 1 else if 65536 < cs.length then 2 else 0
def valV (N : Int) (cs : List (List Int)) (a : List Bool) : Bool := (chkV N cs == 0) && cs.all (holdsV a)
/-- first index at which p holds, or -1 -/
def idxF {α : Type} (p : α → Bool) : List α → Int
  | [] => -1
  | x :: l => if p x then 0 else if idxF p l < 0 then -1 else idxF p l + 1
section
variable {α : Type} {p : α → Bool}
theorem idxF_no : ∀ {l : List α}, (∀ x ∈ l, p x = false) → idxF p l = -1
  | [], _ => rfl
  | x :: l, h => by
    unfold idxF
    rw [h x List.mem_cons_self, idxF_no (l := l) (fun y hy => h y (List.mem_cons_of_mem _ hy))]
    rfl
theorem idxF_yes {d : α} : ∀ {l : List α} {k : Nat}, k < l.length → (∀ j, j < k → p (l.getD j d) = false) → p (l.getD k d) = true → idxF p l = k
  | [], k, h, _, _ => by simp at h
  | x :: l, 0, _, _, h => by
    simp at h
    unfold idxF
    rw [if_pos h]; rfl
  | x :: l, k + 1, hk, hj, h => by
    have h0 := hj 0 (by omega)
    simp at h0
    have ih := idxF_yes (l := l) (k := k) (d := d) (by simpa using hk) (fun j hjk => by have := hj (j + 1) (by omega); simpa using this) (by simpa using h)
    unfold idxF
    rw [h0, ih]
    simp
    omega
theorem idxF_bd : ∀ (l : List α), -1 ≤ idxF p l ∧ idxF p l < l.length ∨ idxF p l = -1
  | [] => .inr rfl
  | x :: l => by
    unfold idxF
    split
    · left; simp
    · rcases idxF_bd l with h | h
      · split
        · right; rfl
        · left; simp; omega
      · right; rw [if_pos (by omega)]
theorem idxF_any : ∀ (l : List α), decide (0 ≤ idxF p l) = l.any p
  | [] => rfl
  | x :: l => by
    have ih := idxF_any l
    unfold idxF
    rw [List.any_cons]
    cases hx : p x with
    | true => simp
    | false =>
      simp only [Bool.false_or, Bool.false_eq_true, if_false]
      rw [← ih]
      split
      · rename_i h; simp; omega
      · rename_i h; simp; omega
theorem any_no {l : List α} {d : α} (h : ∀ j, j < l.length → p (l.getD j d) = false) : l.any p = false := by
  rw [List.any_eq_false]
  intro x hx
  obtain ⟨j, hj, rfl⟩ := List.mem_iff_getElem.1 hx
  have := h j hj
  rw [List.getD_eq_getElem?_getD, List.getElem?_eq_getElem hj] at this
  simpa using this
theorem all_mem {l : List α} {d : α} (h : ∀ j, j < l.length → p (l.getD j d) = false) : ∀ x ∈ l, p x = false := by
  intro x hx
  obtain ⟨j, hj, rfl⟩ := List.mem_iff_getElem.1 hx
  have := h j hj
  rw [List.getD_eq_getElem?_getD, List.getElem?_eq_getElem hj] at this
  simpa using this
theorem any_yes {l : List α} {d : α} {k : Nat} (hk : k < l.length) (h : p (l.getD k d) = true) : l.any p = true := by
  rw [List.any_eq_true]
  refine ⟨l.getD k d, ?_, h⟩
  rw [List.getD_eq_getElem?_getD, List.getElem?_eq_getElem hk]
  exact List.getElem_mem hk
theorem falseSucc {f : Nat → Bool} {k : Nat} (h : ∀ j, j < k → f j = false) (hk : f k = false) : ∀ j, j < k + 1 → f j = false := fun j hj => by
  rcases Nat.lt_succ_iff_lt_or_eq.1 hj with h1 | rfl
  · exact h j h1
  · exact hk
theorem getD_memL {l : List α} {d : α} {k : Nat} (hk : k < l.length) : l.getD k d ∈ l := by
  rw [List.getD_eq_getElem?_getD, List.getElem?_eq_getElem hk]; exact List.getElem_mem hk
theorem take_sD {l : List α} {d : α} {k : Nat} (hk : k < l.length) : l.take (k + 1) = l.take k ++ [l.getD k d] := by
  rw [List.take_succ_eq_append_getElem hk, List.getD_eq_getElem?_getD, List.getElem?_eq_getElem hk]; rfl
end
theorem mayP_iff {x n : Int} : mayP x n = true ↔ x ≠ 0 ∧ -n ≤ x ∧ x ≤ n := by
  unfold mayP; simp [Bool.and_eq_true, bne_iff_ne, and_assoc]
theorem litV_no {a : List Bool} {x : Int} (h : mayP x 65536 = false) : litV a x = false := by unfold litV; rw [h]; rfl
theorem litV_yes {a : List Bool} {x : Int} (h : mayP x 65536 = true) : litV a x = ((decide ((x.natAbs : Int) < (a.length : Int)) && a.getD ((x.natAbs : Int)).toNat false) == decide (x > 0)) := by
  unfold litV; rw [h]
  simp [Int.ofNat_lt]
theorem chk_arg {N : Int} {cs : List (List Int)} (h : N < 0 ∨ 65536 < N) : chkV N cs = 1 := if_pos h
theorem chk_bad {N : Int} {cs : List (List Int)} (h : ¬ (N < 0 ∨ 65536 < N)) {k : Nat} (hk : k < cs.length) (hb : badL N (cs.getD k []) = true) : chkV N cs = 1 := by
  unfold chkV; rw [if_neg h, if_pos (any_yes hk hb)]
theorem chk_ok {N : Int} {cs : List (List Int)} (h : ¬ (N < 0 ∨ 65536 < N)) (hb : ∀ j, j < cs.length → badL N (cs.getD j []) = false) : chkV N cs = if 65536 < cs.length then 2 else 0 := by
  unfold chkV; rw [if_neg h, if_neg (by rw [any_no hb]; simp)]
theorem chkV_0 {N : Int} {cs : List (List Int)} : chkV N cs = 0 ↔ (0 ≤ N ∧ N ≤ 65536) ∧ (∀ l ∈ cs, ∀ x ∈ l, mayP x N = true) ∧ cs.length ≤ 65536 := by
  unfold chkV
  by_cases h1 : N < 0 ∨ 65536 < N
  · rw [if_pos h1]
    constructor
    · intro h; cases h
    · rintro ⟨h, _⟩; omega
  · rw [if_neg h1]
    by_cases h2 : cs.any (badL N) = true
    · rw [if_pos h2]
      constructor
      · intro h; cases h
      · rintro ⟨_, h, _⟩
        obtain ⟨l, hl, hb⟩ := List.any_eq_true.1 h2
        obtain ⟨x, hx, hn⟩ := List.any_eq_true.1 hb
        rw [h l hl x hx] at hn
        cases hn
    · rw [if_neg h2]
      have hall : ∀ l ∈ cs, ∀ x ∈ l, mayP x N = true := by
        intro l hl x hx
        cases hm : mayP x N with
        | true => rfl
        | false => exact absurd (List.any_eq_true.2 ⟨l, hl, List.any_eq_true.2 ⟨x, hx, by rw [hm]; rfl⟩⟩) h2
      split
      · constructor
        · intro h; cases h
        · rintro ⟨_, _, h⟩; omega
      · exact ⟨fun _ => ⟨by omega, hall, by omega⟩, fun _ => rfl⟩
theorem not_any_not {α : Type} {p : α → Bool} (l : List α) : (!(l.any fun x => !p x)) = l.all p := by
  induction l with
  | nil => rfl
  | cons x l ih => simp only [List.any_cons, List.all_cons, Bool.not_or, Bool.not_not, ih]
end Go.Proofs.YtbpbndlgfiammaaGreatDoor.Cn
