/- Lemmas and contracts for the row. -/
import Derived.Test.YtbpbndlgfiammaaGreatDoorPkRowProofTidyB
import Derived.Deep.RegionHeld3
set_option linter.unusedVariables false
set_option linter.unusedSimpArgs false
set_option linter.unnecessarySimpa false
namespace Go.Proofs.YtbpbndlgfiammaaGreatDoor
open Go
section
variable {P : Program} {ops : Array Oper} {Q : Exit → Act → World → Prop} {md : Region.Mode} {S : World → Prop} {k : Nat}
def waitsB (md : Region.Mode) (ops : Array Oper) (i : Nat) : Nat → Nat → Bool
  | 0, _ => false
  | f + 1, j => match ops[j]? with
    | none => false
    | some o => o.after.any fun e => Region.binds md e && (e.on == i || waitsB md ops i f e.on)
def Clo (md : Region.Mode) (ops : Array Oper) (L : Array Bool) : Prop :=
  ∀ j o, ops[j]? = some o → L.getD j false = true → ∀ e ∈ o.after, Region.binds md e = true → L.getD e.on false = true
theorem waitsB_listed {L : Array Bool} (hc : Clo md ops L) {i : Nat} : ∀ (f j : Nat), waitsB md ops i f j = true → L.getD j false = true → L.getD i false = true
  | 0, _, h, _ => by cases h
  | f + 1, j, h, hj => by
    unfold waitsB at h
    cases ho : ops[j]? with
    | none => rw [ho] at h; cases h
    | some o =>
      rw [ho] at h
      obtain ⟨e, he, hb⟩ := Array.any_eq_true'.1 h
      simp only [Bool.and_eq_true, Bool.or_eq_true, beq_iff_eq] at hb
      have h1 := hc j o ho hj e he hb.1
      rcases hb.2 with h2 | h2
      · rw [← h2]; exact h1
      · exact waitsB_listed hc f e.on h2 h1
theorem getD_false_of {L : Array Bool} {i : Nat} (h : L.getD i true = false) : L.getD i false = false := by
  rcases Nat.lt_or_ge i L.size with h' | h'
  · simpa [Array.getD, h'] using h
  · simp [Array.getD, Nat.not_lt.2 h'] at h
theorem getD_set_other {L : Array Bool} {i j : Nat} (h : i ≠ j) (b d : Bool) : (L.setIfInBounds i b).getD j d = L.getD j d := by
  simp [h]
theorem Clo.set_ {L : Array Bool} (hc : Clo md ops L) {j : Nat} (hj : j ∈ Region.ready md ops L) : Clo md ops (L.setIfInBounds j true) := by
  obtain ⟨_, oj, hoj, hall⟩ := mem_ready.1 hj
  have up : ∀ x, L.getD x false = true → (L.setIfInBounds j true).getD x false = true := fun x hx => by
    by_cases h : j = x
    · subst h
      rcases Nat.lt_or_ge j L.size with h' | h'
      · simp [Array.getD, h']
      · simp [Array.getD, Nat.not_lt.2 h'] at hx
    · rw [getD_set_other h]; exact hx
  intro x o hx hl e he hb
  by_cases h : j = x
  · subst h
    rw [hoj] at hx
    cases hx
    exact up _ (hall e he hb)
  · rw [getD_set_other h] at hl
    exact up _ (hc x o hx hl e he hb)
end
end Go.Proofs.YtbpbndlgfiammaaGreatDoor
