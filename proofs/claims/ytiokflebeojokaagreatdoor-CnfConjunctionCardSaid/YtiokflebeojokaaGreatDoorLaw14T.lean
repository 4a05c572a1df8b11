/- Plain facts for the law on conjunctions: a formula's value over a list put together, reversed, cut. -/
import Derived.Test.YtiokflebeojokaaGreatDoorLaw14R
set_option linter.unusedSimpArgs false
set_option linter.unusedVariables false
set_option linter.unnecessarySimpa false
namespace Go.Proofs.YtiokflebeojokaaGreatDoor.Cn
variable {N : Int} {L M : List (List Int)} {w : List Bool}
theorem chk_iff : chkV N L = 0 ↔ (0 ≤ N ∧ N ≤ 65536) ∧ (∀ l ∈ L, badL N l = false) ∧ L.length ≤ 65536 := by
  unfold chkV
  by_cases h1 : N < 0 ∨ 65536 < N
  · rw [if_pos h1]; constructor
    · intro h; cases h
    · intro h; omega
  · rw [if_neg h1]
    by_cases h2 : L.any (badL N) = true
    · rw [if_pos h2]; constructor
      · intro h; cases h
      · intro h
        obtain ⟨l, hl, hb⟩ := List.any_eq_true.1 h2
        rw [h.2.1 l hl] at hb; cases hb
    · rw [if_neg h2]
      have h3 : ∀ l ∈ L, badL N l = false := fun l hl => by
        cases hb : badL N l with
        | false => rfl
        | true => exact absurd (List.any_eq_true.2 ⟨l, hl, hb⟩) h2
      by_cases h4 : 65536 < L.length
      · rw [if_pos h4]; constructor
        · intro h; cases h
        · intro h; omega
      · rw [if_neg h4]; exact ⟨fun _ => ⟨by omega, h3, by omega⟩, fun _ => rfl⟩
theorem val_iff : valV N L w = true ↔ ((0 ≤ N ∧ N ≤ 65536) ∧ (∀ l ∈ L, badL N l = false) ∧ L.length ≤ 65536) ∧ ∀ l ∈ L, holdsV w l = true := by
  unfold valV
  rw [Bool.and_eq_true, beq_iff_eq, chk_iff, List.all_eq_true]
theorem val_app (h : M.length + L.length ≤ 65536) : valV N (M ++ L) w = (valV N L w && valV N M w) := by
  rw [Bool.eq_iff_iff, Bool.and_eq_true, val_iff, val_iff, val_iff]
  simp only [List.mem_append, List.length_append]
  constructor
  · rintro ⟨⟨h1, h2, h3⟩, h4⟩
    exact ⟨⟨⟨h1, fun l hl => h2 l (.inr hl), by omega⟩, fun l hl => h4 l (.inr hl)⟩, ⟨h1, fun l hl => h2 l (.inl hl), by omega⟩, fun l hl => h4 l (.inl hl)⟩
  · rintro ⟨⟨⟨h1, h2, h3⟩, h4⟩, ⟨_, h6, h7⟩, h8⟩
    exact ⟨⟨h1, fun l hl => hl.elim (h6 l) (h2 l), h⟩, fun l hl => hl.elim (h8 l) (h4 l)⟩
theorem val_rev : valV N L.reverse w = valV N L w := by
  rw [Bool.eq_iff_iff, val_iff, val_iff]
  simp only [List.mem_reverse, List.length_reverse]
theorem val_drop {k : Nat} (h : valV N L w = true) : valV N (L.drop k) w = true := by
  rw [val_iff] at h ⊢
  obtain ⟨⟨h1, h2, h3⟩, h4⟩ := h
  exact ⟨⟨h1, fun l hl => h2 l (List.mem_of_mem_drop hl), by rw [List.length_drop]; omega⟩, fun l hl => h4 l (List.mem_of_mem_drop hl)⟩
theorem val_take {k : Nat} (h : valV N L w = true) : valV N (L.take k) w = true := by
  rw [val_iff] at h ⊢
  obtain ⟨⟨h1, h2, h3⟩, h4⟩ := h
  exact ⟨⟨h1, fun l hl => h2 l (List.mem_of_mem_take hl), by rw [List.length_take]; omega⟩, fun l hl => h4 l (List.mem_of_mem_take hl)⟩
theorem at_bd {x : Int} (n : Nat) (h : 0 ≤ x) : 0 ≤ x.tmod ((n : Int) + 1) ∧ x.tmod ((n : Int) + 1) ≤ n :=
  ⟨Int.tmod_nonneg _ h, by have := Int.tmod_lt_of_pos x (show 0 < (n : Int) + 1 by omega); omega⟩
theorem con_fin {k j : Nat} (h : M.length + L.length ≤ 65536) (hk : k = (M ++ L).length) : ((valV N (M ++ L) w == (valV N L w && valV N M w) && valV N (M ++ L) w == valV N ((M ++ L).reverse.take k) w) && (!valV N (M ++ L) w || valV N (((M ++ L).take j).drop 0) w)) = true := by
  rw [hk, List.take_of_length_le (by rw [List.length_reverse]; exact Nat.le_refl _), val_rev, ← val_app h, List.drop_zero]
  cases hv : valV N (M ++ L) w with
  | false => rfl
  | true => rw [val_take hv]; rfl
theorem rev_next {Z : List (List Int)} {k : Nat} (h : k < Z.length) : (Z.reverse.take k) ++ [Z.getD (Z.length - 1 - k) []] = Z.reverse.take (k + 1) := by
  rw [List.take_succ_eq_append_getElem (by rw [List.length_reverse]; exact h), List.getElem_reverse, List.getD_eq_getElem?_getD, List.getElem?_eq_getElem (by omega)]
  rfl
end Go.Proofs.YtiokflebeojokaaGreatDoor.Cn
