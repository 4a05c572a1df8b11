/- Lemmas and contracts for the row. -/
import Derived.Test.YtbpbndlgfiammaaGreatDoorPkRowProofTidyM
import Derived.Test.YtbpbndlgfiammaaGreatDoorPkRowProofTidyJ
import Derived.Test.YtbpbndlgfiammaaGreatDoorPkRowProofTidyL
set_option linter.unusedVariables false
set_option linter.unusedSimpArgs false
set_option linter.unnecessarySimpa false
namespace Go.Proofs.YtbpbndlgfiammaaGreatDoor.Cn
end Go.Proofs.YtbpbndlgfiammaaGreatDoor.Cn
namespace Go.Proofs.YtbpbndlgfiammaaGreatDoor.Cn
end Go.Proofs.YtbpbndlgfiammaaGreatDoor.Cn
namespace Go.Proofs.YtbpbndlgfiammaaGreatDoor.Cn
variable {a b l t : List Int} {w : List Bool} {v x : Int}
end Go.Proofs.YtbpbndlgfiammaaGreatDoor.Cn
namespace Go.Proofs.YtbpbndlgfiammaaGreatDoor.Cn
open Go
def dgs (u : Nat) : List Int := (Go.Lib.decDigits u).map fun b => (b.toNat : Int)
theorem dgs_lo {u : Nat} (h : u < 10) : dgs u = [48 + (u : Int)] := by
  unfold dgs
  rw [Go.Lib.decDigits_one h]
  have : (UInt8.ofNat (48 + u)).toNat = 48 + u := by rw [UInt8.toNat_ofNat']; omega
  simp only [List.map_cons, List.map_nil, this]
  simp
theorem dgs_hi {u : Nat} (h : ¬ u < 10) : dgs u = dgs (u / 10) ++ [48 + ((u % 10 : Nat) : Int)] := by
  unfold dgs
  rw [Go.Lib.decDigits, dif_neg h, List.map_append]
  have : (UInt8.ofNat (48 + u % 10)).toNat = 48 + u % 10 := by rw [UInt8.toNat_ofNat']; omega
  simp only [List.map_cons, List.map_nil, this]
  simp
theorem dgs_all : ∀ (u : Nat), (∀ x ∈ dgs u, 48 ≤ x ∧ x ≤ 57) ∧ dval (dgs u) = (u : Int) ∧ 1 ≤ (dgs u).length ∧ ((dgs u).getD 0 0 = 48 → u = 0) := fun u => by
  induction u using Nat.strongRecOn with
  | _ u ih =>
    by_cases h : u < 10
    · rw [dgs_lo h]
      exact ⟨fun x hx => by rw [List.mem_singleton] at hx; omega, by show 10 * 0 + (48 + (u : Int) - 48) = u; omega, by simp, fun h => by simp at h; omega⟩
    · obtain ⟨h1, h2, h3, h4⟩ := ih (u / 10) (by omega)
      rw [dgs_hi h]
      refine ⟨fun x hx => ?_, ?_, by simp, fun h9 => ?_⟩
      · rcases List.mem_append.1 hx with h9 | h9
        · exact h1 x h9
        · rw [List.mem_singleton] at h9; omega
      · rw [dval_snoc, h2]; omega
      · rw [List.getD_eq_getElem?_getD, List.getElem?_append_left (by omega), ← List.getD_eq_getElem?_getD] at h9
        have := h4 h9
        omega
theorem dgs_len : ∀ (k u : Nat), u < 10 ^ (k + 1) → (dgs u).length ≤ k + 1
  | 0, u, h => by rw [dgs_lo (by simpa using h)]; simp
  | k + 1, u, h => by
    by_cases h9 : u < 10
    · rw [dgs_lo h9]; simp
    · rw [dgs_hi h9, List.length_append]
      have := dgs_len k (u / 10) (by rw [Nat.pow_succ] at h; omega)
      simp; omega
theorem itoa_pos {n : Int} (h : 0 ≤ n) : itoaI n = dgs n.toNat := by unfold itoaI dgs Go.Lib.itoa; rw [if_neg (by omega)]
theorem itoa_neg {n : Int} (h : n < 0) : itoaI n = 45 :: dgs n.natAbs := by unfold itoaI dgs Go.Lib.itoa; rw [if_pos h]; rfl
theorem itoa_mem {n : Int} : ∀ x ∈ itoaI n, x = 45 ∨ (48 ≤ x ∧ x ≤ 57) := fun x hx => by
  by_cases h : n < 0
  · rw [itoa_neg h, List.mem_cons] at hx
    rcases hx with rfl | hx
    · exact .inl rfl
    · exact .inr ((dgs_all _).1 x hx)
  · rw [itoa_pos (by omega)] at hx
    exact .inr ((dgs_all _).1 x hx)
theorem dig_all {u : Nat} : (dgs u).all isDg = true := List.all_eq_true.2 fun x hx => by
  have := (dgs_all u).1 x hx
  unfold isDg
  rw [decide_eq_false (show ¬ x < 48 by omega), decide_eq_false (show ¬ x > 57 by omega)]; rfl
theorem num_itoa {n : Int} (h1 : -65536 ≤ n) (h2 : n ≤ 65536) : numOk (itoaI n) = true ∧ numN (itoaI n) = n := by
  have key : ∀ u : Nat, u ≤ 65536 → (dgs u).length ≤ 5 := fun u hu => dgs_len 4 u (by omega)
  by_cases h : n < 0
  · have hM : numM (itoaI n) = true := by unfold numM; rw [itoa_neg h]; simp
    have hD : numD (itoaI n) = dgs n.natAbs := by rw [numD_t hM, List.take_length, itoa_neg h]; rfl
    obtain ⟨a1, a2, a3, a4⟩ := dgs_all n.natAbs
    have a5 := key n.natAbs (by omega)
    have hB : numBad (itoaI n) = false := by
      rw [bad_of hD, hM, show (((dgs n.natAbs).length : Int) == 0) = false by rw [beq_eq_false_iff_ne]; omega, decide_eq_false (show ¬ ((dgs n.natAbs).length : Int) > 10 by omega), show (((dgs n.natAbs).getD 0 0) == 48) = false by rw [beq_eq_false_iff_ne]; intro e; have := a4 e; omega]
      rfl
    have hO : numOk (itoaI n) = true := by unfold numOk; rw [hB, hD, dig_all]; rfl
    exact ⟨hO, by unfold numN; rw [hO, hM, hD, a2]; show -((n.natAbs : Nat) : Int) = n; omega⟩
  · have e := itoa_pos (n := n) (by omega)
    obtain ⟨a1, a2, a3, a4⟩ := dgs_all n.toNat
    have a5 := key n.toNat (by omega)
    have hM : numM (itoaI n) = false := by
      unfold numM
      rw [e]
      have : (dgs n.toNat).getD 0 0 ∈ dgs n.toNat := getD_memL (by omega)
      have := a1 _ this
      rw [show ((dgs n.toNat).getD 0 0 == 45) = false by rw [beq_eq_false_iff_ne]; omega, Bool.and_false]
    have hD : numD (itoaI n) = dgs n.toNat := by rw [numD_f hM, e]
    have hB : numBad (itoaI n) = false := by
      rw [bad_of hD, hM, show (((dgs n.toNat).length : Int) == 0) = false by rw [beq_eq_false_iff_ne]; omega, decide_eq_false (show ¬ ((dgs n.toNat).length : Int) > 10 by omega)]
      by_cases h0 : (dgs n.toNat).getD 0 0 = 48
      · have := a4 h0
        rw [this, dgs_lo (by omega)]; decide
      · rw [show (((dgs n.toNat).getD 0 0) == 48) = false by rw [beq_eq_false_iff_ne]; exact h0]; rfl
    have hO : numOk (itoaI n) = true := by unfold numOk; rw [hB, hD, dig_all]; rfl
    exact ⟨hO, by unfold numN; rw [hO, hM, hD, a2]; show ((n.toNat : Nat) : Int) = n; omega⟩
end Go.Proofs.YtbpbndlgfiammaaGreatDoor.Cn
namespace Go.Proofs.YtbpbndlgfiammaaGreatDoor.Cn
open Go
end Go.Proofs.YtbpbndlgfiammaaGreatDoor.Cn
namespace Go.Proofs.YtbpbndlgfiammaaGreatDoor.Cn
open Go
end Go.Proofs.YtbpbndlgfiammaaGreatDoor.Cn
