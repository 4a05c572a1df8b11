/- few's sum does not wrap where every clause fits in memory. Plain. -/
import Derived.Test.YtiokflebeojokaaGreatDoorFewX
import Derived.Test.YtiokflebeojokaaGreatDoorPutP
set_option linter.unusedSimpArgs false
set_option linter.unusedVariables false
namespace Go.Proofs.YtiokflebeojokaaGreatDoor.Cn
open Go Go.RowKit
theorem wsum_sz {L : List (List Int)} (h : ∀ l ∈ L, l.length ≤ 17592186043904) : ∀ k, k ≤ L.length → k ≤ 200 → wsum (L.take k) = (sizeL (L.take k) : Int) ∧ sizeL (L.take k) ≤ k * 17592186043904
  | 0, _, _ => by simp [wsum, sizeL]
  | k + 1, hk, h2 => by
    obtain ⟨h3, h4⟩ := wsum_sz h k (by omega) (by omega)
    have hm : (L.getD k []).length ≤ 17592186043904 := h _ (by rw [List.getD_eq_getElem?_getD, List.getElem?_eq_getElem (by omega)]; exact List.getElem_mem _)
    have hs := size_take (L := L) (k := k) (by omega)
    have hw : ∀ n : Int, 0 ≤ n → n ≤ 9223372036854775807 → wrap64 n = n := fun n h1 h2 => by unfold wrap64; omega
    rw [wsum_take (by omega), h3, hs, hw _ (by omega) (by omega)]
    constructor
    · omega
    · omega
theorem few_size {L : List (List Int)} (h : ∀ l ∈ L, l.length ≤ 17592186043904) (hf : fewP L = true) : L.length ≤ 200 ∧ sizeL L ≤ 1000 := by
  unfold fewP at hf
  rw [Bool.and_eq_true, decide_eq_true_iff, decide_eq_true_iff] at hf
  have h1 := wsum_sz h L.length (Nat.le_refl _) hf.1
  rw [List.take_length] at h1
  rw [List.take_of_length_le hf.1, h1.1] at hf
  exact ⟨hf.1, by omega⟩
end Go.Proofs.YtiokflebeojokaaGreatDoor.Cn
