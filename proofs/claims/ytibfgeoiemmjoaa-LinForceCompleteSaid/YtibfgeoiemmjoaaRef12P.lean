/- Plain facts on the reference of layer 12. -/
import Derived.Test.YtibfgeoiemmjoaaLinP8
namespace Go.Proofs.Ytibfgeoiemmjoaa.En

theorem getD_mem {l : List Int} {k : Nat} (h : k < l.length) : l.getD k 0 ∈ l := by
  have : l.getD k 0 = l[k] := by simp [List.getD, List.getElem?_eq_getElem h]
  rw [this]; exact List.getElem_mem h
theorem mem_getD {l : List Int} {x : Int} (h : x ∈ l) : ∃ k, k < l.length ∧ l.getD k 0 = x := by
  obtain ⟨k, hk, rfl⟩ := List.mem_iff_getElem.1 h
  exact ⟨k, hk, by simp [List.getD, List.getElem?_eq_getElem hk]⟩
theorem offN_iff {c : Int} : offN c = true ↔ c < -1099511627776 ∨ 1099511627776 < c := by simp [offN]
theorem wrongL_iff {n x : Int} : wrongL n x = true ↔ x = 0 ∨ n < x ∨ x < -n := by simp [wrongL]
theorem lc1 {C L : List Int} {B n : Int} (h : n < 0 ∨ 65536 < n ∨ C.length ≠ L.length ∨ B < -1099511627776 ∨ 1099511627776 < B) : lcheck ⟨C, L, B⟩ n = 1 := by
  unfold lcheck
  rw [if_pos]
  rcases h with h | h | h | h | h
  · exact .inl h
  · exact .inr (.inl h)
  · exact .inr (.inr (.inl h))
  · exact .inr (.inr (.inr (offN_iff.2 (.inl h))))
  · exact .inr (.inr (.inr (offN_iff.2 (.inr h))))
theorem lc2 {C L : List Int} {B n : Int} {k : Nat} (hl : C.length = L.length) (hk : k < L.length) (h : C.getD k 0 < -1099511627776 ∨ 1099511627776 < C.getD k 0 ∨ L.getD k 0 = 0 ∨ L.getD k 0 < -n ∨ n < L.getD k 0) : lcheck ⟨C, L, B⟩ n = 1 := by
  unfold lcheck
  split
  · rfl
  · rw [if_pos]
    have hc := getD_mem (l := C) (k := k) (by omega)
    have hL := getD_mem (l := L) (k := k) hk
    rcases h with h | h | h | h | h
    · exact .inl (List.any_eq_true.2 ⟨_, hc, offN_iff.2 (.inl h)⟩)
    · exact .inl (List.any_eq_true.2 ⟨_, hc, offN_iff.2 (.inr h)⟩)
    · exact .inr (List.any_eq_true.2 ⟨_, hL, wrongL_iff.2 (.inl h)⟩)
    · exact .inr (List.any_eq_true.2 ⟨_, hL, wrongL_iff.2 (.inr (.inr h))⟩)
    · exact .inr (List.any_eq_true.2 ⟨_, hL, wrongL_iff.2 (.inr (.inl h))⟩)
/-- the first k elements are in order -/
def OkTo (C L : List Int) (n : Int) (k : Nat) : Prop := ∀ j, j < k → -1099511627776 ≤ C.getD j 0 ∧ C.getD j 0 ≤ 1099511627776 ∧ L.getD j 0 ≠ 0 ∧ -n ≤ L.getD j 0 ∧ L.getD j 0 ≤ n
theorem lc3 {C L : List Int} {B n : Int} (h0 : 0 ≤ n) (h1 : n ≤ 65536) (hl : C.length = L.length) (hB : -1099511627776 ≤ B ∧ B ≤ 1099511627776) (h : OkTo C L n L.length) : lcheck ⟨C, L, B⟩ n = if 4096 < L.length then 2 else 0 := by
  unfold lcheck
  rw [if_neg, if_neg]
  · rintro (hx | hx)
    · obtain ⟨c, hc, ho⟩ := List.any_eq_true.1 hx
      obtain ⟨k, hk, rfl⟩ := mem_getD (show c ∈ C from hc)
      have := h k (by omega)
      rw [offN_iff] at ho
      omega
    · obtain ⟨c, hc, ho⟩ := List.any_eq_true.1 hx
      obtain ⟨k, hk, rfl⟩ := mem_getD (show c ∈ L from hc)
      have := h k hk
      rw [wrongL_iff] at ho
      omega
  · rintro (hx | hx | hx | hx)
    · omega
    · omega
    · exact hx hl
    · rw [offN_iff] at hx; simp at hx; omega
theorem OkTo.succ {C L : List Int} {n : Int} {k : Nat} (h : OkTo C L n k) (hk : -1099511627776 ≤ C.getD k 0 ∧ C.getD k 0 ≤ 1099511627776 ∧ L.getD k 0 ≠ 0 ∧ -n ≤ L.getD k 0 ∧ L.getD k 0 ≤ n) : OkTo C L n (k + 1) := by
  intro j hj
  by_cases e : j = k
  · subst e; exact hk
  · exact h j (by omega)
end Go.Proofs.Ytibfgeoiemmjoaa.En
