/- The plain law of AdderLeastCorrect: the clauses of Least hold exactly where the bit vector's number is at least k. -/
import Derived.Test.YtogolfneckhnaaaDoorAdPlain3
namespace Go.Proofs.YtogolfneckhnaaaDoor

/-- a literal is true under a -/
def litT (a : List Bool) (x : Int) : Bool := decide (x ≠ 0 ∧ -65536 ≤ x ∧ x ≤ 65536) && ((decide (x.natAbs < a.length) && a.getD x.natAbs false) == decide (0 < x))
theorem litT_zero (a : List Bool) : litT a 0 = false := by simp [litT]
/-- the number whose bits are bv, below m -/
def numB (bv : Nat → Bool) : Nat → Nat
  | 0 => 0
  | m + 1 => numB bv m + if bv m then 2 ^ m else 0
theorem numB_lt (bv : Nat → Bool) : ∀ m, numB bv m < 2 ^ m
  | 0 => by simp [numB]
  | m + 1 => by
    have := numB_lt bv m
    rw [numB, Nat.pow_succ]
    split <;> omega
theorem numB_bit (bv : Nat → Bool) : ∀ m i, (numB bv m).testBit i = (decide (i < m) && bv i)
  | 0, i => by simp [numB]
  | m + 1, i => by
    have hlt := numB_lt bv m
    have e : numB bv (m + 1) = 2 ^ m * (bv m).toNat + numB bv m := by
      rw [numB]; cases bv m <;> simp <;> omega
    rw [e, Nat.testBit_two_pow_mul_add _ hlt, numB_bit bv m i]
    by_cases h : i < m
    · have h2 : i < m + 1 := by omega
      simp [h, h2]
    · rw [if_neg h]
      by_cases h2 : i = m
      · subst h2
        cases bv i <;> simp
      · have h3 : ¬ i < m + 1 := by omega
        have h4 : i - m ≠ 0 := by omega
        have : ((bv m).toNat).testBit (i - m) = false := by
          apply Nat.testBit_lt_two_pow
          have h5 : 2 ^ 1 ≤ 2 ^ (i - m) := Nat.pow_le_pow_right (by decide) (by omega)
          cases bv m <;> simp <;> omega
        simp [h3, this]

def Dom (N K : Nat) : Prop := ∀ t, K.testBit t = true → N.testBit t = true ∨ ∃ i, t < i ∧ N.testBit i = true ∧ K.testBit i = false
theorem le_of_bits : ∀ (n N K : Nat), N ≤ n → (∀ i, N.testBit i = true → K.testBit i = true) → N ≤ K
  | 0, N, K, hn, _ => by omega
  | n + 1, N, K, hn, h => by
    by_cases h0 : N = 0
    · omega
    · have := le_of_bits n (N / 2) (K / 2) (by omega) (fun i hi => by rw [← Nat.testBit_succ] at hi ⊢; exact h (i + 1) hi)
      have h1 : N % 2 = 1 → K % 2 = 1 := fun e => by
        have := h 0 (by rw [Nat.testBit_zero]; simp [e])
        rw [Nat.testBit_zero] at this
        simpa using this
      omega
theorem dom_iff : ∀ (n N K : Nat), K + N ≤ n → (Dom N K ↔ K ≤ N)
  | 0, N, K, hn => by
    have h1 : N = 0 := by omega
    have h2 : K = 0 := by omega
    subst h1 h2
    exact ⟨fun _ => Nat.le_refl _, fun _ t ht => by simp at ht⟩
  | n + 1, N, K, hn => by
    by_cases hz : K + N = 0
    · have h1 : N = 0 := by omega
      have h2 : K = 0 := by omega
      subst h1 h2
      exact ⟨fun _ => Nat.le_refl _, fun _ t ht => by simp at ht⟩
    · have ih := dom_iff n (N / 2) (K / 2) (by omega)
      have e0 : ∀ M : Nat, M.testBit 0 = decide (M % 2 = 1) := fun M => Nat.testBit_zero M
      constructor
      · intro h
        have h' : Dom (N / 2) (K / 2) := fun t ht => by
          rw [← Nat.testBit_succ] at ht ⊢
          rcases h (t + 1) ht with h1 | ⟨i, h1, h2, h3⟩
          · exact .inl h1
          · obtain ⟨j, rfl⟩ : ∃ j, i = j + 1 := ⟨i - 1, by omega⟩
            exact .inr ⟨j, by omega, by rw [← Nat.testBit_succ]; exact h2, by rw [← Nat.testBit_succ]; exact h3⟩
        have hle := ih.1 h'
        by_cases he : K / 2 = N / 2
        · by_cases hk : K % 2 = 1
          · rcases h 0 (by rw [e0]; simp [hk]) with h1 | ⟨i, h1, h2, h3⟩
            · rw [e0] at h1; simp at h1; omega
            · obtain ⟨j, rfl⟩ : ∃ j, i = j + 1 := ⟨i - 1, by omega⟩
              rw [Nat.testBit_succ] at h2 h3
              rw [he, h2] at h3
              cases h3
          · omega
        · omega
      · intro h
        have h' := ih.2 (by omega)
        intro t ht
        cases t with
        | zero =>
          rw [e0] at ht
          simp at ht
          by_cases hn1 : N % 2 = 1
          · left; rw [e0]; simp [hn1]
          · right
            have hlt : K / 2 < N / 2 := by omega
            rcases Classical.em (∃ i, (N / 2).testBit i = true ∧ (K / 2).testBit i = false) with ⟨i, h2, h3⟩ | hno
            · exact ⟨i + 1, by omega, by rw [Nat.testBit_succ]; exact h2, by rw [Nat.testBit_succ]; exact h3⟩
            · exfalso
              have := le_of_bits (N / 2) (N / 2) (K / 2) (Nat.le_refl _) (fun i hi => by
                cases hk : (K / 2).testBit i with
                | true => rfl
                | false => exact absurd ⟨i, hi, hk⟩ hno)
              omega
        | succ t =>
          rw [Nat.testBit_succ] at ht ⊢
          rcases h' t ht with h1 | ⟨i, h1, h2, h3⟩
          · exact .inl h1
          · exact .inr ⟨i + 1, by omega, by rw [Nat.testBit_succ]; exact h2, by rw [Nat.testBit_succ]; exact h3⟩

def bvOf (bits : List Int) (a : List Bool) (i : Nat) : Bool := litT a (bits.getD i 0)
theorem cl_holds (bits : List Int) (a : List Bool) (K t : Nat) : (clTo bits K t bits.length).any (litT a) = true ↔ ∃ i, i < bits.length ∧ bvOf bits a i = true ∧ (i = t ∨ (t < i ∧ K.testBit i = false)) := by
  unfold clTo
  rw [List.any_eq_true]
  constructor
  · rintro ⟨x, hx, hl⟩
    obtain ⟨i, hi, rfl⟩ := List.mem_map.1 hx
    obtain ⟨h1, h2⟩ := List.mem_filter.1 hi
    rw [List.mem_range] at h1
    refine ⟨i, h1, hl, ?_⟩
    simp [lcond] at h2
    exact h2.2
  · rintro ⟨i, hi, hb, hc⟩
    refine ⟨_, List.mem_map.2 ⟨i, List.mem_filter.2 ⟨List.mem_range.2 hi, ?_⟩, rfl⟩, hb⟩
    have hne : bits.getD i 0 ≠ 0 := fun e => by unfold bvOf at hb; rw [e, litT_zero] at hb; cases hb
    unfold lcond
    rcases hc with h | ⟨h1, h2⟩
    · subst h; rw [bne_iff_ne.2 hne]; simp
    · rw [bne_iff_ne.2 hne]; simp [h1, h2]
theorem least_correct (bits : List Int) (a : List Bool) (K : Nat) (hK : K ≤ 4503599627370496) :
    (leastTo bits K 64).all (fun c => c.any (litT a)) = decide (K ≤ numB (bvOf bits a) bits.length) := by
  rw [Bool.eq_iff_iff, decide_eq_true_iff, ← dom_iff (K + numB (bvOf bits a) bits.length) _ _ (Nat.le_refl _), List.all_eq_true]
  unfold leastTo Dom
  constructor
  · intro h t ht
    have ht64 : t < 64 := by
      rcases Nat.lt_or_ge t 64 with h | h
      · exact h
      · rw [Nat.testBit_lt_two_pow (Nat.lt_of_lt_of_le (by omega : K < 2 ^ 64) (Nat.pow_le_pow_right (by decide) h))] at ht
        cases ht
    obtain ⟨i, h1, h2, h3⟩ := (cl_holds bits a K t).1 (h _ (List.mem_map.2 ⟨t, List.mem_filter.2 ⟨List.mem_range.2 ht64, ht⟩, rfl⟩))
    have hb : (numB (bvOf bits a) bits.length).testBit i = true := by rw [numB_bit]; simp [h1, h2]
    rcases h3 with rfl | ⟨h3, h4⟩
    · exact .inl hb
    · exact .inr ⟨i, h3, hb, h4⟩
  · intro h c hc
    obtain ⟨t, ht, rfl⟩ := List.mem_map.1 hc
    obtain ⟨_, htb⟩ := List.mem_filter.1 ht
    refine (cl_holds bits a K t).2 ?_
    rcases h t htb with h1 | ⟨i, h1, h2, h3⟩
    · rw [numB_bit] at h1
      simp at h1
      exact ⟨t, h1.1, h1.2, .inl rfl⟩
    · rw [numB_bit] at h2
      simp at h2
      exact ⟨i, h2.1, h2.2, .inr ⟨h1, h3⟩⟩
theorem leastTo_53 (bits : List Int) (K : Nat) (hK : K ≤ 4503599627370496) : (leastTo bits K 64).length ≤ 53 := by
  rw [leastTo_skip bits K 53 64 (by decide) (fun k hk _ => Nat.testBit_lt_two_pow (Nat.lt_of_lt_of_le (by omega : K < 2 ^ 53) (Nat.pow_le_pow_right (by decide) hk)))]
  exact leastTo_len bits K 53
end Go.Proofs.YtogolfneckhnaaaDoor
