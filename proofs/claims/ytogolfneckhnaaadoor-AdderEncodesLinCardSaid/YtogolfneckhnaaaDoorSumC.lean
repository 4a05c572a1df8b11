/- The adder's Sum by what the plain function says: one contract for an error, one for a result. -/
import Derived.Test.YtogolfneckhnaaaDoorLive17b
namespace Go.Proofs.YtogolfneckhnaaaDoor
open Go.RowKit Go.Shelf

theorem sum_err (A L : Option Addr) (cA cL n m : Nat) (coef l : List Int) (next c : Int) (w : World) (hn : coef.length = n) (hm : l.length = m) (ha : Rd I64 (· < w.heap.size) w A coef) (hl : Rd I64 (· < w.heap.size) w L l) (hT : TabAt w)
    (hla : n ≤ 1000000000) (hll : m ≤ 1000000000) (hr : sumP coef l next = .err c) :
    Calls Tryd.prog 13 #[.slice A n cA, .slice L m cL, I64 next] w fun e w' => e = .returned (.tuple #[.slice none 0 0, .slice none 0 0, I64 0, I64 c]) ∧ Below w.heap.size w w' := by
  subst hn hm
  have h := sum_any A L cA cL coef l next w ha hl hT hla hll
  rw [hr] at h
  exact h
theorem sum_ok (A L : Option Addr) (cA cL n m : Nat) (coef l : List Int) (next : Int) (bits : List Int) (cs : List (List Int)) (after : Int) (w : World) (hn : coef.length = n) (hm : l.length = m) (ha : Rd I64 (· < w.heap.size) w A coef) (hl : Rd I64 (· < w.heap.size) w L l) (hT : TabAt w)
    (hla : n ≤ 1000000000) (hll : m ≤ 1000000000) (hr : sumP coef l next = .ok bits cs after) :
    Calls Tryd.prog 13 #[.slice A n cA, .slice L m cL, I64 next] w fun e w' => ∃ A' cA' C cC, e = .returned (.tuple #[.slice A' bits.length cA', .slice C cs.length cC, I64 after, I64 0]) ∧ bits.length ≤ cA' ∧ cs.length ≤ cC ∧
      Rd I64 (· < w'.heap.size) w' A' bits ∧ RdL (· < w'.heap.size) w' C cs ∧ Below w.heap.size w w' := by
  subst hn hm
  have h := sum_any A L cA cL coef l next w ha hl hT hla hll
  rw [hr] at h
  exact h
theorem lists_sm {D : Nat → Prop} (A B : Option Addr) (c d n : Nat) (xs : List (List Int)) (w : World) (ha : RdL D w A xs) (hb : RdL D w B xs) (hn : xs.length = n) (hx : xs.length ≤ maxLen) (hxs : ∀ x ∈ xs, x.length ≤ maxLen) :
    Calls Tryd.prog 16 #[.slice A n c, .slice B n d] w fun e w' => e = .returned (.bool true) ∧ ∃ q, w' = w.drewN q := by
  subst hn
  exact (lists_any A B c d xs xs w ha hb hx hx hxs hxs).mono fun e w' ⟨e1, hb⟩ => ⟨by rw [e1]; simp, hb⟩
theorem ints_sm {D : Nat → Prop} (A B : Option Addr) (c d n m : Nat) (xs : List Int) (w : World) (ha : Rd I64 D w A xs) (hb : Rd I64 D w B xs) (hn : xs.length = n) (hm : xs.length = m) (hx : xs.length ≤ maxLen) :
    Calls Tryd.prog 15 #[.slice A n c, .slice B m d] w fun e w' => e = .returned (.bool true) ∧ ∃ q, w' = w.drewN q := by
  subst hm hn
  exact (ints_any A B c d xs xs w ha hb hx hx).mono fun e w' ⟨e1, hb⟩ => ⟨by rw [e1]; simp, hb⟩
theorem sumP_err {coef l : List Int} {next e : Int} (h : sumP coef l next = .err e) : (e != 0) = true := by
  unfold sumP at h
  split at h
  · injection h with h; subst h; rfl
  · split at h
    · injection h with h; subst h; rfl
    · split at h
      · injection h with h; subst h; rfl
      · split at h
        · injection h with h; subst h; rfl
        · cases h
/-- the lengths of what Sum returns -/
theorem sumF_lens (next : Int) : ∀ (f : Nat) (k : Int) (s : Ps) (o : List Int) (r : List Int × List (List Int) × Int), PsOk next s → 0 ≤ k → k ≤ s.top → (o.length : Int) = k → (∀ c ∈ s.cs, c.length ≤ 100) → sumF f k s o = some r →
    r.1.length ≤ 70000 ∧ r.2.1.length ≤ 7000000 ∧ ∀ c ∈ r.2.1, c.length ≤ 100
  | 0, _, _, _, _, _, _, _, _, _, h => by simp [sumF] at h
  | f + 1, k, s, o, r, hs, hk0, hk, ho, hc, h => by
    rw [sumF] at h
    by_cases h1 : k < s.top
    · rw [if_pos h1] at h
      by_cases h2 : 1 < (s.rows k).length
      · rw [if_pos h2] at h
        by_cases h3 : 65537 < s.nx + 2
        · rw [if_pos h3] at h; cases h
        · rw [if_neg h3] at h
          refine sumF_lens next f k _ o r (hs.step k hk0 h1 (by omega)) hk0 (by simp only [stepA]; omega) ho (fun c hcm => ?_) h
          simp only [stepA, List.mem_append] at hcm
          rcases hcm with hcm | hcm
          · exact hc c hcm
          · have hl3 : ((s.rows k).take 3).length ≤ 3 := by simp; omega
            generalize (s.rows k).take 3 = l at hcm hl3
            unfold addC at hcm
            simp only [List.mem_append, List.mem_map] at hcm
            rcases hcm with (⟨n, _, rfl⟩ | ⟨q, _, rfl⟩) | hcm
            · simp [cls1, negl]; omega
            · simp
            · split at hcm
              · simp at hcm; rcases hcm with rfl | rfl <;> simp
              · simp only [List.mem_map] at hcm; obtain ⟨q, _, rfl⟩ := hcm; simp
      · rw [if_neg h2] at h
        exact sumF_lens next f (k + 1) s _ r hs (by omega) (by omega) (by rw [List.length_append, List.length_singleton]; omega) hc h
    · rw [if_neg h1] at h
      injection h with h
      subst h
      have a := hs.top
      have b := hs.cl
      have c := hs.hi
      have d := hs.lo
      exact ⟨by simp only; omega, by simp only; omega, hc⟩
theorem sumP_lens {coef l : List Int} {next : Int} {bits : List Int} {cs : List (List Int)} {after : Int} (h : sumP coef l next = .ok bits cs after) : bits.length ≤ 70000 ∧ cs.length ≤ 7000000 ∧ ∀ c ∈ cs, c.length ≤ 100 := by
  unfold sumP at h
  split at h
  · cases h
  · split at h
    · cases h
    · split at h
      · cases h
      · rename_i h1 h2 h3
        generalize hr : sumF fuel0 0 { rows := (feedAll fd0 (coef.zip l)).1, cs := [], nx := next, top := (feedAll fd0 (coef.zip l)).2 } [] = o at h
        cases o with
        | none => cases h
        | some r =>
          simp only at h
          injection h with e1 e2 e3
          subst e1 e2 e3
          have hall : ∀ q ∈ coef.zip l, okAt next q = true := by simpa using h2
          have ok := FeedOk.all (coef.zip l) fd0 0 FeedOk.zero
          have hlit := feed_lit (coef.zip l) fd0 70000 (fun j x hx => by simp [fd0] at hx) (fun q hq => by have := hall q hq; simp [okAt] at this; omega)
          refine sumF_lens next fuel0 0 _ [] r ⟨by omega, Int.le_refl _, by simp only; omega, fun j => ?_, by simp, ok.2.1, by have := ok.2.2; simp only; omega, hlit⟩ (Int.le_refl _) ok.2.1 rfl (fun c hc => by simp at hc) hr
          have := ok.1 j
          rw [List.length_zip] at this
          simp only; omega
end Go.Proofs.YtogolfneckhnaaaDoor
