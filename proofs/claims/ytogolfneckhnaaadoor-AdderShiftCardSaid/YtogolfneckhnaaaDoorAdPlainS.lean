/- The plain law of AdderShift: doubling the coefficients shifts the bits by one place and leaves the clauses. -/
import Derived.Test.YtogolfneckhnaaaDoorAdPlain2
namespace Go.Proofs.YtogolfneckhnaaaDoor

/-- s' is s, one place up -/
structure Shf (s s' : Fd) : Prop where
  rows : ∀ j, s'.1 j = s.1 (j - 1)
  neg : s.1 (-1) = []
  top0 : 0 ≤ s.2
  top : s'.2 = if s.2 = 0 then 0 else s.2 + 1
theorem Shf.feed1 {s s' : Fd} (h : Shf s s') (x : Int) (k : Nat) : Shf (feed1 s x k) (feed1 s' x (k + 1)) := by
  have h0 := h.top0
  have ht := h.top
  have ek : ((k + 1 : Nat) : Int) = (k : Int) + 1 := by omega
  refine ⟨fun j => ?_, ?_, ?_, ?_⟩
  · show (if j = ((k + 1 : Nat) : Int) then s'.1 ((k + 1 : Nat) : Int) ++ [x] else s'.1 j) = (if j - 1 = (k : Int) then s.1 k ++ [x] else s.1 (j - 1))
    by_cases e : j = (k : Int) + 1
    · have e' : j - 1 = (k : Int) := by omega
      rw [if_pos (by omega), if_pos e', h.rows, show ((k + 1 : Nat) : Int) - 1 = k by omega]
    · rw [if_neg (by omega), if_neg (by omega), h.rows]
  · show (if (-1 : Int) = (k : Int) then s.1 k ++ [x] else s.1 (-1)) = []
    rw [if_neg (by omega)]; exact h.neg
  · show 0 ≤ max s.2 ((k : Int) + 1)
    omega
  · show max s'.2 (((k + 1 : Nat) : Int) + 1) = if max s.2 ((k : Int) + 1) = 0 then 0 else max s.2 ((k : Int) + 1) + 1
    rw [if_neg (show ¬ max s.2 ((k : Int) + 1) = 0 by omega), ht]
    split <;> omega
theorem Shf.feedTo {s s' : Fd} (h : Shf s s') (n : Nat) (x : Int) : ∀ j, Shf (feedTo n x s j) (feedTo (2 * n) x s' (j + 1))
  | 0 => by
    rw [feedTo_succ, if_neg (by simp)]
    exact h
  | j + 1 => by
    rw [feedTo_succ, feedTo_succ (2 * n), Nat.testBit_succ, Nat.mul_div_cancel_left _ (by decide)]
    split
    · exact (h.feedTo n x j).feed1 x j
    · exact h.feedTo n x j
theorem Shf.feed64 {s s' : Fd} (h : Shf s s') (n : Nat) (x : Int) (hn : n < 2 ^ 63) : Shf (Go.Proofs.YtogolfneckhnaaaDoor.feedTo n x s 64) (Go.Proofs.YtogolfneckhnaaaDoor.feedTo (2 * n) x s' 64) := by
  rw [feedTo_succ n x s 63, if_neg (by rw [Nat.testBit_lt_two_pow hn]; simp)]
  exact h.feedTo n x 63
theorem Shf.all : ∀ (cl : List (Int × Int)) (s s' : Fd), Shf s s' → (∀ q ∈ cl, 0 ≤ q.1 ∧ q.1 ≤ 549755813888) → Shf (feedAll s cl) (feedAll s' (cl.map fun q => (2 * q.1, q.2)))
  | [], s, s', h, _ => h
  | q :: cl, s, s', h, hq => by
    obtain ⟨h1, h2⟩ := hq q (by simp)
    have e : (2 * q.1).toNat = 2 * q.1.toNat := by omega
    simp only [feedAll, List.map_cons, List.foldl_cons, e]
    exact Shf.all cl _ _ (h.feed64 _ _ (by omega)) (fun p hp => hq p (by simp [hp]))
theorem Shf.zero : Shf fd0 fd0 := ⟨fun _ => rfl, rfl, by decide, by decide⟩

theorem feedTo_top (n : Nat) (x : Int) (s : Fd) : ∀ j, s.2 ≤ (feedTo n x s j).2 ∧ ∀ k, k < j → n.testBit k = true → 0 < (feedTo n x s j).2
  | 0 => ⟨by simp [feedTo], fun k h => by omega⟩
  | j + 1 => by
    obtain ⟨h1, h2⟩ := feedTo_top n x s j
    rw [feedTo_succ]
    split
    · refine ⟨by simp only [feed1]; omega, fun k _ _ => by simp only [feed1]; omega⟩
    · rename_i hb
      refine ⟨h1, fun k hk hkb => h2 k ?_ hkb⟩
      rcases Nat.lt_succ_iff_lt_or_eq.1 hk with h | h
      · exact h
      · subst h; exact absurd hkb hb
theorem feedTo_zero (x : Int) (s : Fd) (j : Nat) : feedTo 0 x s j = s := feedTo_skip 0 x s 0 j (Nat.zero_le _) (fun _ _ _ => Nat.zero_testBit _)
theorem feedAll_top : ∀ (cl : List (Int × Int)) (s : Fd), (∀ q ∈ cl, 0 ≤ q.1 ∧ q.1 ≤ 549755813888) → s.2 ≤ (feedAll s cl).2 ∧ ((∃ q ∈ cl, 0 < q.1) → 0 < (feedAll s cl).2 ∨ s.2 < 0) ∧ ((∀ q ∈ cl, q.1 = 0) → feedAll s cl = s)
  | [], s, _ => ⟨Int.le_refl _, fun ⟨_, h, _⟩ => by simp at h, fun _ => rfl⟩
  | q :: cl, s, hq => by
    obtain ⟨h1, h2⟩ := hq q (by simp)
    obtain ⟨a1, a2, a3⟩ := feedAll_top cl (feedTo q.1.toNat q.2 s 64) (fun p hp => hq p (by simp [hp]))
    obtain ⟨b1, b2⟩ := feedTo_top q.1.toNat q.2 s 64
    have e : feedAll s (q :: cl) = feedAll (feedTo q.1.toNat q.2 s 64) cl := rfl
    rw [e]
    refine ⟨by omega, fun ⟨p, hp, hp0⟩ => ?_, fun h => ?_⟩
    · by_cases hz : q.1 = 0
      · rcases List.mem_cons.1 hp with r | r
        · subst r; omega
        · rcases a2 ⟨p, r, hp0⟩ with h | h
          · exact .inl h
          · exact .inr (by omega)
      · obtain ⟨k, hk⟩ := Nat.exists_testBit_of_ne_zero (x := q.1.toNat) (by omega)
        have hk64 : k < 64 := by
          rcases Nat.lt_or_ge k 64 with h | h
          · exact h
          · rw [Nat.testBit_lt_two_pow (Nat.lt_of_lt_of_le (by omega : q.1.toNat < 2 ^ 64) (Nat.pow_le_pow_right (by decide) h))] at hk
            cases hk
        have := b2 k hk64 hk
        exact .inl (by omega)
    · have h0 := h q (by simp)
      rw [a3 (fun p hp => h p (by simp [hp])), h0]
      exact feedTo_zero _ _ _

/-- the same for the adder's state -/
structure ShfP (s s' : Ps) : Prop where
  rows : ∀ j, s'.rows j = s.rows (j - 1)
  cs : s'.cs = s.cs
  nx : s'.nx = s.nx
  top : s'.top = s.top + 1
theorem ShfP.step {s s' : Ps} (h : ShfP s s') (k : Int) : ShfP (stepA k s) (stepA (k + 1) s') := by
  have hk : s'.rows (k + 1) = s.rows k := by rw [h.rows]; congr 1; omega
  refine ⟨fun j => ?_, ?_, ?_, ?_⟩
  · have e1 : ∀ i, s'.rows i = s.rows (i - 1) := h.rows
    simp only [stepA, updr, setr, e1, h.nx]
    by_cases c1 : j = k + 1 + 1
    · subst c1
      simp [show k + 1 + 1 - 1 = k + 1 by omega, show ¬ k + 1 + 1 = k + 1 by omega, show ¬ k + 1 = k by omega]
    · by_cases c2 : j = k + 1
      · subst c2
        simp [show k + 1 - 1 = k by omega, show ¬ k + 1 = k + 1 + 1 by omega, show ¬ k = k + 1 by omega]
      · simp [c1, c2, show ¬ j - 1 = k + 1 by omega, show ¬ j - 1 = k by omega]
  · simp only [stepA, hk, h.nx, h.cs]
  · simp only [stepA, h.nx]
  · simp only [stepA, h.top]; omega
theorem sumF_shift : ∀ (f : Nat) (k : Int) (s s' : Ps) (o : List Int), ShfP s s' → sumF f (k + 1) s' (0 :: o) = (sumF f k s o).map fun r => (0 :: r.1, r.2)
  | 0, _, _, _, _, _ => rfl
  | f + 1, k, s, s', o, h => by
    have hk : s'.rows (k + 1) = s.rows k := by rw [h.rows]; congr 1; omega
    simp only [sumF, hk, h.nx, h.top, h.cs]
    by_cases h1 : k < s.top
    · rw [if_pos h1, if_pos (by omega)]
      by_cases h2 : 1 < (s.rows k).length
      · rw [if_pos h2, if_pos h2]
        by_cases h3 : 65537 < s.nx + 2
        · rw [if_pos h3, if_pos h3]; rfl
        · rw [if_neg h3, if_neg h3]; exact sumF_shift f k _ _ o (h.step k)
      · rw [if_neg h2, if_neg h2]; exact sumF_shift f (k + 1) _ _ _ h
    · rw [if_neg h1, if_neg (by omega)]; rfl
theorem sumF_fuel : ∀ (f : Nat) (k : Int) (s : Ps) (o : List Int), s.nx ≤ 70000 → mu k s < f → sumF f k s o = sumF (f + 1) k s o
  | 0, _, _, _, _, h => by omega
  | f + 1, k, s, o, hn, h => by
    conv => rhs; rw [sumF]
    rw [sumF]
    by_cases h1 : k < s.top
    · rw [if_pos h1, if_pos h1]
      by_cases h2 : 1 < (s.rows k).length
      · rw [if_pos h2, if_pos h2]
        by_cases h3 : 65537 < s.nx + 2
        · rw [if_pos h3, if_pos h3]
        · rw [if_neg h3, if_neg h3]
          refine sumF_fuel f k _ o (by simp only [stepA]; omega) ?_
          simp only [mu, stepA] at h ⊢
          omega
      · rw [if_neg h2, if_neg h2]
        refine sumF_fuel f (k + 1) _ _ hn ?_
        simp only [mu] at h ⊢
        omega
    · rw [if_neg h1, if_neg h1]
theorem zip_twice : ∀ (coef l : List Int), (coef.map (2 * ·)).zip l = (coef.zip l).map fun q => (2 * q.1, q.2)
  | [], _ => rfl
  | _ :: _, [] => rfl
  | c :: coef, x :: l => by simp [zip_twice coef l]
theorem sumP_shift (coef l : List Int) (next : Int) (hc : ∀ c ∈ coef, 0 ≤ c ∧ c ≤ 549755813888) :
    sumP (coef.map (2 * ·)) l next = match sumP coef l next with
      | .err e => .err e
      | .ok bits cs n => if coef.any (fun c => decide (0 < c)) then .ok (0 :: bits) cs n else .ok bits cs n := by
  unfold sumP
  rw [List.length_map, zip_twice]
  by_cases h1 : next < 1 ∨ 65537 < next ∨ coef.length ≠ l.length
  · rw [if_pos h1, if_pos h1]
  · rw [if_neg h1, if_neg h1]
    have hz : ∀ q ∈ coef.zip l, 0 ≤ q.1 ∧ q.1 ≤ 549755813888 := fun q hq => hc q.1 (List.of_mem_zip hq).1
    have ha : ((coef.zip l).map fun q => (2 * q.1, q.2)).all (okAt next) = (coef.zip l).all (okAt next) := by
      rw [List.all_map, Bool.eq_iff_iff, List.all_eq_true, List.all_eq_true]
      refine forall_congr' fun q => forall_congr' fun hq => ?_
      obtain ⟨a, b⟩ := hz q hq
      have d1 : decide (0 ≤ 2 * q.1) = decide (0 ≤ q.1) := by rw [decide_eq_decide]; omega
      have d2 : decide (2 * q.1 ≤ 1099511627776) = decide (q.1 ≤ 1099511627776) := by rw [decide_eq_decide]; omega
      simp only [Function.comp, okAt, d1, d2]
    rw [ha]
    by_cases h2 : (coef.zip l).all (okAt next) = false
    · rw [if_pos h2, if_pos h2]
    · rw [if_neg h2, if_neg h2]
      by_cases h3 : 4096 < l.length
      · rw [if_pos h3, if_pos h3]
      · rw [if_neg h3, if_neg h3]
        have hs := Shf.all (coef.zip l) fd0 fd0 Shf.zero hz
        obtain ⟨_, t2, t3⟩ := feedAll_top (coef.zip l) fd0 hz
        have ok64 := (FeedOk.all (coef.zip l) fd0 0 FeedOk.zero).2
        by_cases hp : ∃ q ∈ coef.zip l, 0 < q.1
        · have hany : coef.any (fun c => decide (0 < c)) = true := by
            obtain ⟨q, hq, h0⟩ := hp
            exact List.any_eq_true.2 ⟨q.1, (List.of_mem_zip hq).1, by simpa using h0⟩
          have ht : 0 < (feedAll fd0 (coef.zip l)).2 := by
            rcases t2 hp with h | h
            · exact h
            · exact absurd h (by decide)
          have hP : ShfP { rows := (feedAll fd0 (coef.zip l)).1, cs := [], nx := next, top := (feedAll fd0 (coef.zip l)).2 }
              { rows := (feedAll fd0 ((coef.zip l).map fun q => (2 * q.1, q.2))).1, cs := [], nx := next, top := (feedAll fd0 ((coef.zip l).map fun q => (2 * q.1, q.2))).2 } :=
            ⟨hs.rows, rfl, rfl, by have := hs.top; rw [if_neg (by omega)] at this; exact this⟩
          have e1 : sumF fuel0 0 { rows := (feedAll fd0 ((coef.zip l).map fun q => (2 * q.1, q.2))).1, cs := [], nx := next, top := (feedAll fd0 ((coef.zip l).map fun q => (2 * q.1, q.2))).2 } [] = (sumF fuel0 0 { rows := (feedAll fd0 (coef.zip l)).1, cs := [], nx := next, top := (feedAll fd0 (coef.zip l)).2 } []).map fun r => (0 :: r.1, r.2) := by
            have hr0 : (feedAll fd0 ((coef.zip l).map fun q => (2 * q.1, q.2))).1 0 = [] := by rw [hs.rows]; exact hs.neg
            have hn : sumF (299999 + 1) 0 { rows := (feedAll fd0 ((coef.zip l).map fun q => (2 * q.1, q.2))).1, cs := [], nx := next, top := (feedAll fd0 ((coef.zip l).map fun q => (2 * q.1, q.2))).2 } [] = sumF 299999 (0 + 1) { rows := (feedAll fd0 ((coef.zip l).map fun q => (2 * q.1, q.2))).1, cs := [], nx := next, top := (feedAll fd0 ((coef.zip l).map fun q => (2 * q.1, q.2))).2 } ([] ++ [0]) := by
              rw [sumF_next (by have := hP.top; simp only at this ⊢; omega) (by simp only [hr0]; simp)]
              simp only [hr0]; rfl
            have ef : fuel0 = 299999 + 1 := rfl
            rw [ef, hn, ← sumF_fuel 299999 0 _ [] (by simp only; omega) (by simp only [mu]; omega)]
            exact sumF_shift 299999 0 _ _ [] hP
          rw [e1, hany]
          cases sumF fuel0 0 { rows := (feedAll fd0 (coef.zip l)).1, cs := [], nx := next, top := (feedAll fd0 (coef.zip l)).2 } [] with
          | none => rfl
          | some r => rfl
        · have hall : ∀ q ∈ coef.zip l, q.1 = 0 := fun q hq => by
            have := hz q hq
            have h0 : ¬ 0 < q.1 := fun h => hp ⟨q, hq, h⟩
            omega
          have hany : coef.any (fun c => decide (0 < c)) = false := by
            rw [List.any_eq_false]
            intro c hcm
            obtain ⟨i, hi, rfl⟩ := List.mem_iff_getElem.1 hcm
            have hl : coef.length = l.length := by omega
            have := hall ((coef.zip l)[i]'(by rw [List.length_zip]; omega)) (List.getElem_mem _)
            rw [List.getElem_zip] at this
            simp only at this
            simp [this]
          have e2 : feedAll fd0 ((coef.zip l).map fun q => (2 * q.1, q.2)) = fd0 := by
            refine (feedAll_top _ fd0 ?_).2.2 ?_
            · intro q hq
              obtain ⟨p, hp', rfl⟩ := List.mem_map.1 hq
              have := hall p hp'
              simp only; omega
            · intro q hq
              obtain ⟨p, hp', rfl⟩ := List.mem_map.1 hq
              have := hall p hp'
              simp only; omega
          rw [e2, t3 hall, hany]
          have e3 : sumF fuel0 0 { rows := fd0.1, cs := [], nx := next, top := fd0.2 } [] = some ([], [], next) := by
            have ef : fuel0 = 299999 + 1 := rfl
            rw [ef, sumF_end (show ¬ (0 : Int) < 0 by decide)]
          rw [e3]; rfl
end Go.Proofs.YtogolfneckhnaaaDoor
