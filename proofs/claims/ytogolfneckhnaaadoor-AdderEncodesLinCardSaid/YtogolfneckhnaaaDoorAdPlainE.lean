/- The plain law of AdderSumCorrect, third part: what the queues weigh at the start; the bounds of small sums; the law itself; and the plain law of AdderOrder. -/
import Derived.Test.YtogolfneckhnaaaDoorAdPlainD
namespace Go.Proofs.YtogolfneckhnaaaDoor

theorem wRows_updr (F : List Bool) (rows : Int → List Int) (j x : Int) : ∀ (n : Nat) (k : Int), k ≤ j → j < k + n → wRows F (updr rows j x) k n = wRows F rows k n + 2 ^ (j - k).toNat * (litT F x).toNat
  | 0, k, h1, h2 => by omega
  | n + 1, k, h1, h2 => by
    simp only [wRows]
    by_cases e : j = k
    · subst e
      have e1 : updr rows j x j = rows j ++ [x] := by simp [updr]
      rw [e1, cntT_app, wRows_congr (rows := updr rows j x) (rows' := rows) (fun i hi => by unfold updr; rw [if_neg (by omega)]), show (j - j).toNat = 0 by omega]
      simp only [cntT]
      omega
    · have e1 : updr rows j x k = rows k := by unfold updr; rw [if_neg (by omega)]
      rw [e1, wRows_updr F rows j x n (k + 1) (by omega) (by omega), show (j - k).toNat = (j - (k + 1)).toNat + 1 by omega, Nat.pow_succ, Nat.mul_add]
      generalize 2 ^ (j - (k + 1)).toNat = P
      rw [Nat.mul_assoc, Nat.mul_left_comm P 2]
      omega
theorem mod_two_succ (c m : Nat) : c % 2 ^ (m + 1) = c % 2 ^ m + 2 ^ m * (c.testBit m).toNat := by
  rw [Nat.mod_pow_succ, Nat.testBit_eq_decide_div_mod_eq]
  rcases Nat.mod_two_eq_zero_or_one (c / 2 ^ m) with h | h <;> rw [h] <;> simp
theorem wRows_feedTo (F : List Bool) (c : Nat) (x : Int) (s : Fd) : ∀ m, m ≤ 64 → wRows F (feedTo c x s m).1 0 64 = wRows F s.1 0 64 + c % 2 ^ m * (litT F x).toNat
  | 0, _ => by simp [feedTo, Nat.mod_one]
  | m + 1, hm => by
    rw [feedTo_succ, mod_two_succ, Nat.add_mul]
    by_cases hb : c.testBit m = true
    · rw [if_pos hb]
      simp only [feed1]
      rw [wRows_updr F _ _ x 64 0 (by omega) (by omega), wRows_feedTo F c x s m (by omega), hb, show ((m : Int) - 0).toNat = m by omega]
      simp
      omega
    · rw [if_neg hb, wRows_feedTo F c x s m (by omega)]
      have : c.testBit m = false := by simpa using hb
      rw [this]; simp
def sumZ (F : List Bool) : List (Int × Int) → Int
  | [] => 0
  | q :: t => (if litT F q.2 then q.1 else 0) + sumZ F t
theorem sumZ_app (F : List Bool) : ∀ a b, sumZ F (a ++ b) = sumZ F a + sumZ F b
  | [], b => by simp [sumZ]
  | q :: a, b => by simp only [List.cons_append, sumZ, sumZ_app F a b]; omega
theorem sumZ_rev (F : List Bool) : ∀ a, sumZ F a.reverse = sumZ F a
  | [] => rfl
  | q :: a => by rw [List.reverse_cons, sumZ_app, sumZ_rev F a]; simp only [sumZ]; omega
theorem sumZ_congr {F G : List Bool} : ∀ {a : List (Int × Int)}, (∀ q ∈ a, litT F q.2 = litT G q.2) → sumZ F a = sumZ G a
  | [], _ => rfl
  | q :: a, h => by simp only [sumZ]; rw [h q (by simp), sumZ_congr (a := a) (fun p hp => h p (by simp [hp]))]
theorem wRows_feedAll (F : List Bool) : ∀ (cl : List (Int × Int)) (s : Fd), (∀ q ∈ cl, 0 ≤ q.1 ∧ q.1 ≤ 1099511627776) → (wRows F (feedAll s cl).1 0 64 : Int) = wRows F s.1 0 64 + sumZ F cl
  | [], s, _ => by simp [feedAll, sumZ]
  | q :: cl, s, h => by
    have e : feedAll s (q :: cl) = feedAll (feedTo q.1.toNat q.2 s 64) cl := rfl
    obtain ⟨h1, h2⟩ := h q (by simp)
    rw [e, wRows_feedAll F cl _ (fun p hp => h p (by simp [hp])), wRows_feedTo F _ _ _ 64 (Nat.le_refl _), Nat.mod_eq_of_lt (by omega)]
    simp only [sumZ]
    cases litT F q.2 <;> simp <;> omega
theorem sumTo_zip (coef l : List Int) (F : List Bool) (hl : coef.length = l.length) : ∀ k, k ≤ l.length → sumTo coef l F k = sumZ F ((coef.zip l).take k)
  | 0, _ => by simp [sumTo, sumZ]
  | k + 1, h => by
    have hz : k < (coef.zip l).length := by rw [List.length_zip]; omega
    rw [sumTo, sumTo_zip coef l F hl k (by omega), List.take_succ_eq_append_getElem hz, sumZ_app, List.getElem_zip]
    simp only [sumZ]
    rw [List.getD_eq_getElem?_getD, List.getElem?_eq_getElem (by omega), List.getD_eq_getElem?_getD, List.getElem?_eq_getElem (by omega)]
    simp
theorem sumTo_all (coef l : List Int) (F : List Bool) (hl : coef.length = l.length) : sumTo coef l F l.length = sumZ F (coef.zip l) := by
  rw [sumTo_zip coef l F hl l.length (Nat.le_refl _), List.take_of_length_le (by rw [List.length_zip]; omega)]

/-- what sumP's result tells of its inputs and of its run -/
theorem sumP_ok {coef l : List Int} {next : Int} {bits : List Int} {cs : List (List Int)} {after : Int} (h : sumP coef l next = .ok bits cs after) :
    coef.length = l.length ∧ 1 ≤ next ∧ next ≤ 65537 ∧ (∀ q ∈ coef.zip l, 0 ≤ q.1 ∧ q.1 ≤ 1099511627776 ∧ LitOk next q.2) ∧
      sumF fuel0 0 { rows := (feedAll fd0 (coef.zip l)).1, cs := [], nx := next, top := (feedAll fd0 (coef.zip l)).2 } [] = some (bits, cs, after) := by
  unfold sumP at h
  split at h
  · cases h
  · split at h
    · cases h
    · split at h
      · cases h
      · rename_i h1 h2 h3
        generalize hr : sumF fuel0 0 { rows := (feedAll fd0 (coef.zip l)).1, cs := [], nx := next, top := (feedAll fd0 (coef.zip l)).2 } [] = o at h
        cases o with
        | none => cases h
        | some r =>
          simp only at h
          injection h with e1 e2 e3
          subst e1 e2 e3
          have hall : ∀ q ∈ coef.zip l, okAt next q = true := by simpa using h2
          refine ⟨by omega, by omega, by omega, fun q hq => ?_, rfl⟩
          have := hall q hq
          simp [okAt] at this
          exact ⟨by omega, by omega, this.1.1.2, this.2, this.1.2⟩
theorem feed_row {next : Int} : ∀ (cl : List (Int × Int)) (s : Fd), (∀ j, ∀ x ∈ s.1 j, LitOk next x) → (∀ q ∈ cl, LitOk next q.2) → ∀ j, ∀ x ∈ (feedAll s cl).1 j, LitOk next x
  | [], _, hs, _ => hs
  | q :: cl, s, hs, hq => by
    have e : feedAll s (q :: cl) = feedAll (feedTo q.1.toNat q.2 s 64) cl := rfl
    rw [e]
    refine feed_row cl _ ?_ (fun p hp => hq p (by simp [hp]))
    have : ∀ t, ∀ j, ∀ x ∈ (feedTo q.1.toNat q.2 s t).1 j, LitOk next x := fun t => by
      induction t with
      | zero => exact hs
      | succ t ih2 =>
        rw [feedTo_succ]
        split
        · intro j x hx
          simp only [feed1] at hx
          rcases mem_updr hx with hx | rfl
          · exact ih2 j x hx
          · exact hq q (by simp)
        · exact ih2
    exact this 64

/-- THE LAW: the clauses force the new variables, hold then, and the bits' number is the sum -/
theorem sumP_cor {coef l : List Int} {next : Int} {bits : List Int} {cs : List (List Int)} {after : Int} (h : sumP coef l next = .ok bits cs after) (g : List Bool) (hg : (g.length : Int) = next) :
    ∃ F, toldP cs g next (after - next).toNat = (F, true) ∧ (F.length : Int) = after ∧ (∀ c ∈ cs, c.any (litT F) = true) ∧ ((numB (bvOf bits F) bits.length : Nat) : Int) = sumTo coef l F l.length ∧ sumTo coef l F l.length = sumZ g (coef.zip l) := by
  obtain ⟨hlen, hn1, hn2, hq, hr⟩ := sumP_ok h
  have hs0 : SzOk next { rows := (feedAll fd0 (coef.zip l)).1, cs := [], nx := next, top := (feedAll fd0 (coef.zip l)).2 } :=
    ⟨by simp only; omega, by simp, by simp, feed_row _ fd0 (fun j x hx => by simp [fd0] at hx) (fun q hqm => (hq q hqm).2.2), fun c hc => by simp at hc, by simp, by simp⟩
  have ok64 := (FeedOk.all (coef.zip l) fd0 0 FeedOk.zero).2
  have hem := EmptyAbove.all (coef.zip l) fd0 (fun _ _ => rfl)
  obtain ⟨b1, b2, rest, bits', b3, b4, b5⟩ := sumF_cor next fuel0 0 _ [] _ hs0 hn2 hem hr
  simp only [List.nil_append] at b3 b4
  subst b3 b4
  obtain ⟨ext, t1, t2, t3, t4⟩ := b5.told [] g hg (fun c hc => by simp at hc)
  simp only [List.nil_append] at t1
  refine ⟨g ++ ext, t1, t2, t3, ?_, ?_⟩
  · rw [numB_valL, t4 64 (by simp only; omega), wRows_feedAll _ _ fd0 (fun q hqm => ⟨(hq q hqm).1, (hq q hqm).2.1⟩), sumTo_all coef l _ hlen]
    rw [wRows_empty (rows := fd0.1) (fun _ _ => rfl)]
    simp
  · rw [sumTo_all coef l _ hlen]
    refine sumZ_congr (fun q hqm => litT_ext _ (by rw [hg]; exact (hq q hqm).2.2) (by rw [t2]; exact b1))

/-- lengths of the queues, and the top -/
def bitAt (j : Int) (q : Int × Int) : Bool := decide (0 ≤ j ∧ j < 64) && q.1.toNat.testBit j.toNat
theorem len_feedTo (c : Nat) (x : Int) (s : Fd) (j : Int) : ∀ m, m ≤ 64 → ((feedTo c x s m).1 j).length = (s.1 j).length + if (0 ≤ j ∧ j < m) ∧ c.testBit j.toNat = true then 1 else 0
  | 0, _ => by rw [if_neg (by omega)]; simp [feedTo]
  | m + 1, hm => by
    rw [feedTo_succ]
    by_cases hb : c.testBit m = true
    · rw [if_pos hb]
      simp only [feed1, updr]
      by_cases e : j = (m : Int)
      · subst e
        rw [if_pos rfl, List.length_append, len_feedTo c x s m m (by omega), if_neg (by omega), if_pos ⟨by omega, by simpa using hb⟩]
        simp
      · rw [if_neg e, len_feedTo c x s j m (by omega)]
        congr 1
        by_cases h2 : (0 ≤ j ∧ j < (m : Int)) ∧ c.testBit j.toNat = true
        · rw [if_pos h2, if_pos ⟨by omega, h2.2⟩]
        · rw [if_neg h2, if_neg (fun h3 => h2 ⟨by omega, h3.2⟩)]
    · rw [if_neg hb, len_feedTo c x s j m (by omega)]
      congr 1
      by_cases h2 : (0 ≤ j ∧ j < (m : Int)) ∧ c.testBit j.toNat = true
      · rw [if_pos h2, if_pos ⟨by omega, h2.2⟩]
      · rw [if_neg h2, if_neg (fun h3 => by
          by_cases e : j = (m : Int)
          · subst e; exact hb (by simpa using h3.2)
          · exact h2 ⟨by omega, h3.2⟩)]
def cntB (j : Int) : List (Int × Int) → Nat
  | [] => 0
  | q :: t => (bitAt j q).toNat + cntB j t
theorem cntB_app (j : Int) : ∀ a b, cntB j (a ++ b) = cntB j a + cntB j b
  | [], b => by simp [cntB]
  | q :: a, b => by simp only [List.cons_append, cntB, cntB_app j a b]; omega
theorem cntB_rev (j : Int) : ∀ a, cntB j a.reverse = cntB j a
  | [] => rfl
  | q :: a => by rw [List.reverse_cons, cntB_app, cntB_rev j a]; simp only [cntB]; omega
theorem len_feedAll (j : Int) : ∀ (cl : List (Int × Int)) (s : Fd), ((feedAll s cl).1 j).length = (s.1 j).length + cntB j cl
  | [], s => by simp [feedAll, cntB]
  | q :: cl, s => by
    have e : feedAll s (q :: cl) = feedAll (feedTo q.1.toNat q.2 s 64) cl := rfl
    rw [e, len_feedAll j cl, len_feedTo _ _ _ _ 64 (Nat.le_refl _)]
    simp only [cntB, bitAt]
    by_cases h2 : (0 ≤ j ∧ j < ((64 : Nat) : Int)) ∧ q.1.toNat.testBit j.toNat = true
    · rw [if_pos h2, decide_eq_true (show 0 ≤ j ∧ j < 64 by omega), h2.2]; simp; omega
    · rw [if_neg h2]
      have : (decide (0 ≤ j ∧ j < 64) && q.1.toNat.testBit j.toNat) = false := by
        by_cases h3 : 0 ≤ j ∧ j < 64
        · have : q.1.toNat.testBit j.toNat = false := by
            cases hx : q.1.toNat.testBit j.toNat with
            | false => rfl
            | true => exact absurd ⟨by omega, hx⟩ h2
          rw [this]; simp
        · rw [decide_eq_false h3]; rfl
      rw [this]; simp
def topTo (c : Nat) : Nat → Int
  | 0 => 0
  | m + 1 => if c.testBit m then max (topTo c m) (m + 1) else topTo c m
theorem topTo_nn (c : Nat) : ∀ m, 0 ≤ topTo c m
  | 0 => by simp [topTo]
  | m + 1 => by rw [topTo]; have := topTo_nn c m; split <;> omega
theorem top_feedTo (c : Nat) (x : Int) (s : Fd) (h0 : 0 ≤ s.2) : ∀ m, (feedTo c x s m).2 = max s.2 (topTo c m)
  | 0 => by simp [feedTo, topTo]; omega
  | m + 1 => by
    rw [feedTo_succ, topTo]
    split
    · simp only [feed1]; rw [top_feedTo c x s h0 m]; omega
    · exact top_feedTo c x s h0 m
def tops : List (Int × Int) → Int
  | [] => 0
  | q :: t => max (topTo q.1.toNat 64) (tops t)
theorem tops_nn : ∀ a, 0 ≤ tops a
  | [] => by simp [tops]
  | q :: t => by rw [tops]; have := tops_nn t; omega
theorem tops_app : ∀ a b, tops (a ++ b) = max (tops a) (tops b)
  | [], b => by have := tops_nn b; simp only [List.nil_append, tops]; omega
  | q :: a, b => by simp only [List.cons_append, tops, tops_app a b]; omega
theorem tops_rev : ∀ a, tops a.reverse = tops a
  | [] => rfl
  | q :: a => by rw [List.reverse_cons, tops_app, tops_rev a]; have := tops_nn a; have := topTo_nn q.1.toNat 64; simp only [tops]; omega
theorem top_feedAll : ∀ (cl : List (Int × Int)) (s : Fd), 0 ≤ s.2 → (feedAll s cl).2 = max s.2 (tops cl)
  | [], s, h => by simp only [feedAll, List.foldl_nil, tops]; omega
  | q :: cl, s, h => by
    have e : feedAll s (q :: cl) = feedAll (feedTo q.1.toNat q.2 s 64) cl := rfl
    have e2 := top_feedTo q.1.toNat q.2 s h 64
    rw [e, top_feedAll cl _ (by rw [e2]; omega), e2]
    simp only [tops]
    omega

/-- small sums -/
def capR (k : Int) : Int := if k ≤ 40 then 16 else if k = 41 then 8 else if k = 42 then 4 else if k = 43 then 2 else if k = 44 then 1 else 0
def bR (j : Int) : Int := if j ≤ 40 then 8 else 0
structure Bnd (next k : Int) (s : Ps) (c : Int) : Prop where
  k0 : 0 ≤ k
  top : s.top ≤ 45
  c0 : 0 ≤ c
  far : ∀ j, k + 2 ≤ j → ((s.rows j).length : Int) ≤ bR j
  nxt : ((s.rows (k + 1)).length : Int) ≤ bR (k + 1) + c
  cur : ((s.rows k).length : Int) + 2 * c ≤ capR k ∨ (((s.rows k).length : Int) ≤ 1 ∧ 2 * c ≤ capR k)
  nx : s.nx ≤ next + 16 * k + 2 * c
theorem Bnd.step {next k c : Int} {s : Ps} (h : Bnd next k s c) (h2 : 1 < (s.rows k).length) : Bnd next k (stepA k s) (c + 1) := by
  have er : ∀ j, (stepA k s).rows j = if j = k + 1 then s.rows (k + 1) ++ [s.nx + 1] else if j = k then (s.rows k).drop 3 ++ [s.nx] else s.rows j := fun j => by
    simp only [stepA, updr, setr]
    by_cases c1 : j = k + 1
    · subst c1
      rw [if_pos rfl, if_pos rfl, if_neg (show ¬ k + 1 = k by omega), if_neg (show ¬ k + 1 = k by omega)]
    · rw [if_neg c1, if_neg c1]
      by_cases c2 : j = k
      · subst c2; simp
      · rw [if_neg c2, if_neg c2, if_neg c2]
  have hk0 := h.k0
  have hc0 := h.c0
  have hcap : ((s.rows k).length : Int) + 2 * c ≤ capR k := by
    rcases h.cur with h | h
    · exact h
    · omega
  have hk43 : k ≤ 43 := by
    unfold capR at hcap
    rcases Int.lt_or_le 43 k with h3 | h3
    · rw [if_neg (by omega), if_neg (by omega), if_neg (by omega), if_neg (by omega)] at hcap
      split at hcap <;> omega
    · exact h3
  refine ⟨hk0, ?_, by omega, fun j hj => ?_, ?_, ?_, ?_⟩
  · have := h.top
    show max (max s.top (k + 1)) (k + 1 + 1) ≤ 45
    omega
  · rw [er, if_neg (by omega), if_neg (by omega)]; exact h.far j hj
  · rw [er, if_pos rfl, List.length_append, List.length_singleton]; have := h.nxt; omega
  · rw [er, if_neg (by omega), if_pos rfl, List.length_append, List.length_singleton, List.length_drop]
    by_cases h3 : 3 ≤ (s.rows k).length
    · left; omega
    · right; omega
  · have := h.nx
    show s.nx + 2 ≤ _
    omega
theorem Bnd.next {next k c : Int} {s : Ps} (h : Bnd next k s c) : Bnd next (k + 1) s 0 := by
  have hk0 := h.k0
  have hc0 := h.c0
  have hcap : 2 * c ≤ capR k := by
    rcases h.cur with h | h
    · omega
    · exact h.2
  have h16 : 2 * c ≤ 16 := by
    unfold capR at hcap
    split at hcap
    · omega
    · split at hcap
      · omega
      · split at hcap
        · omega
        · split at hcap
          · omega
          · split at hcap <;> omega
  refine ⟨by omega, h.top, Int.le_refl _, fun j hj => h.far j (by omega), by have := h.far (k + 1 + 1) (by omega); omega, .inl ?_, by have := h.nx; omega⟩
  have hn := h.nxt
  unfold bR at hn
  unfold capR at hcap ⊢
  by_cases e : k + 1 ≤ 40
  · rw [if_pos e] at hn ⊢; omega
  · rw [if_neg e] at hn ⊢
    by_cases e1 : k = 40
    · rw [if_pos (by omega)] at hcap; rw [if_pos (by omega)]; omega
    · rw [if_neg (by omega)] at hcap
      rw [if_neg (show ¬ k + 1 = 41 by omega)]
      by_cases e2 : k = 41
      · rw [if_pos e2] at hcap; rw [if_pos (by omega)]; omega
      · rw [if_neg e2] at hcap; rw [if_neg (show ¬ k + 1 = 42 by omega)]
        by_cases e3 : k = 42
        · rw [if_pos e3] at hcap; rw [if_pos (by omega)]; omega
        · rw [if_neg e3] at hcap; rw [if_neg (show ¬ k + 1 = 43 by omega)]
          by_cases e4 : k = 43
          · rw [if_pos e4] at hcap; rw [if_pos (by omega)]; omega
          · rw [if_neg e4] at hcap; rw [if_neg (show ¬ k + 1 = 44 by omega)]
            split at hcap <;> omega
theorem sumF_bnd (next : Int) : ∀ (f : Nat) (k c : Int) (s : Ps) (o : List Int) (r : List Int × List (List Int) × Int), Bnd next k s c → (o.length : Int) = k → k ≤ 45 → sumF f k s o = some r → r.1.length ≤ 45 ∧ r.2.2 ≤ next + 2000
  | 0, _, _, _, _, _, _, _, _, h => by simp [sumF] at h
  | f + 1, k, c, s, o, r, hb, ho, hk, h => by
    rw [sumF] at h
    by_cases h1 : k < s.top
    · rw [if_pos h1] at h
      by_cases h2 : 1 < (s.rows k).length
      · rw [if_pos h2] at h
        by_cases h3 : 65537 < s.nx + 2
        · rw [if_pos h3] at h; cases h
        · rw [if_neg h3] at h
          exact sumF_bnd next f k (c + 1) _ o r (hb.step h2) ho hk h
      · rw [if_neg h2] at h
        exact sumF_bnd next f (k + 1) 0 s _ r hb.next (by rw [List.length_append, List.length_singleton]; omega) (by have := hb.top; omega) h
    · rw [if_neg h1] at h
      injection h with h
      subst h
      refine ⟨by simp only; omega, ?_⟩
      have h4 := hb.nx
      have h5 := hb.next.nx
      simp only
      omega
theorem bit_41 {c : Int} (h : 0 ≤ c ∧ c ≤ 1099511627776) {j : Nat} (hj : 41 ≤ j) : c.toNat.testBit j = false :=
  Nat.testBit_lt_two_pow (Nat.lt_of_lt_of_le (by omega : c.toNat < 2 ^ 41) (Nat.pow_le_pow_right (by decide) hj))
theorem cntB_le (j : Int) : ∀ a, cntB j a ≤ a.length
  | [] => by simp [cntB]
  | q :: t => by simp only [cntB, List.length_cons]; have := cntB_le j t; cases bitAt j q <;> simp <;> omega
theorem cntB_zero (j : Int) (hj : 41 ≤ j) : ∀ a : List (Int × Int), (∀ q ∈ a, 0 ≤ q.1 ∧ q.1 ≤ 1099511627776) → cntB j a = 0
  | [], _ => rfl
  | q :: t, h => by
    simp only [cntB, bitAt]
    rw [cntB_zero j hj t (fun p hp => h p (by simp [hp])), bit_41 (h q (by simp)) (show 41 ≤ j.toNat by omega)]
    simp
theorem topTo_41 {c : Int} (h : 0 ≤ c ∧ c ≤ 1099511627776) : ∀ m, topTo c.toNat m ≤ 41
  | 0 => by simp [topTo]
  | m + 1 => by
    rw [topTo]
    have := topTo_41 h m
    split
    · rename_i hb
      rcases Nat.lt_or_ge m 41 with h1 | h1
      · omega
      · rw [bit_41 h h1] at hb; cases hb
    · exact this
theorem tops_41 : ∀ a : List (Int × Int), (∀ q ∈ a, 0 ≤ q.1 ∧ q.1 ≤ 1099511627776) → tops a ≤ 41
  | [], _ => by simp [tops]
  | q :: t, h => by
    simp only [tops]
    have := tops_41 t (fun p hp => h p (by simp [hp]))
    have := topTo_41 (h q (by simp)) 64
    omega
theorem sumP_small {coef l : List Int} {next : Int} {bits : List Int} {cs : List (List Int)} {after : Int} (h : sumP coef l next = .ok bits cs after) (hc : coef.length ≤ 8) : bits.length ≤ 45 ∧ after ≤ next + 2000 := by
  obtain ⟨hlen, hn1, hn2, hq, hr⟩ := sumP_ok h
  have hq' : ∀ q ∈ coef.zip l, 0 ≤ q.1 ∧ q.1 ≤ 1099511627776 := fun q hqm => ⟨(hq q hqm).1, (hq q hqm).2.1⟩
  have hz : (coef.zip l).length ≤ 8 := by rw [List.length_zip]; omega
  have hl : ∀ j, (((feedAll fd0 (coef.zip l)).1 j).length : Int) ≤ bR j := fun j => by
    rw [len_feedAll]
    unfold bR
    have h1 := cntB_le j (coef.zip l)
    split
    · simp [fd0]; omega
    · rw [cntB_zero j (by omega) _ hq']; simp [fd0]
  have ht : (feedAll fd0 (coef.zip l)).2 ≤ 45 := by
    rw [top_feedAll _ fd0 (by decide)]
    have := tops_41 _ hq'
    simp only [fd0]; omega
  have := sumF_bnd next fuel0 0 0 _ [] _ ⟨Int.le_refl _, ht, Int.le_refl _, fun j _ => hl j, by have := hl (0 + 1); simp only; omega, .inl (by have := hl 0; unfold bR at this; unfold capR; simp only; rw [if_pos (by omega)] at this ⊢; omega), by simp⟩ rfl (by omega) hr
  exact this

/-- the order of the terms -/
theorem sumF_same : ∀ (f : Nat) (k : Int) (s s' : Ps) (o o' : List Int), (∀ j, (s.rows j).length = (s'.rows j).length) → s.nx = s'.nx → s.top = s'.top → (sumF f k s o).map (·.2.2) = (sumF f k s' o').map (·.2.2)
  | 0, _, _, _, _, _, _, _, _ => rfl
  | f + 1, k, s, s', o, o', h, hn, ht => by
    simp only [sumF]
    rw [← h k, ← hn, ← ht]
    by_cases h1 : k < s.top
    · rw [if_pos h1, if_pos h1]
      by_cases h2 : 1 < (s.rows k).length
      · rw [if_pos h2, if_pos h2]
        by_cases h3 : 65537 < s.nx + 2
        · rw [if_pos h3, if_pos h3]
        · rw [if_neg h3, if_neg h3]
          refine sumF_same f k _ _ o o' (fun j => ?_) (by simp only [stepA, hn]) (by simp only [stepA, ht])
          have a := h j
          have b := h k
          have c := h (k + 1)
          simp only [stepA, updr, setr]
          by_cases c1 : j = k + 1
          · subst c1
            simp only [if_true, show ¬ k + 1 = k by omega, if_false, List.length_append, List.length_singleton]
            omega
          · by_cases c2 : j = k
            · subst c2
              simp only [c1, if_false, if_true, List.length_append, List.length_singleton, List.length_drop]
              omega
            · simp only [c1, c2, if_false]
              exact a
      · rw [if_neg h2, if_neg h2]
        exact sumF_same f (k + 1) s s' _ _ h hn ht
    · rw [if_neg h1, if_neg h1]
      simp [hn]
theorem zip_rev (coef l : List Int) (h : coef.length = l.length) : coef.reverse.zip l.reverse = (coef.zip l).reverse := by
  induction coef generalizing l with
  | nil => cases l with
    | nil => rfl
    | cons y l => simp at h
  | cons x coef ih =>
    cases l with
    | nil => simp at h
    | cons y l =>
      have h : coef.length = l.length := by simpa using h
      rw [List.reverse_cons, List.reverse_cons, List.zip_cons_cons, List.reverse_cons, ← ih l h]
      rw [List.zip_append (by simpa using h)]
      rfl
theorem sumP_rev (coef l : List Int) (next : Int) (h : coef.length = l.length) :
    (∀ e, sumP coef l next = .err e → sumP coef.reverse l.reverse next = .err e) ∧ ∀ bits cs after, sumP coef l next = .ok bits cs after → ∃ bits' cs', sumP coef.reverse l.reverse next = .ok bits' cs' after := by
  unfold sumP
  rw [List.length_reverse, List.length_reverse, zip_rev coef l h, List.all_reverse]
  by_cases h1 : next < 1 ∨ 65537 < next ∨ coef.length ≠ l.length
  · rw [if_pos h1, if_pos h1]; exact ⟨fun e he => he, fun _ _ _ he => by cases he⟩
  · rw [if_neg h1, if_neg h1]
    by_cases h2 : (coef.zip l).all (okAt next) = false
    · rw [if_pos h2, if_pos h2]; exact ⟨fun e he => he, fun _ _ _ he => by cases he⟩
    · rw [if_neg h2, if_neg h2]
      by_cases h3 : 4096 < l.length
      · rw [if_pos h3, if_pos h3]; exact ⟨fun e he => he, fun _ _ _ he => by cases he⟩
      · rw [if_neg h3, if_neg h3]
        have hs := sumF_same fuel0 0 { rows := (feedAll fd0 (coef.zip l)).1, cs := [], nx := next, top := (feedAll fd0 (coef.zip l)).2 } { rows := (feedAll fd0 (coef.zip l).reverse).1, cs := [], nx := next, top := (feedAll fd0 (coef.zip l).reverse).2 } [] []
          (fun j => by simp only; rw [len_feedAll, len_feedAll, cntB_rev]) rfl (by simp only; rw [top_feedAll _ fd0 (by decide), top_feedAll _ fd0 (by decide), tops_rev])
        generalize sumF fuel0 0 { rows := (feedAll fd0 (coef.zip l)).1, cs := [], nx := next, top := (feedAll fd0 (coef.zip l)).2 } [] = o1 at hs
        generalize sumF fuel0 0 { rows := (feedAll fd0 (coef.zip l).reverse).1, cs := [], nx := next, top := (feedAll fd0 (coef.zip l).reverse).2 } [] = o2 at hs
        cases o1 with
        | none =>
          cases o2 with
          | none => exact ⟨fun e he => he, fun _ _ _ he => by cases he⟩
          | some r => simp at hs
        | some r =>
          cases o2 with
          | none => simp at hs
          | some r2 =>
            simp at hs
            refine ⟨fun e he => (by cases he), fun bits cs after he => ?_⟩
            simp only at he
            injection he with e1 e2 e3
            exact ⟨r2.1, r2.2.1, by rw [← e3, hs]⟩
end Go.Proofs.YtogolfneckhnaaaDoor
