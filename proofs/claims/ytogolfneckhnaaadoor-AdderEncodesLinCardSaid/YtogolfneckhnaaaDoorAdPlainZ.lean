/- The plain law of AdderSize: the literals of a sum lie below after, each adder takes two variables and 7 or 14 clauses, and a sum without adders has at most one literal a bit. -/
import Derived.Test.YtogolfneckhnaaaDoorAdPlain2
namespace Go.Proofs.YtogolfneckhnaaaDoor

def LitOk (n x : Int) : Prop := x ≠ 0 ∧ -n < x ∧ x < n
theorem LitOk.mono {n m x : Int} (h : LitOk n x) (hm : n ≤ m) : LitOk m x := ⟨h.1, by have := h.2; omega, by have := h.2; omega⟩
theorem LitOk.neg {n x : Int} (h : LitOk n x) : LitOk n (-x) := ⟨by have := h.1; omega, by have := h.2; omega, by have := h.2; omega⟩
structure SzOk (next : Int) (s : Ps) : Prop where
  lo1 : 1 ≤ s.nx
  nx : next ≤ s.nx
  ev : (s.nx - next) % 2 = 0
  row : ∀ j, ∀ x ∈ s.rows j, LitOk s.nx x
  cls : ∀ c ∈ s.cs, ∀ x ∈ c, LitOk s.nx x
  lo : 7 * (s.nx - next) ≤ 2 * (s.cs.length : Int)
  hi : (s.cs.length : Int) ≤ 7 * (s.nx - next)

theorem addC_two (a b s c : Int) : addC [a, b] s c = [[a, b, -s], [-a, b, s], [a, -b, s], [-a, -b, -s], [-a, -b, c], [a, -c], [b, -c]] := by
  simp [addC, prs, cls1, negl, sgn, odd8, pop8, List.range_succ, Nat.testBit_succ]
theorem addC_three (a b d s c : Int) : addC [a, b, d] s c = [[a, b, d, -s], [-a, b, d, s], [a, -b, d, s], [-a, -b, d, -s], [a, b, -d, s], [-a, b, -d, -s], [a, -b, -d, -s], [-a, -b, -d, s],
    [-a, -b, c], [-a, -d, c], [-b, -d, c], [a, b, -c], [a, d, -c], [b, d, -c]] := by
  simp [addC, prs, cls1, negl, sgn, odd8, pop8, List.range_succ, Nat.testBit_succ]
theorem take_two_three (l : List Int) (h : 1 < l.length) : (∃ a b, l.take 3 = [a, b] ∧ l = [a, b]) ∨ ∃ a b c t, l.take 3 = [a, b, c] ∧ l = a :: b :: c :: t := by
  rcases l with _ | ⟨a, _ | ⟨b, _ | ⟨c, t⟩⟩⟩
  · simp at h
  · simp at h
  · exact .inl ⟨a, b, rfl, rfl⟩
  · exact .inr ⟨a, b, c, t, rfl, rfl⟩
theorem addC_ok (l : List Int) (n : Int) (hn : 1 ≤ n) (h : 1 < l.length) (hl : ∀ x ∈ l, LitOk n x) :
    (∀ c ∈ addC (l.take 3) n (n + 1), ∀ x ∈ c, LitOk (n + 2) x) ∧ 7 ≤ (addC (l.take 3) n (n + 1)).length ∧ (addC (l.take 3) n (n + 1)).length ≤ 14 := by
  have hs : LitOk (n + 2) n := ⟨by omega, by omega, by omega⟩
  have hc : LitOk (n + 2) (n + 1) := ⟨by omega, by omega, by omega⟩
  have hs' := hs.neg
  have hc' := hc.neg
  rcases take_two_three l h with ⟨a, b, e, el⟩ | ⟨a, b, d, t, e, el⟩
  · have ha : LitOk (n + 2) a := (hl a (by simp [el])).mono (by omega)
    have hb : LitOk (n + 2) b := (hl b (by simp [el])).mono (by omega)
    have ha' := ha.neg
    have hb' := hb.neg
    rw [e, addC_two]
    refine ⟨?_, by simp, by simp⟩
    simp only [List.mem_cons, List.not_mem_nil, or_false]
    rintro c (rfl | rfl | rfl | rfl | rfl | rfl | rfl) x hx <;> simp only [List.mem_cons, List.not_mem_nil, or_false] at hx
    all_goals (rcases hx with rfl | rfl | rfl <;> assumption) <;> (rcases hx with rfl | rfl <;> assumption)
  · have ha : LitOk (n + 2) a := (hl a (by simp [el])).mono (by omega)
    have hb : LitOk (n + 2) b := (hl b (by simp [el])).mono (by omega)
    have hd : LitOk (n + 2) d := (hl d (by simp [el])).mono (by omega)
    have ha' := ha.neg
    have hb' := hb.neg
    have hd' := hd.neg
    rw [e, addC_three]
    refine ⟨?_, by simp, by simp⟩
    simp only [List.mem_cons, List.not_mem_nil, or_false]
    rintro c (rfl | rfl | rfl | rfl | rfl | rfl | rfl | rfl | rfl | rfl | rfl | rfl | rfl | rfl) x hx <;> simp only [List.mem_cons, List.not_mem_nil, or_false] at hx
    all_goals first | (rcases hx with rfl | rfl | rfl | rfl <;> assumption) | (rcases hx with rfl | rfl | rfl <;> assumption)
theorem mem_updr {rows : Int → List Int} {k x j y : Int} (h : y ∈ updr rows k x j) : y ∈ rows j ∨ y = x := by
  unfold updr at h
  split at h
  · rename_i e
    subst e
    rcases List.mem_append.1 h with h | h
    · exact .inl h
    · exact .inr (by simpa using h)
  · exact .inl h
theorem mem_stepA {k : Int} {s : Ps} {j y : Int} (h : y ∈ (stepA k s).rows j) : (∃ i, y ∈ s.rows i) ∨ y = s.nx ∨ y = s.nx + 1 := by
  simp only [stepA] at h
  rcases mem_updr h with h | h
  · rcases mem_updr h with h | h
    · unfold setr at h
      split at h
      · exact .inl ⟨k, List.mem_of_mem_drop h⟩
      · exact .inl ⟨j, h⟩
    · exact .inr (.inl h)
  · exact .inr (.inr h)
theorem SzOk.step {next : Int} {s : Ps} (h : SzOk next s) (k : Int) (h2 : 1 < (s.rows k).length) : SzOk next (stepA k s) := by
  obtain ⟨a1, a2, a3⟩ := addC_ok (s.rows k) s.nx h.lo1 h2 (h.row k)
  have e1 : (stepA k s).nx = s.nx + 2 := rfl
  have e2 : (stepA k s).cs = s.cs ++ addC ((s.rows k).take 3) s.nx (s.nx + 1) := rfl
  have hlo := h.lo1
  refine ⟨by rw [e1]; omega, by rw [e1]; have := h.nx; omega, by rw [e1]; have := h.ev; omega, fun j x hx => ?_, fun c hc x hx => ?_, ?_, ?_⟩
  · rw [e1]
    rcases mem_stepA hx with ⟨i, hi⟩ | rfl | rfl
    · exact (h.row i x hi).mono (by omega)
    · exact ⟨by omega, by omega, by omega⟩
    · exact ⟨by omega, by omega, by omega⟩
  · rw [e1]
    rw [e2] at hc
    rcases List.mem_append.1 hc with hc | hc
    · exact (h.cls c hc x hx).mono (by omega)
    · exact a1 c hc x hx
  · rw [e1, e2, List.length_append]; have := h.lo; omega
  · rw [e1, e2, List.length_append]; have := h.hi; omega
theorem sumF_size (next : Int) : ∀ (f : Nat) (k : Int) (s : Ps) (o : List Int) (r : List Int × List (List Int) × Int), SzOk next s → (∀ b ∈ o, b = 0 ∨ LitOk s.nx b) → sumF f k s o = some r →
    s.nx ≤ r.2.2 ∧ (∀ b ∈ r.1, b = 0 ∨ LitOk r.2.2 b) ∧ SzOk next { rows := fun _ => [], cs := r.2.1, nx := r.2.2, top := 0 }
  | 0, _, _, _, _, _, _, h => by simp [sumF] at h
  | f + 1, k, s, o, r, hs, ho, h => by
    rw [sumF] at h
    by_cases h1 : k < s.top
    · rw [if_pos h1] at h
      by_cases h2 : 1 < (s.rows k).length
      · rw [if_pos h2] at h
        by_cases h3 : 65537 < s.nx + 2
        · rw [if_pos h3] at h; cases h
        · rw [if_neg h3] at h
          have e1 : (stepA k s).nx = s.nx + 2 := rfl
          obtain ⟨b1, b2⟩ := sumF_size next f k _ o r (hs.step k h2) (fun b hb => (ho b hb).imp id (fun h => h.mono (by rw [e1]; omega))) h
          exact ⟨by rw [e1] at b1; omega, b2⟩
      · rw [if_neg h2] at h
        refine sumF_size next f (k + 1) s _ r hs (fun b hb => ?_) h
        rcases List.mem_append.1 hb with hb | hb
        · exact ho b hb
        · rw [List.mem_singleton] at hb
          subst hb
          rcases hr : s.rows k with _ | ⟨y, t⟩
          · exact .inl rfl
          · exact .inr (hs.row k y (by simp [hr]))
    · rw [if_neg h1] at h
      injection h with h
      subst h
      exact ⟨Int.le_refl _, ho, ⟨hs.lo1, hs.nx, hs.ev, fun j x hx => by simp at hx, hs.cls, hs.lo, hs.hi⟩⟩
theorem sumF_grow : ∀ (f : Nat) (k : Int) (s : Ps) (o : List Int) (r : List Int × List (List Int) × Int), sumF f k s o = some r → s.nx ≤ r.2.2
  | 0, _, _, _, _, h => by simp [sumF] at h
  | f + 1, k, s, o, r, h => by
    rw [sumF] at h
    by_cases h1 : k < s.top
    · rw [if_pos h1] at h
      by_cases h2 : 1 < (s.rows k).length
      · rw [if_pos h2] at h
        by_cases h3 : 65537 < s.nx + 2
        · rw [if_pos h3] at h; cases h
        · rw [if_neg h3] at h
          have := sumF_grow f k _ o r h
          have e1 : (stepA k s).nx = s.nx + 2 := rfl
          omega
      · rw [if_neg h2] at h
        exact sumF_grow f (k + 1) s _ r h
    · rw [if_neg h1] at h
      injection h with h
      subst h
      exact Int.le_refl _
/-- without an adder -/
theorem sumF_bare : ∀ (f : Nat) (k : Int) (s : Ps) (o : List Int) (r : List Int × List (List Int) × Int), sumF f k s o = some r → r.2.2 = s.nx →
    (r.1.length = o.length + (s.top - k).toNat) ∧ ∀ j, k ≤ j → j < s.top → (s.rows j).length ≤ 1
  | 0, _, _, _, _, h, _ => by simp [sumF] at h
  | f + 1, k, s, o, r, h, hn => by
    rw [sumF] at h
    by_cases h1 : k < s.top
    · rw [if_pos h1] at h
      by_cases h2 : 1 < (s.rows k).length
      · rw [if_pos h2] at h
        by_cases h3 : 65537 < s.nx + 2
        · rw [if_pos h3] at h; cases h
        · rw [if_neg h3] at h
          have := sumF_grow f k _ o r h
          have e1 : (stepA k s).nx = s.nx + 2 := rfl
          omega
      · rw [if_neg h2] at h
        obtain ⟨b1, b2⟩ := sumF_bare f (k + 1) s _ r h hn
        rw [List.length_append, List.length_singleton] at b1
        refine ⟨by omega, fun j hj hj' => ?_⟩
        by_cases e : j = k
        · subst e; omega
        · exact b2 j (by omega) hj'
    · rw [if_neg h1] at h
      injection h with h
      subst h
      exact ⟨by simp only; omega, fun j hj hj' => by omega⟩

/-- how many bits are set -/
def popTo (n j : Nat) : Nat := ((List.range j).filter n.testBit).length
theorem popTo_succ (n j : Nat) : popTo n (j + 1) = popTo n j + if n.testBit j then 1 else 0 := by
  unfold popTo
  rw [List.range_succ, List.filter_append, List.length_append]
  congr 1
  by_cases h : n.testBit j = true <;> simp [h]
def totR (rows : Int → List Int) (m : Nat) : Nat := ((List.range m).map fun k : Nat => (rows (k : Int)).length).sum
theorem totR_succ (rows : Int → List Int) (m : Nat) : totR rows (m + 1) = totR rows m + (rows (m : Int)).length := by
  unfold totR
  rw [List.range_succ, List.map_append, List.sum_append]
  simp
theorem totR_updr (rows : Int → List Int) (k : Nat) (x : Int) : ∀ m, totR (updr rows k x) m = totR rows m + if k < m then 1 else 0
  | 0 => by simp [totR]
  | m + 1 => by
    rw [totR_succ, totR_succ, totR_updr rows k x m]
    by_cases h : m = k
    · subst h
      simp [updr]
      omega
    · have e : updr rows (k : Int) x (m : Int) = rows (m : Int) := by unfold updr; rw [if_neg (by omega)]
      rw [e]
      by_cases h2 : k < m
      · rw [if_pos h2, if_pos (by omega)]; omega
      · rw [if_neg h2, if_neg (by omega)]; omega
theorem totR_feedTo (n : Nat) (x : Int) (s : Fd) : ∀ j, j ≤ 64 → totR (feedTo n x s j).1 64 = totR s.1 64 + popTo n j
  | 0, _ => by simp [feedTo, popTo]
  | j + 1, hj => by
    rw [feedTo_succ, popTo_succ]
    split
    · simp only [feed1]
      rw [totR_updr, totR_feedTo n x s j (by omega), if_pos (by omega)]
      omega
    · rw [totR_feedTo n x s j (by omega)]
      omega
theorem totR_feedAll : ∀ (cl : List (Int × Int)) (s : Fd), totR (feedAll s cl).1 64 = totR s.1 64 + (cl.map fun q => popTo q.1.toNat 64).sum
  | [], s => by simp [feedAll]
  | q :: cl, s => by
    have e : feedAll s (q :: cl) = feedAll (feedTo q.1.toNat q.2 s 64) cl := rfl
    rw [e, totR_feedAll cl, totR_feedTo _ _ _ 64 (Nat.le_refl _)]
    simp
    omega
def EmptyAbove (s : Fd) : Prop := ∀ j, s.2 ≤ j → s.1 j = []
theorem EmptyAbove.feedTo {s : Fd} (h : EmptyAbove s) (n : Nat) (x : Int) : ∀ j, EmptyAbove (feedTo n x s j)
  | 0 => h
  | j + 1 => by
    rw [feedTo_succ]
    have ih := EmptyAbove.feedTo h n x j
    split
    · intro i hi
      simp only [feed1] at hi ⊢
      unfold updr
      rw [if_neg (by omega)]
      exact ih i (by omega)
    · exact ih
theorem EmptyAbove.all : ∀ (cl : List (Int × Int)) (s : Fd), EmptyAbove s → EmptyAbove (feedAll s cl)
  | [], _, h => h
  | q :: cl, _, h => EmptyAbove.all cl _ (h.feedTo q.1.toNat q.2 64)
theorem totR_le (rows : Int → List Int) (m : Nat) : ∀ t, (∀ j : Nat, j < t → j < m → (rows j).length ≤ 1) → (∀ j : Nat, m ≤ j → rows j = []) → totR rows t ≤ m
  | 0, _, _ => by simp [totR]
  | t + 1, h1, h2 => by
    rw [totR_succ]
    by_cases h : t < m
    · have a := h1 t (by omega) h
      have b : totR rows t ≤ t := by
        have : ∀ u, u ≤ t → totR rows u ≤ u := fun u => by
          induction u with
          | zero => intro _; simp [totR]
          | succ u ih => intro hu; rw [totR_succ]; have := h1 u (by omega) (by omega); have := ih (by omega); omega
        exact this t (Nat.le_refl _)
      omega
    · rw [h2 t (by omega)]
      have := totR_le rows m t (fun j hj => h1 j (by omega)) h2
      simpa using this

/-- the law -/
theorem sumP_size {coef l : List Int} {next : Int} {bits : List Int} {cs : List (List Int)} {after : Int} (h : sumP coef l next = .ok bits cs after) :
    coef.length = l.length ∧ (∀ c ∈ coef, 0 ≤ c ∧ c ≤ 1099511627776) ∧ next ≤ after ∧ after ≤ 65537 ∧ 1 ≤ next ∧ (after - next) % 2 = 0 ∧ 7 * (after - next) ≤ 2 * (cs.length : Int) ∧ (cs.length : Int) ≤ 7 * (after - next) ∧ (∀ b ∈ bits, b = 0 ∨ LitOk after b) ∧ (∀ c ∈ cs, ∀ x ∈ c, LitOk after x) ∧
      ((coef.map fun c => popTo c.toNat 64).sum ≤ bits.length ∨ 0 < after - next) := by
  unfold sumP at h
  split at h
  · cases h
  · split at h
    · cases h
    · split at h
      · cases h
      · rename_i h1 h2 h3
        generalize hr : sumF fuel0 0 { rows := (feedAll fd0 (coef.zip l)).1, cs := [], nx := next, top := (feedAll fd0 (coef.zip l)).2 } [] = o at h
        cases o with
        | none => cases h
        | some r =>
          simp only at h
          injection h with e1 e2 e3
          subst e1 e2 e3
          have hall : ∀ q ∈ coef.zip l, okAt next q = true := by simpa using h2
          have hlen : coef.length = l.length := by omega
          have hcoef : ∀ c ∈ coef, 0 ≤ c ∧ c ≤ 1099511627776 := fun c hc => by
            obtain ⟨i, hi, rfl⟩ := List.mem_iff_getElem.1 hc
            have := hall ((coef.zip l)[i]'(by rw [List.length_zip]; omega)) (List.getElem_mem _)
            rw [List.getElem_zip] at this
            simp [okAt] at this
            omega
          have hlit : ∀ q ∈ coef.zip l, LitOk next q.2 := fun q hq => by
            have := hall q hq
            simp [okAt] at this
            exact ⟨this.1.1.2, this.2, this.1.2⟩
          have hrow : ∀ (cl : List (Int × Int)) (s : Fd), (∀ j, ∀ x ∈ s.1 j, LitOk next x) → (∀ q ∈ cl, LitOk next q.2) → ∀ j, ∀ x ∈ (feedAll s cl).1 j, LitOk next x := by
            intro cl
            induction cl with
            | nil => intro s hs _; exact hs
            | cons q cl ih =>
              intro s hs hq
              have e : feedAll s (q :: cl) = feedAll (feedTo q.1.toNat q.2 s 64) cl := rfl
              rw [e]
              refine ih _ ?_ (fun p hp => hq p (by simp [hp]))
              have : ∀ t, ∀ j, ∀ x ∈ (feedTo q.1.toNat q.2 s t).1 j, LitOk next x := fun t => by
                induction t with
                | zero => exact hs
                | succ t ih2 =>
                  rw [feedTo_succ]
                  split
                  · intro j x hx
                    simp only [feed1] at hx
                    rcases mem_updr hx with hx | rfl
                    · exact ih2 j x hx
                    · exact hq q (by simp)
                  · exact ih2
              exact this 64
          have hs0 : SzOk next { rows := (feedAll fd0 (coef.zip l)).1, cs := [], nx := next, top := (feedAll fd0 (coef.zip l)).2 } :=
            ⟨by simp only; omega, by simp, by simp, hrow _ fd0 (fun j x hx => by simp [fd0] at hx) hlit, fun c hc => by simp at hc, by simp, by simp⟩
          obtain ⟨b1, b2, b3⟩ := sumF_size next fuel0 0 _ [] r hs0 (fun b hb => by simp at hb) hr
          have hhi : ∀ (f : Nat) (k : Int) (s : Ps) (o : List Int), s.nx ≤ 65537 → sumF f k s o = some r → r.2.2 ≤ 65537 := by
            intro f
            induction f with
            | zero => intro k s o _ h; simp [sumF] at h
            | succ f ih =>
              intro k s o hs h
              rw [sumF] at h
              split at h
              · split at h
                · split at h
                  · cases h
                  · exact ih k _ o (by simp only [stepA]; omega) h
                · exact ih _ _ _ hs h
              · injection h with h; subst h; exact hs
          refine ⟨hlen, hcoef, b1, hhi _ _ _ _ (by simp only; omega) hr, by omega, b3.ev, b3.lo, b3.hi, b2, b3.cls, ?_⟩
          by_cases hz : r.2.2 = next
          · left
            obtain ⟨c1, c2⟩ := sumF_bare fuel0 0 _ [] r hr hz
            have ok64 := (FeedOk.all (coef.zip l) fd0 0 FeedOk.zero).2
            have hem := EmptyAbove.all (coef.zip l) fd0 (fun _ _ => rfl)
            have ht := totR_feedAll (coef.zip l) fd0
            have h0 : totR fd0.1 64 = 0 := by decide
            have hm : ((coef.zip l).map fun q => popTo q.1.toNat 64) = coef.map fun c => popTo c.toNat 64 := by
              have := congrArg (List.map fun c : Int => popTo c.toNat 64) (List.map_fst_zip (l₁ := coef) (l₂ := l) (by omega))
              rw [← this, List.map_map]
              rfl
            rw [h0, hm] at ht
            generalize hT : (feedAll fd0 (coef.zip l)).2 = T at *
            simp only [List.length_nil] at c1
            have := totR_le (feedAll fd0 (coef.zip l)).1 T.toNat 64 (fun j _ hj' => c2 j (by omega) (by simp only; omega)) (fun j hj => hem j (by omega))
            omega
          · right
            have : next ≤ r.2.2 := b1
            omega
end Go.Proofs.YtogolfneckhnaaaDoor
