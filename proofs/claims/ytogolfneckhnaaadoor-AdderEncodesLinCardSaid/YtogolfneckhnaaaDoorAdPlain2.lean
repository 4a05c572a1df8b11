/- Plain lemmas on the adder's queues and on its run. -/
import Derived.Test.YtogolfneckhnaaaDoorAdPlain
namespace Go.Proofs.YtogolfneckhnaaaDoor

theorem trunc_bit (c j k : Nat) : (c / 2 ^ j * 2 ^ j).testBit k = (decide (j ≤ k) && c.testBit k) := by
  rw [Nat.testBit_mul_two_pow]
  by_cases h : j ≤ k
  · rw [Nat.testBit_div_two_pow, show k - j + j = k by omega]
  · simp [h]
theorem feed_step (c j n t m : Nat) (hn : n = c / 2 ^ j * 2 ^ j) (hnt : n = 2 ^ t * (2 * m + 1)) :
    j ≤ t ∧ c.testBit t = true ∧ (∀ k, j ≤ k → k < t → c.testBit k = false) ∧ n &&& (n - 1) = c / 2 ^ (t + 1) * 2 ^ (t + 1) := by
  obtain ⟨h1, h2, h3⟩ := low_spec n t m hnt
  have hb : ∀ k, n.testBit k = (decide (j ≤ k) && c.testBit k) := fun k => by rw [hn, trunc_bit]
  have hjt : j ≤ t := by
    have := hb t
    rw [h2] at this
    simp at this
    exact this.1
  refine ⟨hjt, ?_, fun k hk hk' => ?_, ?_⟩
  · have := hb t
    rw [h2] at this
    simp at this
    exact this.2
  · have := hb k
    rw [h3 k hk'] at this
    simpa [hk] using this.symm
  · rw [h1]
    apply Nat.eq_of_testBit_eq
    intro k
    rw [trunc_bit, Nat.mul_comm, Nat.testBit_mul_two_pow]
    by_cases hk : t + 1 ≤ k
    · have h4 := hb k
      rw [hnt, Nat.mul_comm, Nat.testBit_mul_two_pow] at h4
      obtain ⟨d, rfl⟩ : ∃ d, k = t + 1 + d := ⟨k - (t + 1), by omega⟩
      rw [show t + 1 + d - t = d + 1 by omega, Nat.testBit_succ, show (2 * m + 1) / 2 = m by omega] at h4
      rw [show t + 1 + d - (t + 1) = d by omega]
      have h5 : t ≤ t + 1 + d := by omega
      have h6 : j ≤ t + 1 + d := by omega
      simp only [h5, h6, decide_true, Bool.true_and] at h4
      simp [h4]
    · simp [hk]
theorem feed_end (c j : Nat) (x : Int) (s : Fd) (hj : j ≤ 64) (h : c / 2 ^ j * 2 ^ j = 0) : feedTo c x s 64 = feedTo c x s j :=
  feedTo_skip c x s j 64 hj (fun k hk _ => by
    have := trunc_bit c j k
    rw [h] at this
    simpa [hk] using this.symm)
def FeedOk (s : Fd) (n : Nat) : Prop := (∀ j, (s.1 j).length ≤ n) ∧ 0 ≤ s.2 ∧ s.2 ≤ 64
theorem FeedOk.feed1 {s : Fd} {n : Nat} (h : FeedOk s n) (x : Int) {k : Nat} (hk : k < 64) : FeedOk (feed1 s x k) (n + 1) := by
  obtain ⟨h1, h2, h3⟩ := h
  refine ⟨fun j => ?_, ?_, ?_⟩
  · simp only [Go.Proofs.YtogolfneckhnaaaDoor.feed1, updr]
    split
    · rw [List.length_append]; have := h1 k; simp; omega
    · have := h1 j; omega
  · simp only [Go.Proofs.YtogolfneckhnaaaDoor.feed1]; omega
  · simp only [Go.Proofs.YtogolfneckhnaaaDoor.feed1]; omega
theorem FeedOk.mono {s : Fd} {n n' : Nat} (h : FeedOk s n) (hn : n ≤ n') : FeedOk s n' := ⟨fun j => Nat.le_trans (h.1 j) hn, h.2⟩
theorem FeedOk.feedTo {s : Fd} {n : Nat} (h : FeedOk s n) (c : Nat) (x : Int) : ∀ (j : Nat), j ≤ 64 → FeedOk (feedTo c x s j) (n + j)
  | 0, _ => h
  | j + 1, hj => by
    rw [feedTo_succ]
    have ih := FeedOk.feedTo h c x j (by omega)
    split
    · exact ih.feed1 x (by omega)
    · exact ih.mono (by omega)
theorem FeedOk.all : ∀ (cl : List (Int × Int)) (s : Fd) (n : Nat), FeedOk s n → FeedOk (feedAll s cl) (n + 64 * cl.length)
  | [], _, _, h => h
  | q :: cl, s, n, h => by
    have := FeedOk.all cl _ _ (h.feedTo q.1.toNat q.2 64 (Nat.le_refl _))
    simp only [feedAll, List.foldl_cons, List.length_cons] at this ⊢
    exact this.mono (by omega)
theorem FeedOk.zero : FeedOk fd0 0 := ⟨fun _ => Nat.le_refl _, by decide, by decide⟩
def ext (o : List Int) (rows : Int → List Int) : Int → List Int := fun j => if j = -1 then o else rows j
theorem ext_at (o : List Int) (rows : Int → List Int) (k : Int) (hk : 0 ≤ k) : ext o rows k = rows k := by unfold ext; rw [if_neg (by omega)]
theorem ext_updr (o : List Int) (rows : Int → List Int) (k x : Int) (hk : 0 ≤ k) : updr (ext o rows) k x = ext o (updr rows k x) := by
  funext j
  simp only [updr, ext]
  by_cases h : j = k
  · subst h; rw [if_pos rfl, if_neg (by omega), if_neg (by omega), if_pos rfl]
  · rw [if_neg h, if_neg h]
theorem ext_set (o : List Int) (rows : Int → List Int) (k : Int) (zs : List Int) (hk : 0 ≤ k) : (fun j => if j = k then zs else ext o rows j) = ext o (setr rows k zs) := by
  funext j
  simp only [setr, ext]
  by_cases h : j = k
  · subst h; rw [if_pos rfl, if_neg (by omega), if_pos rfl]
  · rw [if_neg h, if_neg h]
theorem ext_push (o zs : List Int) (rows : Int → List Int) : (fun j => if j = -1 then zs else ext o rows j) = ext zs rows := by
  funext j
  simp only [ext]
  split <;> rfl
theorem feedAll_neg : ∀ (cl : List (Int × Int)) (s : Fd), s.1 (-1) = [] → (feedAll s cl).1 (-1) = []
  | [], _, h => h
  | q :: cl, s, h => by
    have h1 : ∀ j, (feedTo q.1.toNat q.2 s j).1 (-1) = [] := fun j => by
      induction j with
      | zero => exact h
      | succ j ih =>
        rw [feedTo_succ]
        split
        · simp only [feed1, updr]
          rw [if_neg (by omega)]
          exact ih
        · exact ih
    simpa [feedAll] using feedAll_neg cl _ (h1 64)
theorem ext_nil (rows : Int → List Int) (h : rows (-1) = []) : ext [] rows = rows := by
  funext j
  simp only [ext]
  split
  · rename_i hj; rw [hj, h]
  · rfl

structure PsOk (next : Int) (s : Ps) : Prop where
  lo : 1 ≤ next
  nx : next ≤ s.nx
  hi : s.nx ≤ 65537
  len : ∀ j, ((s.rows j).length : Int) ≤ 262144 + (s.nx - next)
  cl : (s.cs.length : Int) ≤ 100 * (s.nx - next)
  top0 : 0 ≤ s.top
  top : s.top ≤ 64 + (s.nx - next)
  lit : ∀ j, ∀ x ∈ s.rows j, -70000 ≤ x ∧ x ≤ 70000

theorem addC_len (l : List Int) (s c : Int) (h : l.length ≤ 3) : (addC l s c).length ≤ 30 := by
  have hp : (prs l l.length).length ≤ 9 := by
    have : ∀ i, (prs l i).length ≤ i * l.length := fun i => by
      induction i with
      | zero => simp [prs]
      | succ i ih =>
        have e : prs l (i + 1) = prs l i ++ (l.drop (i + 1)).map fun y => (l.getD i 0, y) := by simp [prs, List.range_succ]
        rw [e, List.length_append, List.length_map, List.length_drop, Nat.add_mul]; omega
    have h2 := this l.length
    have h3 : l.length * l.length ≤ 3 * 3 := Nat.mul_le_mul h h
    omega
  have h8 : 2 ^ l.length ≤ 8 := Nat.le_trans (Nat.pow_le_pow_right (by decide) h) (by decide)
  unfold addC
  simp only [List.length_append, List.length_map, List.length_range]
  split
  · simp; omega
  · simp only [List.length_map]; omega
theorem PsOk.step {next : Int} {s : Ps} (h : PsOk next s) (k : Int) (_hk : 0 ≤ k) (hkt : k < s.top) (hn : s.nx + 2 ≤ 65537) : PsOk next (stepA k s) := by
  have hnx := h.nx
  refine ⟨h.lo, by simp only [stepA]; omega, by simp only [stepA]; omega, fun j => ?_, ?_, ?_, ?_, fun j x hx => ?_⟩
  · simp only [stepA, updr, setr]
    have h1 := h.len j
    have h2 := h.len k
    have h3 := h.len (k + 1)
    by_cases hj : j = k + 1
    · subst hj
      have e : ¬ k + 1 = k := by omega
      simp only [if_true, e, if_false, List.length_append, List.length_singleton]
      omega
    · by_cases hj' : j = k
      · subst hj'
        simp only [hj, if_false, if_true, List.length_append, List.length_singleton, List.length_drop]
        omega
      · simp only [hj, hj', if_false]
        omega
  · simp only [stepA, List.length_append]
    have := addC_len ((s.rows k).take 3) s.nx (s.nx + 1) (by simp; omega)
    have := h.cl
    omega
  · simp only [stepA]; have := h.top0; omega
  · simp only [stepA]; have := h.top; omega
  · simp only [stepA, updr, setr] at hx
    have hl := h.lo
    have hhi := h.hi
    by_cases hj : j = k + 1
    · subst hj
      have e : ¬ k + 1 = k := by omega
      simp only [if_true, e, if_false, List.mem_append, List.mem_singleton] at hx
      rcases hx with hx | hx
      · exact h.lit _ x hx
      · omega
    · by_cases hj' : j = k
      · subst hj'
        simp only [hj, if_false, if_true, List.mem_append, List.mem_singleton] at hx
        rcases hx with hx | hx
        · exact h.lit _ x (List.mem_of_mem_drop hx)
        · omega
      · simp only [hj, hj', if_false] at hx
        exact h.lit _ x hx
theorem sumF_add {f : Nat} {k : Int} {s : Ps} {o : List Int} (h1 : k < s.top) (h2 : 1 < (s.rows k).length) (h3 : s.nx + 2 ≤ 65537) : sumF (f + 1) k s o = sumF f k (stepA k s) o := by
  rw [sumF, if_pos h1, if_pos h2, if_neg (by omega)]
theorem sumF_full {f : Nat} {k : Int} {s : Ps} {o : List Int} (h1 : k < s.top) (h2 : 1 < (s.rows k).length) (h3 : 65537 < s.nx + 2) : sumF (f + 1) k s o = none := by
  rw [sumF, if_pos h1, if_pos h2, if_pos h3]
theorem sumF_next {f : Nat} {k : Int} {s : Ps} {o : List Int} (h1 : k < s.top) (h2 : ¬ 1 < (s.rows k).length) : sumF (f + 1) k s o = sumF f (k + 1) s (o ++ [(s.rows k).headD 0]) := by
  rw [sumF, if_pos h1, if_neg h2]
theorem sumF_end {f : Nat} {k : Int} {s : Ps} {o : List Int} (h1 : ¬ k < s.top) : sumF (f + 1) k s o = some (o, s.cs, s.nx) := by
  rw [sumF, if_neg h1]
theorem feed_lit : ∀ (cl : List (Int × Int)) (s : Fd) (M : Int), (∀ j, ∀ x ∈ s.1 j, -M ≤ x ∧ x ≤ M) → (∀ q ∈ cl, -M ≤ q.2 ∧ q.2 ≤ M) → ∀ j, ∀ x ∈ (feedAll s cl).1 j, -M ≤ x ∧ x ≤ M
  | [], _, _, h, _ => h
  | q :: cl, s, M, h, hq => by
    have h1 : ∀ t, ∀ j, ∀ x ∈ (feedTo q.1.toNat q.2 s t).1 j, -M ≤ x ∧ x ≤ M := fun t => by
      induction t with
      | zero => exact h
      | succ t ih =>
        rw [feedTo_succ]
        split
        · intro j x hx
          simp only [feed1, updr] at hx
          split at hx
          · rcases List.mem_append.1 hx with hx | hx
            · exact ih _ x hx
            · rw [List.mem_singleton] at hx; rw [hx]; exact hq q (by simp)
          · exact ih _ x hx
        · exact ih
    have := feed_lit cl _ M (h1 64) (fun q' hq' => hq q' (by simp [hq']))
    simpa [feedAll] using this
end Go.Proofs.YtogolfneckhnaaaDoor
