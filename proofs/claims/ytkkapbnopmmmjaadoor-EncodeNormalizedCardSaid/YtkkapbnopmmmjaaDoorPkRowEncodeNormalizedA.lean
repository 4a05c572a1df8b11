/- Lemmas and contracts for the row. -/
set_option linter.unusedVariables false
set_option linter.unusedSimpArgs false
set_option linter.unnecessarySimpa false
namespace Go.Proofs.YtkkapbnopmmmjaaDoor
def prs (l : List Int) (i : Nat) : List (Int × Int) := (List.range i).flatMap fun a => (l.drop (a + 1)).map fun y => (l.getD a 0, y)
def sgn (n i : Nat) (x : Int) : Int := if n.testBit i then -x else x
def negl (l : List Int) (n k : Nat) : List Int := l.mapIdx fun i x => if i < k then sgn n i x else x
def pop8 (n : Nat) : Nat := [0, 1, 1, 2, 1, 2, 2, 3].getD n 0
def odd8 (n : Nat) : Bool := pop8 n % 2 == 1
def cls1 (l : List Int) (s : Int) (n : Nat) : List Int := negl l n l.length ++ [if odd8 n then s else -s]
def addC (l : List Int) (s c : Int) : List (List Int) :=
  (List.range (2 ^ l.length)).map (cls1 l s) ++ (prs l l.length).map (fun q => [-q.1, -q.2, c]) ++
    if l.length = 2 then [[l.getD 0 0, -c], [l.getD 1 0, -c]] else (prs l l.length).map (fun q => [q.1, q.2, -c])
def updr (rows : Int → List Int) (k x : Int) : Int → List Int := fun j => if j = k then rows k ++ [x] else rows j
def setr (rows : Int → List Int) (k : Int) (l : List Int) : Int → List Int := fun j => if j = k then l else rows j
abbrev Fd := (Int → List Int) × Int
def feed1 (s : Fd) (x : Int) (k : Nat) : Fd := (updr s.1 k x, max s.2 (k + 1))
def feedTo (n : Nat) (x : Int) (s : Fd) (j : Nat) : Fd := (List.range j).foldl (fun s k => if n.testBit k then feed1 s x k else s) s
def feedAll (s : Fd) (cl : List (Int × Int)) : Fd := cl.foldl (fun s q => feedTo q.1.toNat q.2 s 64) s
def fd0 : Fd := (fun _ => [], 0)
theorem feedTo_succ (n : Nat) (x : Int) (s : Fd) (j : Nat) : feedTo n x s (j + 1) = if n.testBit j then feed1 (feedTo n x s j) x j else feedTo n x s j := by
  simp [feedTo, List.range_succ]
theorem feedTo_skip (n : Nat) (x : Int) (s : Fd) (j t : Nat) (hjt : j ≤ t) (h : ∀ k, j ≤ k → k < t → n.testBit k = false) : feedTo n x s t = feedTo n x s j := by
  induction t with
  | zero => have : j = 0 := by omega
            subst this; rfl
  | succ t ih =>
    by_cases e : j = t + 1
    · subst e; rfl
    · rw [feedTo_succ, h t (by omega) (by omega), if_neg (by simp), ih (by omega) (fun k hk hk' => h k hk (by omega))]
theorem feedAll_snoc (s : Fd) (cl : List (Int × Int)) (q : Int × Int) : feedAll s (cl ++ [q]) = feedTo q.1.toNat q.2 (feedAll s cl) 64 := by simp [feedAll]
structure Ps where
  rows : Int → List Int
  cs : List (List Int)
  nx : Int
  top : Int
def stepA (k : Int) (s : Ps) : Ps :=
  { rows := updr (updr (setr s.rows k ((s.rows k).drop 3)) k s.nx) (k + 1) (s.nx + 1), cs := s.cs ++ addC ((s.rows k).take 3) s.nx (s.nx + 1), nx := s.nx + 2, top := max (max s.top (k + 1)) (k + 1 + 1) }
def sumF : Nat → Int → Ps → List Int → Option (List Int × List (List Int) × Int)
  | 0, _, _, _ => none
  | f + 1, k, s, out =>
    if k < s.top then
      if 1 < (s.rows k).length then
        if 65537 < s.nx + 2 then none else sumF f k (stepA k s) out
      else sumF f (k + 1) s (out ++ [(s.rows k).headD 0])
    else some (out, s.cs, s.nx)
def fuel0 : Nat := 300000
def okAt (next : Int) (q : Int × Int) : Bool := decide (0 ≤ q.1) && decide (q.1 ≤ 1099511627776) && decide (q.2 ≠ 0) && decide (q.2 < next) && decide (-next < q.2)
inductive SumR where
  | err (e : Int)
  | ok (bits : List Int) (cs : List (List Int)) (after : Int)
def sumP (coef l : List Int) (next : Int) : SumR :=
  if next < 1 ∨ 65537 < next ∨ coef.length ≠ l.length then .err 1
  else if (coef.zip l).all (okAt next) = false then .err 1
  else if 4096 < l.length then .err 2
  else match sumF fuel0 0 { rows := (feedAll fd0 (coef.zip l)).1, cs := [], nx := next, top := (feedAll fd0 (coef.zip l)).2 } [] with
    | none => .err 2
    | some r => .ok r.1 r.2.1 r.2.2
theorem low_spec (n : Nat) : ∀ (t m : Nat), n = 2 ^ t * (2 * m + 1) → n &&& (n - 1) = 2 ^ (t + 1) * m ∧ n.testBit t = true ∧ ∀ k, k < t → n.testBit k = false := by
  intro t m hn
  have hb : ∀ k, n.testBit k = (decide (t ≤ k) && (2 * m + 1).testBit (k - t)) := fun k => by rw [hn, Nat.mul_comm, Nat.testBit_mul_two_pow]
  have hp : 0 < 2 ^ t := Nat.two_pow_pos t
  refine ⟨?_, ?_, fun k hk => ?_⟩
  · have e1 : n - 1 = 2 ^ (t + 1) * m + (2 ^ t - 1) := by
      rw [hn, Nat.pow_succ, Nat.mul_add, Nat.mul_assoc]
      omega
    apply Nat.eq_of_testBit_eq
    intro k
    rw [Nat.testBit_and, hb k, e1, Nat.mul_comm (2 ^ (t + 1)) m]
    have e2 : (m * 2 ^ (t + 1) + (2 ^ t - 1)).testBit k = if k < t + 1 then (2 ^ t - 1).testBit k else m.testBit (k - (t + 1)) := by
      rw [Nat.mul_comm]
      exact Nat.testBit_two_pow_mul_add m (by rw [Nat.pow_succ]; omega) k
    rw [e2, Nat.testBit_mul_two_pow, Nat.testBit_two_pow_sub_one]
    by_cases hk : k < t + 1
    · rw [if_pos hk]
      by_cases hkt : k < t
      · have : ¬ t ≤ k := by omega
        have h3 : ¬ t + 1 ≤ k := by omega
        simp [this, h3]
      · have : k = t := by omega
        subst this
        have h3 : ¬ k + 1 ≤ k := by omega
        simp [h3]
    · rw [if_neg hk]
      have h1 : t ≤ k := by omega
      have h2 : t + 1 ≤ k := by omega
      obtain ⟨d, rfl⟩ : ∃ d, k = t + 1 + d := ⟨k - (t + 1), by omega⟩
      rw [show t + 1 + d - t = d + 1 by omega, show t + 1 + d - (t + 1) = d by omega, Nat.testBit_succ, show (2 * m + 1) / 2 = m by omega]
      simp [h1]
  · rw [hb]; simp [Nat.testBit_zero]
  · rw [hb]
    have : ¬ t ≤ k := by omega
    simp [this]
end Go.Proofs.YtkkapbnopmmmjaaDoor
namespace Go.Proofs.YtkkapbnopmmmjaaDoor
theorem trunc_bit (c j k : Nat) : (c / 2 ^ j * 2 ^ j).testBit k = (decide (j ≤ k) && c.testBit k) := by
  rw [Nat.testBit_mul_two_pow]
  by_cases h : j ≤ k
  · rw [Nat.testBit_div_two_pow, show k - j + j = k by omega]
  · simp [h]
theorem feed_step (c j n t m : Nat) (hn : n = c / 2 ^ j * 2 ^ j) (hnt : n = 2 ^ t * (2 * m + 1)) :
    j ≤ t ∧ c.testBit t = true ∧ (∀ k, j ≤ k → k < t → c.testBit k = false) ∧ n &&& (n - 1) = c / 2 ^ (t + 1) * 2 ^ (t + 1) := by
  obtain ⟨h1, h2, h3⟩ := low_spec n t m hnt
  have hb : ∀ k, n.testBit k = (decide (j ≤ k) && c.testBit k) := fun k => by rw [hn, trunc_bit]
  have hjt : j ≤ t := by
    have := hb t
    rw [h2] at this
    simp at this
    exact this.1
  refine ⟨hjt, ?_, fun k hk hk' => ?_, ?_⟩
  · have := hb t
    rw [h2] at this
    simp at this
    exact this.2
  · have := hb k
    rw [h3 k hk'] at this
    simpa [hk] using this.symm
  · rw [h1]
    apply Nat.eq_of_testBit_eq
    intro k
    rw [trunc_bit, Nat.mul_comm, Nat.testBit_mul_two_pow]
    by_cases hk : t + 1 ≤ k
    · have h4 := hb k
      rw [hnt, Nat.mul_comm, Nat.testBit_mul_two_pow] at h4
      obtain ⟨d, rfl⟩ : ∃ d, k = t + 1 + d := ⟨k - (t + 1), by omega⟩
      rw [show t + 1 + d - t = d + 1 by omega, Nat.testBit_succ, show (2 * m + 1) / 2 = m by omega] at h4
      rw [show t + 1 + d - (t + 1) = d by omega]
      have h5 : t ≤ t + 1 + d := by omega
      have h6 : j ≤ t + 1 + d := by omega
      simp only [h5, h6, decide_true, Bool.true_and] at h4
      simp [h4]
    · simp [hk]
theorem feed_end (c j : Nat) (x : Int) (s : Fd) (hj : j ≤ 64) (h : c / 2 ^ j * 2 ^ j = 0) : feedTo c x s 64 = feedTo c x s j :=
  feedTo_skip c x s j 64 hj (fun k hk _ => by
    have := trunc_bit c j k
    rw [h] at this
    simpa [hk] using this.symm)
def FeedOk (s : Fd) (n : Nat) : Prop := (∀ j, (s.1 j).length ≤ n) ∧ 0 ≤ s.2 ∧ s.2 ≤ 64
theorem FeedOk.feed1 {s : Fd} {n : Nat} (h : FeedOk s n) (x : Int) {k : Nat} (hk : k < 64) : FeedOk (feed1 s x k) (n + 1) := by
  obtain ⟨h1, h2, h3⟩ := h
  refine ⟨fun j => ?_, ?_, ?_⟩
  · simp only [Go.Proofs.YtkkapbnopmmmjaaDoor.feed1, updr]
    split
    · rw [List.length_append]; have := h1 k; simp; omega
    · have := h1 j; omega
  · simp only [Go.Proofs.YtkkapbnopmmmjaaDoor.feed1]; omega
  · simp only [Go.Proofs.YtkkapbnopmmmjaaDoor.feed1]; omega
theorem FeedOk.mono {s : Fd} {n n' : Nat} (h : FeedOk s n) (hn : n ≤ n') : FeedOk s n' := ⟨fun j => Nat.le_trans (h.1 j) hn, h.2⟩
theorem FeedOk.feedTo {s : Fd} {n : Nat} (h : FeedOk s n) (c : Nat) (x : Int) : ∀ (j : Nat), j ≤ 64 → FeedOk (feedTo c x s j) (n + j)
  | 0, _ => h
  | j + 1, hj => by
    rw [feedTo_succ]
    have ih := FeedOk.feedTo h c x j (by omega)
    split
    · exact ih.feed1 x (by omega)
    · exact ih.mono (by omega)
theorem FeedOk.all : ∀ (cl : List (Int × Int)) (s : Fd) (n : Nat), FeedOk s n → FeedOk (feedAll s cl) (n + 64 * cl.length)
  | [], _, _, h => h
  | q :: cl, s, n, h => by
    have := FeedOk.all cl _ _ (h.feedTo q.1.toNat q.2 64 (Nat.le_refl _))
    simp only [feedAll, List.foldl_cons, List.length_cons] at this ⊢
    exact this.mono (by omega)
theorem FeedOk.zero : FeedOk fd0 0 := ⟨fun _ => Nat.le_refl _, by decide, by decide⟩
def ext (o : List Int) (rows : Int → List Int) : Int → List Int := fun j => if j = -1 then o else rows j
theorem ext_at (o : List Int) (rows : Int → List Int) (k : Int) (hk : 0 ≤ k) : ext o rows k = rows k := by unfold ext; rw [if_neg (by omega)]
theorem ext_updr (o : List Int) (rows : Int → List Int) (k x : Int) (hk : 0 ≤ k) : updr (ext o rows) k x = ext o (updr rows k x) := by
  funext j
  simp only [updr, ext]
  by_cases h : j = k
  · subst h; rw [if_pos rfl, if_neg (by omega), if_neg (by omega), if_pos rfl]
  · rw [if_neg h, if_neg h]
theorem ext_set (o : List Int) (rows : Int → List Int) (k : Int) (zs : List Int) (hk : 0 ≤ k) : (fun j => if j = k then zs else ext o rows j) = ext o (setr rows k zs) := by
  funext j
  simp only [setr, ext]
  by_cases h : j = k
  · subst h; rw [if_pos rfl, if_neg (by omega), if_pos rfl]
  · rw [if_neg h, if_neg h]
theorem ext_push (o zs : List Int) (rows : Int → List Int) : (fun j => if j = -1 then zs else ext o rows j) = ext zs rows := by
  funext j
  simp only [ext]
  split <;> rfl
theorem feedAll_neg : ∀ (cl : List (Int × Int)) (s : Fd), s.1 (-1) = [] → (feedAll s cl).1 (-1) = []
  | [], _, h => h
  | q :: cl, s, h => by
    have h1 : ∀ j, (feedTo q.1.toNat q.2 s j).1 (-1) = [] := fun j => by
      induction j with
      | zero => exact h
      | succ j ih =>
        rw [feedTo_succ]
        split
        · simp only [feed1, updr]
          rw [if_neg (by omega)]
          exact ih
        · exact ih
    simpa [feedAll] using feedAll_neg cl _ (h1 64)
theorem ext_nil (rows : Int → List Int) (h : rows (-1) = []) : ext [] rows = rows := by
  funext j
  simp only [ext]
  split
  · rename_i hj; rw [hj, h]
  · rfl
structure PsOk (next : Int) (s : Ps) : Prop where
  lo : 1 ≤ next
  nx : next ≤ s.nx
  hi : s.nx ≤ 65537
  len : ∀ j, ((s.rows j).length : Int) ≤ 262144 + (s.nx - next)
  cl : (s.cs.length : Int) ≤ 100 * (s.nx - next)
  top0 : 0 ≤ s.top
  top : s.top ≤ 64 + (s.nx - next)
  lit : ∀ j, ∀ x ∈ s.rows j, -70000 ≤ x ∧ x ≤ 70000
theorem addC_len (l : List Int) (s c : Int) (h : l.length ≤ 3) : (addC l s c).length ≤ 30 := by
  have hp : (prs l l.length).length ≤ 9 := by
    have : ∀ i, (prs l i).length ≤ i * l.length := fun i => by
      induction i with
      | zero => simp [prs]
      | succ i ih =>
        have e : prs l (i + 1) = prs l i ++ (l.drop (i + 1)).map fun y => (l.getD i 0, y) := by simp [prs, List.range_succ]
        rw [e, List.length_append, List.length_map, List.length_drop, Nat.add_mul]; omega
    have h2 := this l.length
    have h3 : l.length * l.length ≤ 3 * 3 := Nat.mul_le_mul h h
    omega
  have h8 : 2 ^ l.length ≤ 8 := Nat.le_trans (Nat.pow_le_pow_right (by decide) h) (by decide)
  unfold addC
  simp only [List.length_append, List.length_map, List.length_range]
  split
  · simp; omega
  · simp only [List.length_map]; omega
theorem PsOk.step {next : Int} {s : Ps} (h : PsOk next s) (k : Int) (_hk : 0 ≤ k) (hkt : k < s.top) (hn : s.nx + 2 ≤ 65537) : PsOk next (stepA k s) := by
  have hnx := h.nx
  refine ⟨h.lo, by simp only [stepA]; omega, by simp only [stepA]; omega, fun j => ?_, ?_, ?_, ?_, fun j x hx => ?_⟩
  · simp only [stepA, updr, setr]
    have h1 := h.len j
    have h2 := h.len k
    have h3 := h.len (k + 1)
    by_cases hj : j = k + 1
    · subst hj
      have e : ¬ k + 1 = k := by omega
      simp only [if_true, e, if_false, List.length_append, List.length_singleton]
      omega
    · by_cases hj' : j = k
      · subst hj'
        simp only [hj, if_false, if_true, List.length_append, List.length_singleton, List.length_drop]
        omega
      · simp only [hj, hj', if_false]
        omega
  · simp only [stepA, List.length_append]
    have := addC_len ((s.rows k).take 3) s.nx (s.nx + 1) (by simp; omega)
    have := h.cl
    omega
  · simp only [stepA]; have := h.top0; omega
  · simp only [stepA]; have := h.top; omega
  · simp only [stepA, updr, setr] at hx
    have hl := h.lo
    have hhi := h.hi
    by_cases hj : j = k + 1
    · subst hj
      have e : ¬ k + 1 = k := by omega
      simp only [if_true, e, if_false, List.mem_append, List.mem_singleton] at hx
      rcases hx with hx | hx
      · exact h.lit _ x hx
      · omega
    · by_cases hj' : j = k
      · subst hj'
        simp only [hj, if_false, if_true, List.mem_append, List.mem_singleton] at hx
        rcases hx with hx | hx
        · exact h.lit _ x (List.mem_of_mem_drop hx)
        · omega
      · simp only [hj, hj', if_false] at hx
        exact h.lit _ x hx
theorem sumF_add {f : Nat} {k : Int} {s : Ps} {o : List Int} (h1 : k < s.top) (h2 : 1 < (s.rows k).length) (h3 : s.nx + 2 ≤ 65537) : sumF (f + 1) k s o = sumF f k (stepA k s) o := by
  rw [sumF, if_pos h1, if_pos h2, if_neg (by omega)]
theorem sumF_full {f : Nat} {k : Int} {s : Ps} {o : List Int} (h1 : k < s.top) (h2 : 1 < (s.rows k).length) (h3 : 65537 < s.nx + 2) : sumF (f + 1) k s o = none := by
  rw [sumF, if_pos h1, if_pos h2, if_pos h3]
theorem sumF_next {f : Nat} {k : Int} {s : Ps} {o : List Int} (h1 : k < s.top) (h2 : ¬ 1 < (s.rows k).length) : sumF (f + 1) k s o = sumF f (k + 1) s (o ++ [(s.rows k).headD 0]) := by
  rw [sumF, if_pos h1, if_neg h2]
theorem sumF_end {f : Nat} {k : Int} {s : Ps} {o : List Int} (h1 : ¬ k < s.top) : sumF (f + 1) k s o = some (o, s.cs, s.nx) := by
  rw [sumF, if_neg h1]
theorem feed_lit : ∀ (cl : List (Int × Int)) (s : Fd) (M : Int), (∀ j, ∀ x ∈ s.1 j, -M ≤ x ∧ x ≤ M) → (∀ q ∈ cl, -M ≤ q.2 ∧ q.2 ≤ M) → ∀ j, ∀ x ∈ (feedAll s cl).1 j, -M ≤ x ∧ x ≤ M
  | [], _, _, h, _ => h
  | q :: cl, s, M, h, hq => by
    have h1 : ∀ t, ∀ j, ∀ x ∈ (feedTo q.1.toNat q.2 s t).1 j, -M ≤ x ∧ x ≤ M := fun t => by
      induction t with
      | zero => exact h
      | succ t ih =>
        rw [feedTo_succ]
        split
        · intro j x hx
          simp only [feed1, updr] at hx
          split at hx
          · rcases List.mem_append.1 hx with hx | hx
            · exact ih _ x hx
            · rw [List.mem_singleton] at hx; rw [hx]; exact hq q (by simp)
          · exact ih _ x hx
        · exact ih
    have := feed_lit cl _ M (h1 64) (fun q' hq' => hq q' (by simp [hq']))
    simpa [feedAll] using this
end Go.Proofs.YtkkapbnopmmmjaaDoor
namespace Go.Proofs.YtkkapbnopmmmjaaDoor
theorem sumF_lens (next : Int) : ∀ (f : Nat) (k : Int) (s : Ps) (o : List Int) (r : List Int × List (List Int) × Int), PsOk next s → 0 ≤ k → k ≤ s.top → (o.length : Int) = k → (∀ c ∈ s.cs, c.length ≤ 100) → sumF f k s o = some r →
    r.1.length ≤ 70000 ∧ r.2.1.length ≤ 7000000 ∧ ∀ c ∈ r.2.1, c.length ≤ 100
  | 0, _, _, _, _, _, _, _, _, _, h => by simp [sumF] at h
  | f + 1, k, s, o, r, hs, hk0, hk, ho, hc, h => by
    rw [sumF] at h
    by_cases h1 : k < s.top
    · rw [if_pos h1] at h
      by_cases h2 : 1 < (s.rows k).length
      · rw [if_pos h2] at h
        by_cases h3 : 65537 < s.nx + 2
        · rw [if_pos h3] at h; cases h
        · rw [if_neg h3] at h
          refine sumF_lens next f k _ o r (hs.step k hk0 h1 (by omega)) hk0 (by simp only [stepA]; omega) ho (fun c hcm => ?_) h
          simp only [stepA, List.mem_append] at hcm
          rcases hcm with hcm | hcm
          · exact hc c hcm
          · have hl3 : ((s.rows k).take 3).length ≤ 3 := by simp; omega
            generalize (s.rows k).take 3 = l at hcm hl3
            unfold addC at hcm
            simp only [List.mem_append, List.mem_map] at hcm
            rcases hcm with (⟨n, _, rfl⟩ | ⟨q, _, rfl⟩) | hcm
            · simp [cls1, negl]; omega
            · simp
            · split at hcm
              · simp at hcm; rcases hcm with rfl | rfl <;> simp
              · simp only [List.mem_map] at hcm; obtain ⟨q, _, rfl⟩ := hcm; simp
      · rw [if_neg h2] at h
        exact sumF_lens next f (k + 1) s _ r hs (by omega) (by omega) (by rw [List.length_append, List.length_singleton]; omega) hc h
    · rw [if_neg h1] at h
      injection h with h
      subst h
      have a := hs.top
      have b := hs.cl
      have c := hs.hi
      have d := hs.lo
      exact ⟨by simp only; omega, by simp only; omega, hc⟩
theorem sumP_lens {coef l : List Int} {next : Int} {bits : List Int} {cs : List (List Int)} {after : Int} (h : sumP coef l next = .ok bits cs after) : bits.length ≤ 70000 ∧ cs.length ≤ 7000000 ∧ ∀ c ∈ cs, c.length ≤ 100 := by
  unfold sumP at h
  split at h
  · cases h
  · split at h
    · cases h
    · split at h
      · cases h
      · rename_i h1 h2 h3
        generalize hr : sumF fuel0 0 { rows := (feedAll fd0 (coef.zip l)).1, cs := [], nx := next, top := (feedAll fd0 (coef.zip l)).2 } [] = o at h
        cases o with
        | none => cases h
        | some r =>
          simp only at h
          injection h with e1 e2 e3
          subst e1 e2 e3
          have hall : ∀ q ∈ coef.zip l, okAt next q = true := by simpa using h2
          have ok := FeedOk.all (coef.zip l) fd0 0 FeedOk.zero
          have hlit := feed_lit (coef.zip l) fd0 70000 (fun j x hx => by simp [fd0] at hx) (fun q hq => by have := hall q hq; simp [okAt] at this; omega)
          refine sumF_lens next fuel0 0 _ [] r ⟨by omega, Int.le_refl _, by simp only; omega, fun j => ?_, by simp, ok.2.1, by have := ok.2.2; simp only; omega, hlit⟩ (Int.le_refl _) ok.2.1 rfl (fun c hc => by simp at hc) hr
          have := ok.1 j
          rw [List.length_zip] at this
          simp only; omega
theorem sumF_aft (next : Int) : ∀ (f : Nat) (k : Int) (s : Ps) (o : List Int) (r : List Int × List (List Int) × Int), PsOk next s → 0 ≤ k → k ≤ s.top → sumF f k s o = some r → next ≤ r.2.2 ∧ r.2.2 ≤ 65537
  | 0, _, _, _, _, _, _, _, h => by simp [sumF] at h
  | f + 1, k, s, o, r, hs, hk0, hk, h => by
    rw [sumF] at h
    by_cases h1 : k < s.top
    · rw [if_pos h1] at h
      by_cases h2 : 1 < (s.rows k).length
      · rw [if_pos h2] at h
        by_cases h3 : 65537 < s.nx + 2
        · rw [if_pos h3] at h; cases h
        · rw [if_neg h3] at h
          exact sumF_aft next f k _ o r (hs.step k hk0 h1 (by omega)) hk0 (by simp only [stepA]; omega) h
      · rw [if_neg h2] at h
        exact sumF_aft next f (k + 1) s _ r hs (by omega) (by omega) h
    · rw [if_neg h1] at h
      injection h with h
      subst h
      exact ⟨hs.nx, hs.hi⟩
theorem sumP_aft {coef l : List Int} {next : Int} {bits : List Int} {cs : List (List Int)} {after : Int} (h : sumP coef l next = .ok bits cs after) : 1 ≤ next ∧ next ≤ after ∧ after ≤ 65537 := by
  unfold sumP at h
  split at h
  · cases h
  · split at h
    · cases h
    · split at h
      · cases h
      · rename_i h1 h2 h3
        generalize hr : sumF fuel0 0 { rows := (feedAll fd0 (coef.zip l)).1, cs := [], nx := next, top := (feedAll fd0 (coef.zip l)).2 } [] = o at h
        cases o with
        | none => cases h
        | some r =>
          simp only at h
          injection h with e1 e2 e3
          subst e1 e2 e3
          have hall : ∀ q ∈ coef.zip l, okAt next q = true := by simpa using h2
          have ok := FeedOk.all (coef.zip l) fd0 0 FeedOk.zero
          have hlit := feed_lit (coef.zip l) fd0 70000 (fun j x hx => by simp [fd0] at hx) (fun q hq => by have := hall q hq; simp [okAt] at this; omega)
          refine ⟨by omega, sumF_aft next fuel0 0 _ [] r ⟨by omega, Int.le_refl _, by simp only; omega, fun j => ?_, by simp, ok.2.1, by have := ok.2.2; simp only; omega, hlit⟩ (Int.le_refl _) ok.2.1 hr⟩
          have := ok.1 j
          rw [List.length_zip] at this
          simp only; omega
end Go.Proofs.YtkkapbnopmmmjaaDoor
namespace Go.Proofs.YtkkapbnopmmmjaaDoor
def lcond (K : Nat) (bits : List Int) (t i : Nat) : Bool := bits.getD i 0 != 0 && (i == t || (decide (t < i) && !K.testBit i))
def clTo (bits : List Int) (K t i : Nat) : List Int := ((List.range i).filter (lcond K bits t)).map (fun j => bits.getD j 0)
def leastTo (bits : List Int) (K j : Nat) : List (List Int) := ((List.range j).filter K.testBit).map fun t => clTo bits K t bits.length
def oddB (x : Int) : Bool := decide (x < -65536) || decide (65536 < x)
inductive LeastR where
  | err (e : Int)
  | ok (cs : List (List Int))
def leastP (bits : List Int) (k : Int) : LeastR :=
  if k < 0 ∨ 4503599627370496 < k ∨ bits.any oddB = true then .err 1 else if 60 < bits.length then .err 2 else .ok (leastTo bits k.toNat 64)
theorem clTo_succ (bits : List Int) (K t i : Nat) : clTo bits K t (i + 1) = clTo bits K t i ++ if lcond K bits t i then [bits.getD i 0] else [] := by
  unfold clTo
  rw [List.range_succ, List.filter_append, List.map_append]
  congr 1
  by_cases h : lcond K bits t i = true
  · simp [h]
  · simp [h]
theorem clTo_len (bits : List Int) (K t i : Nat) : (clTo bits K t i).length ≤ i := by
  unfold clTo
  rw [List.length_map]
  exact Nat.le_trans (List.length_filter_le _ _) (by simp)
theorem leastTo_succ (bits : List Int) (K j : Nat) : leastTo bits K (j + 1) = leastTo bits K j ++ if K.testBit j then [clTo bits K j bits.length] else [] := by
  unfold leastTo
  rw [List.range_succ, List.filter_append, List.map_append]
  congr 1
  by_cases h : K.testBit j = true
  · simp [h]
  · simp [h]
theorem leastTo_len (bits : List Int) (K j : Nat) : (leastTo bits K j).length ≤ j := by
  unfold leastTo
  rw [List.length_map]
  exact Nat.le_trans (List.length_filter_le _ _) (by simp)
theorem leastTo_skip (bits : List Int) (K j t : Nat) (hjt : j ≤ t) (h : ∀ k, j ≤ k → k < t → K.testBit k = false) : leastTo bits K t = leastTo bits K j := by
  induction t with
  | zero => have : j = 0 := by omega
            subst this; rfl
  | succ t ih =>
    by_cases e : j = t + 1
    · subst e; rfl
    · rw [leastTo_succ, h t (by omega) (by omega), if_neg (by simp), List.append_nil, ih (by omega) (fun k hk hk' => h k hk (by omega))]
theorem leastTo_end (bits : List Int) (K j : Nat) (hj : j ≤ 64) (h : K / 2 ^ j * 2 ^ j = 0) : leastTo bits K 64 = leastTo bits K j :=
  leastTo_skip bits K j 64 hj (fun k hk _ => by
    have := trunc_bit K j k
    rw [h] at this
    simpa [hk] using this.symm)
end Go.Proofs.YtkkapbnopmmmjaaDoor
namespace Go.Proofs.YtkkapbnopmmmjaaDoor
def LitOk (n x : Int) : Prop := x ≠ 0 ∧ -n < x ∧ x < n
theorem LitOk.mono {n m x : Int} (h : LitOk n x) (hm : n ≤ m) : LitOk m x := ⟨h.1, by have := h.2; omega, by have := h.2; omega⟩
theorem LitOk.neg {n x : Int} (h : LitOk n x) : LitOk n (-x) := ⟨by have := h.1; omega, by have := h.2; omega, by have := h.2; omega⟩
structure SzOk (next : Int) (s : Ps) : Prop where
  lo1 : 1 ≤ s.nx
  nx : next ≤ s.nx
  ev : (s.nx - next) % 2 = 0
  row : ∀ j, ∀ x ∈ s.rows j, LitOk s.nx x
  cls : ∀ c ∈ s.cs, ∀ x ∈ c, LitOk s.nx x
  lo : 7 * (s.nx - next) ≤ 2 * (s.cs.length : Int)
  hi : (s.cs.length : Int) ≤ 7 * (s.nx - next)
theorem addC_two (a b s c : Int) : addC [a, b] s c = [[a, b, -s], [-a, b, s], [a, -b, s], [-a, -b, -s], [-a, -b, c], [a, -c], [b, -c]] := by
  simp [addC, prs, cls1, negl, sgn, odd8, pop8, List.range_succ, Nat.testBit_succ]
theorem addC_three (a b d s c : Int) : addC [a, b, d] s c = [[a, b, d, -s], [-a, b, d, s], [a, -b, d, s], [-a, -b, d, -s], [a, b, -d, s], [-a, b, -d, -s], [a, -b, -d, -s], [-a, -b, -d, s],
    [-a, -b, c], [-a, -d, c], [-b, -d, c], [a, b, -c], [a, d, -c], [b, d, -c]] := by
  simp [addC, prs, cls1, negl, sgn, odd8, pop8, List.range_succ, Nat.testBit_succ]
theorem take_two_three (l : List Int) (h : 1 < l.length) : (∃ a b, l.take 3 = [a, b] ∧ l = [a, b]) ∨ ∃ a b c t, l.take 3 = [a, b, c] ∧ l = a :: b :: c :: t := by
  rcases l with _ | ⟨a, _ | ⟨b, _ | ⟨c, t⟩⟩⟩
  · simp at h
  · simp at h
  · exact .inl ⟨a, b, rfl, rfl⟩
  · exact .inr ⟨a, b, c, t, rfl, rfl⟩
theorem addC_ok (l : List Int) (n : Int) (hn : 1 ≤ n) (h : 1 < l.length) (hl : ∀ x ∈ l, LitOk n x) :
    (∀ c ∈ addC (l.take 3) n (n + 1), ∀ x ∈ c, LitOk (n + 2) x) ∧ 7 ≤ (addC (l.take 3) n (n + 1)).length ∧ (addC (l.take 3) n (n + 1)).length ≤ 14 := by
  have hs : LitOk (n + 2) n := ⟨by omega, by omega, by omega⟩
  have hc : LitOk (n + 2) (n + 1) := ⟨by omega, by omega, by omega⟩
  have hs' := hs.neg
  have hc' := hc.neg
  rcases take_two_three l h with ⟨a, b, e, el⟩ | ⟨a, b, d, t, e, el⟩
  · have ha : LitOk (n + 2) a := (hl a (by simp [el])).mono (by omega)
    have hb : LitOk (n + 2) b := (hl b (by simp [el])).mono (by omega)
    have ha' := ha.neg
    have hb' := hb.neg
    rw [e, addC_two]
    refine ⟨?_, by simp, by simp⟩
    simp only [List.mem_cons, List.not_mem_nil, or_false]
    rintro c (rfl | rfl | rfl | rfl | rfl | rfl | rfl) x hx <;> simp only [List.mem_cons, List.not_mem_nil, or_false] at hx
    all_goals (rcases hx with rfl | rfl | rfl <;> assumption) <;> (rcases hx with rfl | rfl <;> assumption)
  · have ha : LitOk (n + 2) a := (hl a (by simp [el])).mono (by omega)
    have hb : LitOk (n + 2) b := (hl b (by simp [el])).mono (by omega)
    have hd : LitOk (n + 2) d := (hl d (by simp [el])).mono (by omega)
    have ha' := ha.neg
    have hb' := hb.neg
    have hd' := hd.neg
    rw [e, addC_three]
    refine ⟨?_, by simp, by simp⟩
    simp only [List.mem_cons, List.not_mem_nil, or_false]
    rintro c (rfl | rfl | rfl | rfl | rfl | rfl | rfl | rfl | rfl | rfl | rfl | rfl | rfl | rfl) x hx <;> simp only [List.mem_cons, List.not_mem_nil, or_false] at hx
    all_goals first | (rcases hx with rfl | rfl | rfl | rfl <;> assumption) | (rcases hx with rfl | rfl | rfl <;> assumption)
theorem mem_updr {rows : Int → List Int} {k x j y : Int} (h : y ∈ updr rows k x j) : y ∈ rows j ∨ y = x := by
  unfold updr at h
  split at h
  · rename_i e
    subst e
    rcases List.mem_append.1 h with h | h
    · exact .inl h
    · exact .inr (by simpa using h)
  · exact .inl h
theorem mem_stepA {k : Int} {s : Ps} {j y : Int} (h : y ∈ (stepA k s).rows j) : (∃ i, y ∈ s.rows i) ∨ y = s.nx ∨ y = s.nx + 1 := by
  simp only [stepA] at h
  rcases mem_updr h with h | h
  · rcases mem_updr h with h | h
    · unfold setr at h
      split at h
      · exact .inl ⟨k, List.mem_of_mem_drop h⟩
      · exact .inl ⟨j, h⟩
    · exact .inr (.inl h)
  · exact .inr (.inr h)
theorem SzOk.step {next : Int} {s : Ps} (h : SzOk next s) (k : Int) (h2 : 1 < (s.rows k).length) : SzOk next (stepA k s) := by
  obtain ⟨a1, a2, a3⟩ := addC_ok (s.rows k) s.nx h.lo1 h2 (h.row k)
  have e1 : (stepA k s).nx = s.nx + 2 := rfl
  have e2 : (stepA k s).cs = s.cs ++ addC ((s.rows k).take 3) s.nx (s.nx + 1) := rfl
  have hlo := h.lo1
  refine ⟨by rw [e1]; omega, by rw [e1]; have := h.nx; omega, by rw [e1]; have := h.ev; omega, fun j x hx => ?_, fun c hc x hx => ?_, ?_, ?_⟩
  · rw [e1]
    rcases mem_stepA hx with ⟨i, hi⟩ | rfl | rfl
    · exact (h.row i x hi).mono (by omega)
    · exact ⟨by omega, by omega, by omega⟩
    · exact ⟨by omega, by omega, by omega⟩
  · rw [e1]
    rw [e2] at hc
    rcases List.mem_append.1 hc with hc | hc
    · exact (h.cls c hc x hx).mono (by omega)
    · exact a1 c hc x hx
  · rw [e1, e2, List.length_append]; have := h.lo; omega
  · rw [e1, e2, List.length_append]; have := h.hi; omega
def totR (rows : Int → List Int) (m : Nat) : Nat := ((List.range m).map fun k : Nat => (rows (k : Int)).length).sum
def EmptyAbove (s : Fd) : Prop := ∀ j, s.2 ≤ j → s.1 j = []
theorem EmptyAbove.feedTo {s : Fd} (h : EmptyAbove s) (n : Nat) (x : Int) : ∀ j, EmptyAbove (feedTo n x s j)
  | 0 => h
  | j + 1 => by
    rw [feedTo_succ]
    have ih := EmptyAbove.feedTo h n x j
    split
    · intro i hi
      simp only [feed1] at hi ⊢
      unfold updr
      rw [if_neg (by omega)]
      exact ih i (by omega)
    · exact ih
theorem EmptyAbove.all : ∀ (cl : List (Int × Int)) (s : Fd), EmptyAbove s → EmptyAbove (feedAll s cl)
  | [], _, h => h
  | q :: cl, _, h => EmptyAbove.all cl _ (h.feedTo q.1.toNat q.2 64)
end Go.Proofs.YtkkapbnopmmmjaaDoor
namespace Go.Proofs.YtkkapbnopmmmjaaDoor
def litT (a : List Bool) (x : Int) : Bool := decide (x ≠ 0 ∧ -65536 ≤ x ∧ x ≤ 65536) && ((decide (x.natAbs < a.length) && a.getD x.natAbs false) == decide (0 < x))
end Go.Proofs.YtkkapbnopmmmjaaDoor
namespace Go.Proofs.YtkkapbnopmmmjaaDoor
def hasB (l : List Int) (n : Int) : Bool := l.any (· == n)
def okO (a : List Bool) (known x : Int) : Bool := decide (1 ≤ x.natAbs) && (decide ((x.natAbs : Int) < known) && (decide (x.natAbs < a.length) && (a.getD x.natAbs false != decide (0 < x))))
def otherB (l : List Int) (lit : Int) (a : List Bool) (known : Int) : Bool := l.all fun x => x == lit || okO a known x
def forcedB (cs : List (List Int)) (lit v : Int) (a : List Bool) : Bool := cs.any fun c => hasB c lit && otherB c lit a v
def toldP (cs : List (List Int)) : List Bool → Int → Nat → List Bool × Bool
  | out, _, 0 => (out, true)
  | out, v, n + 1 => if forcedB cs v v out = forcedB cs (-v) v out then (out, false) else toldP cs (out ++ [forcedB cs v v out]) (v + 1) n
end Go.Proofs.YtkkapbnopmmmjaaDoor
namespace Go.Proofs.YtkkapbnopmmmjaaDoor
section
variable {out : List Bool} {lit v : Int}
end
def cntT (F : List Bool) : List Int → Nat
  | [] => 0
  | x :: l => (litT F x).toNat + cntT F l
end Go.Proofs.YtkkapbnopmmmjaaDoor
namespace Go.Proofs.YtkkapbnopmmmjaaDoor
def wRows (F : List Bool) (rows : Int → List Int) (k : Int) : Nat → Nat
  | 0 => 0
  | n + 1 => cntT F (rows k) + 2 * wRows F rows (k + 1) n
def valL (F : List Bool) : List Int → Nat
  | [] => 0
  | b :: bs => (litT F b).toNat + 2 * valL F bs
structure Cor (s : Ps) (k : Int) (rest : List (List Int)) (bits : List Int) (after : Int) : Prop where
  high : ∀ c ∈ rest, ∃ x ∈ c, s.nx ≤ (x.natAbs : Int)
  told : ∀ (low : List (List Int)) (g : List Bool), (g.length : Int) = s.nx → (∀ c ∈ low, ∀ x ∈ c, LitOk s.nx x) → ∃ ext, toldP (low ++ rest) g s.nx (after - s.nx).toNat = (g ++ ext, true) ∧ ((g ++ ext).length : Int) = after ∧
    (∀ c ∈ rest, c.any (litT (g ++ ext)) = true) ∧ ∀ n : Nat, s.top - k ≤ n → valL (g ++ ext) bits = wRows (g ++ ext) s.rows k n
end Go.Proofs.YtkkapbnopmmmjaaDoor
namespace Go.Proofs.YtkkapbnopmmmjaaDoor
def capR (k : Int) : Int := if k ≤ 40 then 16 else if k = 41 then 8 else if k = 42 then 4 else if k = 43 then 2 else if k = 44 then 1 else 0
def bR (j : Int) : Int := if j ≤ 40 then 8 else 0
structure Bnd (next k : Int) (s : Ps) (c : Int) : Prop where
  k0 : 0 ≤ k
  top : s.top ≤ 45
  c0 : 0 ≤ c
  far : ∀ j, k + 2 ≤ j → ((s.rows j).length : Int) ≤ bR j
  nxt : ((s.rows (k + 1)).length : Int) ≤ bR (k + 1) + c
  cur : ((s.rows k).length : Int) + 2 * c ≤ capR k ∨ (((s.rows k).length : Int) ≤ 1 ∧ 2 * c ≤ capR k)
  nx : s.nx ≤ next + 16 * k + 2 * c
theorem Bnd.step {next k c : Int} {s : Ps} (h : Bnd next k s c) (h2 : 1 < (s.rows k).length) : Bnd next k (stepA k s) (c + 1) := by
  have er : ∀ j, (stepA k s).rows j = if j = k + 1 then s.rows (k + 1) ++ [s.nx + 1] else if j = k then (s.rows k).drop 3 ++ [s.nx] else s.rows j := fun j => by
    simp only [stepA, updr, setr]
    by_cases c1 : j = k + 1
    · subst c1
      rw [if_pos rfl, if_pos rfl, if_neg (show ¬ k + 1 = k by omega), if_neg (show ¬ k + 1 = k by omega)]
    · rw [if_neg c1, if_neg c1]
      by_cases c2 : j = k
      · subst c2; simp
      · rw [if_neg c2, if_neg c2, if_neg c2]
  have hk0 := h.k0
  have hc0 := h.c0
  have hcap : ((s.rows k).length : Int) + 2 * c ≤ capR k := by
    rcases h.cur with h | h
    · exact h
    · omega
  have hk43 : k ≤ 43 := by
    unfold capR at hcap
    rcases Int.lt_or_le 43 k with h3 | h3
    · rw [if_neg (by omega), if_neg (by omega), if_neg (by omega), if_neg (by omega)] at hcap
      split at hcap <;> omega
    · exact h3
  refine ⟨hk0, ?_, by omega, fun j hj => ?_, ?_, ?_, ?_⟩
  · have := h.top
    show max (max s.top (k + 1)) (k + 1 + 1) ≤ 45
    omega
  · rw [er, if_neg (by omega), if_neg (by omega)]; exact h.far j hj
  · rw [er, if_pos rfl, List.length_append, List.length_singleton]; have := h.nxt; omega
  · rw [er, if_neg (by omega), if_pos rfl, List.length_append, List.length_singleton, List.length_drop]
    by_cases h3 : 3 ≤ (s.rows k).length
    · left; omega
    · right; omega
  · have := h.nx
    show s.nx + 2 ≤ _
    omega
theorem Bnd.next {next k c : Int} {s : Ps} (h : Bnd next k s c) : Bnd next (k + 1) s 0 := by
  have hk0 := h.k0
  have hc0 := h.c0
  have hcap : 2 * c ≤ capR k := by
    rcases h.cur with h | h
    · omega
    · exact h.2
  have h16 : 2 * c ≤ 16 := by
    unfold capR at hcap
    split at hcap
    · omega
    · split at hcap
      · omega
      · split at hcap
        · omega
        · split at hcap
          · omega
          · split at hcap <;> omega
  refine ⟨by omega, h.top, Int.le_refl _, fun j hj => h.far j (by omega), by have := h.far (k + 1 + 1) (by omega); omega, .inl ?_, by have := h.nx; omega⟩
  have hn := h.nxt
  unfold bR at hn
  unfold capR at hcap ⊢
  by_cases e : k + 1 ≤ 40
  · rw [if_pos e] at hn ⊢; omega
  · rw [if_neg e] at hn ⊢
    by_cases e1 : k = 40
    · rw [if_pos (by omega)] at hcap; rw [if_pos (by omega)]; omega
    · rw [if_neg (by omega)] at hcap
      rw [if_neg (show ¬ k + 1 = 41 by omega)]
      by_cases e2 : k = 41
      · rw [if_pos e2] at hcap; rw [if_pos (by omega)]; omega
      · rw [if_neg e2] at hcap; rw [if_neg (show ¬ k + 1 = 42 by omega)]
        by_cases e3 : k = 42
        · rw [if_pos e3] at hcap; rw [if_pos (by omega)]; omega
        · rw [if_neg e3] at hcap; rw [if_neg (show ¬ k + 1 = 43 by omega)]
          by_cases e4 : k = 43
          · rw [if_pos e4] at hcap; rw [if_pos (by omega)]; omega
          · rw [if_neg e4] at hcap; rw [if_neg (show ¬ k + 1 = 44 by omega)]
            split at hcap <;> omega
end Go.Proofs.YtkkapbnopmmmjaaDoor
namespace Go.Proofs.YtkkapbnopmmmjaaDoor
structure LinV where
  C : List Int
  L : List Int
  B : Int
deriving DecidableEq
def lin0 : LinV := ⟨[], [], 0⟩
def offN (c : Int) : Bool := decide (c < -1099511627776) || decide (1099511627776 < c)
def wrongL (n x : Int) : Bool := decide (x = 0) || (decide (n < x) || decide (x < -n))
def lcheck (l : LinV) (n : Int) : Int :=
  if n < 0 ∨ 65536 < n ∨ l.C.length ≠ l.L.length ∨ offN l.B = true then 1
  else if l.C.any offN = true ∨ l.L.any (wrongL n) = true then 1
  else if 4096 < l.L.length then 2 else 0
theorem lcheck_ok {l : LinV} {n : Int} (h : lcheck l n = 0) : 0 ≤ n ∧ n ≤ 65536 ∧ l.C.length = l.L.length ∧ (-1099511627776 ≤ l.B ∧ l.B ≤ 1099511627776) ∧ (∀ c ∈ l.C, -1099511627776 ≤ c ∧ c ≤ 1099511627776) ∧ (∀ x ∈ l.L, x ≠ 0 ∧ -n ≤ x ∧ x ≤ n) ∧ l.L.length ≤ 4096 := by
  unfold lcheck at h
  split at h
  · omega
  · split at h
    · omega
    · split at h
      · omega
      · rename_i h1 h2 h3
        have hB : offN l.B = false := by
          cases hx : offN l.B with
          | false => rfl
          | true => exact absurd (.inr (.inr (.inr hx))) h1
        simp [offN] at hB
        have hC : ∀ c ∈ l.C, offN c = false := by
          have : ¬ l.C.any offN = true := fun e => h2 (.inl e)
          simpa using this
        have hL : ∀ x ∈ l.L, wrongL n x = false := by
          have : ¬ l.L.any (wrongL n) = true := fun e => h2 (.inr e)
          simpa using this
        refine ⟨by omega, by omega, by omega, by omega, fun c hc => ?_, fun x hx => ?_, by omega⟩
        · have := hC c hc
          simp [offN] at this
          omega
        · have := hL x hx
          simp [wrongL] at this
          omega
theorem lcheck_mk {l : LinV} {n : Int} (h1 : 0 ≤ n) (h2 : n ≤ 65536) (h3 : l.C.length = l.L.length) (h4 : -1099511627776 ≤ l.B ∧ l.B ≤ 1099511627776) (h5 : ∀ c ∈ l.C, -1099511627776 ≤ c ∧ c ≤ 1099511627776) (h6 : ∀ x ∈ l.L, x ≠ 0 ∧ -n ≤ x ∧ x ≤ n) (h7 : l.L.length ≤ 4096) : lcheck l n = 0 := by
  unfold lcheck
  have hB : offN l.B = false := by simp [offN]; omega
  rw [if_neg (by rw [hB]; simp; omega), if_neg, if_neg (by omega)]
  rw [not_or]
  constructor
  · simp only [List.any_eq_true, not_exists, not_and]
    intro c hc
    have := h5 c hc
    simp [offN]; omega
  · simp only [List.any_eq_true, not_exists, not_and]
    intro x hx
    have := h6 x hx
    simp [wrongL]; omega
def cfZ : List (Int × Int) → Int → Int
  | [], _ => 0
  | q :: t, x => (if q.2 = x then q.1 else 0) + cfZ t x
theorem cfZ_app : ∀ (a b : List (Int × Int)) (x : Int), cfZ (a ++ b) x = cfZ a x + cfZ b x
  | [], b, x => by simp [cfZ]
  | q :: a, b, x => by simp only [List.cons_append, cfZ, cfZ_app a b x]; omega
def cf (l : LinV) (x : Int) : Int := cfZ (l.C.zip l.L) x
def insV (v : Int) : List Int → List Int
  | [] => [v]
  | y :: t => if y < v then y :: insV v t else if y = v then y :: t else v :: y :: t
def varsZ (l : List Int) : List Int := l.foldl (fun out x => insV (x.natAbs : Int) out) []
def termV (a b v : Int) : List (Int × Int) := if b < a then [(a - b, v)] else if a < b then [(b - a, -v)] else []
def termsP (l : LinV) (vs : List Int) : List (Int × Int) := vs.flatMap fun v => termV (cf l v) (cf l (-v)) v
def minsP (l : LinV) : List Int → Int
  | [] => 0
  | v :: t => min (cf l v) (cf l (-v)) + minsP l t
def sumF1 : List (Int × Int) → Int
  | [] => 0
  | q :: t => q.1 + sumF1 t
def normW (l : LinV) : LinV :=
  if l.B - minsP l (varsZ l.L) ≤ 0 then lin0
  else if sumF1 (termsP l (varsZ l.L)) < l.B - minsP l (varsZ l.L) then ⟨[], [], 1⟩
  else ⟨(termsP l (varsZ l.L)).map fun q => min q.1 (l.B - minsP l (varsZ l.L)), (termsP l (varsZ l.L)).map (·.2), l.B - minsP l (varsZ l.L)⟩
def normP (l : LinV) : LinV := if lcheck l 65536 = 0 then normW l else lin0
def unlikeP (n : Int) : List Int → Bool
  | lits => (List.range lits.length).all fun i => !(wrongL n (lits.getD i 0)) && !((lits.take i).any (· == lits.getD i 0)) && !((lits.take i).any (· == -lits.getD i 0))
def Inc : List Int → Prop
  | [] => True
  | x :: t => (∀ y ∈ t, x < y) ∧ Inc t
theorem mem_insV {v y : Int} : ∀ {l : List Int}, y ∈ insV v l ↔ y = v ∨ y ∈ l
  | [] => by simp [insV]
  | z :: t => by
    simp only [insV]
    split
    · rw [List.mem_cons, List.mem_cons, mem_insV (l := t)]
      constructor
      · rintro (h | h | h)
        · exact .inr (.inl h)
        · exact .inl h
        · exact .inr (.inr h)
      · rintro (h | h | h)
        · exact .inr (.inl h)
        · exact .inl h
        · exact .inr (.inr h)
    · split
      · rename_i h; subst h; simp
      · simp
theorem inc_insV (v : Int) : ∀ {l : List Int}, Inc l → Inc (insV v l)
  | [], _ => by simp [insV, Inc]
  | z :: t, h => by
    obtain ⟨h1, h2⟩ := h
    simp only [insV]
    split
    · refine ⟨fun y hy => ?_, inc_insV v h2⟩
      rcases mem_insV.1 hy with rfl | hy
      · assumption
      · exact h1 y hy
    · split
      · exact ⟨h1, h2⟩
      · refine ⟨fun y hy => ?_, h1, h2⟩
        rcases List.mem_cons.1 hy with rfl | hy
        · omega
        · have := h1 y hy; omega
theorem inc_ext : ∀ {a b : List Int}, Inc a → Inc b → (∀ y, y ∈ a ↔ y ∈ b) → a = b
  | [], [], _, _, _ => rfl
  | [], y :: b, _, _, h => absurd ((h y).2 (by simp)) (by simp)
  | x :: a, [], _, _, h => absurd ((h x).1 (by simp)) (by simp)
  | x :: a, y :: b, ha, hb, h => by
    have hxy : x = y := by
      have h1 := (h x).1 (by simp)
      have h2 := (h y).2 (by simp)
      rcases List.mem_cons.1 h1 with h1 | h1
      · exact h1
      · rcases List.mem_cons.1 h2 with h2 | h2
        · exact h2.symm
        · have := ha.1 y h2
          have := hb.1 x h1
          omega
    subst hxy
    congr 1
    refine inc_ext ha.2 hb.2 (fun z => ⟨fun hz => ?_, fun hz => ?_⟩)
    · rcases List.mem_cons.1 ((h z).1 (by simp [hz])) with e | e
      · subst e; have := ha.1 z hz; omega
      · exact e
    · rcases List.mem_cons.1 ((h z).2 (by simp [hz])) with e | e
      · subst e; have := hb.1 z hz; omega
      · exact e
theorem varsZ_snoc (l : List Int) (x : Int) : varsZ (l ++ [x]) = insV (x.natAbs : Int) (varsZ l) := by simp [varsZ]
theorem inc_varsZ (l : List Int) : Inc (varsZ l) := by
  have : ∀ (l : List Int) (o : List Int), Inc o → Inc (l.foldl (fun out x => insV (x.natAbs : Int) out) o) := fun l => by
    induction l with
    | nil => intro o h; exact h
    | cons x t ih => intro o h; exact ih _ (inc_insV _ h)
  exact this l [] trivial
theorem mem_varsZ {l : List Int} {y : Int} : y ∈ varsZ l ↔ ∃ x ∈ l, y = (x.natAbs : Int) := by
  have : ∀ (l : List Int) (o : List Int), y ∈ l.foldl (fun out x => insV (x.natAbs : Int) out) o ↔ y ∈ o ∨ ∃ x ∈ l, y = (x.natAbs : Int) := fun l => by
    induction l with
    | nil => intro o; simp
    | cons x t ih =>
      intro o
      rw [List.foldl_cons, ih, mem_insV]
      constructor
      · rintro ((h | h) | ⟨z, hz, h⟩)
        · exact .inr ⟨x, by simp, h⟩
        · exact .inl h
        · exact .inr ⟨z, by simp [hz], h⟩
      · rintro (h | ⟨z, hz, h⟩)
        · exact .inl (.inr h)
        · rcases List.mem_cons.1 hz with rfl | hz
          · exact .inl (.inl h)
          · exact .inr ⟨z, hz, h⟩
  have h := this l []
  unfold varsZ
  rw [h]
  simp
end Go.Proofs.YtkkapbnopmmmjaaDoor
namespace Go.Proofs.YtkkapbnopmmmjaaDoor
theorem cfZ_none {z : List (Int × Int)} {y : Int} (h : ∀ q ∈ z, q.2 ≠ y) : cfZ z y = 0 := by
  induction z with
  | nil => rfl
  | cons q t ih => simp only [cfZ]; rw [if_neg (h q (by simp)), ih (fun p hp => h p (by simp [hp]))]; rfl
theorem zip_snd {C L : List Int} (h : C.length = L.length) : (C.zip L).map (·.2) = L := List.map_snd_zip (by omega)
theorem zip_fst {C L : List Int} (h : C.length = L.length) : (C.zip L).map (·.1) = C := List.map_fst_zip (by omega)
theorem terms_pos (l : LinV) (vs : List Int) : ∀ q ∈ termsP l vs, 0 < q.1 := fun q hq => by
  unfold termsP at hq
  obtain ⟨v, _, hq⟩ := List.mem_flatMap.1 hq
  unfold termV at hq
  split at hq
  · simp at hq; subst hq; simp only; omega
  · split at hq
    · simp at hq; subst hq; simp only; omega
    · simp at hq
theorem terms_var {l : LinV} {vs : List Int} {q : Int × Int} (hq : q ∈ termsP l vs) : ∃ v ∈ vs, q.2 = v ∨ q.2 = -v := by
  unfold termsP at hq
  obtain ⟨v, hv, hq⟩ := List.mem_flatMap.1 hq
  unfold termV at hq
  split at hq
  · simp at hq; subst hq; exact ⟨v, hv, .inl rfl⟩
  · split at hq
    · simp at hq; subst hq; exact ⟨v, hv, .inr rfl⟩
    · simp at hq
theorem zip_map2 (ts : List (Int × Int)) (f : Int × Int → Int) : (ts.map f).zip (ts.map (·.2)) = ts.map fun q => (f q, q.2) := by
  induction ts with
  | nil => rfl
  | cons q t ih => simp [ih]
end Go.Proofs.YtkkapbnopmmmjaaDoor
namespace Go.Proofs.YtkkapbnopmmmjaaDoor
def absG (z : List (Int × Int)) : List Int → Nat
  | [] => 0
  | v :: t => (cfZ z v).natAbs + (cfZ z (-v)).natAbs + absG z t
def absS : List (Int × Int) → Nat
  | [] => 0
  | q :: t => q.1.natAbs + absS t
theorem absG_nil : ∀ vs : List Int, absG [] vs = 0
  | [] => rfl
  | _ :: t => by simp [absG, cfZ, absG_nil t]
theorem absG_far (q : Int × Int) (z : List (Int × Int)) : ∀ vs : List Int, (∀ v ∈ vs, q.2 ≠ v ∧ q.2 ≠ -v) → absG (q :: z) vs = absG z vs
  | [], _ => rfl
  | v :: t, h => by
    have h1 := h v (by simp)
    simp only [absG, cfZ, if_neg h1.1, if_neg h1.2, Int.zero_add, absG_far q z t (fun u hu => h u (by simp [hu]))]
theorem absG_cons (q : Int × Int) (z : List (Int × Int)) : ∀ vs : List Int, Inc vs → (∀ v ∈ vs, 0 < v) → absG (q :: z) vs ≤ q.1.natAbs + absG z vs
  | [], _, _ => by simp [absG]
  | v :: t, hi, hp => by
    have hpv := hp v (by simp)
    by_cases hq : q.2 = v ∨ q.2 = -v
    · have hf := absG_far q z t (fun u hu => by
        have := hi.1 u hu
        have := hp u (by simp [hu])
        rcases hq with e | e <;> rw [e] <;> constructor <;> omega)
      simp only [absG, cfZ, hf]
      rcases hq with e | e
      · rw [if_pos e, if_neg (by omega)]; omega
      · rw [if_neg (by omega), if_pos e]; omega
    · have hn : q.2 ≠ v ∧ q.2 ≠ -v := ⟨fun e => hq (.inl e), fun e => hq (.inr e)⟩
      have ih := absG_cons q z t hi.2 (fun u hu => hp u (by simp [hu]))
      simp only [absG, cfZ, if_neg hn.1, if_neg hn.2, Int.zero_add]
      omega
theorem absG_le : ∀ (z : List (Int × Int)) (vs : List Int), Inc vs → (∀ v ∈ vs, 0 < v) → absG z vs ≤ absS z
  | [], vs, _, _ => by simp [absG_nil]
  | q :: z, vs, hi, hp => by
    have h1 := absG_cons q z vs hi hp
    have h2 := absG_le z vs hi hp
    simp only [absS]
    omega
theorem absS_le (M : Nat) : ∀ z : List (Int × Int), (∀ q ∈ z, q.1.natAbs ≤ M) → absS z ≤ M * z.length
  | [], _ => by simp [absS]
  | q :: z, h => by
    have h1 := h q (by simp)
    have h2 := absS_le M z (fun u hu => h u (by simp [hu]))
    simp only [absS, List.length_cons, Nat.mul_add, Nat.mul_one]
    omega
theorem absG_take (z : List (Int × Int)) : ∀ (vs : List Int) (k : Nat), absG z (vs.take k) ≤ absG z vs
  | [], k => by simp
  | v :: t, 0 => by simp [absG]
  | v :: t, k + 1 => by
    have := absG_take z t k
    simp only [List.take_succ_cons, absG]
    omega
theorem mins_abs (l : LinV) : ∀ vs : List Int, (minsP l vs).natAbs ≤ absG (l.C.zip l.L) vs
  | [] => by simp [minsP, absG]
  | v :: t => by
    have ih := mins_abs l t
    simp only [minsP, absG, cf]
    omega
theorem sumF1_app : ∀ a b : List (Int × Int), sumF1 (a ++ b) = sumF1 a + sumF1 b
  | [], b => by simp [sumF1]
  | q :: a, b => by simp only [List.cons_append, sumF1, sumF1_app a b]; omega
theorem sumF1_abs (l : LinV) : ∀ vs : List Int, 0 ≤ sumF1 (termsP l vs) ∧ sumF1 (termsP l vs) ≤ absG (l.C.zip l.L) vs
  | [] => by simp [termsP, sumF1, absG]
  | v :: t => by
    have ih := sumF1_abs l t
    have e : termsP l (v :: t) = termV (cf l v) (cf l (-v)) v ++ termsP l t := rfl
    rw [e, sumF1_app]
    simp only [absG]
    unfold termV cf
    split
    · simp only [sumF1]; omega
    · split
      · simp only [sumF1]; omega
      · simp only [sumF1]; omega
theorem sumF1_take : ∀ (ts : List (Int × Int)) (k : Nat), (∀ q ∈ ts, 0 < q.1) → 0 ≤ sumF1 (ts.take k) ∧ sumF1 (ts.take k) ≤ sumF1 ts
  | [], k, _ => by simp [sumF1]
  | q :: t, 0, h => by
    have := h q (by simp)
    have := sumF1_take t 0 (fun u hu => h u (by simp [hu]))
    simp only [List.take_zero, sumF1] at this ⊢
    omega
  | q :: t, k + 1, h => by
    have := h q (by simp)
    have := sumF1_take t k (fun u hu => h u (by simp [hu]))
    simp only [List.take_succ_cons, sumF1]
    omega
theorem mem_le_sumF1 : ∀ (ts : List (Int × Int)) (q : Int × Int), (∀ u ∈ ts, 0 < u.1) → q ∈ ts → q.1 ≤ sumF1 ts
  | u :: t, q, h, hq => by
    have h1 := h u (by simp)
    have h2 := (sumF1_take t 0 (fun u hu => h u (by simp [hu])))
    simp only [List.take_zero, sumF1] at h2 ⊢
    rcases List.mem_cons.1 hq with rfl | hq
    · omega
    · have := mem_le_sumF1 t q (fun u hu => h u (by simp [hu])) hq
      omega
theorem termV_len (a b v : Int) : (termV a b v).length ≤ 1 := by unfold termV; split <;> (try split) <;> simp
theorem terms_len (l : LinV) : ∀ vs : List Int, (termsP l vs).length ≤ vs.length
  | [] => by simp [termsP]
  | v :: t => by
    have := terms_len l t
    have h1 := termV_len (cf l v) (cf l (-v)) v
    have e : termsP l (v :: t) = termV (cf l v) (cf l (-v)) v ++ termsP l t := rfl
    rw [e]
    simp only [List.length_append, List.length_cons]
    omega
theorem vars_pos {L : List Int} (h : ∀ x ∈ L, x ≠ 0) : ∀ v ∈ varsZ L, 0 < v := fun v hv => by
  obtain ⟨x, hx, rfl⟩ := mem_varsZ.1 hv
  have := h x hx
  omega
theorem vars_le {L : List Int} {n : Int} (h : ∀ x ∈ L, x ≠ 0 ∧ -n ≤ x ∧ x ≤ n) : ∀ v ∈ varsZ L, 0 < v ∧ v ≤ n := fun v hv => by
  obtain ⟨x, hx, rfl⟩ := mem_varsZ.1 hv
  have := h x hx
  omega
theorem vars_abs {l : LinV} (h : lcheck l 65536 = 0) : absG (l.C.zip l.L) (varsZ l.L) ≤ 4503599627370496 := by
  obtain ⟨_, _, hl, _, hc, hx, hn⟩ := lcheck_ok h
  refine Nat.le_trans (absG_le _ _ (inc_varsZ _) (vars_pos fun x hx' => (hx x hx').1)) (Nat.le_trans (absS_le 1099511627776 _ ?_) ?_)
  · intro q hq
    have := hc q.1 (List.of_mem_zip hq).1
    omega
  · have : (l.C.zip l.L).length ≤ 4096 := by rw [List.length_zip]; omega
    calc 1099511627776 * (l.C.zip l.L).length ≤ 1099511627776 * 4096 := Nat.mul_le_mul_left _ this
      _ ≤ _ := by decide
theorem mins_bd {l : LinV} (h : lcheck l 65536 = 0) (k : Nat) : -4503599627370496 ≤ minsP l ((varsZ l.L).take k) ∧ minsP l ((varsZ l.L).take k) ≤ 4503599627370496 := by
  have h1 := mins_abs l ((varsZ l.L).take k)
  have h2 := absG_take (l.C.zip l.L) (varsZ l.L) k
  have h3 := vars_abs h
  omega
theorem terms_bd {l : LinV} (h : lcheck l 65536 = 0) (k : Nat) : 0 ≤ sumF1 (termsP l ((varsZ l.L).take k)) ∧ sumF1 (termsP l ((varsZ l.L).take k)) ≤ 4503599627370496 := by
  have h1 := sumF1_abs l ((varsZ l.L).take k)
  have h2 := absG_take (l.C.zip l.L) (varsZ l.L) k
  have h3 := vars_abs h
  omega
theorem minsP_snoc (l : LinV) : ∀ (vs : List Int) (v : Int), minsP l (vs ++ [v]) = minsP l vs + min (cf l v) (cf l (-v))
  | [], v => by simp [minsP]
  | u :: t, v => by simp only [List.cons_append, minsP, minsP_snoc l t v]; omega
theorem termsP_snoc (l : LinV) (vs : List Int) (v : Int) : termsP l (vs ++ [v]) = termsP l vs ++ termV (cf l v) (cf l (-v)) v := by simp [termsP]
theorem varsZ_len (L : List Int) : (varsZ L).length ≤ L.length := by
  have ins : ∀ (v : Int) (l : List Int), (insV v l).length ≤ l.length + 1 := fun v l => by
    induction l with
    | nil => simp [insV]
    | cons y t ih => unfold insV; split <;> (try split) <;> simp <;> omega
  have go : ∀ (L acc : List Int), (L.foldl (fun out x => insV (x.natAbs : Int) out) acc).length ≤ L.length + acc.length := fun L => by
    induction L with
    | nil => intro acc; simp
    | cons x t ih => intro acc; have := ih (insV (x.natAbs : Int) acc); have := ins (x.natAbs : Int) acc; simp only [List.foldl_cons, List.length_cons]; omega
  exact go L []
end Go.Proofs.YtkkapbnopmmmjaaDoor
namespace Go.Proofs.YtkkapbnopmmmjaaDoor
theorem norm_small {x : LinV} {n : Int} (hn : 0 ≤ n) (hn2 : n ≤ 65536) (hc : lcheck x n = 0) : normP x = normW x ∧ lcheck x 65536 = 0 ∧ (normP x).C.length ≤ x.L.length ∧ 0 ≤ (normP x).B ∧ (normP x).B ≤ 4503599627370496 := by
  obtain ⟨_, _, h3, h4, h5, h6, h7⟩ := lcheck_ok hc
  have hc2 : lcheck x 65536 = 0 := lcheck_mk (by decide) (by decide) h3 h4 h5 (fun y hy => by have := h6 y hy; omega) h7
  have e : normP x = normW x := if_pos hc2
  refine ⟨e, hc2, ?_⟩
  rw [e]
  unfold normW
  have h1 := terms_len x (varsZ x.L)
  have h2 := varsZ_len x.L
  have h8 := terms_bd hc2 (varsZ x.L).length
  rw [List.take_length] at h8
  split
  · exact ⟨Nat.zero_le _, by decide, by decide⟩
  · split
    · exact ⟨Nat.zero_le _, by decide, by decide⟩
    · refine ⟨by simp; omega, ?_, ?_⟩
      · show 0 ≤ x.B - minsP x (varsZ x.L); omega
      · show x.B - minsP x (varsZ x.L) ≤ _; omega
end Go.Proofs.YtkkapbnopmmmjaaDoor
namespace Go.Proofs.YtkkapbnopmmmjaaDoor
def sameP (a b : LinV) : Bool := decide (a.C = b.C) && (decide (a.L = b.L) && decide (a.B = b.B))
theorem sameP_iff {a b : LinV} : sameP a b = true ↔ a = b := by
  cases a; cases b; simp [sameP]
end Go.Proofs.YtkkapbnopmmmjaaDoor
