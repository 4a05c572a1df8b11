/- Lemmas and contracts for the row. -/
set_option linter.unusedVariables false
set_option linter.unusedSimpArgs false
set_option linter.unnecessarySimpa false
namespace Go.Proofs.YtkkapbnopmmmjaaGreatDoor
def prs (l : List Int) (i : Nat) : List (Int × Int) := (List.range i).flatMap fun a => (l.drop (a + 1)).map fun y => (l.getD a 0, y)
def sgn (n i : Nat) (x : Int) : Int := if n.testBit i then -x else x
def negl (l : List Int) (n k : Nat) : List Int := l.mapIdx fun i x => if i < k then sgn n i x else x
def pop8 (n : Nat) : Nat := [0, 1, 1, 2, 1, 2, 2, 3].getD n 0
def odd8 (n : Nat) : Bool := pop8 n % 2 == 1
def cls1 (l : List Int) (s : Int) (n : Nat) : List Int := negl l n l.length ++ [if odd8 n then s else -s]
def addC (l : List Int) (s c : Int) : List (List Int) :=
  (List.range (2 ^ l.length)).map (cls1 l s) ++ (prs l l.length).map (fun q => [-q.1, -q.2, c]) ++
    if l.length = 2 then [[l.getD 0 0, -c], [l.getD 1 0, -c]] else (prs l l.length).map (fun q => [q.1, q.2, -c])
def updr (rows : Int → List Int) (k x : Int) : Int → List Int := fun j => if j = k then rows k ++ [x] else rows j
def setr (rows : Int → List Int) (k : Int) (l : List Int) : Int → List Int := fun j => if j = k then l else rows j
abbrev Fd := (Int → List Int) × Int
def feed1 (s : Fd) (x : Int) (k : Nat) : Fd := (updr s.1 k x, max s.2 (k + 1))
def feedTo (n : Nat) (x : Int) (s : Fd) (j : Nat) : Fd := (List.range j).foldl (fun s k => if n.testBit k then feed1 s x k else s) s
def feedAll (s : Fd) (cl : List (Int × Int)) : Fd := cl.foldl (fun s q => feedTo q.1.toNat q.2 s 64) s
def fd0 : Fd := (fun _ => [], 0)
theorem feedTo_succ (n : Nat) (x : Int) (s : Fd) (j : Nat) : feedTo n x s (j + 1) = if n.testBit j then feed1 (feedTo n x s j) x j else feedTo n x s j := by
  simp [feedTo, List.range_succ]
theorem feedTo_skip (n : Nat) (x : Int) (s : Fd) (j t : Nat) (hjt : j ≤ t) (h : ∀ k, j ≤ k → k < t → n.testBit k = false) : feedTo n x s t = feedTo n x s j := by
  induction t with
  | zero => have : j = 0 := by omega
            subst this; rfl
  | succ t ih =>
    by_cases e : j = t + 1
    · subst e; rfl
    · rw [feedTo_succ, h t (by omega) (by omega), if_neg (by simp), ih (by omega) (fun k hk hk' => h k hk (by omega))]
theorem feedAll_snoc (s : Fd) (cl : List (Int × Int)) (q : Int × Int) : feedAll s (cl ++ [q]) = feedTo q.1.toNat q.2 (feedAll s cl) 64 := by simp [feedAll]
structure Ps where
  rows : Int → List Int
  cs : List (List Int)
  nx : Int
  top : Int
def stepA (k : Int) (s : Ps) : Ps :=
  { rows := updr (updr (setr s.rows k ((s.rows k).drop 3)) k s.nx) (k + 1) (s.nx + 1), cs := s.cs ++ addC ((s.rows k).take 3) s.nx (s.nx + 1), nx := s.nx + 2, top := max (max s.top (k + 1)) (k + 1 + 1) }
def sumF : Nat → Int → Ps → List Int → Option (List Int × List (List Int) × Int)
  | 0, _, _, _ => none
  | f + 1, k, s, out =>
    if k < s.top then
      if 1 < (s.rows k).length then
        if 65537 < s.nx + 2 then none else sumF f k (stepA k s) out
      else sumF f (k + 1) s (out ++ [(s.rows k).headD 0])
    else some (out, s.cs, s.nx)
def fuel0 : Nat := 300000
def okAt (next : Int) (q : Int × Int) : Bool := decide (0 ≤ q.1) && decide (q.1 ≤ 1099511627776) && decide (q.2 ≠ 0) && decide (q.2 < next) && decide (-next < q.2)
inductive SumR where
  | err (e : Int)
  | ok (bits : List Int) (cs : List (List Int)) (after : Int)
def sumP (coef l : List Int) (next : Int) : SumR :=
  if next < 1 ∨ 65537 < next ∨ coef.length ≠ l.length then .err 1
  else if (coef.zip l).all (okAt next) = false then .err 1
  else if 4096 < l.length then .err 2
  else match sumF fuel0 0 { rows := (feedAll fd0 (coef.zip l)).1, cs := [], nx := next, top := (feedAll fd0 (coef.zip l)).2 } [] with
    | none => .err 2
    | some r => .ok r.1 r.2.1 r.2.2
theorem low_spec (n : Nat) : ∀ (t m : Nat), n = 2 ^ t * (2 * m + 1) → n &&& (n - 1) = 2 ^ (t + 1) * m ∧ n.testBit t = true ∧ ∀ k, k < t → n.testBit k = false := by
  intro t m hn
  have hb : ∀ k, n.testBit k = (decide (t ≤ k) && (2 * m + 1).testBit (k - t)) := fun k => by rw [hn, Nat.mul_comm, Nat.testBit_mul_two_pow]
  have hp : 0 < 2 ^ t := Nat.two_pow_pos t
  refine ⟨?_, ?_, fun k hk => ?_⟩
  · have e1 : n - 1 = 2 ^ (t + 1) * m + (2 ^ t - 1) := by
      rw [hn, Nat.pow_succ, Nat.mul_add, Nat.mul_assoc]
      omega
    apply Nat.eq_of_testBit_eq
    intro k
    rw [Nat.testBit_and, hb k, e1, Nat.mul_comm (2 ^ (t + 1)) m]
    have e2 : (m * 2 ^ (t + 1) + (2 ^ t - 1)).testBit k = if k < t + 1 then (2 ^ t - 1).testBit k else m.testBit (k - (t + 1)) := by
      rw [Nat.mul_comm]
      exact Nat.testBit_two_pow_mul_add m (by rw [Nat.pow_succ]; omega) k
    rw [e2, Nat.testBit_mul_two_pow, Nat.testBit_two_pow_sub_one]
    by_cases hk : k < t + 1
    · rw [if_pos hk]
      by_cases hkt : k < t
      · have : ¬ t ≤ k := by omega
        have h3 : ¬ t + 1 ≤ k := by omega
        simp [this, h3]
      · have : k = t := by omega
        subst this
        have h3 : ¬ k + 1 ≤ k := by omega
        simp [h3]
    · rw [if_neg hk]
      have h1 : t ≤ k := by omega
      have h2 : t + 1 ≤ k := by omega
      obtain ⟨d, rfl⟩ : ∃ d, k = t + 1 + d := ⟨k - (t + 1), by omega⟩
      rw [show t + 1 + d - t = d + 1 by omega, show t + 1 + d - (t + 1) = d by omega, Nat.testBit_succ, show (2 * m + 1) / 2 = m by omega]
      simp [h1]
  · rw [hb]; simp [Nat.testBit_zero]
  · rw [hb]
    have : ¬ t ≤ k := by omega
    simp [this]
end Go.Proofs.YtkkapbnopmmmjaaGreatDoor
namespace Go.Proofs.YtkkapbnopmmmjaaGreatDoor
theorem trunc_bit (c j k : Nat) : (c / 2 ^ j * 2 ^ j).testBit k = (decide (j ≤ k) && c.testBit k) := by
  rw [Nat.testBit_mul_two_pow]
  by_cases h : j ≤ k
  · rw [Nat.testBit_div_two_pow, show k - j + j = k by omega]
  · simp [h]
theorem feed_step (c j n t m : Nat) (hn : n = c / 2 ^ j * 2 ^ j) (hnt : n = 2 ^ t * (2 * m + 1)) :
    j ≤ t ∧ c.testBit t = true ∧ (∀ k, j ≤ k → k < t → c.testBit k = false) ∧ n &&& (n - 1) = c / 2 ^ (t + 1) * 2 ^ (t + 1) := by
  obtain ⟨h1, h2, h3⟩ := low_spec n t m hnt
  have hb : ∀ k, n.testBit k = (decide (j ≤ k) && c.testBit k) := fun k => by rw [hn, trunc_bit]
  have hjt : j ≤ t := by
    have := hb t
    rw [h2] at this
    simp at this
    exact this.1
  refine ⟨hjt, ?_, fun k hk hk' => ?_, ?_⟩
  · have := hb t
    rw [h2] at this
    simp at this
    exact this.2
  · have := hb k
    rw [h3 k hk'] at this
    simpa [hk] using this.symm
  · rw [h1]
    apply Nat.eq_of_testBit_eq
    intro k
    rw [trunc_bit, Nat.mul_comm, Nat.testBit_mul_two_pow]
    by_cases hk : t + 1 ≤ k
    · have h4 := hb k
      rw [hnt, Nat.mul_comm, Nat.testBit_mul_two_pow] at h4
      obtain ⟨d, rfl⟩ : ∃ d, k = t + 1 + d := ⟨k - (t + 1), by omega⟩
      rw [show t + 1 + d - t = d + 1 by omega, Nat.testBit_succ, show (2 * m + 1) / 2 = m by omega] at h4
      rw [show t + 1 + d - (t + 1) = d by omega]
      have h5 : t ≤ t + 1 + d := by omega
      have h6 : j ≤ t + 1 + d := by omega
      simp only [h5, h6, decide_true, Bool.true_and] at h4
      simp [h4]
    · simp [hk]
theorem feed_end (c j : Nat) (x : Int) (s : Fd) (hj : j ≤ 64) (h : c / 2 ^ j * 2 ^ j = 0) : feedTo c x s 64 = feedTo c x s j :=
  feedTo_skip c x s j 64 hj (fun k hk _ => by
    have := trunc_bit c j k
    rw [h] at this
    simpa [hk] using this.symm)
def FeedOk (s : Fd) (n : Nat) : Prop := (∀ j, (s.1 j).length ≤ n) ∧ 0 ≤ s.2 ∧ s.2 ≤ 64
theorem FeedOk.feed1 {s : Fd} {n : Nat} (h : FeedOk s n) (x : Int) {k : Nat} (hk : k < 64) : FeedOk (feed1 s x k) (n + 1) := by
  obtain ⟨h1, h2, h3⟩ := h
  refine ⟨fun j => ?_, ?_, ?_⟩
  · simp only [Go.Proofs.YtkkapbnopmmmjaaGreatDoor.feed1, updr]
    split
    · rw [List.length_append]; have := h1 k; simp; omega
    · have := h1 j; omega
  · simp only [Go.Proofs.YtkkapbnopmmmjaaGreatDoor.feed1]; omega
  · simp only [Go.Proofs.YtkkapbnopmmmjaaGreatDoor.feed1]; omega
theorem FeedOk.mono {s : Fd} {n n' : Nat} (h : FeedOk s n) (hn : n ≤ n') : FeedOk s n' := ⟨fun j => Nat.le_trans (h.1 j) hn, h.2⟩
theorem FeedOk.feedTo {s : Fd} {n : Nat} (h : FeedOk s n) (c : Nat) (x : Int) : ∀ (j : Nat), j ≤ 64 → FeedOk (feedTo c x s j) (n + j)
  | 0, _ => h
  | j + 1, hj => by
    rw [feedTo_succ]
    have ih := FeedOk.feedTo h c x j (by omega)
    split
    · exact ih.feed1 x (by omega)
    · exact ih.mono (by omega)
theorem FeedOk.all : ∀ (cl : List (Int × Int)) (s : Fd) (n : Nat), FeedOk s n → FeedOk (feedAll s cl) (n + 64 * cl.length)
  | [], _, _, h => h
  | q :: cl, s, n, h => by
    have := FeedOk.all cl _ _ (h.feedTo q.1.toNat q.2 64 (Nat.le_refl _))
    simp only [feedAll, List.foldl_cons, List.length_cons] at this ⊢
    exact this.mono (by omega)
theorem FeedOk.zero : FeedOk fd0 0 := ⟨fun _ => Nat.le_refl _, by decide, by decide⟩
def ext (o : List Int) (rows : Int → List Int) : Int → List Int := fun j => if j = -1 then o else rows j
theorem ext_at (o : List Int) (rows : Int → List Int) (k : Int) (hk : 0 ≤ k) : ext o rows k = rows k := by unfold ext; rw [if_neg (by omega)]
theorem ext_updr (o : List Int) (rows : Int → List Int) (k x : Int) (hk : 0 ≤ k) : updr (ext o rows) k x = ext o (updr rows k x) := by
  funext j
  simp only [updr, ext]
  by_cases h : j = k
  · subst h; rw [if_pos rfl, if_neg (by omega), if_neg (by omega), if_pos rfl]
  · rw [if_neg h, if_neg h]
theorem ext_set (o : List Int) (rows : Int → List Int) (k : Int) (zs : List Int) (hk : 0 ≤ k) : (fun j => if j = k then zs else ext o rows j) = ext o (setr rows k zs) := by
  funext j
  simp only [setr, ext]
  by_cases h : j = k
  · subst h; rw [if_pos rfl, if_neg (by omega), if_pos rfl]
  · rw [if_neg h, if_neg h]
theorem ext_push (o zs : List Int) (rows : Int → List Int) : (fun j => if j = -1 then zs else ext o rows j) = ext zs rows := by
  funext j
  simp only [ext]
  split <;> rfl
theorem feedAll_neg : ∀ (cl : List (Int × Int)) (s : Fd), s.1 (-1) = [] → (feedAll s cl).1 (-1) = []
  | [], _, h => h
  | q :: cl, s, h => by
    have h1 : ∀ j, (feedTo q.1.toNat q.2 s j).1 (-1) = [] := fun j => by
      induction j with
      | zero => exact h
      | succ j ih =>
        rw [feedTo_succ]
        split
        · simp only [feed1, updr]
          rw [if_neg (by omega)]
          exact ih
        · exact ih
    simpa [feedAll] using feedAll_neg cl _ (h1 64)
theorem ext_nil (rows : Int → List Int) (h : rows (-1) = []) : ext [] rows = rows := by
  funext j
  simp only [ext]
  split
  · rename_i hj; rw [hj, h]
  · rfl
structure PsOk (next : Int) (s : Ps) : Prop where
  lo : 1 ≤ next
  nx : next ≤ s.nx
  hi : s.nx ≤ 65537
  len : ∀ j, ((s.rows j).length : Int) ≤ 262144 + (s.nx - next)
  cl : (s.cs.length : Int) ≤ 100 * (s.nx - next)
  top0 : 0 ≤ s.top
  top : s.top ≤ 64 + (s.nx - next)
  lit : ∀ j, ∀ x ∈ s.rows j, -70000 ≤ x ∧ x ≤ 70000
theorem addC_len (l : List Int) (s c : Int) (h : l.length ≤ 3) : (addC l s c).length ≤ 30 := by
  have hp : (prs l l.length).length ≤ 9 := by
    have : ∀ i, (prs l i).length ≤ i * l.length := fun i => by
      induction i with
      | zero => simp [prs]
      | succ i ih =>
        have e : prs l (i + 1) = prs l i ++ (l.drop (i + 1)).map fun y => (l.getD i 0, y) := by simp [prs, List.range_succ]
        rw [e, List.length_append, List.length_map, List.length_drop, Nat.add_mul]; omega
    have h2 := this l.length
    have h3 : l.length * l.length ≤ 3 * 3 := Nat.mul_le_mul h h
    omega
  have h8 : 2 ^ l.length ≤ 8 := Nat.le_trans (Nat.pow_le_pow_right (by decide) h) (by decide)
  unfold addC
  simp only [List.length_append, List.length_map, List.length_range]
  split
  · simp; omega
  · simp only [List.length_map]; omega
theorem PsOk.step {next : Int} {s : Ps} (h : PsOk next s) (k : Int) (_hk : 0 ≤ k) (hkt : k < s.top) (hn : s.nx + 2 ≤ 65537) : PsOk next (stepA k s) := by
  have hnx := h.nx
  refine ⟨h.lo, by simp only [stepA]; omega, by simp only [stepA]; omega, fun j => ?_, ?_, ?_, ?_, fun j x hx => ?_⟩
  · simp only [stepA, updr, setr]
    have h1 := h.len j
    have h2 := h.len k
    have h3 := h.len (k + 1)
    by_cases hj : j = k + 1
    · subst hj
      have e : ¬ k + 1 = k := by omega
      simp only [if_true, e, if_false, List.length_append, List.length_singleton]
      omega
    · by_cases hj' : j = k
      · subst hj'
        simp only [hj, if_false, if_true, List.length_append, List.length_singleton, List.length_drop]
        omega
      · simp only [hj, hj', if_false]
        omega
  · simp only [stepA, List.length_append]
    have := addC_len ((s.rows k).take 3) s.nx (s.nx + 1) (by simp; omega)
    have := h.cl
    omega
  · simp only [stepA]; have := h.top0; omega
  · simp only [stepA]; have := h.top; omega
  · simp only [stepA, updr, setr] at hx
    have hl := h.lo
    have hhi := h.hi
    by_cases hj : j = k + 1
    · subst hj
      have e : ¬ k + 1 = k := by omega
      simp only [if_true, e, if_false, List.mem_append, List.mem_singleton] at hx
      rcases hx with hx | hx
      · exact h.lit _ x hx
      · omega
    · by_cases hj' : j = k
      · subst hj'
        simp only [hj, if_false, if_true, List.mem_append, List.mem_singleton] at hx
        rcases hx with hx | hx
        · exact h.lit _ x (List.mem_of_mem_drop hx)
        · omega
      · simp only [hj, hj', if_false] at hx
        exact h.lit _ x hx
theorem sumF_add {f : Nat} {k : Int} {s : Ps} {o : List Int} (h1 : k < s.top) (h2 : 1 < (s.rows k).length) (h3 : s.nx + 2 ≤ 65537) : sumF (f + 1) k s o = sumF f k (stepA k s) o := by
  rw [sumF, if_pos h1, if_pos h2, if_neg (by omega)]
theorem sumF_full {f : Nat} {k : Int} {s : Ps} {o : List Int} (h1 : k < s.top) (h2 : 1 < (s.rows k).length) (h3 : 65537 < s.nx + 2) : sumF (f + 1) k s o = none := by
  rw [sumF, if_pos h1, if_pos h2, if_pos h3]
theorem sumF_next {f : Nat} {k : Int} {s : Ps} {o : List Int} (h1 : k < s.top) (h2 : ¬ 1 < (s.rows k).length) : sumF (f + 1) k s o = sumF f (k + 1) s (o ++ [(s.rows k).headD 0]) := by
  rw [sumF, if_pos h1, if_neg h2]
theorem sumF_end {f : Nat} {k : Int} {s : Ps} {o : List Int} (h1 : ¬ k < s.top) : sumF (f + 1) k s o = some (o, s.cs, s.nx) := by
  rw [sumF, if_neg h1]
theorem feed_lit : ∀ (cl : List (Int × Int)) (s : Fd) (M : Int), (∀ j, ∀ x ∈ s.1 j, -M ≤ x ∧ x ≤ M) → (∀ q ∈ cl, -M ≤ q.2 ∧ q.2 ≤ M) → ∀ j, ∀ x ∈ (feedAll s cl).1 j, -M ≤ x ∧ x ≤ M
  | [], _, _, h, _ => h
  | q :: cl, s, M, h, hq => by
    have h1 : ∀ t, ∀ j, ∀ x ∈ (feedTo q.1.toNat q.2 s t).1 j, -M ≤ x ∧ x ≤ M := fun t => by
      induction t with
      | zero => exact h
      | succ t ih =>
        rw [feedTo_succ]
        split
        · intro j x hx
          simp only [feed1, updr] at hx
          split at hx
          · rcases List.mem_append.1 hx with hx | hx
            · exact ih _ x hx
            · rw [List.mem_singleton] at hx; rw [hx]; exact hq q (by simp)
          · exact ih _ x hx
        · exact ih
    have := feed_lit cl _ M (h1 64) (fun q' hq' => hq q' (by simp [hq']))
    simpa [feedAll] using this
end Go.Proofs.YtkkapbnopmmmjaaGreatDoor
namespace Go.Proofs.YtkkapbnopmmmjaaGreatDoor
theorem sumF_lens (next : Int) : ∀ (f : Nat) (k : Int) (s : Ps) (o : List Int) (r : List Int × List (List Int) × Int), PsOk next s → 0 ≤ k → k ≤ s.top → (o.length : Int) = k → (∀ c ∈ s.cs, c.length ≤ 100) → sumF f k s o = some r →
    r.1.length ≤ 70000 ∧ r.2.1.length ≤ 7000000 ∧ ∀ c ∈ r.2.1, c.length ≤ 100
  | 0, _, _, _, _, _, _, _, _, _, h => by simp [sumF] at h
  | f + 1, k, s, o, r, hs, hk0, hk, ho, hc, h => by
    rw [sumF] at h
    by_cases h1 : k < s.top
    · rw [if_pos h1] at h
      by_cases h2 : 1 < (s.rows k).length
      · rw [if_pos h2] at h
        by_cases h3 : 65537 < s.nx + 2
        · rw [if_pos h3] at h; cases h
        · rw [if_neg h3] at h
          refine sumF_lens next f k _ o r (hs.step k hk0 h1 (by omega)) hk0 (by simp only [stepA]; omega) ho (fun c hcm => ?_) h
          simp only [stepA, List.mem_append] at hcm
          rcases hcm with hcm | hcm
          · exact hc c hcm
          · have hl3 : ((s.rows k).take 3).length ≤ 3 := by simp; omega
            generalize (s.rows k).take 3 = l at hcm hl3
            unfold addC at hcm
            simp only [List.mem_append, List.mem_map] at hcm
            rcases hcm with (⟨n, _, rfl⟩ | ⟨q, _, rfl⟩) | hcm
            · simp [cls1, negl]; omega
            · simp
            · split at hcm
              · simp at hcm; rcases hcm with rfl | rfl <;> simp
              · simp only [List.mem_map] at hcm; obtain ⟨q, _, rfl⟩ := hcm; simp
      · rw [if_neg h2] at h
        exact sumF_lens next f (k + 1) s _ r hs (by omega) (by omega) (by rw [List.length_append, List.length_singleton]; omega) hc h
    · rw [if_neg h1] at h
      injection h with h
      subst h
      have a := hs.top
      have b := hs.cl
      have c := hs.hi
      have d := hs.lo
      exact ⟨by simp only; omega, by simp only; omega, hc⟩
theorem sumP_lens {coef l : List Int} {next : Int} {bits : List Int} {cs : List (List Int)} {after : Int} (h : sumP coef l next = .ok bits cs after) : bits.length ≤ 70000 ∧ cs.length ≤ 7000000 ∧ ∀ c ∈ cs, c.length ≤ 100 := by
  unfold sumP at h
  split at h
  · cases h
  · split at h
    · cases h
    · split at h
      · cases h
      · rename_i h1 h2 h3
        generalize hr : sumF fuel0 0 { rows := (feedAll fd0 (coef.zip l)).1, cs := [], nx := next, top := (feedAll fd0 (coef.zip l)).2 } [] = o at h
        cases o with
        | none => cases h
        | some r =>
          simp only at h
          injection h with e1 e2 e3
          subst e1 e2 e3
          have hall : ∀ q ∈ coef.zip l, okAt next q = true := by simpa using h2
          have ok := FeedOk.all (coef.zip l) fd0 0 FeedOk.zero
          have hlit := feed_lit (coef.zip l) fd0 70000 (fun j x hx => by simp [fd0] at hx) (fun q hq => by have := hall q hq; simp [okAt] at this; omega)
          refine sumF_lens next fuel0 0 _ [] r ⟨by omega, Int.le_refl _, by simp only; omega, fun j => ?_, by simp, ok.2.1, by have := ok.2.2; simp only; omega, hlit⟩ (Int.le_refl _) ok.2.1 rfl (fun c hc => by simp at hc) hr
          have := ok.1 j
          rw [List.length_zip] at this
          simp only; omega
theorem sumF_aft (next : Int) : ∀ (f : Nat) (k : Int) (s : Ps) (o : List Int) (r : List Int × List (List Int) × Int), PsOk next s → 0 ≤ k → k ≤ s.top → sumF f k s o = some r → next ≤ r.2.2 ∧ r.2.2 ≤ 65537
  | 0, _, _, _, _, _, _, _, h => by simp [sumF] at h
  | f + 1, k, s, o, r, hs, hk0, hk, h => by
    rw [sumF] at h
    by_cases h1 : k < s.top
    · rw [if_pos h1] at h
      by_cases h2 : 1 < (s.rows k).length
      · rw [if_pos h2] at h
        by_cases h3 : 65537 < s.nx + 2
        · rw [if_pos h3] at h; cases h
        · rw [if_neg h3] at h
          exact sumF_aft next f k _ o r (hs.step k hk0 h1 (by omega)) hk0 (by simp only [stepA]; omega) h
      · rw [if_neg h2] at h
        exact sumF_aft next f (k + 1) s _ r hs (by omega) (by omega) h
    · rw [if_neg h1] at h
      injection h with h
      subst h
      exact ⟨hs.nx, hs.hi⟩
theorem sumP_aft {coef l : List Int} {next : Int} {bits : List Int} {cs : List (List Int)} {after : Int} (h : sumP coef l next = .ok bits cs after) : 1 ≤ next ∧ next ≤ after ∧ after ≤ 65537 := by
  unfold sumP at h
  split at h
  · cases h
  · split at h
    · cases h
    · split at h
      · cases h
      · rename_i h1 h2 h3
        generalize hr : sumF fuel0 0 { rows := (feedAll fd0 (coef.zip l)).1, cs := [], nx := next, top := (feedAll fd0 (coef.zip l)).2 } [] = o at h
        cases o with
        | none => cases h
        | some r =>
          simp only at h
          injection h with e1 e2 e3
          subst e1 e2 e3
          have hall : ∀ q ∈ coef.zip l, okAt next q = true := by simpa using h2
          have ok := FeedOk.all (coef.zip l) fd0 0 FeedOk.zero
          have hlit := feed_lit (coef.zip l) fd0 70000 (fun j x hx => by simp [fd0] at hx) (fun q hq => by have := hall q hq; simp [okAt] at this; omega)
          refine ⟨by omega, sumF_aft next fuel0 0 _ [] r ⟨by omega, Int.le_refl _, by simp only; omega, fun j => ?_, by simp, ok.2.1, by have := ok.2.2; simp only; omega, hlit⟩ (Int.le_refl _) ok.2.1 hr⟩
          have := ok.1 j
          rw [List.length_zip] at this
          simp only; omega
end Go.Proofs.YtkkapbnopmmmjaaGreatDoor
namespace Go.Proofs.YtkkapbnopmmmjaaGreatDoor
def lcond (K : Nat) (bits : List Int) (t i : Nat) : Bool := bits.getD i 0 != 0 && (i == t || (decide (t < i) && !K.testBit i))
def clTo (bits : List Int) (K t i : Nat) : List Int := ((List.range i).filter (lcond K bits t)).map (fun j => bits.getD j 0)
def leastTo (bits : List Int) (K j : Nat) : List (List Int) := ((List.range j).filter K.testBit).map fun t => clTo bits K t bits.length
def oddB (x : Int) : Bool := decide (x < -65536) || decide (65536 < x)
inductive LeastR where
  | err (e : Int)
  | ok (cs : List (List Int))
def leastP (bits : List Int) (k : Int) : LeastR :=
  if k < 0 ∨ 4503599627370496 < k ∨ bits.any oddB = true then .err 1 else if 60 < bits.length then .err 2 else .ok (leastTo bits k.toNat 64)
theorem clTo_succ (bits : List Int) (K t i : Nat) : clTo bits K t (i + 1) = clTo bits K t i ++ if lcond K bits t i then [bits.getD i 0] else [] := by
  unfold clTo
  rw [List.range_succ, List.filter_append, List.map_append]
  congr 1
  by_cases h : lcond K bits t i = true
  · simp [h]
  · simp [h]
theorem clTo_len (bits : List Int) (K t i : Nat) : (clTo bits K t i).length ≤ i := by
  unfold clTo
  rw [List.length_map]
  exact Nat.le_trans (List.length_filter_le _ _) (by simp)
theorem leastTo_succ (bits : List Int) (K j : Nat) : leastTo bits K (j + 1) = leastTo bits K j ++ if K.testBit j then [clTo bits K j bits.length] else [] := by
  unfold leastTo
  rw [List.range_succ, List.filter_append, List.map_append]
  congr 1
  by_cases h : K.testBit j = true
  · simp [h]
  · simp [h]
theorem leastTo_len (bits : List Int) (K j : Nat) : (leastTo bits K j).length ≤ j := by
  unfold leastTo
  rw [List.length_map]
  exact Nat.le_trans (List.length_filter_le _ _) (by simp)
theorem leastTo_skip (bits : List Int) (K j t : Nat) (hjt : j ≤ t) (h : ∀ k, j ≤ k → k < t → K.testBit k = false) : leastTo bits K t = leastTo bits K j := by
  induction t with
  | zero => have : j = 0 := by omega
            subst this; rfl
  | succ t ih =>
    by_cases e : j = t + 1
    · subst e; rfl
    · rw [leastTo_succ, h t (by omega) (by omega), if_neg (by simp), List.append_nil, ih (by omega) (fun k hk hk' => h k hk (by omega))]
theorem leastTo_end (bits : List Int) (K j : Nat) (hj : j ≤ 64) (h : K / 2 ^ j * 2 ^ j = 0) : leastTo bits K 64 = leastTo bits K j :=
  leastTo_skip bits K j 64 hj (fun k hk _ => by
    have := trunc_bit K j k
    rw [h] at this
    simpa [hk] using this.symm)
end Go.Proofs.YtkkapbnopmmmjaaGreatDoor
namespace Go.Proofs.YtkkapbnopmmmjaaGreatDoor
def LitOk (n x : Int) : Prop := x ≠ 0 ∧ -n < x ∧ x < n
theorem LitOk.mono {n m x : Int} (h : LitOk n x) (hm : n ≤ m) : LitOk m x := ⟨h.1, by have := h.2; omega, by have := h.2; omega⟩
theorem LitOk.neg {n x : Int} (h : LitOk n x) : LitOk n (-x) := ⟨by have := h.1; omega, by have := h.2; omega, by have := h.2; omega⟩
structure SzOk (next : Int) (s : Ps) : Prop where
  lo1 : 1 ≤ s.nx
  nx : next ≤ s.nx
  ev : (s.nx - next) % 2 = 0
  row : ∀ j, ∀ x ∈ s.rows j, LitOk s.nx x
  cls : ∀ c ∈ s.cs, ∀ x ∈ c, LitOk s.nx x
  lo : 7 * (s.nx - next) ≤ 2 * (s.cs.length : Int)
  hi : (s.cs.length : Int) ≤ 7 * (s.nx - next)
theorem addC_two (a b s c : Int) : addC [a, b] s c = [[a, b, -s], [-a, b, s], [a, -b, s], [-a, -b, -s], [-a, -b, c], [a, -c], [b, -c]] := by
  simp [addC, prs, cls1, negl, sgn, odd8, pop8, List.range_succ, Nat.testBit_succ]
theorem addC_three (a b d s c : Int) : addC [a, b, d] s c = [[a, b, d, -s], [-a, b, d, s], [a, -b, d, s], [-a, -b, d, -s], [a, b, -d, s], [-a, b, -d, -s], [a, -b, -d, -s], [-a, -b, -d, s],
    [-a, -b, c], [-a, -d, c], [-b, -d, c], [a, b, -c], [a, d, -c], [b, d, -c]] := by
  simp [addC, prs, cls1, negl, sgn, odd8, pop8, List.range_succ, Nat.testBit_succ]
theorem take_two_three (l : List Int) (h : 1 < l.length) : (∃ a b, l.take 3 = [a, b] ∧ l = [a, b]) ∨ ∃ a b c t, l.take 3 = [a, b, c] ∧ l = a :: b :: c :: t := by
  rcases l with _ | ⟨a, _ | ⟨b, _ | ⟨c, t⟩⟩⟩
  · simp at h
  · simp at h
  · exact .inl ⟨a, b, rfl, rfl⟩
  · exact .inr ⟨a, b, c, t, rfl, rfl⟩
theorem addC_ok (l : List Int) (n : Int) (hn : 1 ≤ n) (h : 1 < l.length) (hl : ∀ x ∈ l, LitOk n x) :
    (∀ c ∈ addC (l.take 3) n (n + 1), ∀ x ∈ c, LitOk (n + 2) x) ∧ 7 ≤ (addC (l.take 3) n (n + 1)).length ∧ (addC (l.take 3) n (n + 1)).length ≤ 14 := by
  have hs : LitOk (n + 2) n := ⟨by omega, by omega, by omega⟩
  have hc : LitOk (n + 2) (n + 1) := ⟨by omega, by omega, by omega⟩
  have hs' := hs.neg
  have hc' := hc.neg
  rcases take_two_three l h with ⟨a, b, e, el⟩ | ⟨a, b, d, t, e, el⟩
  · have ha : LitOk (n + 2) a := (hl a (by simp [el])).mono (by omega)
    have hb : LitOk (n + 2) b := (hl b (by simp [el])).mono (by omega)
    have ha' := ha.neg
    have hb' := hb.neg
    rw [e, addC_two]
    refine ⟨?_, by simp, by simp⟩
    simp only [List.mem_cons, List.not_mem_nil, or_false]
    rintro c (rfl | rfl | rfl | rfl | rfl | rfl | rfl) x hx <;> simp only [List.mem_cons, List.not_mem_nil, or_false] at hx
    all_goals (rcases hx with rfl | rfl | rfl <;> assumption) <;> (rcases hx with rfl | rfl <;> assumption)
  · have ha : LitOk (n + 2) a := (hl a (by simp [el])).mono (by omega)
    have hb : LitOk (n + 2) b := (hl b (by simp [el])).mono (by omega)
    have hd : LitOk (n + 2) d := (hl d (by simp [el])).mono (by omega)
    have ha' := ha.neg
    have hb' := hb.neg
    have hd' := hd.neg
    rw [e, addC_three]
    refine ⟨?_, by simp, by simp⟩
    simp only [List.mem_cons, List.not_mem_nil, or_false]
    rintro c (rfl | rfl | rfl | rfl | rfl | rfl | rfl | rfl | rfl | rfl | rfl | rfl | rfl | rfl) x hx <;> simp only [List.mem_cons, List.not_mem_nil, or_false] at hx
    all_goals first | (rcases hx with rfl | rfl | rfl | rfl <;> assumption) | (rcases hx with rfl | rfl | rfl <;> assumption)
theorem mem_updr {rows : Int → List Int} {k x j y : Int} (h : y ∈ updr rows k x j) : y ∈ rows j ∨ y = x := by
  unfold updr at h
  split at h
  · rename_i e
    subst e
    rcases List.mem_append.1 h with h | h
    · exact .inl h
    · exact .inr (by simpa using h)
  · exact .inl h
theorem mem_stepA {k : Int} {s : Ps} {j y : Int} (h : y ∈ (stepA k s).rows j) : (∃ i, y ∈ s.rows i) ∨ y = s.nx ∨ y = s.nx + 1 := by
  simp only [stepA] at h
  rcases mem_updr h with h | h
  · rcases mem_updr h with h | h
    · unfold setr at h
      split at h
      · exact .inl ⟨k, List.mem_of_mem_drop h⟩
      · exact .inl ⟨j, h⟩
    · exact .inr (.inl h)
  · exact .inr (.inr h)
theorem SzOk.step {next : Int} {s : Ps} (h : SzOk next s) (k : Int) (h2 : 1 < (s.rows k).length) : SzOk next (stepA k s) := by
  obtain ⟨a1, a2, a3⟩ := addC_ok (s.rows k) s.nx h.lo1 h2 (h.row k)
  have e1 : (stepA k s).nx = s.nx + 2 := rfl
  have e2 : (stepA k s).cs = s.cs ++ addC ((s.rows k).take 3) s.nx (s.nx + 1) := rfl
  have hlo := h.lo1
  refine ⟨by rw [e1]; omega, by rw [e1]; have := h.nx; omega, by rw [e1]; have := h.ev; omega, fun j x hx => ?_, fun c hc x hx => ?_, ?_, ?_⟩
  · rw [e1]
    rcases mem_stepA hx with ⟨i, hi⟩ | rfl | rfl
    · exact (h.row i x hi).mono (by omega)
    · exact ⟨by omega, by omega, by omega⟩
    · exact ⟨by omega, by omega, by omega⟩
  · rw [e1]
    rw [e2] at hc
    rcases List.mem_append.1 hc with hc | hc
    · exact (h.cls c hc x hx).mono (by omega)
    · exact a1 c hc x hx
  · rw [e1, e2, List.length_append]; have := h.lo; omega
  · rw [e1, e2, List.length_append]; have := h.hi; omega
theorem sumF_size (next : Int) : ∀ (f : Nat) (k : Int) (s : Ps) (o : List Int) (r : List Int × List (List Int) × Int), SzOk next s → (∀ b ∈ o, b = 0 ∨ LitOk s.nx b) → sumF f k s o = some r →
    s.nx ≤ r.2.2 ∧ (∀ b ∈ r.1, b = 0 ∨ LitOk r.2.2 b) ∧ SzOk next { rows := fun _ => [], cs := r.2.1, nx := r.2.2, top := 0 }
  | 0, _, _, _, _, _, _, h => by simp [sumF] at h
  | f + 1, k, s, o, r, hs, ho, h => by
    rw [sumF] at h
    by_cases h1 : k < s.top
    · rw [if_pos h1] at h
      by_cases h2 : 1 < (s.rows k).length
      · rw [if_pos h2] at h
        by_cases h3 : 65537 < s.nx + 2
        · rw [if_pos h3] at h; cases h
        · rw [if_neg h3] at h
          have e1 : (stepA k s).nx = s.nx + 2 := rfl
          obtain ⟨b1, b2⟩ := sumF_size next f k _ o r (hs.step k h2) (fun b hb => (ho b hb).imp id (fun h => h.mono (by rw [e1]; omega))) h
          exact ⟨by rw [e1] at b1; omega, b2⟩
      · rw [if_neg h2] at h
        refine sumF_size next f (k + 1) s _ r hs (fun b hb => ?_) h
        rcases List.mem_append.1 hb with hb | hb
        · exact ho b hb
        · rw [List.mem_singleton] at hb
          subst hb
          rcases hr : s.rows k with _ | ⟨y, t⟩
          · exact .inl rfl
          · exact .inr (hs.row k y (by simp [hr]))
    · rw [if_neg h1] at h
      injection h with h
      subst h
      exact ⟨Int.le_refl _, ho, ⟨hs.lo1, hs.nx, hs.ev, fun j x hx => by simp at hx, hs.cls, hs.lo, hs.hi⟩⟩
theorem sumF_grow : ∀ (f : Nat) (k : Int) (s : Ps) (o : List Int) (r : List Int × List (List Int) × Int), sumF f k s o = some r → s.nx ≤ r.2.2
  | 0, _, _, _, _, h => by simp [sumF] at h
  | f + 1, k, s, o, r, h => by
    rw [sumF] at h
    by_cases h1 : k < s.top
    · rw [if_pos h1] at h
      by_cases h2 : 1 < (s.rows k).length
      · rw [if_pos h2] at h
        by_cases h3 : 65537 < s.nx + 2
        · rw [if_pos h3] at h; cases h
        · rw [if_neg h3] at h
          have := sumF_grow f k _ o r h
          have e1 : (stepA k s).nx = s.nx + 2 := rfl
          omega
      · rw [if_neg h2] at h
        exact sumF_grow f (k + 1) s _ r h
    · rw [if_neg h1] at h
      injection h with h
      subst h
      exact Int.le_refl _
theorem sumF_bare : ∀ (f : Nat) (k : Int) (s : Ps) (o : List Int) (r : List Int × List (List Int) × Int), sumF f k s o = some r → r.2.2 = s.nx →
    (r.1.length = o.length + (s.top - k).toNat) ∧ ∀ j, k ≤ j → j < s.top → (s.rows j).length ≤ 1
  | 0, _, _, _, _, h, _ => by simp [sumF] at h
  | f + 1, k, s, o, r, h, hn => by
    rw [sumF] at h
    by_cases h1 : k < s.top
    · rw [if_pos h1] at h
      by_cases h2 : 1 < (s.rows k).length
      · rw [if_pos h2] at h
        by_cases h3 : 65537 < s.nx + 2
        · rw [if_pos h3] at h; cases h
        · rw [if_neg h3] at h
          have := sumF_grow f k _ o r h
          have e1 : (stepA k s).nx = s.nx + 2 := rfl
          omega
      · rw [if_neg h2] at h
        obtain ⟨b1, b2⟩ := sumF_bare f (k + 1) s _ r h hn
        rw [List.length_append, List.length_singleton] at b1
        refine ⟨by omega, fun j hj hj' => ?_⟩
        by_cases e : j = k
        · subst e; omega
        · exact b2 j (by omega) hj'
    · rw [if_neg h1] at h
      injection h with h
      subst h
      exact ⟨by simp only; omega, fun j hj hj' => by omega⟩
def popTo (n j : Nat) : Nat := ((List.range j).filter n.testBit).length
theorem popTo_succ (n j : Nat) : popTo n (j + 1) = popTo n j + if n.testBit j then 1 else 0 := by
  unfold popTo
  rw [List.range_succ, List.filter_append, List.length_append]
  congr 1
  by_cases h : n.testBit j = true <;> simp [h]
def totR (rows : Int → List Int) (m : Nat) : Nat := ((List.range m).map fun k : Nat => (rows (k : Int)).length).sum
theorem totR_succ (rows : Int → List Int) (m : Nat) : totR rows (m + 1) = totR rows m + (rows (m : Int)).length := by
  unfold totR
  rw [List.range_succ, List.map_append, List.sum_append]
  simp
theorem totR_updr (rows : Int → List Int) (k : Nat) (x : Int) : ∀ m, totR (updr rows k x) m = totR rows m + if k < m then 1 else 0
  | 0 => by simp [totR]
  | m + 1 => by
    rw [totR_succ, totR_succ, totR_updr rows k x m]
    by_cases h : m = k
    · subst h
      simp [updr]
      omega
    · have e : updr rows (k : Int) x (m : Int) = rows (m : Int) := by unfold updr; rw [if_neg (by omega)]
      rw [e]
      by_cases h2 : k < m
      · rw [if_pos h2, if_pos (by omega)]; omega
      · rw [if_neg h2, if_neg (by omega)]; omega
theorem totR_feedTo (n : Nat) (x : Int) (s : Fd) : ∀ j, j ≤ 64 → totR (feedTo n x s j).1 64 = totR s.1 64 + popTo n j
  | 0, _ => by simp [feedTo, popTo]
  | j + 1, hj => by
    rw [feedTo_succ, popTo_succ]
    split
    · simp only [feed1]
      rw [totR_updr, totR_feedTo n x s j (by omega), if_pos (by omega)]
      omega
    · rw [totR_feedTo n x s j (by omega)]
      omega
theorem totR_feedAll : ∀ (cl : List (Int × Int)) (s : Fd), totR (feedAll s cl).1 64 = totR s.1 64 + (cl.map fun q => popTo q.1.toNat 64).sum
  | [], s => by simp [feedAll]
  | q :: cl, s => by
    have e : feedAll s (q :: cl) = feedAll (feedTo q.1.toNat q.2 s 64) cl := rfl
    rw [e, totR_feedAll cl, totR_feedTo _ _ _ 64 (Nat.le_refl _)]
    simp
    omega
def EmptyAbove (s : Fd) : Prop := ∀ j, s.2 ≤ j → s.1 j = []
theorem EmptyAbove.feedTo {s : Fd} (h : EmptyAbove s) (n : Nat) (x : Int) : ∀ j, EmptyAbove (feedTo n x s j)
  | 0 => h
  | j + 1 => by
    rw [feedTo_succ]
    have ih := EmptyAbove.feedTo h n x j
    split
    · intro i hi
      simp only [feed1] at hi ⊢
      unfold updr
      rw [if_neg (by omega)]
      exact ih i (by omega)
    · exact ih
theorem EmptyAbove.all : ∀ (cl : List (Int × Int)) (s : Fd), EmptyAbove s → EmptyAbove (feedAll s cl)
  | [], _, h => h
  | q :: cl, _, h => EmptyAbove.all cl _ (h.feedTo q.1.toNat q.2 64)
theorem totR_le (rows : Int → List Int) (m : Nat) : ∀ t, (∀ j : Nat, j < t → j < m → (rows j).length ≤ 1) → (∀ j : Nat, m ≤ j → rows j = []) → totR rows t ≤ m
  | 0, _, _ => by simp [totR]
  | t + 1, h1, h2 => by
    rw [totR_succ]
    by_cases h : t < m
    · have a := h1 t (by omega) h
      have b : totR rows t ≤ t := by
        have : ∀ u, u ≤ t → totR rows u ≤ u := fun u => by
          induction u with
          | zero => intro _; simp [totR]
          | succ u ih => intro hu; rw [totR_succ]; have := h1 u (by omega) (by omega); have := ih (by omega); omega
        exact this t (Nat.le_refl _)
      omega
    · rw [h2 t (by omega)]
      have := totR_le rows m t (fun j hj => h1 j (by omega)) h2
      simpa using this
theorem sumP_size {coef l : List Int} {next : Int} {bits : List Int} {cs : List (List Int)} {after : Int} (h : sumP coef l next = .ok bits cs after) :
    coef.length = l.length ∧ (∀ c ∈ coef, 0 ≤ c ∧ c ≤ 1099511627776) ∧ next ≤ after ∧ after ≤ 65537 ∧ 1 ≤ next ∧ (after - next) % 2 = 0 ∧ 7 * (after - next) ≤ 2 * (cs.length : Int) ∧ (cs.length : Int) ≤ 7 * (after - next) ∧ (∀ b ∈ bits, b = 0 ∨ LitOk after b) ∧ (∀ c ∈ cs, ∀ x ∈ c, LitOk after x) ∧
      ((coef.map fun c => popTo c.toNat 64).sum ≤ bits.length ∨ 0 < after - next) := by
  unfold sumP at h
  split at h
  · cases h
  · split at h
    · cases h
    · split at h
      · cases h
      · rename_i h1 h2 h3
        generalize hr : sumF fuel0 0 { rows := (feedAll fd0 (coef.zip l)).1, cs := [], nx := next, top := (feedAll fd0 (coef.zip l)).2 } [] = o at h
        cases o with
        | none => cases h
        | some r =>
          simp only at h
          injection h with e1 e2 e3
          subst e1 e2 e3
          have hall : ∀ q ∈ coef.zip l, okAt next q = true := by simpa using h2
          have hlen : coef.length = l.length := by omega
          have hcoef : ∀ c ∈ coef, 0 ≤ c ∧ c ≤ 1099511627776 := fun c hc => by
            obtain ⟨i, hi, rfl⟩ := List.mem_iff_getElem.1 hc
            have := hall ((coef.zip l)[i]'(by rw [List.length_zip]; omega)) (List.getElem_mem _)
            rw [List.getElem_zip] at this
            simp [okAt] at this
            omega
          have hlit : ∀ q ∈ coef.zip l, LitOk next q.2 := fun q hq => by
            have := hall q hq
            simp [okAt] at this
            exact ⟨this.1.1.2, this.2, this.1.2⟩
          have hrow : ∀ (cl : List (Int × Int)) (s : Fd), (∀ j, ∀ x ∈ s.1 j, LitOk next x) → (∀ q ∈ cl, LitOk next q.2) → ∀ j, ∀ x ∈ (feedAll s cl).1 j, LitOk next x := by
            intro cl
            induction cl with
            | nil => intro s hs _; exact hs
            | cons q cl ih =>
              intro s hs hq
              have e : feedAll s (q :: cl) = feedAll (feedTo q.1.toNat q.2 s 64) cl := rfl
              rw [e]
              refine ih _ ?_ (fun p hp => hq p (by simp [hp]))
              have : ∀ t, ∀ j, ∀ x ∈ (feedTo q.1.toNat q.2 s t).1 j, LitOk next x := fun t => by
                induction t with
                | zero => exact hs
                | succ t ih2 =>
                  rw [feedTo_succ]
                  split
                  · intro j x hx
                    simp only [feed1] at hx
                    rcases mem_updr hx with hx | rfl
                    · exact ih2 j x hx
                    · exact hq q (by simp)
                  · exact ih2
              exact this 64
          have hs0 : SzOk next { rows := (feedAll fd0 (coef.zip l)).1, cs := [], nx := next, top := (feedAll fd0 (coef.zip l)).2 } :=
            ⟨by simp only; omega, by simp, by simp, hrow _ fd0 (fun j x hx => by simp [fd0] at hx) hlit, fun c hc => by simp at hc, by simp, by simp⟩
          obtain ⟨b1, b2, b3⟩ := sumF_size next fuel0 0 _ [] r hs0 (fun b hb => by simp at hb) hr
          have hhi : ∀ (f : Nat) (k : Int) (s : Ps) (o : List Int), s.nx ≤ 65537 → sumF f k s o = some r → r.2.2 ≤ 65537 := by
            intro f
            induction f with
            | zero => intro k s o _ h; simp [sumF] at h
            | succ f ih =>
              intro k s o hs h
              rw [sumF] at h
              split at h
              · split at h
                · split at h
                  · cases h
                  · exact ih k _ o (by simp only [stepA]; omega) h
                · exact ih _ _ _ hs h
              · injection h with h; subst h; exact hs
          refine ⟨hlen, hcoef, b1, hhi _ _ _ _ (by simp only; omega) hr, by omega, b3.ev, b3.lo, b3.hi, b2, b3.cls, ?_⟩
          by_cases hz : r.2.2 = next
          · left
            obtain ⟨c1, c2⟩ := sumF_bare fuel0 0 _ [] r hr hz
            have ok64 := (FeedOk.all (coef.zip l) fd0 0 FeedOk.zero).2
            have hem := EmptyAbove.all (coef.zip l) fd0 (fun _ _ => rfl)
            have ht := totR_feedAll (coef.zip l) fd0
            have h0 : totR fd0.1 64 = 0 := by decide
            have hm : ((coef.zip l).map fun q => popTo q.1.toNat 64) = coef.map fun c => popTo c.toNat 64 := by
              have := congrArg (List.map fun c : Int => popTo c.toNat 64) (List.map_fst_zip (l₁ := coef) (l₂ := l) (by omega))
              rw [← this, List.map_map]
              rfl
            rw [h0, hm] at ht
            generalize hT : (feedAll fd0 (coef.zip l)).2 = T at *
            simp only [List.length_nil] at c1
            have := totR_le (feedAll fd0 (coef.zip l)).1 T.toNat 64 (fun j _ hj' => c2 j (by omega) (by simp only; omega)) (fun j hj => hem j (by omega))
            omega
          · right
            have : next ≤ r.2.2 := b1
            omega
end Go.Proofs.YtkkapbnopmmmjaaGreatDoor
namespace Go.Proofs.YtkkapbnopmmmjaaGreatDoor
def litT (a : List Bool) (x : Int) : Bool := decide (x ≠ 0 ∧ -65536 ≤ x ∧ x ≤ 65536) && ((decide (x.natAbs < a.length) && a.getD x.natAbs false) == decide (0 < x))
theorem litT_zero (a : List Bool) : litT a 0 = false := by simp [litT]
def numB (bv : Nat → Bool) : Nat → Nat
  | 0 => 0
  | m + 1 => numB bv m + if bv m then 2 ^ m else 0
theorem numB_lt (bv : Nat → Bool) : ∀ m, numB bv m < 2 ^ m
  | 0 => by simp [numB]
  | m + 1 => by
    have := numB_lt bv m
    rw [numB, Nat.pow_succ]
    split <;> omega
theorem numB_bit (bv : Nat → Bool) : ∀ m i, (numB bv m).testBit i = (decide (i < m) && bv i)
  | 0, i => by simp [numB]
  | m + 1, i => by
    have hlt := numB_lt bv m
    have e : numB bv (m + 1) = 2 ^ m * (bv m).toNat + numB bv m := by
      rw [numB]; cases bv m <;> simp <;> omega
    rw [e, Nat.testBit_two_pow_mul_add _ hlt, numB_bit bv m i]
    by_cases h : i < m
    · have h2 : i < m + 1 := by omega
      simp [h, h2]
    · rw [if_neg h]
      by_cases h2 : i = m
      · subst h2
        cases bv i <;> simp
      · have h3 : ¬ i < m + 1 := by omega
        have h4 : i - m ≠ 0 := by omega
        have : ((bv m).toNat).testBit (i - m) = false := by
          apply Nat.testBit_lt_two_pow
          have h5 : 2 ^ 1 ≤ 2 ^ (i - m) := Nat.pow_le_pow_right (by decide) (by omega)
          cases bv m <;> simp <;> omega
        simp [h3, this]
def Dom (N K : Nat) : Prop := ∀ t, K.testBit t = true → N.testBit t = true ∨ ∃ i, t < i ∧ N.testBit i = true ∧ K.testBit i = false
theorem le_of_bits : ∀ (n N K : Nat), N ≤ n → (∀ i, N.testBit i = true → K.testBit i = true) → N ≤ K
  | 0, N, K, hn, _ => by omega
  | n + 1, N, K, hn, h => by
    by_cases h0 : N = 0
    · omega
    · have := le_of_bits n (N / 2) (K / 2) (by omega) (fun i hi => by rw [← Nat.testBit_succ] at hi ⊢; exact h (i + 1) hi)
      have h1 : N % 2 = 1 → K % 2 = 1 := fun e => by
        have := h 0 (by rw [Nat.testBit_zero]; simp [e])
        rw [Nat.testBit_zero] at this
        simpa using this
      omega
theorem dom_iff : ∀ (n N K : Nat), K + N ≤ n → (Dom N K ↔ K ≤ N)
  | 0, N, K, hn => by
    have h1 : N = 0 := by omega
    have h2 : K = 0 := by omega
    subst h1 h2
    exact ⟨fun _ => Nat.le_refl _, fun _ t ht => by simp at ht⟩
  | n + 1, N, K, hn => by
    by_cases hz : K + N = 0
    · have h1 : N = 0 := by omega
      have h2 : K = 0 := by omega
      subst h1 h2
      exact ⟨fun _ => Nat.le_refl _, fun _ t ht => by simp at ht⟩
    · have ih := dom_iff n (N / 2) (K / 2) (by omega)
      have e0 : ∀ M : Nat, M.testBit 0 = decide (M % 2 = 1) := fun M => Nat.testBit_zero M
      constructor
      · intro h
        have h' : Dom (N / 2) (K / 2) := fun t ht => by
          rw [← Nat.testBit_succ] at ht ⊢
          rcases h (t + 1) ht with h1 | ⟨i, h1, h2, h3⟩
          · exact .inl h1
          · obtain ⟨j, rfl⟩ : ∃ j, i = j + 1 := ⟨i - 1, by omega⟩
            exact .inr ⟨j, by omega, by rw [← Nat.testBit_succ]; exact h2, by rw [← Nat.testBit_succ]; exact h3⟩
        have hle := ih.1 h'
        by_cases he : K / 2 = N / 2
        · by_cases hk : K % 2 = 1
          · rcases h 0 (by rw [e0]; simp [hk]) with h1 | ⟨i, h1, h2, h3⟩
            · rw [e0] at h1; simp at h1; omega
            · obtain ⟨j, rfl⟩ : ∃ j, i = j + 1 := ⟨i - 1, by omega⟩
              rw [Nat.testBit_succ] at h2 h3
              rw [he, h2] at h3
              cases h3
          · omega
        · omega
      · intro h
        have h' := ih.2 (by omega)
        intro t ht
        cases t with
        | zero =>
          rw [e0] at ht
          simp at ht
          by_cases hn1 : N % 2 = 1
          · left; rw [e0]; simp [hn1]
          · right
            have hlt : K / 2 < N / 2 := by omega
            rcases Classical.em (∃ i, (N / 2).testBit i = true ∧ (K / 2).testBit i = false) with ⟨i, h2, h3⟩ | hno
            · exact ⟨i + 1, by omega, by rw [Nat.testBit_succ]; exact h2, by rw [Nat.testBit_succ]; exact h3⟩
            · exfalso
              have := le_of_bits (N / 2) (N / 2) (K / 2) (Nat.le_refl _) (fun i hi => by
                cases hk : (K / 2).testBit i with
                | true => rfl
                | false => exact absurd ⟨i, hi, hk⟩ hno)
              omega
        | succ t =>
          rw [Nat.testBit_succ] at ht ⊢
          rcases h' t ht with h1 | ⟨i, h1, h2, h3⟩
          · exact .inl h1
          · exact .inr ⟨i + 1, by omega, by rw [Nat.testBit_succ]; exact h2, by rw [Nat.testBit_succ]; exact h3⟩
def bvOf (bits : List Int) (a : List Bool) (i : Nat) : Bool := litT a (bits.getD i 0)
theorem cl_holds (bits : List Int) (a : List Bool) (K t : Nat) : (clTo bits K t bits.length).any (litT a) = true ↔ ∃ i, i < bits.length ∧ bvOf bits a i = true ∧ (i = t ∨ (t < i ∧ K.testBit i = false)) := by
  unfold clTo
  rw [List.any_eq_true]
  constructor
  · rintro ⟨x, hx, hl⟩
    obtain ⟨i, hi, rfl⟩ := List.mem_map.1 hx
    obtain ⟨h1, h2⟩ := List.mem_filter.1 hi
    rw [List.mem_range] at h1
    refine ⟨i, h1, hl, ?_⟩
    simp [lcond] at h2
    exact h2.2
  · rintro ⟨i, hi, hb, hc⟩
    refine ⟨_, List.mem_map.2 ⟨i, List.mem_filter.2 ⟨List.mem_range.2 hi, ?_⟩, rfl⟩, hb⟩
    have hne : bits.getD i 0 ≠ 0 := fun e => by unfold bvOf at hb; rw [e, litT_zero] at hb; cases hb
    unfold lcond
    rcases hc with h | ⟨h1, h2⟩
    · subst h; rw [bne_iff_ne.2 hne]; simp
    · rw [bne_iff_ne.2 hne]; simp [h1, h2]
theorem least_correct (bits : List Int) (a : List Bool) (K : Nat) (hK : K ≤ 4503599627370496) :
    (leastTo bits K 64).all (fun c => c.any (litT a)) = decide (K ≤ numB (bvOf bits a) bits.length) := by
  rw [Bool.eq_iff_iff, decide_eq_true_iff, ← dom_iff (K + numB (bvOf bits a) bits.length) _ _ (Nat.le_refl _), List.all_eq_true]
  unfold leastTo Dom
  constructor
  · intro h t ht
    have ht64 : t < 64 := by
      rcases Nat.lt_or_ge t 64 with h | h
      · exact h
      · rw [Nat.testBit_lt_two_pow (Nat.lt_of_lt_of_le (by omega : K < 2 ^ 64) (Nat.pow_le_pow_right (by decide) h))] at ht
        cases ht
    obtain ⟨i, h1, h2, h3⟩ := (cl_holds bits a K t).1 (h _ (List.mem_map.2 ⟨t, List.mem_filter.2 ⟨List.mem_range.2 ht64, ht⟩, rfl⟩))
    have hb : (numB (bvOf bits a) bits.length).testBit i = true := by rw [numB_bit]; simp [h1, h2]
    rcases h3 with rfl | ⟨h3, h4⟩
    · exact .inl hb
    · exact .inr ⟨i, h3, hb, h4⟩
  · intro h c hc
    obtain ⟨t, ht, rfl⟩ := List.mem_map.1 hc
    obtain ⟨_, htb⟩ := List.mem_filter.1 ht
    refine (cl_holds bits a K t).2 ?_
    rcases h t htb with h1 | ⟨i, h1, h2, h3⟩
    · rw [numB_bit] at h1
      simp at h1
      exact ⟨t, h1.1, h1.2, .inl rfl⟩
    · rw [numB_bit] at h2
      simp at h2
      exact ⟨i, h2.1, h2.2, .inr ⟨h1, h3⟩⟩
end Go.Proofs.YtkkapbnopmmmjaaGreatDoor
namespace Go.Proofs.YtkkapbnopmmmjaaGreatDoor
def hasB (l : List Int) (n : Int) : Bool := l.any (· == n)
def okO (a : List Bool) (known x : Int) : Bool := decide (1 ≤ x.natAbs) && (decide ((x.natAbs : Int) < known) && (decide (x.natAbs < a.length) && (a.getD x.natAbs false != decide (0 < x))))
def otherB (l : List Int) (lit : Int) (a : List Bool) (known : Int) : Bool := l.all fun x => x == lit || okO a known x
def forcedB (cs : List (List Int)) (lit v : Int) (a : List Bool) : Bool := cs.any fun c => hasB c lit && otherB c lit a v
def toldP (cs : List (List Int)) : List Bool → Int → Nat → List Bool × Bool
  | out, _, 0 => (out, true)
  | out, v, n + 1 => if forcedB cs v v out = forcedB cs (-v) v out then (out, false) else toldP cs (out ++ [forcedB cs v v out]) (v + 1) n
def sumTo (coef l : List Int) (a : List Bool) : Nat → Int
  | 0 => 0
  | k + 1 => sumTo coef l a k + if litT a (l.getD k 0) then coef.getD k 0 else 0
end Go.Proofs.YtkkapbnopmmmjaaGreatDoor
namespace Go.Proofs.YtkkapbnopmmmjaaGreatDoor
theorem litT_val {F : List Bool} {x : Int} (h : LitOk (F.length : Int) x) (hF : (F.length : Int) ≤ 65537) : litT F x = (F.getD x.natAbs false == decide (0 < x)) := by
  obtain ⟨h0, h1, h2⟩ := h
  unfold litT
  rw [decide_eq_true (show x ≠ 0 ∧ -65536 ≤ x ∧ x ≤ 65536 by omega), decide_eq_true (show x.natAbs < F.length by omega), Bool.true_and, Bool.true_and]
theorem litT_neg {F : List Bool} {x : Int} (h : LitOk (F.length : Int) x) (hF : (F.length : Int) ≤ 65537) : litT F (-x) = !litT F x := by
  rw [litT_val h hF, litT_val h.neg hF, Int.natAbs_neg]
  have h0 := h.1
  have e : decide (0 < -x) = !decide (0 < x) := by
    rw [Bool.eq_iff_iff]; simp; omega
  rw [e]
  cases F.getD x.natAbs false <;> cases decide (0 < x) <;> rfl
theorem litT_ext {F : List Bool} (G : List Bool) {x : Int} (h : LitOk (F.length : Int) x) (hF : ((F ++ G).length : Int) ≤ 65537) : litT (F ++ G) x = litT F x := by
  rw [List.length_append] at hF
  rw [litT_val h (by omega), litT_val (h.mono (by rw [List.length_append]; omega)) (by rw [List.length_append]; exact hF)]
  have := h.2
  rw [List.getD_eq_getElem?_getD, List.getD_eq_getElem?_getD, List.getElem?_append_left (by omega)]
theorem okO_eq {F : List Bool} {x : Int} (h : LitOk (F.length : Int) x) (hF : (F.length : Int) ≤ 65537) : okO F (F.length : Int) x = !litT F x := by
  obtain ⟨h0, h1, h2⟩ := h
  rw [litT_val ⟨h0, h1, h2⟩ hF]
  unfold okO
  rw [decide_eq_true (show 1 ≤ x.natAbs by omega), decide_eq_true (show (x.natAbs : Int) < (F.length : Int) by omega), decide_eq_true (show x.natAbs < F.length by omega)]
  cases F.getD x.natAbs false <;> cases decide (0 < x) <;> rfl
section
variable {out : List Bool} {lit v : Int}
theorem forced_one (xs : List Int) (l' : Int) (hv : (out.length : Int) = v) (hb : v ≤ 65537) (hlit : lit = v ∨ lit = -v) (hx : ∀ x ∈ xs, LitOk v x) : (hasB (xs ++ [l']) lit && otherB (xs ++ [l']) lit out v) = (l' == lit && xs.all fun x => !litT out x) := by
  have hne : ∀ x ∈ xs, (x == lit) = false := fun x hxm => by
    have := hx x hxm
    obtain ⟨a, b, c⟩ := this
    simp only [beq_eq_false_iff_ne]
    omega
  have ho : xs.all (fun x => x == lit || okO out v x) = xs.all fun x => !litT out x := by
    rw [Bool.eq_iff_iff, List.all_eq_true, List.all_eq_true]
    refine forall_congr' fun x => forall_congr' fun hxm => ?_
    rw [hne x hxm, Bool.false_or]
    subst hv
    rw [okO_eq (hx x hxm) hb]
  have hh : xs.any (· == lit) = false := by
    rw [List.any_eq_false]; intro x hxm; rw [hne x hxm]; simp
  unfold hasB otherB
  rw [List.any_append, List.all_append, hh, ho]
  by_cases e : (l' == lit) = true
  · simp [e]
  · have e : (l' == lit) = false := by simpa using e
    simp [e]
theorem forced_low {cs : List (List Int)} (hlit : lit = v ∨ lit = -v) (h : ∀ c ∈ cs, ∀ x ∈ c, LitOk v x) : forcedB cs lit v out = false := by
  unfold forcedB
  rw [List.any_eq_false]
  intro c hc
  have : hasB c lit = false := by
    unfold hasB
    rw [List.any_eq_false]
    intro x hx
    obtain ⟨a, b, d⟩ := h c hc x hx
    simp; omega
  rw [this]; simp
theorem forced_high {cs : List (List Int)} (hlit : lit = v ∨ lit = -v) (hv0 : 0 ≤ v) (h : ∀ c ∈ cs, ∃ x ∈ c, v < (x.natAbs : Int)) : forcedB cs lit v out = false := by
  unfold forcedB
  rw [List.any_eq_false]
  intro c hc
  obtain ⟨x, hx, hlt⟩ := h c hc
  have : otherB c lit out v = false := by
    unfold otherB
    rw [List.all_eq_false]
    refine ⟨x, hx, ?_⟩
    have h1 : (x == lit) = false := by simp only [beq_eq_false_iff_ne]; omega
    have h2 : okO out v x = false := by
      unfold okO
      rw [decide_eq_false (show ¬ (x.natAbs : Int) < v by omega)]
      simp
    rw [h1, h2]; simp
  rw [this]; simp
theorem forced_app (a b : List (List Int)) : forcedB (a ++ b) lit v out = (forcedB a lit v out || forcedB b lit v out) := by
  unfold forcedB; rw [List.any_append]
end
def cntT (F : List Bool) : List Int → Nat
  | [] => 0
  | x :: l => (litT F x).toNat + cntT F l
theorem cntT_app (F : List Bool) : ∀ a b, cntT F (a ++ b) = cntT F a + cntT F b
  | [], b => by simp [cntT]
  | x :: a, b => by simp only [List.cons_append, cntT, cntT_app F a b]; omega
theorem cntT_congr {F G : List Bool} : ∀ {l : List Int}, (∀ x ∈ l, litT F x = litT G x) → cntT F l = cntT G l
  | [], _ => rfl
  | x :: l, h => by simp only [cntT]; rw [h x (by simp), cntT_congr (l := l) (fun y hy => h y (by simp [hy]))]
def sV (F : List Bool) (l : List Int) : Bool := cntT F l % 2 == 1
def cV (F : List Bool) (l : List Int) : Bool := Nat.ble 2 (cntT F l)
theorem mid_two (a b n : Int) (out : List Bool) (hv : (out.length : Int) = n) (hn : 1 ≤ n) (hb : n + 2 ≤ 65537) (ha : LitOk n a) (hbb : LitOk n b) :
    forcedB (addC [a, b] n (n + 1)) n n out = sV out [a, b] ∧ forcedB (addC [a, b] n (n + 1)) (-n) n out = !sV out [a, b] := by
  have na := litT_neg (F := out) (by rw [hv]; exact ha) (by omega)
  have nb := litT_neg (F := out) (by rw [hv]; exact hbb) (by omega)
  have f3 : ∀ lit (_ : lit = n ∨ lit = -n) x y l', LitOk n x → LitOk n y → (hasB [x, y, l'] lit && otherB [x, y, l'] lit out n) = (l' == lit && (!litT out x && (!litT out y && true))) := fun lit hl x y l' hx hy =>
    forced_one [x, y] l' hv (by omega) hl (by simp; exact ⟨hx, hy⟩)
  have f2 : ∀ lit (_ : lit = n ∨ lit = -n) x l', LitOk n x → (hasB [x, l'] lit && otherB [x, l'] lit out n) = (l' == lit && (!litT out x && true)) := fun lit hl x l' hx =>
    forced_one [x] l' hv (by omega) hl (by simpa using hx)
  have e1 : ((-n : Int) == n) = false := by simp only [beq_eq_false_iff_ne]; omega
  have e2 : ((n : Int) == -n) = false := by simp only [beq_eq_false_iff_ne]; omega
  have e3 : ((n + 1 : Int) == n) = false := by simp only [beq_eq_false_iff_ne]; omega
  have e4 : ((n + 1 : Int) == -n) = false := by simp only [beq_eq_false_iff_ne]; omega
  have e5 : ((-(n + 1) : Int) == n) = false := by simp only [beq_eq_false_iff_ne]; omega
  have e6 : ((-(n + 1) : Int) == -n) = false := by simp only [beq_eq_false_iff_ne]; omega
  have e7 : (n == n) = true := by simp
  have e8 : (-n == -n) = true := by simp
  rw [addC_two]
  unfold forcedB sV
  simp only [List.any_cons, List.any_nil, cntT]
  constructor
  · rw [f3 n (.inl rfl) a b (-n) ha hbb, f3 n (.inl rfl) (-a) b n ha.neg hbb, f3 n (.inl rfl) a (-b) n ha hbb.neg, f3 n (.inl rfl) (-a) (-b) (-n) ha.neg hbb.neg, f3 n (.inl rfl) (-a) (-b) (n + 1) ha.neg hbb.neg, f2 n (.inl rfl) a (-(n + 1)) ha, f2 n (.inl rfl) b (-(n + 1)) hbb, e1, e3, e5, e7, na, nb]
    cases litT out a <;> cases litT out b <;> rfl
  · rw [f3 (-n) (.inr rfl) a b (-n) ha hbb, f3 (-n) (.inr rfl) (-a) b n ha.neg hbb, f3 (-n) (.inr rfl) a (-b) n ha hbb.neg, f3 (-n) (.inr rfl) (-a) (-b) (-n) ha.neg hbb.neg, f3 (-n) (.inr rfl) (-a) (-b) (n + 1) ha.neg hbb.neg, f2 (-n) (.inr rfl) a (-(n + 1)) ha, f2 (-n) (.inr rfl) b (-(n + 1)) hbb, e2, e4, e6, e8, na, nb]
    cases litT out a <;> cases litT out b <;> rfl
theorem mid_two' (a b n : Int) (out : List Bool) (hv : (out.length : Int) = n + 1) (hn : 1 ≤ n) (hb : n + 2 ≤ 65537) (ha : LitOk n a) (hbb : LitOk n b) :
    forcedB (addC [a, b] n (n + 1)) (n + 1) (n + 1) out = cV out [a, b] ∧ forcedB (addC [a, b] n (n + 1)) (-(n + 1)) (n + 1) out = !cV out [a, b] := by
  have ha : LitOk (n + 1) a := ha.mono (by omega)
  have hbb : LitOk (n + 1) b := hbb.mono (by omega)
  have na := litT_neg (F := out) (by rw [hv]; exact ha) (by omega)
  have nb := litT_neg (F := out) (by rw [hv]; exact hbb) (by omega)
  have f3 : ∀ lit (_ : lit = n + 1 ∨ lit = -(n + 1)) x y l', LitOk (n + 1) x → LitOk (n + 1) y → (hasB [x, y, l'] lit && otherB [x, y, l'] lit out (n + 1)) = (l' == lit && (!litT out x && (!litT out y && true))) := fun lit hl x y l' hx hy =>
    forced_one [x, y] l' hv (by omega) hl (by simp; exact ⟨hx, hy⟩)
  have f2 : ∀ lit (_ : lit = n + 1 ∨ lit = -(n + 1)) x l', LitOk (n + 1) x → (hasB [x, l'] lit && otherB [x, l'] lit out (n + 1)) = (l' == lit && (!litT out x && true)) := fun lit hl x l' hx =>
    forced_one [x] l' hv (by omega) hl (by simpa using hx)
  have e1 : ((-n : Int) == n + 1) = false := by simp only [beq_eq_false_iff_ne]; omega
  have e2 : ((n : Int) == -(n + 1)) = false := by simp only [beq_eq_false_iff_ne]; omega
  have e3 : ((n + 1 : Int) == n + 1) = true := by simp
  have e4 : ((n + 1 : Int) == -(n + 1)) = false := by simp only [beq_eq_false_iff_ne]; omega
  have e5 : ((-(n + 1) : Int) == n + 1) = false := by simp only [beq_eq_false_iff_ne]; omega
  have e6 : ((-(n + 1) : Int) == -(n + 1)) = true := by simp
  have e7 : (n == n + 1) = false := by simp only [beq_eq_false_iff_ne]; omega
  have e8 : (-n == -(n + 1)) = false := by simp only [beq_eq_false_iff_ne]; omega
  rw [addC_two]
  unfold forcedB cV
  simp only [List.any_cons, List.any_nil, cntT]
  constructor
  · rw [f3 (n + 1) (.inl rfl) a b (-n) ha hbb, f3 (n + 1) (.inl rfl) (-a) b n ha.neg hbb, f3 (n + 1) (.inl rfl) a (-b) n ha hbb.neg, f3 (n + 1) (.inl rfl) (-a) (-b) (-n) ha.neg hbb.neg, f3 (n + 1) (.inl rfl) (-a) (-b) (n + 1) ha.neg hbb.neg, f2 (n + 1) (.inl rfl) a (-(n + 1)) ha, f2 (n + 1) (.inl rfl) b (-(n + 1)) hbb, e1, e3, e5, e7, na, nb]
    cases litT out a <;> cases litT out b <;> rfl
  · rw [f3 (-(n + 1)) (.inr rfl) a b (-n) ha hbb, f3 (-(n + 1)) (.inr rfl) (-a) b n ha.neg hbb, f3 (-(n + 1)) (.inr rfl) a (-b) n ha hbb.neg, f3 (-(n + 1)) (.inr rfl) (-a) (-b) (-n) ha.neg hbb.neg, f3 (-(n + 1)) (.inr rfl) (-a) (-b) (n + 1) ha.neg hbb.neg, f2 (-(n + 1)) (.inr rfl) a (-(n + 1)) ha, f2 (-(n + 1)) (.inr rfl) b (-(n + 1)) hbb, e2, e4, e6, e8, na, nb]
    cases litT out a <;> cases litT out b <;> rfl
theorem mid_three (a b d n : Int) (out : List Bool) (hv : (out.length : Int) = n) (hn : 1 ≤ n) (hb : n + 2 ≤ 65537) (ha : LitOk n a) (hbb : LitOk n b) (hd : LitOk n d) :
    forcedB (addC [a, b, d] n (n + 1)) n n out = sV out [a, b, d] ∧ forcedB (addC [a, b, d] n (n + 1)) (-n) n out = !sV out [a, b, d] := by
  have na := litT_neg (F := out) (by rw [hv]; exact ha) (by omega)
  have nb := litT_neg (F := out) (by rw [hv]; exact hbb) (by omega)
  have nd := litT_neg (F := out) (by rw [hv]; exact hd) (by omega)
  have f4 : ∀ lit (_ : lit = n ∨ lit = -n) x y z l', LitOk n x → LitOk n y → LitOk n z → (hasB [x, y, z, l'] lit && otherB [x, y, z, l'] lit out n) = (l' == lit && (!litT out x && (!litT out y && (!litT out z && true)))) := fun lit hl x y z l' hx hy hz =>
    forced_one [x, y, z] l' hv (by omega) hl (by simp; exact ⟨hx, hy, hz⟩)
  have f3 : ∀ lit (_ : lit = n ∨ lit = -n) x y l', LitOk n x → LitOk n y → (hasB [x, y, l'] lit && otherB [x, y, l'] lit out n) = (l' == lit && (!litT out x && (!litT out y && true))) := fun lit hl x y l' hx hy =>
    forced_one [x, y] l' hv (by omega) hl (by simp; exact ⟨hx, hy⟩)
  have ep0 : ((-n : Int) == n) = false := by simp only [beq_eq_false_iff_ne]; omega
  have ep1 : ((n : Int) == n) = true := by simp
  have ep2 : ((n + 1 : Int) == n) = false := by simp only [beq_eq_false_iff_ne]; omega
  have ep3 : ((-(n + 1) : Int) == n) = false := by simp only [beq_eq_false_iff_ne]; omega
  have em0 : ((-n : Int) == -n) = true := by simp
  have em1 : ((n : Int) == -n) = false := by simp only [beq_eq_false_iff_ne]; omega
  have em2 : ((n + 1 : Int) == -n) = false := by simp only [beq_eq_false_iff_ne]; omega
  have em3 : ((-(n + 1) : Int) == -n) = false := by simp only [beq_eq_false_iff_ne]; omega
  rw [addC_three]
  unfold forcedB sV
  simp only [List.any_cons, List.any_nil, cntT]
  constructor
  · rw [f4 n (.inl rfl) a b d (-n) ha hbb hd, f4 n (.inl rfl) (-a) b d n ha.neg hbb hd, f4 n (.inl rfl) a (-b) d n ha hbb.neg hd, f4 n (.inl rfl) (-a) (-b) d (-n) ha.neg hbb.neg hd, f4 n (.inl rfl) a b (-d) n ha hbb hd.neg, f4 n (.inl rfl) (-a) b (-d) (-n) ha.neg hbb hd.neg, f4 n (.inl rfl) a (-b) (-d) (-n) ha hbb.neg hd.neg, f4 n (.inl rfl) (-a) (-b) (-d) n ha.neg hbb.neg hd.neg, f3 n (.inl rfl) (-a) (-b) (n + 1) ha.neg hbb.neg, f3 n (.inl rfl) (-a) (-d) (n + 1) ha.neg hd.neg, f3 n (.inl rfl) (-b) (-d) (n + 1) hbb.neg hd.neg, f3 n (.inl rfl) a b (-(n + 1)) ha hbb, f3 n (.inl rfl) a d (-(n + 1)) ha hd, f3 n (.inl rfl) b d (-(n + 1)) hbb hd, ep0, ep1, ep2, ep3, na, nb, nd]
    cases litT out a <;> cases litT out b <;> cases litT out d <;> rfl
  · rw [f4 (-n) (.inr rfl) a b d (-n) ha hbb hd, f4 (-n) (.inr rfl) (-a) b d n ha.neg hbb hd, f4 (-n) (.inr rfl) a (-b) d n ha hbb.neg hd, f4 (-n) (.inr rfl) (-a) (-b) d (-n) ha.neg hbb.neg hd, f4 (-n) (.inr rfl) a b (-d) n ha hbb hd.neg, f4 (-n) (.inr rfl) (-a) b (-d) (-n) ha.neg hbb hd.neg, f4 (-n) (.inr rfl) a (-b) (-d) (-n) ha hbb.neg hd.neg, f4 (-n) (.inr rfl) (-a) (-b) (-d) n ha.neg hbb.neg hd.neg, f3 (-n) (.inr rfl) (-a) (-b) (n + 1) ha.neg hbb.neg, f3 (-n) (.inr rfl) (-a) (-d) (n + 1) ha.neg hd.neg, f3 (-n) (.inr rfl) (-b) (-d) (n + 1) hbb.neg hd.neg, f3 (-n) (.inr rfl) a b (-(n + 1)) ha hbb, f3 (-n) (.inr rfl) a d (-(n + 1)) ha hd, f3 (-n) (.inr rfl) b d (-(n + 1)) hbb hd, em0, em1, em2, em3, na, nb, nd]
    cases litT out a <;> cases litT out b <;> cases litT out d <;> rfl
theorem mid_three' (a b d n : Int) (out : List Bool) (hv : (out.length : Int) = n + 1) (hn : 1 ≤ n) (hb : n + 2 ≤ 65537) (ha : LitOk n a) (hbb : LitOk n b) (hd : LitOk n d) :
    forcedB (addC [a, b, d] n (n + 1)) (n + 1) (n + 1) out = cV out [a, b, d] ∧ forcedB (addC [a, b, d] n (n + 1)) (-(n + 1)) (n + 1) out = !cV out [a, b, d] := by
  have ha : LitOk (n + 1) a := ha.mono (by omega)
  have hbb : LitOk (n + 1) b := hbb.mono (by omega)
  have hd : LitOk (n + 1) d := hd.mono (by omega)
  have na := litT_neg (F := out) (by rw [hv]; exact ha) (by omega)
  have nb := litT_neg (F := out) (by rw [hv]; exact hbb) (by omega)
  have nd := litT_neg (F := out) (by rw [hv]; exact hd) (by omega)
  have f4 : ∀ lit (_ : lit = n + 1 ∨ lit = -(n + 1)) x y z l', LitOk (n + 1) x → LitOk (n + 1) y → LitOk (n + 1) z → (hasB [x, y, z, l'] lit && otherB [x, y, z, l'] lit out (n + 1)) = (l' == lit && (!litT out x && (!litT out y && (!litT out z && true)))) := fun lit hl x y z l' hx hy hz =>
    forced_one [x, y, z] l' hv (by omega) hl (by simp; exact ⟨hx, hy, hz⟩)
  have f3 : ∀ lit (_ : lit = n + 1 ∨ lit = -(n + 1)) x y l', LitOk (n + 1) x → LitOk (n + 1) y → (hasB [x, y, l'] lit && otherB [x, y, l'] lit out (n + 1)) = (l' == lit && (!litT out x && (!litT out y && true))) := fun lit hl x y l' hx hy =>
    forced_one [x, y] l' hv (by omega) hl (by simp; exact ⟨hx, hy⟩)
  have ep0 : ((-n : Int) == n + 1) = false := by simp only [beq_eq_false_iff_ne]; omega
  have ep1 : ((n : Int) == n + 1) = false := by simp only [beq_eq_false_iff_ne]; omega
  have ep2 : ((n + 1 : Int) == n + 1) = true := by simp
  have ep3 : ((-(n + 1) : Int) == n + 1) = false := by simp only [beq_eq_false_iff_ne]; omega
  have em0 : ((-n : Int) == -(n + 1)) = false := by simp only [beq_eq_false_iff_ne]; omega
  have em1 : ((n : Int) == -(n + 1)) = false := by simp only [beq_eq_false_iff_ne]; omega
  have em2 : ((n + 1 : Int) == -(n + 1)) = false := by simp only [beq_eq_false_iff_ne]; omega
  have em3 : ((-(n + 1) : Int) == -(n + 1)) = true := by simp
  rw [addC_three]
  unfold forcedB cV
  simp only [List.any_cons, List.any_nil, cntT]
  constructor
  · rw [f4 (n + 1) (.inl rfl) a b d (-n) ha hbb hd, f4 (n + 1) (.inl rfl) (-a) b d n ha.neg hbb hd, f4 (n + 1) (.inl rfl) a (-b) d n ha hbb.neg hd, f4 (n + 1) (.inl rfl) (-a) (-b) d (-n) ha.neg hbb.neg hd, f4 (n + 1) (.inl rfl) a b (-d) n ha hbb hd.neg, f4 (n + 1) (.inl rfl) (-a) b (-d) (-n) ha.neg hbb hd.neg, f4 (n + 1) (.inl rfl) a (-b) (-d) (-n) ha hbb.neg hd.neg, f4 (n + 1) (.inl rfl) (-a) (-b) (-d) n ha.neg hbb.neg hd.neg, f3 (n + 1) (.inl rfl) (-a) (-b) (n + 1) ha.neg hbb.neg, f3 (n + 1) (.inl rfl) (-a) (-d) (n + 1) ha.neg hd.neg, f3 (n + 1) (.inl rfl) (-b) (-d) (n + 1) hbb.neg hd.neg, f3 (n + 1) (.inl rfl) a b (-(n + 1)) ha hbb, f3 (n + 1) (.inl rfl) a d (-(n + 1)) ha hd, f3 (n + 1) (.inl rfl) b d (-(n + 1)) hbb hd, ep0, ep1, ep2, ep3, na, nb, nd]
    cases litT out a <;> cases litT out b <;> cases litT out d <;> rfl
  · rw [f4 (-(n + 1)) (.inr rfl) a b d (-n) ha hbb hd, f4 (-(n + 1)) (.inr rfl) (-a) b d n ha.neg hbb hd, f4 (-(n + 1)) (.inr rfl) a (-b) d n ha hbb.neg hd, f4 (-(n + 1)) (.inr rfl) (-a) (-b) d (-n) ha.neg hbb.neg hd, f4 (-(n + 1)) (.inr rfl) a b (-d) n ha hbb hd.neg, f4 (-(n + 1)) (.inr rfl) (-a) b (-d) (-n) ha.neg hbb hd.neg, f4 (-(n + 1)) (.inr rfl) a (-b) (-d) (-n) ha hbb.neg hd.neg, f4 (-(n + 1)) (.inr rfl) (-a) (-b) (-d) n ha.neg hbb.neg hd.neg, f3 (-(n + 1)) (.inr rfl) (-a) (-b) (n + 1) ha.neg hbb.neg, f3 (-(n + 1)) (.inr rfl) (-a) (-d) (n + 1) ha.neg hd.neg, f3 (-(n + 1)) (.inr rfl) (-b) (-d) (n + 1) hbb.neg hd.neg, f3 (-(n + 1)) (.inr rfl) a b (-(n + 1)) ha hbb, f3 (-(n + 1)) (.inr rfl) a d (-(n + 1)) ha hd, f3 (-(n + 1)) (.inr rfl) b d (-(n + 1)) hbb hd, em0, em1, em2, em3, na, nb, nd]
    cases litT out a <;> cases litT out b <;> cases litT out d <;> rfl
theorem mid_s (l : List Int) (n : Int) (out : List Bool) (hv : (out.length : Int) = n) (hn : 1 ≤ n) (hb : n + 2 ≤ 65537) (h : 1 < l.length) (hl : ∀ x ∈ l, LitOk n x) :
    forcedB (addC (l.take 3) n (n + 1)) n n out = sV out (l.take 3) ∧ forcedB (addC (l.take 3) n (n + 1)) (-n) n out = !sV out (l.take 3) := by
  rcases take_two_three l h with ⟨a, b, e, el⟩ | ⟨a, b, d, t, e, el⟩
  · rw [e]; exact mid_two a b n out hv hn hb (hl a (by simp [el])) (hl b (by simp [el]))
  · rw [e]; exact mid_three a b d n out hv hn hb (hl a (by simp [el])) (hl b (by simp [el])) (hl d (by simp [el]))
theorem mid_c (l : List Int) (n : Int) (out : List Bool) (hv : (out.length : Int) = n + 1) (hn : 1 ≤ n) (hb : n + 2 ≤ 65537) (h : 1 < l.length) (hl : ∀ x ∈ l, LitOk n x) :
    forcedB (addC (l.take 3) n (n + 1)) (n + 1) (n + 1) out = cV out (l.take 3) ∧ forcedB (addC (l.take 3) n (n + 1)) (-(n + 1)) (n + 1) out = !cV out (l.take 3) := by
  rcases take_two_three l h with ⟨a, b, e, el⟩ | ⟨a, b, d, t, e, el⟩
  · rw [e]; exact mid_two' a b n out hv hn hb (hl a (by simp [el])) (hl b (by simp [el]))
  · rw [e]; exact mid_three' a b d n out hv hn hb (hl a (by simp [el])) (hl b (by simp [el])) (hl d (by simp [el]))
theorem add_holds (l : List Int) (n : Int) (F : List Bool) (hF : (F.length : Int) ≤ 65537) (hn : 1 ≤ n) (hb : n + 2 ≤ F.length) (h : 1 < l.length) (hl : ∀ x ∈ l, LitOk n x) (hs : litT F n = sV F (l.take 3)) (hc : litT F (n + 1) = cV F (l.take 3)) :
    ∀ c ∈ addC (l.take 3) n (n + 1), c.any (litT F) = true := by
  have ns := litT_neg (F := F) (x := n) ⟨by omega, by omega, by omega⟩ hF
  have nc := litT_neg (F := F) (x := n + 1) ⟨by omega, by omega, by omega⟩ hF
  rcases take_two_three l h with ⟨a, b, e, el⟩ | ⟨a, b, d, t, e, el⟩
  · have na := litT_neg (F := F) ((hl a (by simp [el])).mono (by omega)) hF
    have nb := litT_neg (F := F) ((hl b (by simp [el])).mono (by omega)) hF
    rw [e] at hs hc ⊢
    rw [addC_two]
    unfold sV at hs
    unfold cV at hc
    simp only [cntT] at hs hc
    simp only [List.mem_cons, List.not_mem_nil, or_false, forall_eq_or_imp, forall_eq, List.any_cons, List.any_nil]
    rw [na, nb, ns, nc, hs, hc]
    cases litT F a <;> cases litT F b <;> decide
  · have na := litT_neg (F := F) ((hl a (by simp [el])).mono (by omega)) hF
    have nb := litT_neg (F := F) ((hl b (by simp [el])).mono (by omega)) hF
    have nd := litT_neg (F := F) ((hl d (by simp [el])).mono (by omega)) hF
    rw [e] at hs hc ⊢
    rw [addC_three]
    unfold sV at hs
    unfold cV at hc
    simp only [cntT] at hs hc
    simp only [List.mem_cons, List.not_mem_nil, or_false, forall_eq_or_imp, forall_eq, List.any_cons, List.any_nil]
    rw [na, nb, nd, ns, nc, hs, hc]
    cases litT F a <;> cases litT F b <;> cases litT F d <;> decide
theorem cnt_val (F : List Bool) (l : List Int) (h : 1 < l.length) : (sV F (l.take 3)).toNat + 2 * (cV F (l.take 3)).toNat = cntT F (l.take 3) := by
  have h3 : cntT F (l.take 3) ≤ 3 := by
    rcases take_two_three l h with ⟨a, b, e, _⟩ | ⟨a, b, d, t, e, _⟩
    · rw [e]; simp only [cntT]; cases litT F a <;> cases litT F b <;> decide
    · rw [e]; simp only [cntT]; cases litT F a <;> cases litT F b <;> cases litT F d <;> decide
  unfold sV cV
  generalize cntT F (l.take 3) = m at h3
  rcases m with _ | _ | _ | _ | m <;> first | rfl | omega
end Go.Proofs.YtkkapbnopmmmjaaGreatDoor
namespace Go.Proofs.YtkkapbnopmmmjaaGreatDoor
def wRows (F : List Bool) (rows : Int → List Int) (k : Int) : Nat → Nat
  | 0 => 0
  | n + 1 => cntT F (rows k) + 2 * wRows F rows (k + 1) n
theorem wRows_congr {F : List Bool} {rows rows' : Int → List Int} : ∀ {n : Nat} {k : Int}, (∀ j, k ≤ j → rows j = rows' j) → wRows F rows k n = wRows F rows' k n
  | 0, _, _ => rfl
  | n + 1, k, h => by simp only [wRows]; rw [h k (Int.le_refl _), wRows_congr (n := n) (k := k + 1) (fun j hj => h j (by omega))]
theorem wRows_empty {F : List Bool} {rows : Int → List Int} : ∀ {n : Nat} {k : Int}, (∀ j, k ≤ j → rows j = []) → wRows F rows k n = 0
  | 0, _, _ => rfl
  | n + 1, k, h => by simp only [wRows]; rw [h k (Int.le_refl _), wRows_empty (n := n) (k := k + 1) (fun j hj => h j (by omega))]; rfl
theorem wRows_more {F : List Bool} {rows : Int → List Int} : ∀ {n m : Nat} {k : Int}, n ≤ m → (∀ j, k + n ≤ j → rows j = []) → wRows F rows k m = wRows F rows k n
  | 0, m, k, _, h => by rw [wRows_empty (fun j hj => h j (by simpa using hj))]; rfl
  | n + 1, 0, _, hm, _ => by omega
  | n + 1, m + 1, k, hm, h => by
    simp only [wRows]
    rw [wRows_more (n := n) (m := m) (k := k + 1) (by omega) (fun j hj => h j (by omega))]
def valL (F : List Bool) : List Int → Nat
  | [] => 0
  | b :: bs => (litT F b).toNat + 2 * valL F bs
theorem numB_shift (bv : Nat → Bool) : ∀ m, numB bv (m + 1) = (bv 0).toNat + 2 * numB (fun i => bv (i + 1)) m
  | 0 => by simp [numB]; cases bv 0 <;> rfl
  | m + 1 => by
    rw [numB, numB_shift bv m]
    conv => rhs; rw [numB]
    rw [Nat.pow_succ]
    split <;> omega
theorem numB_valL (F : List Bool) : ∀ bits : List Int, numB (bvOf bits F) bits.length = valL F bits
  | [] => rfl
  | b :: bs => by
    rw [List.length_cons, numB_shift, valL, ← numB_valL F bs]
    rfl
theorem head_val {F : List Bool} {l : List Int} (h : ¬ 1 < l.length) : (litT F (l.headD 0)).toNat = cntT F l := by
  rcases l with _ | ⟨x, _ | ⟨y, t⟩⟩
  · simp [cntT, litT_zero]
  · simp [cntT]
  · simp at h
theorem addC_high (l : List Int) (n : Int) (hn : 1 ≤ n) (h : 1 < l.length) : ∀ c ∈ addC (l.take 3) n (n + 1), ∃ x ∈ c, n ≤ (x.natAbs : Int) := by
  rcases take_two_three l h with ⟨a, b, e, el⟩ | ⟨a, b, d, t, e, el⟩
  · rw [e, addC_two]
    simp only [List.mem_cons, List.not_mem_nil, or_false]
    rintro c (rfl | rfl | rfl | rfl | rfl | rfl | rfl)
    · exact ⟨-n, by simp, by omega⟩
    · exact ⟨n, by simp, by omega⟩
    · exact ⟨n, by simp, by omega⟩
    · exact ⟨-n, by simp, by omega⟩
    · exact ⟨n + 1, by simp, by omega⟩
    · exact ⟨-(n + 1), by simp, by omega⟩
    · exact ⟨-(n + 1), by simp, by omega⟩
  · rw [e, addC_three]
    simp only [List.mem_cons, List.not_mem_nil, or_false]
    rintro c (rfl | rfl | rfl | rfl | rfl | rfl | rfl | rfl | rfl | rfl | rfl | rfl | rfl | rfl)
    · exact ⟨-n, by simp, by omega⟩
    · exact ⟨n, by simp, by omega⟩
    · exact ⟨n, by simp, by omega⟩
    · exact ⟨-n, by simp, by omega⟩
    · exact ⟨n, by simp, by omega⟩
    · exact ⟨-n, by simp, by omega⟩
    · exact ⟨-n, by simp, by omega⟩
    · exact ⟨n, by simp, by omega⟩
    · exact ⟨n + 1, by simp, by omega⟩
    · exact ⟨n + 1, by simp, by omega⟩
    · exact ⟨n + 1, by simp, by omega⟩
    · exact ⟨-(n + 1), by simp, by omega⟩
    · exact ⟨-(n + 1), by simp, by omega⟩
    · exact ⟨-(n + 1), by simp, by omega⟩
theorem toldP_two (cs : List (List Int)) (g : List Bool) (v : Int) (m : Nat) (x c : Bool) (h1 : forcedB cs v v g = x) (h2 : forcedB cs (-v) v g = !x) (h3 : forcedB cs (v + 1) (v + 1) (g ++ [x]) = c) (h4 : forcedB cs (-(v + 1)) (v + 1) (g ++ [x]) = !c) :
    toldP cs g v (m + 2) = toldP cs (g ++ [x, c]) (v + 2) m := by
  rw [toldP, h1, h2, if_neg (by cases x <;> simp), toldP, h3, h4, if_neg (by cases c <;> simp), List.append_assoc, Int.add_assoc]
  rfl
structure Cor (s : Ps) (k : Int) (rest : List (List Int)) (bits : List Int) (after : Int) : Prop where
  high : ∀ c ∈ rest, ∃ x ∈ c, s.nx ≤ (x.natAbs : Int)
  told : ∀ (low : List (List Int)) (g : List Bool), (g.length : Int) = s.nx → (∀ c ∈ low, ∀ x ∈ c, LitOk s.nx x) → ∃ ext, toldP (low ++ rest) g s.nx (after - s.nx).toNat = (g ++ ext, true) ∧ ((g ++ ext).length : Int) = after ∧
    (∀ c ∈ rest, c.any (litT (g ++ ext)) = true) ∧ ∀ n : Nat, s.top - k ≤ n → valL (g ++ ext) bits = wRows (g ++ ext) s.rows k n
theorem sumF_cor (next : Int) : ∀ (f : Nat) (k : Int) (s : Ps) (o : List Int) (r : List Int × List (List Int) × Int), SzOk next s → s.nx ≤ 65537 → (∀ j, s.top ≤ j → s.rows j = []) → sumF f k s o = some r →
    r.2.2 ≤ 65537 ∧ s.nx ≤ r.2.2 ∧ ∃ rest bits, r.2.1 = s.cs ++ rest ∧ r.1 = o ++ bits ∧ Cor s k rest bits r.2.2
  | 0, _, _, _, _, _, _, _, h => by simp [sumF] at h
  | f + 1, k, s, o, r, hs, hhi, hem, h => by
    rw [sumF] at h
    by_cases h1 : k < s.top
    · rw [if_pos h1] at h
      by_cases h2 : 1 < (s.rows k).length
      · rw [if_pos h2] at h
        by_cases h3 : 65537 < s.nx + 2
        · rw [if_pos h3] at h; cases h
        · rw [if_neg h3] at h
          have e1 : (stepA k s).nx = s.nx + 2 := rfl
          have e2 : (stepA k s).cs = s.cs ++ addC ((s.rows k).take 3) s.nx (s.nx + 1) := rfl
          have e3 : (stepA k s).top = max (max s.top (k + 1)) (k + 1 + 1) := rfl
          have er : ∀ j, (stepA k s).rows j = if j = k + 1 then s.rows (k + 1) ++ [s.nx + 1] else if j = k then (s.rows k).drop 3 ++ [s.nx] else s.rows j := fun j => by
            simp only [stepA, updr, setr]
            by_cases c1 : j = k + 1
            · subst c1
              rw [if_pos rfl, if_pos rfl, if_neg (show ¬ k + 1 = k by omega), if_neg (show ¬ k + 1 = k by omega)]
            · rw [if_neg c1, if_neg c1]
              by_cases c2 : j = k
              · subst c2; simp
              · rw [if_neg c2, if_neg c2, if_neg c2]
          have hl1 := hs.lo1
          obtain ⟨b1, b2, rest, bits, b3, b4, b5⟩ := sumF_cor next f k (stepA k s) o r (hs.step k h2) (by rw [e1]; omega) (fun j hj => by
            rw [e3] at hj
            rw [er, if_neg (by omega), if_neg (by omega)]
            exact hem j (by omega)) h
          rw [e1] at b2
          refine ⟨b1, by omega, addC ((s.rows k).take 3) s.nx (s.nx + 1) ++ rest, bits, by rw [b3, e2, List.append_assoc], b4, ?_, ?_⟩
          · intro c hc
            rcases List.mem_append.1 hc with hc | hc
            · exact addC_high (s.rows k) s.nx hl1 h2 c hc
            · obtain ⟨x, hx, hlt⟩ := b5.high c hc
              rw [e1] at hlt
              exact ⟨x, hx, by omega⟩
          · intro low g hg hlow
            have hrow := hs.row k
            obtain ⟨m1, m2⟩ := mid_s (s.rows k) s.nx g hg hl1 (by omega) h2 hrow
            generalize hS : sV g ((s.rows k).take 3) = S at m1 m2
            have hg1 : ((g ++ [S]).length : Int) = s.nx + 1 := by rw [List.length_append, List.length_singleton]; omega
            obtain ⟨m3, m4⟩ := mid_c (s.rows k) s.nx (g ++ [S]) hg1 hl1 (by omega) h2 hrow
            generalize hC : cV (g ++ [S]) ((s.rows k).take 3) = C at m3 m4
            have hg2 : ((g ++ [S, C]).length : Int) = (stepA k s).nx := by rw [List.length_append, e1]; simp; omega
            obtain ⟨acl, _, _⟩ := addC_ok (s.rows k) s.nx hl1 h2 hrow
            have hlow2 : ∀ c ∈ low ++ addC ((s.rows k).take 3) s.nx (s.nx + 1), ∀ x ∈ c, LitOk (stepA k s).nx x := fun c hc x hx => by
              rw [e1]
              rcases List.mem_append.1 hc with hc | hc
              · exact (hlow c hc x hx).mono (by omega)
              · exact acl c hc x hx
            obtain ⟨ext, t1, t2, t3, t4⟩ := b5.told (low ++ addC ((s.rows k).take 3) s.nx (s.nx + 1)) (g ++ [S, C]) hg2 hlow2
            have hhigh : ∀ v, v < s.nx + 2 → ∀ c ∈ rest, ∃ x ∈ c, v < (x.natAbs : Int) := fun v hv c hc => by
              obtain ⟨x, hx, hlt⟩ := b5.high c hc
              rw [e1] at hlt
              exact ⟨x, hx, by omega⟩
            have fo : ∀ lit v out, (lit = v ∨ lit = -v) → s.nx ≤ v → v < s.nx + 2 → forcedB (low ++ (addC ((s.rows k).take 3) s.nx (s.nx + 1) ++ rest)) lit v out = forcedB (addC ((s.rows k).take 3) s.nx (s.nx + 1)) lit v out := fun lit v out hlit hv1 hv2 => by
              rw [forced_app, forced_app, forced_low hlit (fun c hc x hx => (hlow c hc x hx).mono hv1), forced_high hlit (by omega) (hhigh v hv2)]
              simp
            have hm : (r.2.2 - s.nx).toNat = (r.2.2 - (s.nx + 2)).toNat + 2 := by omega
            have htold : toldP (low ++ (addC ((s.rows k).take 3) s.nx (s.nx + 1) ++ rest)) g s.nx (r.2.2 - s.nx).toNat = (g ++ ([S, C] ++ ext), true) := by
              rw [hm, toldP_two _ g s.nx _ S C (by rw [fo _ _ _ (.inl rfl) (Int.le_refl _) (by omega)]; exact m1) (by rw [fo _ _ _ (.inr rfl) (Int.le_refl _) (by omega)]; exact m2)
                (by rw [fo _ _ _ (.inl rfl) (by omega) (by omega)]; exact m3) (by rw [fo _ _ _ (.inr rfl) (by omega) (by omega)]; exact m4)]
              rw [e1, List.append_assoc] at t1
              rw [t1, List.append_assoc]
            rw [List.append_assoc] at t2 t3 t4
            have hFl : (((g ++ ([S, C] ++ ext)).length : Nat) : Int) ≤ 65537 := by rw [t2]; exact b1
            have hFn : s.nx + 2 ≤ ((g ++ ([S, C] ++ ext)).length : Nat) := by rw [t2]; exact b2
            have hcn : ∀ x, LitOk s.nx x → litT (g ++ ([S, C] ++ ext)) x = litT g x := fun x hx => litT_ext _ (by rw [hg]; exact hx) hFl
            have hcnt : cntT (g ++ ([S, C] ++ ext)) ((s.rows k).take 3) = cntT g ((s.rows k).take 3) := cntT_congr (fun x hx => hcn x (hrow x (List.mem_of_mem_take hx)))
            have hcnt1 : cntT (g ++ [S]) ((s.rows k).take 3) = cntT g ((s.rows k).take 3) := cntT_congr (fun x hx => litT_ext _ (by rw [hg]; exact hrow x (List.mem_of_mem_take hx)) (by rw [hg1]; omega))
            have hsv : sV (g ++ ([S, C] ++ ext)) ((s.rows k).take 3) = S := (show sV (g ++ ([S, C] ++ ext)) ((s.rows k).take 3) = sV g ((s.rows k).take 3) by unfold sV; rw [hcnt]).trans hS
            have hcv : cV (g ++ ([S, C] ++ ext)) ((s.rows k).take 3) = C := (show cV (g ++ ([S, C] ++ ext)) ((s.rows k).take 3) = cV (g ++ [S]) ((s.rows k).take 3) by unfold cV; rw [hcnt, hcnt1]).trans hC
            have hgn : g.length = s.nx.natAbs := by omega
            have hlS : litT (g ++ ([S, C] ++ ext)) s.nx = S := by
              rw [litT_val ⟨by omega, by omega, by omega⟩ hFl, decide_eq_true (show 0 < s.nx by omega), ← hgn, List.getD_eq_getElem?_getD, List.getElem?_append_right (Nat.le_refl _)]
              simp
            have hlC : litT (g ++ ([S, C] ++ ext)) (s.nx + 1) = C := by
              rw [litT_val ⟨by omega, by omega, by omega⟩ hFl, decide_eq_true (show 0 < s.nx + 1 by omega), show (s.nx + 1).natAbs = g.length + 1 by omega, List.getD_eq_getElem?_getD, List.getElem?_append_right (by omega)]
              simp
            refine ⟨[S, C] ++ ext, htold, t2, fun c hc => ?_, fun n hn => ?_⟩
            · rcases List.mem_append.1 hc with hc | hc
              · exact add_holds (s.rows k) s.nx _ hFl hl1 hFn h2 hrow (by rw [hlS, hsv]) (by rw [hlC, hcv]) c hc
              · exact t3 c hc
            · have hn2 : (stepA k s).top - k ≤ ((max n 2 : Nat) : Int) := by rw [e3]; omega
              rw [t4 (max n 2) hn2, ← wRows_more (n := n) (m := max n 2) (by omega) (fun j hj => hem j (by omega))]
              obtain ⟨m, hm2⟩ : ∃ m, max n 2 = m + 2 := ⟨max n 2 - 2, by omega⟩
              rw [hm2]
              simp only [wRows]
              rw [er k, er (k + 1), if_pos rfl, if_neg (by omega), if_pos rfl, wRows_congr (rows := (stepA k s).rows) (rows' := s.rows) (k := k + 1 + 1) (fun j hj => by rw [er, if_neg (by omega), if_neg (by omega)]), cntT_app, cntT_app]
              simp only [cntT]
              rw [hlS, hlC]
              have hval := cnt_val (g ++ ([S, C] ++ ext)) (s.rows k) h2
              rw [hsv, hcv] at hval
              have hsplit : cntT (g ++ ([S, C] ++ ext)) (s.rows k) = cntT (g ++ ([S, C] ++ ext)) ((s.rows k).take 3) + cntT (g ++ ([S, C] ++ ext)) ((s.rows k).drop 3) := by
                rw [← cntT_app, List.take_append_drop]
              rw [hsplit]
              omega
      · rw [if_neg h2] at h
        obtain ⟨b1, b2, rest, bits, b3, b4, b5⟩ := sumF_cor next f (k + 1) s _ r hs hhi hem h
        refine ⟨b1, b2, rest, (s.rows k).headD 0 :: bits, b3, by rw [b4, List.append_assoc]; rfl, b5.high, fun low g hg hlow => ?_⟩
        obtain ⟨ext, t1, t2, t3, t4⟩ := b5.told low g hg hlow
        refine ⟨ext, t1, t2, t3, fun n hn => ?_⟩
        obtain ⟨m, rfl⟩ : ∃ m, n = m + 1 := ⟨n - 1, by omega⟩
        simp only [valL, wRows]
        rw [t4 m (by omega), head_val h2]
    · rw [if_neg h1] at h
      injection h with h
      subst h
      refine ⟨hhi, Int.le_refl _, [], [], by simp, by simp, fun c hc => by simp at hc, fun low g hg hlow => ⟨[], ?_, ?_, fun c hc => by simp at hc, fun n hn => ?_⟩⟩
      · rw [show (s.nx - s.nx).toNat = 0 by omega]; simp [toldP]
      · simpa using hg
      · rw [wRows_empty (fun j hj => hem j (by omega))]; rfl
end Go.Proofs.YtkkapbnopmmmjaaGreatDoor
namespace Go.Proofs.YtkkapbnopmmmjaaGreatDoor
theorem wRows_updr (F : List Bool) (rows : Int → List Int) (j x : Int) : ∀ (n : Nat) (k : Int), k ≤ j → j < k + n → wRows F (updr rows j x) k n = wRows F rows k n + 2 ^ (j - k).toNat * (litT F x).toNat
  | 0, k, h1, h2 => by omega
  | n + 1, k, h1, h2 => by
    simp only [wRows]
    by_cases e : j = k
    · subst e
      have e1 : updr rows j x j = rows j ++ [x] := by simp [updr]
      rw [e1, cntT_app, wRows_congr (rows := updr rows j x) (rows' := rows) (fun i hi => by unfold updr; rw [if_neg (by omega)]), show (j - j).toNat = 0 by omega]
      simp only [cntT]
      omega
    · have e1 : updr rows j x k = rows k := by unfold updr; rw [if_neg (by omega)]
      rw [e1, wRows_updr F rows j x n (k + 1) (by omega) (by omega), show (j - k).toNat = (j - (k + 1)).toNat + 1 by omega, Nat.pow_succ, Nat.mul_add]
      generalize 2 ^ (j - (k + 1)).toNat = P
      rw [Nat.mul_assoc, Nat.mul_left_comm P 2]
      omega
theorem mod_two_succ (c m : Nat) : c % 2 ^ (m + 1) = c % 2 ^ m + 2 ^ m * (c.testBit m).toNat := by
  rw [Nat.mod_pow_succ, Nat.testBit_eq_decide_div_mod_eq]
  rcases Nat.mod_two_eq_zero_or_one (c / 2 ^ m) with h | h <;> rw [h] <;> simp
theorem wRows_feedTo (F : List Bool) (c : Nat) (x : Int) (s : Fd) : ∀ m, m ≤ 64 → wRows F (feedTo c x s m).1 0 64 = wRows F s.1 0 64 + c % 2 ^ m * (litT F x).toNat
  | 0, _ => by simp [feedTo, Nat.mod_one]
  | m + 1, hm => by
    rw [feedTo_succ, mod_two_succ, Nat.add_mul]
    by_cases hb : c.testBit m = true
    · rw [if_pos hb]
      simp only [feed1]
      rw [wRows_updr F _ _ x 64 0 (by omega) (by omega), wRows_feedTo F c x s m (by omega), hb, show ((m : Int) - 0).toNat = m by omega]
      simp
      omega
    · rw [if_neg hb, wRows_feedTo F c x s m (by omega)]
      have : c.testBit m = false := by simpa using hb
      rw [this]; simp
def sumZ (F : List Bool) : List (Int × Int) → Int
  | [] => 0
  | q :: t => (if litT F q.2 then q.1 else 0) + sumZ F t
theorem sumZ_app (F : List Bool) : ∀ a b, sumZ F (a ++ b) = sumZ F a + sumZ F b
  | [], b => by simp [sumZ]
  | q :: a, b => by simp only [List.cons_append, sumZ, sumZ_app F a b]; omega
theorem sumZ_congr {F G : List Bool} : ∀ {a : List (Int × Int)}, (∀ q ∈ a, litT F q.2 = litT G q.2) → sumZ F a = sumZ G a
  | [], _ => rfl
  | q :: a, h => by simp only [sumZ]; rw [h q (by simp), sumZ_congr (a := a) (fun p hp => h p (by simp [hp]))]
theorem wRows_feedAll (F : List Bool) : ∀ (cl : List (Int × Int)) (s : Fd), (∀ q ∈ cl, 0 ≤ q.1 ∧ q.1 ≤ 1099511627776) → (wRows F (feedAll s cl).1 0 64 : Int) = wRows F s.1 0 64 + sumZ F cl
  | [], s, _ => by simp [feedAll, sumZ]
  | q :: cl, s, h => by
    have e : feedAll s (q :: cl) = feedAll (feedTo q.1.toNat q.2 s 64) cl := rfl
    obtain ⟨h1, h2⟩ := h q (by simp)
    rw [e, wRows_feedAll F cl _ (fun p hp => h p (by simp [hp])), wRows_feedTo F _ _ _ 64 (Nat.le_refl _), Nat.mod_eq_of_lt (by omega)]
    simp only [sumZ]
    cases litT F q.2 <;> simp <;> omega
theorem sumTo_zip (coef l : List Int) (F : List Bool) (hl : coef.length = l.length) : ∀ k, k ≤ l.length → sumTo coef l F k = sumZ F ((coef.zip l).take k)
  | 0, _ => by simp [sumTo, sumZ]
  | k + 1, h => by
    have hz : k < (coef.zip l).length := by rw [List.length_zip]; omega
    rw [sumTo, sumTo_zip coef l F hl k (by omega), List.take_succ_eq_append_getElem hz, sumZ_app, List.getElem_zip]
    simp only [sumZ]
    rw [List.getD_eq_getElem?_getD, List.getElem?_eq_getElem (by omega), List.getD_eq_getElem?_getD, List.getElem?_eq_getElem (by omega)]
    simp
theorem sumTo_all (coef l : List Int) (F : List Bool) (hl : coef.length = l.length) : sumTo coef l F l.length = sumZ F (coef.zip l) := by
  rw [sumTo_zip coef l F hl l.length (Nat.le_refl _), List.take_of_length_le (by rw [List.length_zip]; omega)]
theorem sumP_ok {coef l : List Int} {next : Int} {bits : List Int} {cs : List (List Int)} {after : Int} (h : sumP coef l next = .ok bits cs after) :
    coef.length = l.length ∧ 1 ≤ next ∧ next ≤ 65537 ∧ (∀ q ∈ coef.zip l, 0 ≤ q.1 ∧ q.1 ≤ 1099511627776 ∧ LitOk next q.2) ∧
      sumF fuel0 0 { rows := (feedAll fd0 (coef.zip l)).1, cs := [], nx := next, top := (feedAll fd0 (coef.zip l)).2 } [] = some (bits, cs, after) := by
  unfold sumP at h
  split at h
  · cases h
  · split at h
    · cases h
    · split at h
      · cases h
      · rename_i h1 h2 h3
        generalize hr : sumF fuel0 0 { rows := (feedAll fd0 (coef.zip l)).1, cs := [], nx := next, top := (feedAll fd0 (coef.zip l)).2 } [] = o at h
        cases o with
        | none => cases h
        | some r =>
          simp only at h
          injection h with e1 e2 e3
          subst e1 e2 e3
          have hall : ∀ q ∈ coef.zip l, okAt next q = true := by simpa using h2
          refine ⟨by omega, by omega, by omega, fun q hq => ?_, rfl⟩
          have := hall q hq
          simp [okAt] at this
          exact ⟨by omega, by omega, this.1.1.2, this.2, this.1.2⟩
theorem feed_row {next : Int} : ∀ (cl : List (Int × Int)) (s : Fd), (∀ j, ∀ x ∈ s.1 j, LitOk next x) → (∀ q ∈ cl, LitOk next q.2) → ∀ j, ∀ x ∈ (feedAll s cl).1 j, LitOk next x
  | [], _, hs, _ => hs
  | q :: cl, s, hs, hq => by
    have e : feedAll s (q :: cl) = feedAll (feedTo q.1.toNat q.2 s 64) cl := rfl
    rw [e]
    refine feed_row cl _ ?_ (fun p hp => hq p (by simp [hp]))
    have : ∀ t, ∀ j, ∀ x ∈ (feedTo q.1.toNat q.2 s t).1 j, LitOk next x := fun t => by
      induction t with
      | zero => exact hs
      | succ t ih2 =>
        rw [feedTo_succ]
        split
        · intro j x hx
          simp only [feed1] at hx
          rcases mem_updr hx with hx | rfl
          · exact ih2 j x hx
          · exact hq q (by simp)
        · exact ih2
    exact this 64
theorem sumP_cor {coef l : List Int} {next : Int} {bits : List Int} {cs : List (List Int)} {after : Int} (h : sumP coef l next = .ok bits cs after) (g : List Bool) (hg : (g.length : Int) = next) :
    ∃ F, toldP cs g next (after - next).toNat = (F, true) ∧ (F.length : Int) = after ∧ (∀ c ∈ cs, c.any (litT F) = true) ∧ ((numB (bvOf bits F) bits.length : Nat) : Int) = sumTo coef l F l.length ∧ sumTo coef l F l.length = sumZ g (coef.zip l) := by
  obtain ⟨hlen, hn1, hn2, hq, hr⟩ := sumP_ok h
  have hs0 : SzOk next { rows := (feedAll fd0 (coef.zip l)).1, cs := [], nx := next, top := (feedAll fd0 (coef.zip l)).2 } :=
    ⟨by simp only; omega, by simp, by simp, feed_row _ fd0 (fun j x hx => by simp [fd0] at hx) (fun q hqm => (hq q hqm).2.2), fun c hc => by simp at hc, by simp, by simp⟩
  have ok64 := (FeedOk.all (coef.zip l) fd0 0 FeedOk.zero).2
  have hem := EmptyAbove.all (coef.zip l) fd0 (fun _ _ => rfl)
  obtain ⟨b1, b2, rest, bits', b3, b4, b5⟩ := sumF_cor next fuel0 0 _ [] _ hs0 hn2 hem hr
  simp only [List.nil_append] at b3 b4
  subst b3 b4
  obtain ⟨ext, t1, t2, t3, t4⟩ := b5.told [] g hg (fun c hc => by simp at hc)
  simp only [List.nil_append] at t1
  refine ⟨g ++ ext, t1, t2, t3, ?_, ?_⟩
  · rw [numB_valL, t4 64 (by simp only; omega), wRows_feedAll _ _ fd0 (fun q hqm => ⟨(hq q hqm).1, (hq q hqm).2.1⟩), sumTo_all coef l _ hlen]
    rw [wRows_empty (rows := fd0.1) (fun _ _ => rfl)]
    simp
  · rw [sumTo_all coef l _ hlen]
    refine sumZ_congr (fun q hqm => litT_ext _ (by rw [hg]; exact (hq q hqm).2.2) (by rw [t2]; exact b1))
def bitAt (j : Int) (q : Int × Int) : Bool := decide (0 ≤ j ∧ j < 64) && q.1.toNat.testBit j.toNat
theorem len_feedTo (c : Nat) (x : Int) (s : Fd) (j : Int) : ∀ m, m ≤ 64 → ((feedTo c x s m).1 j).length = (s.1 j).length + if (0 ≤ j ∧ j < m) ∧ c.testBit j.toNat = true then 1 else 0
  | 0, _ => by rw [if_neg (by omega)]; simp [feedTo]
  | m + 1, hm => by
    rw [feedTo_succ]
    by_cases hb : c.testBit m = true
    · rw [if_pos hb]
      simp only [feed1, updr]
      by_cases e : j = (m : Int)
      · subst e
        rw [if_pos rfl, List.length_append, len_feedTo c x s m m (by omega), if_neg (by omega), if_pos ⟨by omega, by simpa using hb⟩]
        simp
      · rw [if_neg e, len_feedTo c x s j m (by omega)]
        congr 1
        by_cases h2 : (0 ≤ j ∧ j < (m : Int)) ∧ c.testBit j.toNat = true
        · rw [if_pos h2, if_pos ⟨by omega, h2.2⟩]
        · rw [if_neg h2, if_neg (fun h3 => h2 ⟨by omega, h3.2⟩)]
    · rw [if_neg hb, len_feedTo c x s j m (by omega)]
      congr 1
      by_cases h2 : (0 ≤ j ∧ j < (m : Int)) ∧ c.testBit j.toNat = true
      · rw [if_pos h2, if_pos ⟨by omega, h2.2⟩]
      · rw [if_neg h2, if_neg (fun h3 => by
          by_cases e : j = (m : Int)
          · subst e; exact hb (by simpa using h3.2)
          · exact h2 ⟨by omega, h3.2⟩)]
def cntB (j : Int) : List (Int × Int) → Nat
  | [] => 0
  | q :: t => (bitAt j q).toNat + cntB j t
theorem len_feedAll (j : Int) : ∀ (cl : List (Int × Int)) (s : Fd), ((feedAll s cl).1 j).length = (s.1 j).length + cntB j cl
  | [], s => by simp [feedAll, cntB]
  | q :: cl, s => by
    have e : feedAll s (q :: cl) = feedAll (feedTo q.1.toNat q.2 s 64) cl := rfl
    rw [e, len_feedAll j cl, len_feedTo _ _ _ _ 64 (Nat.le_refl _)]
    simp only [cntB, bitAt]
    by_cases h2 : (0 ≤ j ∧ j < ((64 : Nat) : Int)) ∧ q.1.toNat.testBit j.toNat = true
    · rw [if_pos h2, decide_eq_true (show 0 ≤ j ∧ j < 64 by omega), h2.2]; simp; omega
    · rw [if_neg h2]
      have : (decide (0 ≤ j ∧ j < 64) && q.1.toNat.testBit j.toNat) = false := by
        by_cases h3 : 0 ≤ j ∧ j < 64
        · have : q.1.toNat.testBit j.toNat = false := by
            cases hx : q.1.toNat.testBit j.toNat with
            | false => rfl
            | true => exact absurd ⟨by omega, hx⟩ h2
          rw [this]; simp
        · rw [decide_eq_false h3]; rfl
      rw [this]; simp
def capR (k : Int) : Int := if k ≤ 40 then 16 else if k = 41 then 8 else if k = 42 then 4 else if k = 43 then 2 else if k = 44 then 1 else 0
def bR (j : Int) : Int := if j ≤ 40 then 8 else 0
structure Bnd (next k : Int) (s : Ps) (c : Int) : Prop where
  k0 : 0 ≤ k
  top : s.top ≤ 45
  c0 : 0 ≤ c
  far : ∀ j, k + 2 ≤ j → ((s.rows j).length : Int) ≤ bR j
  nxt : ((s.rows (k + 1)).length : Int) ≤ bR (k + 1) + c
  cur : ((s.rows k).length : Int) + 2 * c ≤ capR k ∨ (((s.rows k).length : Int) ≤ 1 ∧ 2 * c ≤ capR k)
  nx : s.nx ≤ next + 16 * k + 2 * c
theorem bit_41 {c : Int} (h : 0 ≤ c ∧ c ≤ 1099511627776) {j : Nat} (hj : 41 ≤ j) : c.toNat.testBit j = false :=
  Nat.testBit_lt_two_pow (Nat.lt_of_lt_of_le (by omega : c.toNat < 2 ^ 41) (Nat.pow_le_pow_right (by decide) hj))
theorem cntB_zero (j : Int) (hj : 41 ≤ j) : ∀ a : List (Int × Int), (∀ q ∈ a, 0 ≤ q.1 ∧ q.1 ≤ 1099511627776) → cntB j a = 0
  | [], _ => rfl
  | q :: t, h => by
    simp only [cntB, bitAt]
    rw [cntB_zero j hj t (fun p hp => h p (by simp [hp])), bit_41 (h q (by simp)) (show 41 ≤ j.toNat by omega)]
    simp
end Go.Proofs.YtkkapbnopmmmjaaGreatDoor
namespace Go.Proofs.YtkkapbnopmmmjaaGreatDoor
structure LinV where
  C : List Int
  L : List Int
  B : Int
deriving DecidableEq
def lin0 : LinV := ⟨[], [], 0⟩
def offN (c : Int) : Bool := decide (c < -1099511627776) || decide (1099511627776 < c)
def wrongL (n x : Int) : Bool := decide (x = 0) || (decide (n < x) || decide (x < -n))
def lcheck (l : LinV) (n : Int) : Int :=
  if n < 0 ∨ 65536 < n ∨ l.C.length ≠ l.L.length ∨ offN l.B = true then 1
  else if l.C.any offN = true ∨ l.L.any (wrongL n) = true then 1
  else if 4096 < l.L.length then 2 else 0
theorem lcheck_ok {l : LinV} {n : Int} (h : lcheck l n = 0) : 0 ≤ n ∧ n ≤ 65536 ∧ l.C.length = l.L.length ∧ (-1099511627776 ≤ l.B ∧ l.B ≤ 1099511627776) ∧ (∀ c ∈ l.C, -1099511627776 ≤ c ∧ c ≤ 1099511627776) ∧ (∀ x ∈ l.L, x ≠ 0 ∧ -n ≤ x ∧ x ≤ n) ∧ l.L.length ≤ 4096 := by
  unfold lcheck at h
  split at h
  · omega
  · split at h
    · omega
    · split at h
      · omega
      · rename_i h1 h2 h3
        have hB : offN l.B = false := by
          cases hx : offN l.B with
          | false => rfl
          | true => exact absurd (.inr (.inr (.inr hx))) h1
        simp [offN] at hB
        have hC : ∀ c ∈ l.C, offN c = false := by
          have : ¬ l.C.any offN = true := fun e => h2 (.inl e)
          simpa using this
        have hL : ∀ x ∈ l.L, wrongL n x = false := by
          have : ¬ l.L.any (wrongL n) = true := fun e => h2 (.inr e)
          simpa using this
        refine ⟨by omega, by omega, by omega, by omega, fun c hc => ?_, fun x hx => ?_, by omega⟩
        · have := hC c hc
          simp [offN] at this
          omega
        · have := hL x hx
          simp [wrongL] at this
          omega
theorem lcheck_mk {l : LinV} {n : Int} (h1 : 0 ≤ n) (h2 : n ≤ 65536) (h3 : l.C.length = l.L.length) (h4 : -1099511627776 ≤ l.B ∧ l.B ≤ 1099511627776) (h5 : ∀ c ∈ l.C, -1099511627776 ≤ c ∧ c ≤ 1099511627776) (h6 : ∀ x ∈ l.L, x ≠ 0 ∧ -n ≤ x ∧ x ≤ n) (h7 : l.L.length ≤ 4096) : lcheck l n = 0 := by
  unfold lcheck
  have hB : offN l.B = false := by simp [offN]; omega
  rw [if_neg (by rw [hB]; simp; omega), if_neg, if_neg (by omega)]
  rw [not_or]
  constructor
  · simp only [List.any_eq_true, not_exists, not_and]
    intro c hc
    have := h5 c hc
    simp [offN]; omega
  · simp only [List.any_eq_true, not_exists, not_and]
    intro x hx
    have := h6 x hx
    simp [wrongL]; omega
def cfZ : List (Int × Int) → Int → Int
  | [], _ => 0
  | q :: t, x => (if q.2 = x then q.1 else 0) + cfZ t x
theorem cfZ_app : ∀ (a b : List (Int × Int)) (x : Int), cfZ (a ++ b) x = cfZ a x + cfZ b x
  | [], b, x => by simp [cfZ]
  | q :: a, b, x => by simp only [List.cons_append, cfZ, cfZ_app a b x]; omega
def cf (l : LinV) (x : Int) : Int := cfZ (l.C.zip l.L) x
def insV (v : Int) : List Int → List Int
  | [] => [v]
  | y :: t => if y < v then y :: insV v t else if y = v then y :: t else v :: y :: t
def varsZ (l : List Int) : List Int := l.foldl (fun out x => insV (x.natAbs : Int) out) []
def termV (a b v : Int) : List (Int × Int) := if b < a then [(a - b, v)] else if a < b then [(b - a, -v)] else []
def termsP (l : LinV) (vs : List Int) : List (Int × Int) := vs.flatMap fun v => termV (cf l v) (cf l (-v)) v
def minsP (l : LinV) : List Int → Int
  | [] => 0
  | v :: t => min (cf l v) (cf l (-v)) + minsP l t
def sumF1 : List (Int × Int) → Int
  | [] => 0
  | q :: t => q.1 + sumF1 t
def normW (l : LinV) : LinV :=
  if l.B - minsP l (varsZ l.L) ≤ 0 then lin0
  else if sumF1 (termsP l (varsZ l.L)) < l.B - minsP l (varsZ l.L) then ⟨[], [], 1⟩
  else ⟨(termsP l (varsZ l.L)).map fun q => min q.1 (l.B - minsP l (varsZ l.L)), (termsP l (varsZ l.L)).map (·.2), l.B - minsP l (varsZ l.L)⟩
def normP (l : LinV) : LinV := if lcheck l 65536 = 0 then normW l else lin0
def lval (a : List Bool) (x : Int) : Bool := (decide (x.natAbs < a.length) && a.getD x.natAbs false) == decide (0 < x)
def lsumZ (p : Int → Bool) : List (Int × Int) → Int
  | [] => 0
  | q :: t => (if p q.2 then q.1 else 0) + lsumZ p t
theorem lsumZ_app (p : Int → Bool) : ∀ a b, lsumZ p (a ++ b) = lsumZ p a + lsumZ p b
  | [], b => by simp [lsumZ]
  | q :: a, b => by simp only [List.cons_append, lsumZ, lsumZ_app p a b]; omega
def lholds (p : Int → Bool) (l : LinV) : Bool := decide (l.B ≤ lsumZ p (l.C.zip l.L))
def lvalue (l : LinV) (a : List Bool) : Bool := decide (lcheck l 65536 = 0) && lholds (lval a) l
def Inc : List Int → Prop
  | [] => True
  | x :: t => (∀ y ∈ t, x < y) ∧ Inc t
theorem mem_insV {v y : Int} : ∀ {l : List Int}, y ∈ insV v l ↔ y = v ∨ y ∈ l
  | [] => by simp [insV]
  | z :: t => by
    simp only [insV]
    split
    · rw [List.mem_cons, List.mem_cons, mem_insV (l := t)]
      constructor
      · rintro (h | h | h)
        · exact .inr (.inl h)
        · exact .inl h
        · exact .inr (.inr h)
      · rintro (h | h | h)
        · exact .inr (.inl h)
        · exact .inl h
        · exact .inr (.inr h)
    · split
      · rename_i h; subst h; simp
      · simp
theorem inc_insV (v : Int) : ∀ {l : List Int}, Inc l → Inc (insV v l)
  | [], _ => by simp [insV, Inc]
  | z :: t, h => by
    obtain ⟨h1, h2⟩ := h
    simp only [insV]
    split
    · refine ⟨fun y hy => ?_, inc_insV v h2⟩
      rcases mem_insV.1 hy with rfl | hy
      · assumption
      · exact h1 y hy
    · split
      · exact ⟨h1, h2⟩
      · refine ⟨fun y hy => ?_, h1, h2⟩
        rcases List.mem_cons.1 hy with rfl | hy
        · omega
        · have := h1 y hy; omega
theorem inc_ext : ∀ {a b : List Int}, Inc a → Inc b → (∀ y, y ∈ a ↔ y ∈ b) → a = b
  | [], [], _, _, _ => rfl
  | [], y :: b, _, _, h => absurd ((h y).2 (by simp)) (by simp)
  | x :: a, [], _, _, h => absurd ((h x).1 (by simp)) (by simp)
  | x :: a, y :: b, ha, hb, h => by
    have hxy : x = y := by
      have h1 := (h x).1 (by simp)
      have h2 := (h y).2 (by simp)
      rcases List.mem_cons.1 h1 with h1 | h1
      · exact h1
      · rcases List.mem_cons.1 h2 with h2 | h2
        · exact h2.symm
        · have := ha.1 y h2
          have := hb.1 x h1
          omega
    subst hxy
    congr 1
    refine inc_ext ha.2 hb.2 (fun z => ⟨fun hz => ?_, fun hz => ?_⟩)
    · rcases List.mem_cons.1 ((h z).1 (by simp [hz])) with e | e
      · subst e; have := ha.1 z hz; omega
      · exact e
    · rcases List.mem_cons.1 ((h z).2 (by simp [hz])) with e | e
      · subst e; have := hb.1 z hz; omega
      · exact e
theorem varsZ_snoc (l : List Int) (x : Int) : varsZ (l ++ [x]) = insV (x.natAbs : Int) (varsZ l) := by simp [varsZ]
theorem inc_varsZ (l : List Int) : Inc (varsZ l) := by
  have : ∀ (l : List Int) (o : List Int), Inc o → Inc (l.foldl (fun out x => insV (x.natAbs : Int) out) o) := fun l => by
    induction l with
    | nil => intro o h; exact h
    | cons x t ih => intro o h; exact ih _ (inc_insV _ h)
  exact this l [] trivial
theorem mem_varsZ {l : List Int} {y : Int} : y ∈ varsZ l ↔ ∃ x ∈ l, y = (x.natAbs : Int) := by
  have : ∀ (l : List Int) (o : List Int), y ∈ l.foldl (fun out x => insV (x.natAbs : Int) out) o ↔ y ∈ o ∨ ∃ x ∈ l, y = (x.natAbs : Int) := fun l => by
    induction l with
    | nil => intro o; simp
    | cons x t ih =>
      intro o
      rw [List.foldl_cons, ih, mem_insV]
      constructor
      · rintro ((h | h) | ⟨z, hz, h⟩)
        · exact .inr ⟨x, by simp, h⟩
        · exact .inl h
        · exact .inr ⟨z, by simp [hz], h⟩
      · rintro (h | ⟨z, hz, h⟩)
        · exact .inl (.inr h)
        · rcases List.mem_cons.1 hz with rfl | hz
          · exact .inl (.inl h)
          · exact .inr ⟨z, hz, h⟩
  have h := this l []
  unfold varsZ
  rw [h]
  simp
end Go.Proofs.YtkkapbnopmmmjaaGreatDoor
namespace Go.Proofs.YtkkapbnopmmmjaaGreatDoor
def grpS (p : Int → Bool) (z : List (Int × Int)) : List Int → Int
  | [] => 0
  | v :: t => (if p v then cfZ z v else cfZ z (-v)) + grpS p z t
theorem cfZ_snoc (z : List (Int × Int)) (c x y : Int) : cfZ (z ++ [(c, x)]) y = cfZ z y + if x = y then c else 0 := by
  rw [cfZ_app]; simp only [cfZ]; omega
theorem grpS_far (p : Int → Bool) (z : List (Int × Int)) (c x : Int) : ∀ (vs : List Int), (∀ v ∈ vs, 0 < v ∧ v ≠ (x.natAbs : Int)) → grpS p (z ++ [(c, x)]) vs = grpS p z vs
  | [], _ => rfl
  | v :: t, h => by
    obtain ⟨h1, h2⟩ := h v (by simp)
    simp only [grpS]
    rw [grpS_far p z c x t (fun u hu => h u (by simp [hu])), cfZ_snoc, cfZ_snoc, if_neg (show ¬ x = v by omega), if_neg (show ¬ x = -v by omega)]
    simp
theorem grpS_at (p : Int → Bool) (z : List (Int × Int)) (c x : Int) (hx : x ≠ 0) (hp : p (-x) = !p x) :
    (if p (x.natAbs : Int) then cfZ (z ++ [(c, x)]) (x.natAbs : Int) else cfZ (z ++ [(c, x)]) (-(x.natAbs : Int))) = (if p (x.natAbs : Int) then cfZ z (x.natAbs : Int) else cfZ z (-(x.natAbs : Int))) + if p x then c else 0 := by
  rw [cfZ_snoc, cfZ_snoc]
  rcases Int.lt_or_le 0 x with h | h
  · have e : (x.natAbs : Int) = x := by omega
    rw [e, if_pos rfl, if_neg (show ¬ x = -x by omega)]
    split <;> simp
  · have e : (x.natAbs : Int) = -x := by omega
    rw [e, if_neg (show ¬ x = -x by omega), Int.neg_neg, if_pos rfl, hp]
    cases p x <;> simp
theorem grpS_ins (p : Int → Bool) (z : List (Int × Int)) (c x : Int) (hx : x ≠ 0) (hp : p (-x) = !p x) : ∀ (vs : List Int), Inc vs → (∀ v ∈ vs, 0 < v) → ((x.natAbs : Int) ∉ vs → cfZ z (x.natAbs : Int) = 0 ∧ cfZ z (-(x.natAbs : Int)) = 0) →
    grpS p (z ++ [(c, x)]) (insV (x.natAbs : Int) vs) = grpS p z vs + if p x then c else 0
  | [], _, _, h0 => by
    obtain ⟨h1, h2⟩ := h0 (by simp)
    simp only [insV, grpS]
    rw [grpS_at p z c x hx hp, h1, h2]
    split <;> simp
  | v :: t, hi, hpos, h0 => by
    have hv := hpos v (by simp)
    simp only [insV]
    split
    · rename_i hlt
      simp only [grpS]
      rw [grpS_ins p z c x hx hp t hi.2 (fun u hu => hpos u (by simp [hu])) (fun hn => h0 (fun hm => by
        rcases List.mem_cons.1 hm with e | e
        · omega
        · exact hn e)), cfZ_snoc, cfZ_snoc, if_neg (show ¬ x = v by omega), if_neg (show ¬ x = -v by omega)]
      simp only [Int.add_zero]
      omega
    · split
      · rename_i _ he
        simp only [grpS]
        rw [grpS_far p z c x t (fun u hu => ⟨hpos u (by simp [hu]), by have := hi.1 u hu; omega⟩)]
        have := grpS_at p z c x hx hp
        rw [← he] at this
        rw [this]
        omega
      · rename_i h1 h2
        obtain ⟨z1, z2⟩ := h0 (fun hm => by
          rcases List.mem_cons.1 hm with e | e
          · omega
          · have := hi.1 _ e; omega)
        have hfar := grpS_far p z c x (v :: t) (fun u hu => ⟨hpos u hu, by
          rcases List.mem_cons.1 hu with e | e
          · omega
          · have := hi.1 u e; omega⟩)
        have := grpS_at p z c x hx hp
        rw [z1, z2] at this
        simp only [grpS] at hfar ⊢
        rw [this]
        simp only [ite_self, Int.zero_add]
        omega
theorem cfZ_none {z : List (Int × Int)} {y : Int} (h : ∀ q ∈ z, q.2 ≠ y) : cfZ z y = 0 := by
  induction z with
  | nil => rfl
  | cons q t ih => simp only [cfZ]; rw [if_neg (h q (by simp)), ih (fun p hp => h p (by simp [hp]))]; rfl
theorem group (p : Int → Bool) (z : List (Int × Int)) (hz : ∀ q ∈ z, q.2 ≠ 0) (hp : ∀ x, x ≠ 0 → p (-x) = !p x) : lsumZ p z = grpS p z (varsZ (z.map (·.2))) := by
  have : ∀ (r : List (Int × Int)), (∀ q ∈ r.reverse, q.2 ≠ 0) → lsumZ p r.reverse = grpS p r.reverse (varsZ (r.reverse.map (·.2))) := fun r => by
    induction r with
    | nil => intro _; rfl
    | cons q r ih =>
      intro h
      rw [List.reverse_cons] at h ⊢
      have hq := h q (by simp)
      have hr : ∀ q ∈ r.reverse, q.2 ≠ 0 := fun u hu => h u (List.mem_append_left _ hu)
      rw [lsumZ_app, List.map_append, ih hr]
      obtain ⟨c, x⟩ := q
      show _ + lsumZ p [(c, x)] = grpS p _ (varsZ (_ ++ [x]))
      rw [varsZ_snoc, grpS_ins p r.reverse c x hq (hp x hq) _ (inc_varsZ _) (fun v hv => by
        obtain ⟨y, hy, rfl⟩ := mem_varsZ.1 hv
        obtain ⟨u, hu, rfl⟩ := List.mem_map.1 hy
        have := hr u hu
        omega) (fun hn => by
        have hno : ∀ u ∈ r.reverse, (u.2.natAbs : Int) ≠ (x.natAbs : Int) := fun u hu e => hn (mem_varsZ.2 ⟨u.2, List.mem_map.2 ⟨u, hu, rfl⟩, e.symm⟩)
        exact ⟨cfZ_none (fun u hu e => hno u hu (by rw [e]; omega)), cfZ_none (fun u hu e => hno u hu (by rw [e]; omega))⟩)]
      simp [lsumZ]
  have h := this z.reverse (by rw [List.reverse_reverse]; exact hz)
  rwa [List.reverse_reverse] at h
theorem zip_snd {C L : List Int} (h : C.length = L.length) : (C.zip L).map (·.2) = L := List.map_snd_zip (by omega)
theorem grp_terms (p : Int → Bool) (l : LinV) (hp : ∀ x, x ≠ 0 → p (-x) = !p x) : ∀ vs : List Int, (∀ v ∈ vs, 0 < v) → grpS p (l.C.zip l.L) vs = minsP l vs + lsumZ p (termsP l vs)
  | [], _ => rfl
  | v :: t, h => by
    have ih := grp_terms p l hp t (fun u hu => h u (by simp [hu]))
    have hv := h v (by simp)
    have hpv := hp v (by omega)
    have e : termsP l (v :: t) = termV (cf l v) (cf l (-v)) v ++ termsP l t := by simp [termsP]
    rw [e, lsumZ_app]
    simp only [grpS, minsP]
    rw [ih]
    have : (if p v then cfZ (l.C.zip l.L) v else cfZ (l.C.zip l.L) (-v)) = min (cf l v) (cf l (-v)) + lsumZ p (termV (cf l v) (cf l (-v)) v) := by
      show (if p v then cf l v else cf l (-v)) = _
      unfold termV
      generalize cf l v = a
      generalize cf l (-v) = b
      by_cases c1 : b < a
      · rw [if_pos c1]; simp only [lsumZ]; cases p v <;> simp <;> omega
      · rw [if_neg c1]
        by_cases c2 : a < b
        · rw [if_pos c2]; simp only [lsumZ]; rw [hpv]; cases p v <;> simp <;> omega
        · rw [if_neg c2]; simp only [lsumZ]; cases p v <;> simp <;> omega
    omega
theorem lsum_split (p : Int → Bool) (l : LinV) (hl : l.C.length = l.L.length) (hz : ∀ x ∈ l.L, x ≠ 0) (hp : ∀ x, x ≠ 0 → p (-x) = !p x) : lsumZ p (l.C.zip l.L) = minsP l (varsZ l.L) + lsumZ p (termsP l (varsZ l.L)) := by
  rw [group p _ (fun q hq => hz q.2 (List.of_mem_zip hq).2) hp, zip_snd hl, grp_terms p l hp _ (fun v hv => by
    obtain ⟨x, hx, rfl⟩ := mem_varsZ.1 hv
    have := hz x hx
    omega)]
theorem terms_pos (l : LinV) (vs : List Int) : ∀ q ∈ termsP l vs, 0 < q.1 := fun q hq => by
  unfold termsP at hq
  obtain ⟨v, _, hq⟩ := List.mem_flatMap.1 hq
  unfold termV at hq
  split at hq
  · simp at hq; subst hq; simp only; omega
  · split at hq
    · simp at hq; subst hq; simp only; omega
    · simp at hq
theorem terms_var {l : LinV} {vs : List Int} {q : Int × Int} (hq : q ∈ termsP l vs) : ∃ v ∈ vs, q.2 = v ∨ q.2 = -v := by
  unfold termsP at hq
  obtain ⟨v, hv, hq⟩ := List.mem_flatMap.1 hq
  unfold termV at hq
  split at hq
  · simp at hq; subst hq; exact ⟨v, hv, .inl rfl⟩
  · split at hq
    · simp at hq; subst hq; exact ⟨v, hv, .inr rfl⟩
    · simp at hq
theorem lsum_nn (p : Int → Bool) : ∀ ts : List (Int × Int), (∀ q ∈ ts, 0 < q.1) → 0 ≤ lsumZ p ts ∧ lsumZ p ts ≤ sumF1 ts
  | [], _ => by simp [lsumZ, sumF1]
  | q :: t, h => by
    have := lsum_nn p t (fun u hu => h u (by simp [hu]))
    have := h q (by simp)
    simp only [lsumZ, sumF1]
    split <;> omega
theorem lsum_min (p : Int → Bool) (B : Int) (hB : 0 < B) : ∀ ts : List (Int × Int), (∀ q ∈ ts, 0 < q.1) → lsumZ p (ts.map fun q => (min q.1 B, q.2)) ≤ lsumZ p ts ∧ 0 ≤ lsumZ p (ts.map fun q => (min q.1 B, q.2)) ∧ (lsumZ p (ts.map fun q => (min q.1 B, q.2)) < B → lsumZ p (ts.map fun q => (min q.1 B, q.2)) = lsumZ p ts)
  | [], _ => by simp [lsumZ]
  | q :: t, h => by
    obtain ⟨h1, h2, h3⟩ := lsum_min p B hB t (fun u hu => h u (by simp [hu]))
    have h4 := h q (by simp)
    simp only [List.map_cons, lsumZ]
    cases p q.2
    · simp only [Bool.false_eq_true, if_false, Int.zero_add]
      exact ⟨h1, h2, h3⟩
    · simp only [if_true]
      refine ⟨by omega, by omega, fun h5 => ?_⟩
      have := h3 (by omega)
      omega
theorem zip_map2 (ts : List (Int × Int)) (f : Int × Int → Int) : (ts.map f).zip (ts.map (·.2)) = ts.map fun q => (f q, q.2) := by
  induction ts with
  | nil => rfl
  | cons q t ih => simp [ih]
theorem norm_equiv (p : Int → Bool) (l : LinV) (hl : l.C.length = l.L.length) (hz : ∀ x ∈ l.L, x ≠ 0) (hp : ∀ x, x ≠ 0 → p (-x) = !p x) : lholds p (normW l) = lholds p l := by
  unfold lholds
  have hs := lsum_split p l hl hz hp
  have hpos := terms_pos l (varsZ l.L)
  have hnn := lsum_nn p _ hpos
  unfold normW
  generalize termsP l (varsZ l.L) = ts at *
  generalize minsP l (varsZ l.L) = m at *
  by_cases h1 : l.B - m ≤ 0
  · rw [if_pos h1, decide_eq_decide]
    simp only [lin0, List.zip_nil_left, lsumZ]
    omega
  · rw [if_neg h1]
    by_cases h2 : sumF1 ts < l.B - m
    · rw [if_pos h2, decide_eq_decide]
      simp only [List.zip_nil_left, lsumZ]
      omega
    · rw [if_neg h2, decide_eq_decide]
      simp only
      rw [zip_map2]
      obtain ⟨a, b, c⟩ := lsum_min p (l.B - m) (by omega) ts hpos
      constructor
      · intro h; omega
      · intro h
        rcases Int.lt_or_le (lsumZ p (ts.map fun q => (min q.1 (l.B - m), q.2))) (l.B - m) with h3 | h3
        · have := c h3; omega
        · exact h3
end Go.Proofs.YtkkapbnopmmmjaaGreatDoor
namespace Go.Proofs.YtkkapbnopmmmjaaGreatDoor
def absG (z : List (Int × Int)) : List Int → Nat
  | [] => 0
  | v :: t => (cfZ z v).natAbs + (cfZ z (-v)).natAbs + absG z t
def absS : List (Int × Int) → Nat
  | [] => 0
  | q :: t => q.1.natAbs + absS t
theorem absG_nil : ∀ vs : List Int, absG [] vs = 0
  | [] => rfl
  | _ :: t => by simp [absG, cfZ, absG_nil t]
theorem absG_far (q : Int × Int) (z : List (Int × Int)) : ∀ vs : List Int, (∀ v ∈ vs, q.2 ≠ v ∧ q.2 ≠ -v) → absG (q :: z) vs = absG z vs
  | [], _ => rfl
  | v :: t, h => by
    have h1 := h v (by simp)
    simp only [absG, cfZ, if_neg h1.1, if_neg h1.2, Int.zero_add, absG_far q z t (fun u hu => h u (by simp [hu]))]
theorem absG_cons (q : Int × Int) (z : List (Int × Int)) : ∀ vs : List Int, Inc vs → (∀ v ∈ vs, 0 < v) → absG (q :: z) vs ≤ q.1.natAbs + absG z vs
  | [], _, _ => by simp [absG]
  | v :: t, hi, hp => by
    have hpv := hp v (by simp)
    by_cases hq : q.2 = v ∨ q.2 = -v
    · have hf := absG_far q z t (fun u hu => by
        have := hi.1 u hu
        have := hp u (by simp [hu])
        rcases hq with e | e <;> rw [e] <;> constructor <;> omega)
      simp only [absG, cfZ, hf]
      rcases hq with e | e
      · rw [if_pos e, if_neg (by omega)]; omega
      · rw [if_neg (by omega), if_pos e]; omega
    · have hn : q.2 ≠ v ∧ q.2 ≠ -v := ⟨fun e => hq (.inl e), fun e => hq (.inr e)⟩
      have ih := absG_cons q z t hi.2 (fun u hu => hp u (by simp [hu]))
      simp only [absG, cfZ, if_neg hn.1, if_neg hn.2, Int.zero_add]
      omega
theorem absG_le : ∀ (z : List (Int × Int)) (vs : List Int), Inc vs → (∀ v ∈ vs, 0 < v) → absG z vs ≤ absS z
  | [], vs, _, _ => by simp [absG_nil]
  | q :: z, vs, hi, hp => by
    have h1 := absG_cons q z vs hi hp
    have h2 := absG_le z vs hi hp
    simp only [absS]
    omega
theorem absS_le (M : Nat) : ∀ z : List (Int × Int), (∀ q ∈ z, q.1.natAbs ≤ M) → absS z ≤ M * z.length
  | [], _ => by simp [absS]
  | q :: z, h => by
    have h1 := h q (by simp)
    have h2 := absS_le M z (fun u hu => h u (by simp [hu]))
    simp only [absS, List.length_cons, Nat.mul_add, Nat.mul_one]
    omega
theorem absG_take (z : List (Int × Int)) : ∀ (vs : List Int) (k : Nat), absG z (vs.take k) ≤ absG z vs
  | [], k => by simp
  | v :: t, 0 => by simp [absG]
  | v :: t, k + 1 => by
    have := absG_take z t k
    simp only [List.take_succ_cons, absG]
    omega
theorem mins_abs (l : LinV) : ∀ vs : List Int, (minsP l vs).natAbs ≤ absG (l.C.zip l.L) vs
  | [] => by simp [minsP, absG]
  | v :: t => by
    have ih := mins_abs l t
    simp only [minsP, absG, cf]
    omega
theorem sumF1_app : ∀ a b : List (Int × Int), sumF1 (a ++ b) = sumF1 a + sumF1 b
  | [], b => by simp [sumF1]
  | q :: a, b => by simp only [List.cons_append, sumF1, sumF1_app a b]; omega
theorem sumF1_abs (l : LinV) : ∀ vs : List Int, 0 ≤ sumF1 (termsP l vs) ∧ sumF1 (termsP l vs) ≤ absG (l.C.zip l.L) vs
  | [] => by simp [termsP, sumF1, absG]
  | v :: t => by
    have ih := sumF1_abs l t
    have e : termsP l (v :: t) = termV (cf l v) (cf l (-v)) v ++ termsP l t := rfl
    rw [e, sumF1_app]
    simp only [absG]
    unfold termV cf
    split
    · simp only [sumF1]; omega
    · split
      · simp only [sumF1]; omega
      · simp only [sumF1]; omega
theorem sumF1_take : ∀ (ts : List (Int × Int)) (k : Nat), (∀ q ∈ ts, 0 < q.1) → 0 ≤ sumF1 (ts.take k) ∧ sumF1 (ts.take k) ≤ sumF1 ts
  | [], k, _ => by simp [sumF1]
  | q :: t, 0, h => by
    have := h q (by simp)
    have := sumF1_take t 0 (fun u hu => h u (by simp [hu]))
    simp only [List.take_zero, sumF1] at this ⊢
    omega
  | q :: t, k + 1, h => by
    have := h q (by simp)
    have := sumF1_take t k (fun u hu => h u (by simp [hu]))
    simp only [List.take_succ_cons, sumF1]
    omega
theorem mem_le_sumF1 : ∀ (ts : List (Int × Int)) (q : Int × Int), (∀ u ∈ ts, 0 < u.1) → q ∈ ts → q.1 ≤ sumF1 ts
  | u :: t, q, h, hq => by
    have h1 := h u (by simp)
    have h2 := (sumF1_take t 0 (fun u hu => h u (by simp [hu])))
    simp only [List.take_zero, sumF1] at h2 ⊢
    rcases List.mem_cons.1 hq with rfl | hq
    · omega
    · have := mem_le_sumF1 t q (fun u hu => h u (by simp [hu])) hq
      omega
theorem termV_len (a b v : Int) : (termV a b v).length ≤ 1 := by unfold termV; split <;> (try split) <;> simp
theorem terms_len (l : LinV) : ∀ vs : List Int, (termsP l vs).length ≤ vs.length
  | [] => by simp [termsP]
  | v :: t => by
    have := terms_len l t
    have h1 := termV_len (cf l v) (cf l (-v)) v
    have e : termsP l (v :: t) = termV (cf l v) (cf l (-v)) v ++ termsP l t := rfl
    rw [e]
    simp only [List.length_append, List.length_cons]
    omega
theorem vars_pos {L : List Int} (h : ∀ x ∈ L, x ≠ 0) : ∀ v ∈ varsZ L, 0 < v := fun v hv => by
  obtain ⟨x, hx, rfl⟩ := mem_varsZ.1 hv
  have := h x hx
  omega
theorem vars_le {L : List Int} {n : Int} (h : ∀ x ∈ L, x ≠ 0 ∧ -n ≤ x ∧ x ≤ n) : ∀ v ∈ varsZ L, 0 < v ∧ v ≤ n := fun v hv => by
  obtain ⟨x, hx, rfl⟩ := mem_varsZ.1 hv
  have := h x hx
  omega
theorem vars_abs {l : LinV} (h : lcheck l 65536 = 0) : absG (l.C.zip l.L) (varsZ l.L) ≤ 4503599627370496 := by
  obtain ⟨_, _, hl, _, hc, hx, hn⟩ := lcheck_ok h
  refine Nat.le_trans (absG_le _ _ (inc_varsZ _) (vars_pos fun x hx' => (hx x hx').1)) (Nat.le_trans (absS_le 1099511627776 _ ?_) ?_)
  · intro q hq
    have := hc q.1 (List.of_mem_zip hq).1
    omega
  · have : (l.C.zip l.L).length ≤ 4096 := by rw [List.length_zip]; omega
    calc 1099511627776 * (l.C.zip l.L).length ≤ 1099511627776 * 4096 := Nat.mul_le_mul_left _ this
      _ ≤ _ := by decide
theorem mins_bd {l : LinV} (h : lcheck l 65536 = 0) (k : Nat) : -4503599627370496 ≤ minsP l ((varsZ l.L).take k) ∧ minsP l ((varsZ l.L).take k) ≤ 4503599627370496 := by
  have h1 := mins_abs l ((varsZ l.L).take k)
  have h2 := absG_take (l.C.zip l.L) (varsZ l.L) k
  have h3 := vars_abs h
  omega
theorem terms_bd {l : LinV} (h : lcheck l 65536 = 0) (k : Nat) : 0 ≤ sumF1 (termsP l ((varsZ l.L).take k)) ∧ sumF1 (termsP l ((varsZ l.L).take k)) ≤ 4503599627370496 := by
  have h1 := sumF1_abs l ((varsZ l.L).take k)
  have h2 := absG_take (l.C.zip l.L) (varsZ l.L) k
  have h3 := vars_abs h
  omega
theorem minsP_snoc (l : LinV) : ∀ (vs : List Int) (v : Int), minsP l (vs ++ [v]) = minsP l vs + min (cf l v) (cf l (-v))
  | [], v => by simp [minsP]
  | u :: t, v => by simp only [List.cons_append, minsP, minsP_snoc l t v]; omega
theorem termsP_snoc (l : LinV) (vs : List Int) (v : Int) : termsP l (vs ++ [v]) = termsP l vs ++ termV (cf l v) (cf l (-v)) v := by simp [termsP]
theorem varsZ_len (L : List Int) : (varsZ L).length ≤ L.length := by
  have ins : ∀ (v : Int) (l : List Int), (insV v l).length ≤ l.length + 1 := fun v l => by
    induction l with
    | nil => simp [insV]
    | cons y t ih => unfold insV; split <;> (try split) <;> simp <;> omega
  have go : ∀ (L acc : List Int), (L.foldl (fun out x => insV (x.natAbs : Int) out) acc).length ≤ L.length + acc.length := fun L => by
    induction L with
    | nil => intro acc; simp
    | cons x t ih => intro acc; have := ih (insV (x.natAbs : Int) acc); have := ins (x.natAbs : Int) acc; simp only [List.foldl_cons, List.length_cons]; omega
  exact go L []
end Go.Proofs.YtkkapbnopmmmjaaGreatDoor
namespace Go.Proofs.YtkkapbnopmmmjaaGreatDoor
theorem lval_neg {g : List Bool} {x : Int} (h : x ≠ 0) : lval g (-x) = !lval g x := by
  unfold lval
  rw [Int.natAbs_neg]
  by_cases h0 : 0 < x
  · rw [decide_eq_true h0, decide_eq_false (show ¬ (0 < -x) by omega)]
    cases (decide (x.natAbs < g.length) && g.getD x.natAbs false) <;> rfl
  · rw [decide_eq_false h0, decide_eq_true (show 0 < -x by omega)]
    cases (decide (x.natAbs < g.length) && g.getD x.natAbs false) <;> rfl
theorem litT_lval {g : List Bool} {x : Int} (h : x ≠ 0 ∧ -65536 ≤ x ∧ x ≤ 65536) : litT g x = lval g x := by
  unfold litT lval
  rw [decide_eq_true h]
  rfl
theorem sumZ_lsum {g : List Bool} : ∀ {z : List (Int × Int)}, (∀ q ∈ z, q.2 ≠ 0 ∧ -65536 ≤ q.2 ∧ q.2 ≤ 65536) → sumZ g z = lsumZ (lval g) z
  | [], _ => rfl
  | q :: t, h => by
    have ih := sumZ_lsum (g := g) (z := t) fun p hp => h p (List.mem_cons_of_mem _ hp)
    have hq := litT_lval (g := g) (h q List.mem_cons_self)
    show (if litT g q.2 then q.1 else 0) + sumZ g t = _
    rw [ih, hq]
    rfl
theorem norm_small {x : LinV} {n : Int} (hn : 0 ≤ n) (hn2 : n ≤ 65536) (hc : lcheck x n = 0) : normP x = normW x ∧ lcheck x 65536 = 0 ∧ (normP x).C.length ≤ x.L.length ∧ 0 ≤ (normP x).B ∧ (normP x).B ≤ 4503599627370496 := by
  obtain ⟨_, _, h3, h4, h5, h6, h7⟩ := lcheck_ok hc
  have hc2 : lcheck x 65536 = 0 := lcheck_mk (by decide) (by decide) h3 h4 h5 (fun y hy => by have := h6 y hy; omega) h7
  have e : normP x = normW x := if_pos hc2
  refine ⟨e, hc2, ?_⟩
  rw [e]
  unfold normW
  have h1 := terms_len x (varsZ x.L)
  have h2 := varsZ_len x.L
  have h8 := terms_bd hc2 (varsZ x.L).length
  rw [List.take_length] at h8
  split
  · exact ⟨Nat.zero_le _, by decide, by decide⟩
  · split
    · exact ⟨Nat.zero_le _, by decide, by decide⟩
    · refine ⟨by simp; omega, ?_, ?_⟩
      · show 0 ≤ x.B - minsP x (varsZ x.L); omega
      · show x.B - minsP x (varsZ x.L) ≤ _; omega
end Go.Proofs.YtkkapbnopmmmjaaGreatDoor
