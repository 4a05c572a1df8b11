/- Lemmas and contracts for the row. -/
set_option linter.unusedVariables false
set_option linter.unusedSimpArgs false
set_option linter.unnecessarySimpa false
namespace Go.Proofs.YtkkapbnopmmmjaaGreatDoor
def prs (l : List Int) (i : Nat) : List (Int × Int) := (List.range i).flatMap fun a => (l.drop (a + 1)).map fun y => (l.getD a 0, y)
def sgn (n i : Nat) (x : Int) : Int := if n.testBit i then -x else x
def z3e (l : List Int) (n k : Nat) : List Int := l.mapIdx fun i x => if i < k then sgn n i x else x
def pop8 (n : Nat) : Nat := [0, 1, 1, 2, 1, 2, 2, 3].getD n 0
def k4k (n : Nat) : Bool := pop8 n % 2 == 1
def q9i (l : List Int) (s : Int) (n : Nat) : List Int := z3e l n l.length ++ [if k4k n then s else -s]
def j2s (l : List Int) (s c : Int) : List (List Int) :=
 (List.range (2 ^ l.length)).map (q9i l s) ++ (prs l l.length).map (fun q => [-q.1, -q.2, c]) ++
  if l.length = 2 then [[l.getD 0 0, -c], [l.getD 1 0, -c]] else (prs l l.length).map (fun q => [q.1, q.2, -c])
def z6b (rows : Int → List Int) (k x : Int) : Int → List Int := fun j => if j = k then rows k ++ [x] else rows j
def y0u (rows : Int → List Int) (k : Int) (l : List Int) : Int → List Int := fun j => if j = k then l else rows j
abbrev Fd := (Int → List Int) × Int
def feed1 (s : Fd) (x : Int) (k : Nat) : Fd := (z6b s.1 k x, max s.2 (k + 1))
def feedTo (n : Nat) (x : Int) (s : Fd) (j : Nat) : Fd := (List.range j).foldl (fun s k => if n.testBit k then feed1 s x k else s) s
def q0y (s : Fd) (cl : List (Int × Int)) : Fd := cl.foldl (fun s q => feedTo q.1.toNat q.2 s 64) s
def fd0 : Fd := (fun _ => [], 0)
theorem q2n (n : Nat) (x : Int) (s : Fd) (j : Nat) : feedTo n x s (j + 1) = if n.testBit j then feed1 (feedTo n x s j) x j else feedTo n x s j := by
 simp [feedTo, List.range_succ]
theorem z5d (n : Nat) (x : Int) (s : Fd) (j t : Nat) (hjt : j ≤ t) (h : ∀ k, j ≤ k → k < t → n.testBit k = false) : feedTo n x s t = feedTo n x s j := by
  induction t with
  | zero => have : j = 0 := by omega
            subst this; rfl
  | succ t ih =>
    by_cases e : j = t + 1
    · subst e; rfl
    · rw [q2n, h t (by omega) (by omega), if_neg (by simp), ih (by omega) (fun k hk hk' => h k hk (by omega))]
theorem z1p (s : Fd) (cl : List (Int × Int)) (q : Int × Int) : q0y s (cl ++ [q]) = feedTo q.1.toNat q.2 (q0y s cl) 64 := by simp [q0y]
structure Ps where
 rows : Int → List Int
 cs : List (List Int)
 nx : Int
 top : Int
def q1l (k : Int) (s : Ps) : Ps :=
 { rows := z6b (z6b (y0u s.rows k ((s.rows k).drop 3)) k s.nx) (k + 1) (s.nx + 1), cs := s.cs ++ j2s ((s.rows k).take 3) s.nx (s.nx + 1), nx := s.nx + 2, top := max (max s.top (k + 1)) (k + 1 + 1) }
def z0n : Nat → Int → Ps → List Int → Option (List Int × List (List Int) × Int)
 | 0, _, _, _ => none
 | f + 1, k, s, out =>
  if k < s.top then
   if 1 < (s.rows k).length then
    if 65537 < s.nx + 2 then none else z0n f k (q1l k s) out
   else z0n f (k + 1) s (out ++ [(s.rows k).headD 0])
  else some (out, s.cs, s.nx)
def q8a : Nat := 300000
def q8e (next : Int) (q : Int × Int) : Bool := decide (0 ≤ q.1) && decide (q.1 ≤ 1099511627776) && decide (q.2 ≠ 0) && decide (q.2 < next) && decide (-next < q.2)
inductive x3t where
 | err (e : Int)
 | ok (bits : List Int) (cs : List (List Int)) (after : Int)
def q2b (coef l : List Int) (next : Int) : x3t :=
 if next < 1 ∨ 65537 < next ∨ coef.length ≠ l.length then .err 1
 else if (coef.zip l).all (q8e next) = false then .err 1
 else if 4096 < l.length then .err 2
 else match z0n q8a 0 { rows := (q0y fd0 (coef.zip l)).1, cs := [], nx := next, top := (q0y fd0 (coef.zip l)).2 } [] with
  | none => .err 2
  | some r => .ok r.1 r.2.1 r.2.2
theorem x3s (n : Nat) : ∀ (t m : Nat), n = 2 ^ t * (2 * m + 1) → n &&& (n - 1) = 2 ^ (t + 1) * m ∧ n.testBit t = true ∧ ∀ k, k < t → n.testBit k = false := by
 intro t m hn
 have hb : ∀ k, n.testBit k = (decide (t ≤ k) && (2 * m + 1).testBit (k - t)) := fun k => by rw [hn, Nat.mul_comm, Nat.testBit_mul_two_pow]
 have hp : 0 < 2 ^ t := Nat.two_pow_pos t
 refine ⟨?_, ?_, fun k hk => ?_⟩
 · have e1 : n - 1 = 2 ^ (t + 1) * m + (2 ^ t - 1) := by
    rw [hn, Nat.pow_succ, Nat.mul_add, Nat.mul_assoc]
    omega
   apply Nat.eq_of_testBit_eq
   intro k
   rw [Nat.testBit_and, hb k, e1, Nat.mul_comm (2 ^ (t + 1)) m]
   have e2 : (m * 2 ^ (t + 1) + (2 ^ t - 1)).testBit k = if k < t + 1 then (2 ^ t - 1).testBit k else m.testBit (k - (t + 1)) := by
    rw [Nat.mul_comm]
    exact Nat.testBit_two_pow_mul_add m (by rw [Nat.pow_succ]; omega) k
   rw [e2, Nat.testBit_mul_two_pow, Nat.testBit_two_pow_sub_one]
   by_cases hk : k < t + 1
   · rw [if_pos hk]
     by_cases hkt : k < t
     · have : ¬ t ≤ k := by omega
       have h3 : ¬ t + 1 ≤ k := by omega
       simp [this, h3]
     · have : k = t := by omega
       subst this
       have h3 : ¬ k + 1 ≤ k := by omega
       simp [h3]
   · rw [if_neg hk]
     have h1 : t ≤ k := by omega
     have h2 : t + 1 ≤ k := by omega
     obtain ⟨d, rfl⟩ : ∃ d, k = t + 1 + d := ⟨k - (t + 1), by omega⟩
     rw [show t + 1 + d - t = d + 1 by omega, show t + 1 + d - (t + 1) = d by omega, Nat.testBit_succ, show (2 * m + 1) / 2 = m by omega]
     simp [h1]
 · rw [hb]; simp [Nat.testBit_zero]
 · rw [hb]
   have : ¬ t ≤ k := by omega
   simp [this]
end Go.Proofs.YtkkapbnopmmmjaaGreatDoor
namespace Go.Proofs.YtkkapbnopmmmjaaGreatDoor
theorem q9z (c j k : Nat) : (c / 2 ^ j * 2 ^ j).testBit k = (decide (j ≤ k) && c.testBit k) := by
 rw [Nat.testBit_mul_two_pow]
 by_cases h : j ≤ k
 · rw [Nat.testBit_div_two_pow, show k - j + j = k by omega]
 · simp [h]
theorem j2t (c j n t m : Nat) (hn : n = c / 2 ^ j * 2 ^ j) (hnt : n = 2 ^ t * (2 * m + 1)) :
 j ≤ t ∧ c.testBit t = true ∧ (∀ k, j ≤ k → k < t → c.testBit k = false) ∧ n &&& (n - 1) = c / 2 ^ (t + 1) * 2 ^ (t + 1) := by
 obtain ⟨h1, h2, h3⟩ := x3s n t m hnt
 have hb : ∀ k, n.testBit k = (decide (j ≤ k) && c.testBit k) := fun k => by rw [hn, q9z]
 have hjt : j ≤ t := by
  have := hb t
  rw [h2] at this
  simp at this
  exact this.1
 refine ⟨hjt, ?_, fun k hk hk' => ?_, ?_⟩
 · have := hb t
   rw [h2] at this
   simp at this
   exact this.2
 · have := hb k
   rw [h3 k hk'] at this
   simpa [hk] using this.symm
 · rw [h1]
   apply Nat.eq_of_testBit_eq
   intro k
   rw [q9z, Nat.mul_comm, Nat.testBit_mul_two_pow]
   by_cases hk : t + 1 ≤ k
   · have h4 := hb k
     rw [hnt, Nat.mul_comm, Nat.testBit_mul_two_pow] at h4
     obtain ⟨d, rfl⟩ : ∃ d, k = t + 1 + d := ⟨k - (t + 1), by omega⟩
     rw [show t + 1 + d - t = d + 1 by omega, Nat.testBit_succ, show (2 * m + 1) / 2 = m by omega] at h4
     rw [show t + 1 + d - (t + 1) = d by omega]
     have h5 : t ≤ t + 1 + d := by omega
     have h6 : j ≤ t + 1 + d := by omega
     simp only [h5, h6, decide_true, Bool.true_and] at h4
     simp [h4]
   · simp [hk]
theorem y1s (c j : Nat) (x : Int) (s : Fd) (hj : j ≤ 64) (h : c / 2 ^ j * 2 ^ j = 0) : feedTo c x s 64 = feedTo c x s j :=
 z5d c x s j 64 hj (fun k hk _ => by
  have := q9z c j k
  rw [h] at this
  simpa [hk] using this.symm)
def q1u (s : Fd) (n : Nat) : Prop := (∀ j, (s.1 j).length ≤ n) ∧ 0 ≤ s.2 ∧ s.2 ≤ 64
theorem q1u.feed1 {s : Fd} {n : Nat} (h : q1u s n) (x : Int) {k : Nat} (hk : k < 64) : q1u (feed1 s x k) (n + 1) := by
 obtain ⟨h1, h2, h3⟩ := h
 refine ⟨fun j => ?_, ?_, ?_⟩
 · simp only [Go.Proofs.YtkkapbnopmmmjaaGreatDoor.feed1, z6b]
   split
   · rw [List.length_append]; have := h1 k; simp; omega
   · have := h1 j; omega
 · simp only [Go.Proofs.YtkkapbnopmmmjaaGreatDoor.feed1]; omega
 · simp only [Go.Proofs.YtkkapbnopmmmjaaGreatDoor.feed1]; omega
theorem q1u.mono {s : Fd} {n n' : Nat} (h : q1u s n) (hn : n ≤ n') : q1u s n' := ⟨fun j => Nat.le_trans (h.1 j) hn, h.2⟩
theorem q1u.feedTo {s : Fd} {n : Nat} (h : q1u s n) (c : Nat) (x : Int) : ∀ (j : Nat), j ≤ 64 → q1u (feedTo c x s j) (n + j)
 | 0, _ => h
 | j + 1, hj => by
  rw [q2n]
  have ih := q1u.feedTo h c x j (by omega)
  split
  · exact ih.feed1 x (by omega)
  · exact ih.mono (by omega)
theorem q1u.all : ∀ (cl : List (Int × Int)) (s : Fd) (n : Nat), q1u s n → q1u (q0y s cl) (n + 64 * cl.length)
 | [], _, _, h => h
 | q :: cl, s, n, h => by
  have := q1u.all cl _ _ (h.feedTo q.1.toNat q.2 64 (Nat.le_refl _))
  simp only [q0y, List.foldl_cons, List.length_cons] at this ⊢
  exact this.mono (by omega)
theorem q1u.zero : q1u fd0 0 := ⟨fun _ => Nat.le_refl _, by decide, by decide⟩
def ext (o : List Int) (rows : Int → List Int) : Int → List Int := fun j => if j = -1 then o else rows j
theorem y5h (o : List Int) (rows : Int → List Int) (k : Int) (hk : 0 ≤ k) : ext o rows k = rows k := by unfold ext; rw [if_neg (by omega)]
theorem j9u (o : List Int) (rows : Int → List Int) (k x : Int) (hk : 0 ≤ k) : z6b (ext o rows) k x = ext o (z6b rows k x) := by
 funext j
 simp only [z6b, ext]
 by_cases h : j = k
 · subst h; rw [if_pos rfl, if_neg (by omega), if_neg (by omega), if_pos rfl]
 · rw [if_neg h, if_neg h]
theorem j2c (o : List Int) (rows : Int → List Int) (k : Int) (zs : List Int) (hk : 0 ≤ k) : (fun j => if j = k then zs else ext o rows j) = ext o (y0u rows k zs) := by
 funext j
 simp only [y0u, ext]
 by_cases h : j = k
 · subst h; rw [if_pos rfl, if_neg (by omega), if_pos rfl]
 · rw [if_neg h, if_neg h]
theorem x1r (o zs : List Int) (rows : Int → List Int) : (fun j => if j = -1 then zs else ext o rows j) = ext zs rows := by
 funext j
 simp only [ext]
 split <;> rfl
theorem z5p : ∀ (cl : List (Int × Int)) (s : Fd), s.1 (-1) = [] → (q0y s cl).1 (-1) = []
 | [], _, h => h
 | q :: cl, s, h => by
  have h1 : ∀ j, (feedTo q.1.toNat q.2 s j).1 (-1) = [] := fun j => by
   induction j with
   | zero => exact h
   | succ j ih =>
    rw [q2n]
    split
    · simp only [feed1, z6b]
      rw [if_neg (by omega)]
      exact ih
    · exact ih
  simpa [q0y] using z5p cl _ (h1 64)
theorem x8d (rows : Int → List Int) (h : rows (-1) = []) : ext [] rows = rows := by
 funext j
 simp only [ext]
 split
 · rename_i hj; rw [hj, h]
 · rfl
structure y4r (next : Int) (s : Ps) : Prop where
 lo : 1 ≤ next
 nx : next ≤ s.nx
 hi : s.nx ≤ 65537
 len : ∀ j, ((s.rows j).length : Int) ≤ 262144 + (s.nx - next)
 cl : (s.cs.length : Int) ≤ 100 * (s.nx - next)
 top0 : 0 ≤ s.top
 top : s.top ≤ 64 + (s.nx - next)
 lit : ∀ j, ∀ x ∈ s.rows j, -70000 ≤ x ∧ x ≤ 70000
theorem x3n (l : List Int) (s c : Int) (h : l.length ≤ 3) : (j2s l s c).length ≤ 30 := by
 have hp : (prs l l.length).length ≤ 9 := by
  have : ∀ i, (prs l i).length ≤ i * l.length := fun i => by
   induction i with
   | zero => simp [prs]
   | succ i ih =>
    have e : prs l (i + 1) = prs l i ++ (l.drop (i + 1)).map fun y => (l.getD i 0, y) := by simp [prs, List.range_succ]
    rw [e, List.length_append, List.length_map, List.length_drop, Nat.add_mul]; omega
  have h2 := this l.length
  have h3 : l.length * l.length ≤ 3 * 3 := Nat.mul_le_mul h h
  omega
 have h8 : 2 ^ l.length ≤ 8 := Nat.le_trans (Nat.pow_le_pow_right (by decide) h) (by decide)
 unfold j2s
 simp only [List.length_append, List.length_map, List.length_range]
 split
 · simp; omega
 · simp only [List.length_map]; omega
theorem y4r.step {next : Int} {s : Ps} (h : y4r next s) (k : Int) (_hk : 0 ≤ k) (hkt : k < s.top) (hn : s.nx + 2 ≤ 65537) : y4r next (q1l k s) := by
 have hnx := h.nx
 refine ⟨h.lo, by simp only [q1l]; omega, by simp only [q1l]; omega, fun j => ?_, ?_, ?_, ?_, fun j x hx => ?_⟩
 · simp only [q1l, z6b, y0u]
   have h1 := h.len j
   have h2 := h.len k
   have h3 := h.len (k + 1)
   by_cases hj : j = k + 1
   · subst hj
     have e : ¬ k + 1 = k := by omega
     simp only [if_true, e, if_false, List.length_append, List.length_singleton]
     omega
   · by_cases hj' : j = k
     · subst hj'
       simp only [hj, if_false, if_true, List.length_append, List.length_singleton, List.length_drop]
       omega
     · simp only [hj, hj', if_false]
       omega
 · simp only [q1l, List.length_append]
   have := x3n ((s.rows k).take 3) s.nx (s.nx + 1) (by simp; omega)
   have := h.cl
   omega
 · simp only [q1l]; have := h.top0; omega
 · simp only [q1l]; have := h.top; omega
 · simp only [q1l, z6b, y0u] at hx
   have hl := h.lo
   have hhi := h.hi
   by_cases hj : j = k + 1
   · subst hj
     have e : ¬ k + 1 = k := by omega
     simp only [if_true, e, if_false, List.mem_append, List.mem_singleton] at hx
     rcases hx with hx | hx
     · exact h.lit _ x hx
     · omega
   · by_cases hj' : j = k
     · subst hj'
       simp only [hj, if_false, if_true, List.mem_append, List.mem_singleton] at hx
       rcases hx with hx | hx
       · exact h.lit _ x (List.mem_of_mem_drop hx)
       · omega
     · simp only [hj, hj', if_false] at hx
       exact h.lit _ x hx
theorem y0p {f : Nat} {k : Int} {s : Ps} {o : List Int} (h1 : k < s.top) (h2 : 1 < (s.rows k).length) (h3 : s.nx + 2 ≤ 65537) : z0n (f + 1) k s o = z0n f k (q1l k s) o := by
 rw [z0n, if_pos h1, if_pos h2, if_neg (by omega)]
theorem j2v {f : Nat} {k : Int} {s : Ps} {o : List Int} (h1 : k < s.top) (h2 : 1 < (s.rows k).length) (h3 : 65537 < s.nx + 2) : z0n (f + 1) k s o = none := by
 rw [z0n, if_pos h1, if_pos h2, if_pos h3]
theorem j4n {f : Nat} {k : Int} {s : Ps} {o : List Int} (h1 : k < s.top) (h2 : ¬ 1 < (s.rows k).length) : z0n (f + 1) k s o = z0n f (k + 1) s (o ++ [(s.rows k).headD 0]) := by
 rw [z0n, if_pos h1, if_neg h2]
theorem j9j {f : Nat} {k : Int} {s : Ps} {o : List Int} (h1 : ¬ k < s.top) : z0n (f + 1) k s o = some (o, s.cs, s.nx) := by
 rw [z0n, if_neg h1]
theorem z3a : ∀ (cl : List (Int × Int)) (s : Fd) (M : Int), (∀ j, ∀ x ∈ s.1 j, -M ≤ x ∧ x ≤ M) → (∀ q ∈ cl, -M ≤ q.2 ∧ q.2 ≤ M) → ∀ j, ∀ x ∈ (q0y s cl).1 j, -M ≤ x ∧ x ≤ M
 | [], _, _, h, _ => h
 | q :: cl, s, M, h, hq => by
  have h1 : ∀ t, ∀ j, ∀ x ∈ (feedTo q.1.toNat q.2 s t).1 j, -M ≤ x ∧ x ≤ M := fun t => by
   induction t with
   | zero => exact h
   | succ t ih =>
    rw [q2n]
    split
    · intro j x hx
      simp only [feed1, z6b] at hx
      split at hx
      · rcases List.mem_append.1 hx with hx | hx
        · exact ih _ x hx
        · rw [List.mem_singleton] at hx; rw [hx]; exact hq q (by simp)
      · exact ih _ x hx
    · exact ih
  have := z3a cl _ M (h1 64) (fun q' hq' => hq q' (by simp [hq']))
  simpa [q0y] using this
end Go.Proofs.YtkkapbnopmmmjaaGreatDoor
namespace Go.Proofs.YtkkapbnopmmmjaaGreatDoor
theorem z4l (next : Int) : ∀ (f : Nat) (k : Int) (s : Ps) (o : List Int) (r : List Int × List (List Int) × Int), y4r next s → 0 ≤ k → k ≤ s.top → (o.length : Int) = k → (∀ c ∈ s.cs, c.length ≤ 100) → z0n f k s o = some r →
 r.1.length ≤ 70000 ∧ r.2.1.length ≤ 7000000 ∧ ∀ c ∈ r.2.1, c.length ≤ 100
 | 0, _, _, _, _, _, _, _, _, _, h => by simp [z0n] at h
 | f + 1, k, s, o, r, hs, hk0, hk, ho, hc, h => by
  rw [z0n] at h
  by_cases h1 : k < s.top
  · rw [if_pos h1] at h
    by_cases h2 : 1 < (s.rows k).length
    · rw [if_pos h2] at h
      by_cases h3 : 65537 < s.nx + 2
      · rw [if_pos h3] at h; cases h
      · rw [if_neg h3] at h
        refine z4l next f k _ o r (hs.step k hk0 h1 (by omega)) hk0 (by simp only [q1l]; omega) ho (fun c hcm => ?_) h
        simp only [q1l, List.mem_append] at hcm
        rcases hcm with hcm | hcm
        · exact hc c hcm
        · have hl3 : ((s.rows k).take 3).length ≤ 3 := by simp; omega
          generalize (s.rows k).take 3 = l at hcm hl3
          unfold j2s at hcm
          simp only [List.mem_append, List.mem_map] at hcm
          rcases hcm with (⟨n, _, rfl⟩ | ⟨q, _, rfl⟩) | hcm
          · simp [q9i, z3e]; omega
          · simp
          · split at hcm
            · simp at hcm; rcases hcm with rfl | rfl <;> simp
            · simp only [List.mem_map] at hcm; obtain ⟨q, _, rfl⟩ := hcm; simp
    · rw [if_neg h2] at h
      exact z4l next f (k + 1) s _ r hs (by omega) (by omega) (by rw [List.length_append, List.length_singleton]; omega) hc h
  · rw [if_neg h1] at h
    injection h with h
    subst h
    have a := hs.top
    have b := hs.cl
    have c := hs.hi
    have d := hs.lo
    exact ⟨by simp only; omega, by simp only; omega, hc⟩
theorem y9t {coef l : List Int} {next : Int} {bits : List Int} {cs : List (List Int)} {after : Int} (h : q2b coef l next = .ok bits cs after) : bits.length ≤ 70000 ∧ cs.length ≤ 7000000 ∧ ∀ c ∈ cs, c.length ≤ 100 := by
 unfold q2b at h
 split at h
 · cases h
 · split at h
   · cases h
   · split at h
     · cases h
     · rename_i h1 h2 h3
       generalize hr : z0n q8a 0 { rows := (q0y fd0 (coef.zip l)).1, cs := [], nx := next, top := (q0y fd0 (coef.zip l)).2 } [] = o at h
       cases o with
       | none => cases h
       | some r =>
        simp only at h
        injection h with e1 e2 e3
        subst e1 e2 e3
        have hall : ∀ q ∈ coef.zip l, q8e next q = true := by simpa using h2
        have ok := q1u.all (coef.zip l) fd0 0 q1u.zero
        have hlit := z3a (coef.zip l) fd0 70000 (fun j x hx => by simp [fd0] at hx) (fun q hq => by have := hall q hq; simp [q8e] at this; omega)
        refine z4l next q8a 0 _ [] r ⟨by omega, Int.le_refl _, by simp only; omega, fun j => ?_, by simp, ok.2.1, by have := ok.2.2; simp only; omega, hlit⟩ (Int.le_refl _) ok.2.1 rfl (fun c hc => by simp at hc) hr
        have := ok.1 j
        rw [List.length_zip] at this
        simp only; omega
theorem j0z (next : Int) : ∀ (f : Nat) (k : Int) (s : Ps) (o : List Int) (r : List Int × List (List Int) × Int), y4r next s → 0 ≤ k → k ≤ s.top → z0n f k s o = some r → next ≤ r.2.2 ∧ r.2.2 ≤ 65537
 | 0, _, _, _, _, _, _, _, h => by simp [z0n] at h
 | f + 1, k, s, o, r, hs, hk0, hk, h => by
  rw [z0n] at h
  by_cases h1 : k < s.top
  · rw [if_pos h1] at h
    by_cases h2 : 1 < (s.rows k).length
    · rw [if_pos h2] at h
      by_cases h3 : 65537 < s.nx + 2
      · rw [if_pos h3] at h; cases h
      · rw [if_neg h3] at h
        exact j0z next f k _ o r (hs.step k hk0 h1 (by omega)) hk0 (by simp only [q1l]; omega) h
    · rw [if_neg h2] at h
      exact j0z next f (k + 1) s _ r hs (by omega) (by omega) h
  · rw [if_neg h1] at h
    injection h with h
    subst h
    exact ⟨hs.nx, hs.hi⟩
theorem x1p {coef l : List Int} {next : Int} {bits : List Int} {cs : List (List Int)} {after : Int} (h : q2b coef l next = .ok bits cs after) : 1 ≤ next ∧ next ≤ after ∧ after ≤ 65537 := by
 unfold q2b at h
 split at h
 · cases h
 · split at h
   · cases h
   · split at h
     · cases h
     · rename_i h1 h2 h3
       generalize hr : z0n q8a 0 { rows := (q0y fd0 (coef.zip l)).1, cs := [], nx := next, top := (q0y fd0 (coef.zip l)).2 } [] = o at h
       cases o with
       | none => cases h
       | some r =>
        simp only at h
        injection h with e1 e2 e3
        subst e1 e2 e3
        have hall : ∀ q ∈ coef.zip l, q8e next q = true := by simpa using h2
        have ok := q1u.all (coef.zip l) fd0 0 q1u.zero
        have hlit := z3a (coef.zip l) fd0 70000 (fun j x hx => by simp [fd0] at hx) (fun q hq => by have := hall q hq; simp [q8e] at this; omega)
        refine ⟨by omega, j0z next q8a 0 _ [] r ⟨by omega, Int.le_refl _, by simp only; omega, fun j => ?_, by simp, ok.2.1, by have := ok.2.2; simp only; omega, hlit⟩ (Int.le_refl _) ok.2.1 hr⟩
        have := ok.1 j
        rw [List.length_zip] at this
        simp only; omega
end Go.Proofs.YtkkapbnopmmmjaaGreatDoor
namespace Go.Proofs.YtkkapbnopmmmjaaGreatDoor
def q8m (K : Nat) (bits : List Int) (t i : Nat) : Bool := bits.getD i 0 != 0 && (i == t || (decide (t < i) && !K.testBit i))
def q4h (bits : List Int) (K t i : Nat) : List Int := ((List.range i).filter (q8m K bits t)).map (fun j => bits.getD j 0)
def q0w (bits : List Int) (K j : Nat) : List (List Int) := ((List.range j).filter K.testBit).map fun t => q4h bits K t bits.length
def y4o (x : Int) : Bool := decide (x < -65536) || decide (65536 < x)
inductive x5u where
 | err (e : Int)
 | ok (cs : List (List Int))
def q2l (bits : List Int) (k : Int) : x5u :=
 if k < 0 ∨ 4503599627370496 < k ∨ bits.any y4o = true then .err 1 else if 60 < bits.length then .err 2 else .ok (q0w bits k.toNat 64)
theorem q4a (bits : List Int) (K t i : Nat) : q4h bits K t (i + 1) = q4h bits K t i ++ if q8m K bits t i then [bits.getD i 0] else [] := by
 unfold q4h
 rw [List.range_succ, List.filter_append, List.map_append]
 congr 1
 by_cases h : q8m K bits t i = true
 · simp [h]
 · simp [h]
theorem z2x (bits : List Int) (K t i : Nat) : (q4h bits K t i).length ≤ i := by
 unfold q4h
 rw [List.length_map]
 exact Nat.le_trans (List.length_filter_le _ _) (by simp)
theorem q4o (bits : List Int) (K j : Nat) : q0w bits K (j + 1) = q0w bits K j ++ if K.testBit j then [q4h bits K j bits.length] else [] := by
 unfold q0w
 rw [List.range_succ, List.filter_append, List.map_append]
 congr 1
 by_cases h : K.testBit j = true
 · simp [h]
 · simp [h]
theorem q8j (bits : List Int) (K j : Nat) : (q0w bits K j).length ≤ j := by
 unfold q0w
 rw [List.length_map]
 exact Nat.le_trans (List.length_filter_le _ _) (by simp)
theorem q6v (bits : List Int) (K j t : Nat) (hjt : j ≤ t) (h : ∀ k, j ≤ k → k < t → K.testBit k = false) : q0w bits K t = q0w bits K j := by
  induction t with
  | zero => have : j = 0 := by omega
            subst this; rfl
  | succ t ih =>
    by_cases e : j = t + 1
    · subst e; rfl
    · rw [q4o, h t (by omega) (by omega), if_neg (by simp), List.append_nil, ih (by omega) (fun k hk hk' => h k hk (by omega))]
theorem j8q (bits : List Int) (K j : Nat) (hj : j ≤ 64) (h : K / 2 ^ j * 2 ^ j = 0) : q0w bits K 64 = q0w bits K j :=
 q6v bits K j 64 hj (fun k hk _ => by
  have := q9z K j k
  rw [h] at this
  simpa [hk] using this.symm)
end Go.Proofs.YtkkapbnopmmmjaaGreatDoor
namespace Go.Proofs.YtkkapbnopmmmjaaGreatDoor
def x8r (n x : Int) : Prop := x ≠ 0 ∧ -n < x ∧ x < n
structure k9r (next : Int) (s : Ps) : Prop where
 lo1 : 1 ≤ s.nx
 nx : next ≤ s.nx
 ev : (s.nx - next) % 2 = 0
 row : ∀ j, ∀ x ∈ s.rows j, x8r s.nx x
 cls : ∀ c ∈ s.cs, ∀ x ∈ c, x8r s.nx x
 lo : 7 * (s.nx - next) ≤ 2 * (s.cs.length : Int)
 hi : (s.cs.length : Int) ≤ 7 * (s.nx - next)
def q1w (rows : Int → List Int) (m : Nat) : Nat := ((List.range m).map fun k : Nat => (rows (k : Int)).length).sum
end Go.Proofs.YtkkapbnopmmmjaaGreatDoor
namespace Go.Proofs.YtkkapbnopmmmjaaGreatDoor
def k6w (a : List Bool) (x : Int) : Bool := decide (x ≠ 0 ∧ -65536 ≤ x ∧ x ≤ 65536) && ((decide (x.natAbs < a.length) && a.getD x.natAbs false) == decide (0 < x))
end Go.Proofs.YtkkapbnopmmmjaaGreatDoor
namespace Go.Proofs.YtkkapbnopmmmjaaGreatDoor
def hasB (l : List Int) (n : Int) : Bool := l.any (· == n)
def okO (a : List Bool) (known x : Int) : Bool := decide (1 ≤ x.natAbs) && (decide ((x.natAbs : Int) < known) && (decide (x.natAbs < a.length) && (a.getD x.natAbs false != decide (0 < x))))
def k4q (l : List Int) (lit : Int) (a : List Bool) (known : Int) : Bool := l.all fun x => x == lit || okO a known x
def j8g (cs : List (List Int)) (lit v : Int) (a : List Bool) : Bool := cs.any fun c => hasB c lit && k4q c lit a v
def k4x (cs : List (List Int)) : List Bool → Int → Nat → List Bool × Bool
 | out, _, 0 => (out, true)
 | out, v, n + 1 => if j8g cs v v out = j8g cs (-v) v out then (out, false) else k4x cs (out ++ [j8g cs v v out]) (v + 1) n
end Go.Proofs.YtkkapbnopmmmjaaGreatDoor
namespace Go.Proofs.YtkkapbnopmmmjaaGreatDoor
section
variable {out : List Bool} {lit v : Int}
end
def k7y (F : List Bool) : List Int → Nat
 | [] => 0
 | x :: l => (k6w F x).toNat + k7y F l
end Go.Proofs.YtkkapbnopmmmjaaGreatDoor
namespace Go.Proofs.YtkkapbnopmmmjaaGreatDoor
def k2b (F : List Bool) (rows : Int → List Int) (k : Int) : Nat → Nat
 | 0 => 0
 | n + 1 => k7y F (rows k) + 2 * k2b F rows (k + 1) n
def k8m (F : List Bool) : List Int → Nat
 | [] => 0
 | b :: bs => (k6w F b).toNat + 2 * k8m F bs
structure Cor (s : Ps) (k : Int) (rest : List (List Int)) (bits : List Int) (after : Int) : Prop where
 high : ∀ c ∈ rest, ∃ x ∈ c, s.nx ≤ (x.natAbs : Int)
 told : ∀ (low : List (List Int)) (g : List Bool), (g.length : Int) = s.nx → (∀ c ∈ low, ∀ x ∈ c, x8r s.nx x) → ∃ ext, k4x (low ++ rest) g s.nx (after - s.nx).toNat = (g ++ ext, true) ∧ ((g ++ ext).length : Int) = after ∧
  (∀ c ∈ rest, c.any (k6w (g ++ ext)) = true) ∧ ∀ n : Nat, s.top - k ≤ n → k8m (g ++ ext) bits = k2b (g ++ ext) s.rows k n
end Go.Proofs.YtkkapbnopmmmjaaGreatDoor
namespace Go.Proofs.YtkkapbnopmmmjaaGreatDoor
def k8o (k : Int) : Int := if k ≤ 40 then 16 else if k = 41 then 8 else if k = 42 then 4 else if k = 43 then 2 else if k = 44 then 1 else 0
def bR (j : Int) : Int := if j ≤ 40 then 8 else 0
structure Bnd (next k : Int) (s : Ps) (c : Int) : Prop where
 k0 : 0 ≤ k
 top : s.top ≤ 45
 c0 : 0 ≤ c
 far : ∀ j, k + 2 ≤ j → ((s.rows j).length : Int) ≤ bR j
 nxt : ((s.rows (k + 1)).length : Int) ≤ bR (k + 1) + c
 cur : ((s.rows k).length : Int) + 2 * c ≤ k8o k ∨ (((s.rows k).length : Int) ≤ 1 ∧ 2 * c ≤ k8o k)
 nx : s.nx ≤ next + 16 * k + 2 * c
end Go.Proofs.YtkkapbnopmmmjaaGreatDoor
namespace Go.Proofs.YtkkapbnopmmmjaaGreatDoor
structure q2j where
 C : List Int
 L : List Int
 B : Int
deriving DecidableEq
def y5w : q2j := ⟨[], [], 0⟩
def z2i (c : Int) : Bool := decide (c < -1099511627776) || decide (1099511627776 < c)
def q2s (n x : Int) : Bool := decide (x = 0) || (decide (n < x) || decide (x < -n))
def q0m (l : q2j) (n : Int) : Int :=
 if n < 0 ∨ 65536 < n ∨ l.C.length ≠ l.L.length ∨ z2i l.B = true then 1
 else if l.C.any z2i = true ∨ l.L.any (q2s n) = true then 1
 else if 4096 < l.L.length then 2 else 0
theorem q1d {l : q2j} {n : Int} (h : q0m l n = 0) : 0 ≤ n ∧ n ≤ 65536 ∧ l.C.length = l.L.length ∧ (-1099511627776 ≤ l.B ∧ l.B ≤ 1099511627776) ∧ (∀ c ∈ l.C, -1099511627776 ≤ c ∧ c ≤ 1099511627776) ∧ (∀ x ∈ l.L, x ≠ 0 ∧ -n ≤ x ∧ x ≤ n) ∧ l.L.length ≤ 4096 := by
 unfold q0m at h
 split at h
 · omega
 · split at h
   · omega
   · split at h
     · omega
     · rename_i h1 h2 h3
       have hB : z2i l.B = false := by
        cases hx : z2i l.B with
        | false => rfl
        | true => exact absurd (.inr (.inr (.inr hx))) h1
       simp [z2i] at hB
       have hC : ∀ c ∈ l.C, z2i c = false := by
        have : ¬ l.C.any z2i = true := fun e => h2 (.inl e)
        simpa using this
       have hL : ∀ x ∈ l.L, q2s n x = false := by
        have : ¬ l.L.any (q2s n) = true := fun e => h2 (.inr e)
        simpa using this
       refine ⟨by omega, by omega, by omega, by omega, fun c hc => ?_, fun x hx => ?_, by omega⟩
       · have := hC c hc
         simp [z2i] at this
         omega
       · have := hL x hx
         simp [q2s] at this
         omega
theorem y9x {l : q2j} {n : Int} (h1 : 0 ≤ n) (h2 : n ≤ 65536) (h3 : l.C.length = l.L.length) (h4 : -1099511627776 ≤ l.B ∧ l.B ≤ 1099511627776) (h5 : ∀ c ∈ l.C, -1099511627776 ≤ c ∧ c ≤ 1099511627776) (h6 : ∀ x ∈ l.L, x ≠ 0 ∧ -n ≤ x ∧ x ≤ n) (h7 : l.L.length ≤ 4096) : q0m l n = 0 := by
 unfold q0m
 have hB : z2i l.B = false := by simp [z2i]; omega
 rw [if_neg (by rw [hB]; simp; omega), if_neg, if_neg (by omega)]
 rw [not_or]
 constructor
 · simp only [List.any_eq_true, not_exists, not_and]
   intro c hc
   have := h5 c hc
   simp [z2i]; omega
 · simp only [List.any_eq_true, not_exists, not_and]
   intro x hx
   have := h6 x hx
   simp [q2s]; omega
def cfZ : List (Int × Int) → Int → Int
 | [], _ => 0
 | q :: t, x => (if q.2 = x then q.1 else 0) + cfZ t x
theorem j6m : ∀ (a b : List (Int × Int)) (x : Int), cfZ (a ++ b) x = cfZ a x + cfZ b x
 | [], b, x => by simp [cfZ]
 | q :: a, b, x => by simp only [List.cons_append, cfZ, j6m a b x]; omega
def cf (l : q2j) (x : Int) : Int := cfZ (l.C.zip l.L) x
def z2w (v : Int) : List Int → List Int
 | [] => [v]
 | y :: t => if y < v then y :: z2w v t else if y = v then y :: t else v :: y :: t
def q0a (l : List Int) : List Int := l.foldl (fun out x => z2w (x.natAbs : Int) out) []
def q4f (a b v : Int) : List (Int × Int) := if b < a then [(a - b, v)] else if a < b then [(b - a, -v)] else []
def q0p (l : q2j) (vs : List Int) : List (Int × Int) := vs.flatMap fun v => q4f (cf l v) (cf l (-v)) v
def q1o (l : q2j) : List Int → Int
 | [] => 0
 | v :: t => min (cf l v) (cf l (-v)) + q1o l t
def q0v : List (Int × Int) → Int
 | [] => 0
 | q :: t => q.1 + q0v t
def z4o (l : q2j) : q2j :=
 if l.B - q1o l (q0a l.L) ≤ 0 then y5w
 else if q0v (q0p l (q0a l.L)) < l.B - q1o l (q0a l.L) then ⟨[], [], 1⟩
 else ⟨(q0p l (q0a l.L)).map fun q => min q.1 (l.B - q1o l (q0a l.L)), (q0p l (q0a l.L)).map (·.2), l.B - q1o l (q0a l.L)⟩
def q0b (l : q2j) : q2j := if q0m l 65536 = 0 then z4o l else y5w
def x9b (n : Int) : List Int → Bool
 | lits => (List.range lits.length).all fun i => !(q2s n (lits.getD i 0)) && !((lits.take i).any (· == lits.getD i 0)) && !((lits.take i).any (· == -lits.getD i 0))
def Inc : List Int → Prop
 | [] => True
 | x :: t => (∀ y ∈ t, x < y) ∧ Inc t
theorem z2l {v y : Int} : ∀ {l : List Int}, y ∈ z2w v l ↔ y = v ∨ y ∈ l
 | [] => by simp [z2w]
 | z :: t => by
  simp only [z2w]
  split
  · rw [List.mem_cons, List.mem_cons, z2l (l := t)]
    constructor
    · rintro (h | h | h)
      · exact .inr (.inl h)
      · exact .inl h
      · exact .inr (.inr h)
    · rintro (h | h | h)
      · exact .inr (.inl h)
      · exact .inl h
      · exact .inr (.inr h)
  · split
    · rename_i h; subst h; simp
    · simp
theorem j9i (v : Int) : ∀ {l : List Int}, Inc l → Inc (z2w v l)
 | [], _ => by simp [z2w, Inc]
 | z :: t, h => by
  obtain ⟨h1, h2⟩ := h
  simp only [z2w]
  split
  · refine ⟨fun y hy => ?_, j9i v h2⟩
    rcases z2l.1 hy with rfl | hy
    · assumption
    · exact h1 y hy
  · split
    · exact ⟨h1, h2⟩
    · refine ⟨fun y hy => ?_, h1, h2⟩
      rcases List.mem_cons.1 hy with rfl | hy
      · omega
      · have := h1 y hy; omega
theorem y9a : ∀ {a b : List Int}, Inc a → Inc b → (∀ y, y ∈ a ↔ y ∈ b) → a = b
 | [], [], _, _, _ => rfl
 | [], y :: b, _, _, h => absurd ((h y).2 (by simp)) (by simp)
 | x :: a, [], _, _, h => absurd ((h x).1 (by simp)) (by simp)
 | x :: a, y :: b, ha, hb, h => by
  have hxy : x = y := by
   have h1 := (h x).1 (by simp)
   have h2 := (h y).2 (by simp)
   rcases List.mem_cons.1 h1 with h1 | h1
   · exact h1
   · rcases List.mem_cons.1 h2 with h2 | h2
     · exact h2.symm
     · have := ha.1 y h2
       have := hb.1 x h1
       omega
  subst hxy
  congr 1
  refine y9a ha.2 hb.2 (fun z => ⟨fun hz => ?_, fun hz => ?_⟩)
  · rcases List.mem_cons.1 ((h z).1 (by simp [hz])) with e | e
    · subst e; have := ha.1 z hz; omega
    · exact e
  · rcases List.mem_cons.1 ((h z).2 (by simp [hz])) with e | e
    · subst e; have := hb.1 z hz; omega
    · exact e
theorem z8b (l : List Int) (x : Int) : q0a (l ++ [x]) = z2w (x.natAbs : Int) (q0a l) := by simp [q0a]
theorem z4v (l : List Int) : Inc (q0a l) := by
 have : ∀ (l : List Int) (o : List Int), Inc o → Inc (l.foldl (fun out x => z2w (x.natAbs : Int) out) o) := fun l => by
  induction l with
  | nil => intro o h; exact h
  | cons x t ih => intro o h; exact ih _ (j9i _ h)
 exact this l [] trivial
theorem q6j {l : List Int} {y : Int} : y ∈ q0a l ↔ ∃ x ∈ l, y = (x.natAbs : Int) := by
 have : ∀ (l : List Int) (o : List Int), y ∈ l.foldl (fun out x => z2w (x.natAbs : Int) out) o ↔ y ∈ o ∨ ∃ x ∈ l, y = (x.natAbs : Int) := fun l => by
  induction l with
  | nil => intro o; simp
  | cons x t ih =>
   intro o
   rw [List.foldl_cons, ih, z2l]
   constructor
   · rintro ((h | h) | ⟨z, hz, h⟩)
     · exact .inr ⟨x, by simp, h⟩
     · exact .inl h
     · exact .inr ⟨z, by simp [hz], h⟩
   · rintro (h | ⟨z, hz, h⟩)
     · exact .inl (.inr h)
     · rcases List.mem_cons.1 hz with rfl | hz
       · exact .inl (.inl h)
       · exact .inr ⟨z, hz, h⟩
 have h := this l []
 unfold q0a
 rw [h]
 simp
end Go.Proofs.YtkkapbnopmmmjaaGreatDoor
namespace Go.Proofs.YtkkapbnopmmmjaaGreatDoor
theorem y0b (z : List (Int × Int)) (c x y : Int) : cfZ (z ++ [(c, x)]) y = cfZ z y + if x = y then c else 0 := by
 rw [j6m]; simp only [cfZ]; omega
theorem k0z {C L : List Int} (h : C.length = L.length) : (C.zip L).map (·.2) = L := List.map_snd_zip (by omega)
theorem q6n (l : q2j) (vs : List Int) : ∀ q ∈ q0p l vs, 0 < q.1 := fun q hq => by
 unfold q0p at hq
 obtain ⟨v, _, hq⟩ := List.mem_flatMap.1 hq
 unfold q4f at hq
 split at hq
 · simp at hq; subst hq; simp only; omega
 · split at hq
   · simp at hq; subst hq; simp only; omega
   · simp at hq
theorem j3v {l : q2j} {vs : List Int} {q : Int × Int} (hq : q ∈ q0p l vs) : ∃ v ∈ vs, q.2 = v ∨ q.2 = -v := by
 unfold q0p at hq
 obtain ⟨v, hv, hq⟩ := List.mem_flatMap.1 hq
 unfold q4f at hq
 split at hq
 · simp at hq; subst hq; exact ⟨v, hv, .inl rfl⟩
 · split at hq
   · simp at hq; subst hq; exact ⟨v, hv, .inr rfl⟩
   · simp at hq
theorem z9e (ts : List (Int × Int)) (f : Int × Int → Int) : (ts.map f).zip (ts.map (·.2)) = ts.map fun q => (f q, q.2) := by
 induction ts with
 | nil => rfl
 | cons q t ih => simp [ih]
end Go.Proofs.YtkkapbnopmmmjaaGreatDoor
namespace Go.Proofs.YtkkapbnopmmmjaaGreatDoor
def z3u (z : List (Int × Int)) : List Int → Nat
 | [] => 0
 | v :: t => (cfZ z v).natAbs + (cfZ z (-v)).natAbs + z3u z t
def k1k : List (Int × Int) → Nat
 | [] => 0
 | q :: t => q.1.natAbs + k1k t
theorem j9g : ∀ vs : List Int, z3u [] vs = 0
 | [] => rfl
 | _ :: t => by simp [z3u, cfZ, j9g t]
theorem j9q (q : Int × Int) (z : List (Int × Int)) : ∀ vs : List Int, (∀ v ∈ vs, q.2 ≠ v ∧ q.2 ≠ -v) → z3u (q :: z) vs = z3u z vs
 | [], _ => rfl
 | v :: t, h => by
  have h1 := h v (by simp)
  simp only [z3u, cfZ, if_neg h1.1, if_neg h1.2, Int.zero_add, j9q q z t (fun u hu => h u (by simp [hu]))]
theorem j2h (q : Int × Int) (z : List (Int × Int)) : ∀ vs : List Int, Inc vs → (∀ v ∈ vs, 0 < v) → z3u (q :: z) vs ≤ q.1.natAbs + z3u z vs
 | [], _, _ => by simp [z3u]
 | v :: t, hi, hp => by
  have hpv := hp v (by simp)
  by_cases hq : q.2 = v ∨ q.2 = -v
  · have hf := j9q q z t (fun u hu => by
     have := hi.1 u hu
     have := hp u (by simp [hu])
     rcases hq with e | e <;> rw [e] <;> constructor <;> omega)
    simp only [z3u, cfZ, hf]
    rcases hq with e | e
    · rw [if_pos e, if_neg (by omega)]; omega
    · rw [if_neg (by omega), if_pos e]; omega
  · have hn : q.2 ≠ v ∧ q.2 ≠ -v := ⟨fun e => hq (.inl e), fun e => hq (.inr e)⟩
    have ih := j2h q z t hi.2 (fun u hu => hp u (by simp [hu]))
    simp only [z3u, cfZ, if_neg hn.1, if_neg hn.2, Int.zero_add]
    omega
theorem y8t : ∀ (z : List (Int × Int)) (vs : List Int), Inc vs → (∀ v ∈ vs, 0 < v) → z3u z vs ≤ k1k z
 | [], vs, _, _ => by simp [j9g]
 | q :: z, vs, hi, hp => by
  have h1 := j2h q z vs hi hp
  have h2 := y8t z vs hi hp
  simp only [k1k]
  omega
theorem x0f (M : Nat) : ∀ z : List (Int × Int), (∀ q ∈ z, q.1.natAbs ≤ M) → k1k z ≤ M * z.length
 | [], _ => by simp [k1k]
 | q :: z, h => by
  have h1 := h q (by simp)
  have h2 := x0f M z (fun u hu => h u (by simp [hu]))
  simp only [k1k, List.length_cons, Nat.mul_add, Nat.mul_one]
  omega
theorem z4f (z : List (Int × Int)) : ∀ (vs : List Int) (k : Nat), z3u z (vs.take k) ≤ z3u z vs
 | [], k => by simp
 | v :: t, 0 => by simp [z3u]
 | v :: t, k + 1 => by
  have := z4f z t k
  simp only [List.take_succ_cons, z3u]
  omega
theorem y0r (l : q2j) : ∀ vs : List Int, (q1o l vs).natAbs ≤ z3u (l.C.zip l.L) vs
 | [] => by simp [q1o, z3u]
 | v :: t => by
  have ih := y0r l t
  simp only [q1o, z3u, cf]
  omega
theorem z5s : ∀ a b : List (Int × Int), q0v (a ++ b) = q0v a + q0v b
 | [], b => by simp [q0v]
 | q :: a, b => by simp only [List.cons_append, q0v, z5s a b]; omega
theorem j3w (l : q2j) : ∀ vs : List Int, 0 ≤ q0v (q0p l vs) ∧ q0v (q0p l vs) ≤ z3u (l.C.zip l.L) vs
 | [] => by simp [q0p, q0v, z3u]
 | v :: t => by
  have ih := j3w l t
  have e : q0p l (v :: t) = q4f (cf l v) (cf l (-v)) v ++ q0p l t := rfl
  rw [e, z5s]
  simp only [z3u]
  unfold q4f cf
  split
  · simp only [q0v]; omega
  · split
    · simp only [q0v]; omega
    · simp only [q0v]; omega
theorem q7g : ∀ (ts : List (Int × Int)) (k : Nat), (∀ q ∈ ts, 0 < q.1) → 0 ≤ q0v (ts.take k) ∧ q0v (ts.take k) ≤ q0v ts
 | [], k, _ => by simp [q0v]
 | q :: t, 0, h => by
  have := h q (by simp)
  have := q7g t 0 (fun u hu => h u (by simp [hu]))
  simp only [List.take_zero, q0v] at this ⊢
  omega
 | q :: t, k + 1, h => by
  have := h q (by simp)
  have := q7g t k (fun u hu => h u (by simp [hu]))
  simp only [List.take_succ_cons, q0v]
  omega
theorem z2d : ∀ (ts : List (Int × Int)) (q : Int × Int), (∀ u ∈ ts, 0 < u.1) → q ∈ ts → q.1 ≤ q0v ts
 | u :: t, q, h, hq => by
  have h1 := h u (by simp)
  have h2 := (q7g t 0 (fun u hu => h u (by simp [hu])))
  simp only [List.take_zero, q0v] at h2 ⊢
  rcases List.mem_cons.1 hq with rfl | hq
  · omega
  · have := z2d t q (fun u hu => h u (by simp [hu])) hq
    omega
theorem y6c (a b v : Int) : (q4f a b v).length ≤ 1 := by unfold q4f; split <;> (try split) <;> simp
theorem q6m (l : q2j) : ∀ vs : List Int, (q0p l vs).length ≤ vs.length
 | [] => by simp [q0p]
 | v :: t => by
  have := q6m l t
  have h1 := y6c (cf l v) (cf l (-v)) v
  have e : q0p l (v :: t) = q4f (cf l v) (cf l (-v)) v ++ q0p l t := rfl
  rw [e]
  simp only [List.length_append, List.length_cons]
  omega
theorem j9d {L : List Int} (h : ∀ x ∈ L, x ≠ 0) : ∀ v ∈ q0a L, 0 < v := fun v hv => by
 obtain ⟨x, hx, rfl⟩ := q6j.1 hv
 have := h x hx
 omega
theorem j8k {L : List Int} {n : Int} (h : ∀ x ∈ L, x ≠ 0 ∧ -n ≤ x ∧ x ≤ n) : ∀ v ∈ q0a L, 0 < v ∧ v ≤ n := fun v hv => by
 obtain ⟨x, hx, rfl⟩ := q6j.1 hv
 have := h x hx
 omega
theorem y0o {l : q2j} (h : q0m l 65536 = 0) : z3u (l.C.zip l.L) (q0a l.L) ≤ 4503599627370496 := by
 obtain ⟨_, _, hl, _, hc, hx, hn⟩ := q1d h
 refine Nat.le_trans (y8t _ _ (z4v _) (j9d fun x hx' => (hx x hx').1)) (Nat.le_trans (x0f 1099511627776 _ ?_) ?_)
 · intro q hq
   have := hc q.1 (List.of_mem_zip hq).1
   omega
 · have : (l.C.zip l.L).length ≤ 4096 := by rw [List.length_zip]; omega
   calc 1099511627776 * (l.C.zip l.L).length ≤ 1099511627776 * 4096 := Nat.mul_le_mul_left _ this
    _ ≤ _ := by decide
theorem j7e {l : q2j} (h : q0m l 65536 = 0) (k : Nat) : -4503599627370496 ≤ q1o l ((q0a l.L).take k) ∧ q1o l ((q0a l.L).take k) ≤ 4503599627370496 := by
 have h1 := y0r l ((q0a l.L).take k)
 have h2 := z4f (l.C.zip l.L) (q0a l.L) k
 have h3 := y0o h
 omega
theorem z3g {l : q2j} (h : q0m l 65536 = 0) (k : Nat) : 0 ≤ q0v (q0p l ((q0a l.L).take k)) ∧ q0v (q0p l ((q0a l.L).take k)) ≤ 4503599627370496 := by
 have h1 := j3w l ((q0a l.L).take k)
 have h2 := z4f (l.C.zip l.L) (q0a l.L) k
 have h3 := y0o h
 omega
theorem z1m (l : q2j) : ∀ (vs : List Int) (v : Int), q1o l (vs ++ [v]) = q1o l vs + min (cf l v) (cf l (-v))
 | [], v => by simp [q1o]
 | u :: t, v => by simp only [List.cons_append, q1o, z1m l t v]; omega
theorem z5l (l : q2j) (vs : List Int) (v : Int) : q0p l (vs ++ [v]) = q0p l vs ++ q4f (cf l v) (cf l (-v)) v := by simp [q0p]
theorem z0l (L : List Int) : (q0a L).length ≤ L.length := by
 have ins : ∀ (v : Int) (l : List Int), (z2w v l).length ≤ l.length + 1 := fun v l => by
  induction l with
  | nil => simp [z2w]
  | cons y t ih => unfold z2w; split <;> (try split) <;> simp <;> omega
 have go : ∀ (L acc : List Int), (L.foldl (fun out x => z2w (x.natAbs : Int) out) acc).length ≤ L.length + acc.length := fun L => by
  induction L with
  | nil => intro acc; simp
  | cons x t ih => intro acc; have := ih (z2w (x.natAbs : Int) acc); have := ins (x.natAbs : Int) acc; simp only [List.foldl_cons, List.length_cons]; omega
 exact go L []
end Go.Proofs.YtkkapbnopmmmjaaGreatDoor
namespace Go.Proofs.YtkkapbnopmmmjaaGreatDoor
theorem z6z {x : q2j} {n : Int} (hn : 0 ≤ n) (hn2 : n ≤ 65536) (hc : q0m x n = 0) : q0b x = z4o x ∧ q0m x 65536 = 0 ∧ (q0b x).C.length ≤ x.L.length ∧ 0 ≤ (q0b x).B ∧ (q0b x).B ≤ 4503599627370496 := by
 obtain ⟨_, _, h3, h4, h5, h6, h7⟩ := q1d hc
 have hc2 : q0m x 65536 = 0 := y9x (by decide) (by decide) h3 h4 h5 (fun y hy => by have := h6 y hy; omega) h7
 have e : q0b x = z4o x := if_pos hc2
 refine ⟨e, hc2, ?_⟩
 rw [e]
 unfold z4o
 have h1 := q6m x (q0a x.L)
 have h2 := z0l x.L
 have h8 := z3g hc2 (q0a x.L).length
 rw [List.take_length] at h8
 split
 · exact ⟨Nat.zero_le _, by decide, by decide⟩
 · split
   · exact ⟨Nat.zero_le _, by decide, by decide⟩
   · refine ⟨by simp; omega, ?_, ?_⟩
     · show 0 ≤ x.B - q1o x (q0a x.L); omega
     · show x.B - q1o x (q0a x.L) ≤ _; omega
end Go.Proofs.YtkkapbnopmmmjaaGreatDoor
namespace Go.Proofs.YtkkapbnopmmmjaaGreatDoor
end Go.Proofs.YtkkapbnopmmmjaaGreatDoor
