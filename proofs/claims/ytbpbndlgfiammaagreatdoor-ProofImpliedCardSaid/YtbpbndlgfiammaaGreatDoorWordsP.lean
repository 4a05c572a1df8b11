/- Bytes into lines and fields: places, as state machines. Plain lemmas; no condition beyond their own hypotheses. -/
import Derived.Lib.DecodeNEq
set_option linter.unusedSimpArgs false
set_option linter.unusedVariables false
set_option linter.unnecessarySimpa false
namespace Go.Proofs.YtbpbndlgfiammaaGreatDoor.Cn

def sepB (x : Int) : Bool := x == 32 || (x == 9 || x == 13)
/-- fields behind the first i bytes: where the open field began (-1: none); closed fields -/
def fldS (xs : List Int) : Nat → Int × List (Nat × Nat)
  | 0 => (-1, [])
  | i + 1 => if sepB (xs.getD i 0) = true then (if 0 ≤ (fldS xs i).1 then (-1, (fldS xs i).2 ++ [((fldS xs i).1.toNat, i)]) else fldS xs i)
      else (if (fldS xs i).1 < 0 then ((i : Int), (fldS xs i).2) else fldS xs i)
def fldE (xs : List Int) : List (Nat × Nat) := if 0 ≤ (fldS xs xs.length).1 then (fldS xs xs.length).2 ++ [((fldS xs xs.length).1.toNat, xs.length)] else (fldS xs xs.length).2
theorem fld_st (xs : List Int) : ∀ i, ((fldS xs i).1 = -1 ∨ (0 ≤ (fldS xs i).1 ∧ (fldS xs i).1 < i)) ∧ ∀ q ∈ (fldS xs i).2, q.1 < q.2 ∧ q.2 ≤ i
  | 0 => ⟨.inl rfl, fun q hq => by simp [fldS] at hq⟩
  | i + 1 => by
    obtain ⟨h1, h2⟩ := fld_st xs i
    have h3 : ∀ q ∈ (fldS xs i).2, q.1 < q.2 ∧ q.2 ≤ i + 1 := fun q hq => by have := h2 q hq; omega
    rw [fldS]
    split
    · split
      · refine ⟨.inl rfl, fun q hq => ?_⟩
        rcases List.mem_append.1 hq with hq | hq
        · exact h3 q hq
        · have : q = ((fldS xs i).1.toNat, i) := by simpa using hq
          subst this
          show (fldS xs i).1.toNat < i ∧ i ≤ i + 1
          omega
      · exact ⟨by omega, h3⟩
    · split
      · exact ⟨.inr ⟨by show (0 : Int) ≤ i; omega, by show (i : Int) < _; omega⟩, h3⟩
      · exact ⟨by omega, h3⟩
theorem fld_pre1 (xs : List Int) (i : Nat) : (fldS xs i).2 <+: (fldS xs (i + 1)).2 := by
  rw [fldS]
  split
  · split
    · exact List.prefix_append _ _
    · exact List.prefix_refl _
  · split <;> exact List.prefix_refl _
theorem fld_pre (xs : List Int) {i : Nat} : ∀ {j : Nat}, i ≤ j → (fldS xs i).2 <+: (fldS xs j).2
  | 0, h => by obtain rfl : i = 0 := by omega
               exact List.prefix_refl _
  | j + 1, h => by
    rcases Nat.lt_or_ge i (j + 1) with h1 | h1
    · exact (fld_pre xs (by omega : i ≤ j)).trans (fld_pre1 xs j)
    · obtain rfl : i = j + 1 := by omega
      exact List.prefix_refl _
theorem fld_preE (xs : List Int) {i : Nat} (h : i ≤ xs.length) : (fldS xs i).2 <+: fldE xs := by
  unfold fldE
  split
  · exact (fld_pre xs h).trans (List.prefix_append _ _)
  · exact fld_pre xs h
theorem pre_at {α : Type} {l m : List α} {x d : α} (h : l ++ [x] <+: m) : l.length < m.length ∧ m.getD l.length d = x := by
  obtain ⟨t, rfl⟩ := h
  refine ⟨by simp, ?_⟩
  simp [List.getD]
theorem fld_close {xs : List Int} {i : Nat} (hs : sepB (xs.getD i 0) = true) (h0 : 0 ≤ (fldS xs i).1) : fldS xs (i + 1) = (-1, (fldS xs i).2 ++ [((fldS xs i).1.toNat, i)]) := by rw [fldS, if_pos hs, if_pos h0]
theorem fld_idle {xs : List Int} {i : Nat} (hs : sepB (xs.getD i 0) = true) (h0 : (fldS xs i).1 < 0) : fldS xs (i + 1) = fldS xs i := by rw [fldS, if_pos hs, if_neg (by omega)]
theorem fld_at {xs : List Int} {i : Nat} (hi : i < xs.length) (hs : sepB (xs.getD i 0) = true) (h0 : 0 ≤ (fldS xs i).1) : (fldS xs i).2.length < (fldE xs).length ∧ (fldE xs).getD (fldS xs i).2.length (0, 0) = ((fldS xs i).1.toNat, i) := by
  refine pre_at ?_
  have := fld_preE xs (i := i + 1) (by omega)
  rwa [fld_close hs h0] at this
theorem fld_last {xs : List Int} (h0 : 0 ≤ (fldS xs xs.length).1) : (fldS xs xs.length).2.length < (fldE xs).length ∧ (fldE xs).getD (fldS xs xs.length).2.length (0, 0) = ((fldS xs xs.length).1.toNat, xs.length) ∧ (fldS xs xs.length).2.length + 1 = (fldE xs).length := by
  have e : fldE xs = (fldS xs xs.length).2 ++ [((fldS xs xs.length).1.toNat, xs.length)] := by rw [fldE, if_pos h0]
  obtain ⟨h1, h2⟩ := pre_at (d := (0, 0)) (show (fldS xs xs.length).2 ++ [((fldS xs xs.length).1.toNat, xs.length)] <+: fldE xs by rw [e]; exact List.prefix_refl _)
  exact ⟨h1, h2, by rw [e]; simp⟩
theorem fld_none {xs : List Int} (h0 : (fldS xs xs.length).1 < 0) : (fldS xs xs.length).2.length = (fldE xs).length := by rw [fldE, if_neg (by omega)]
theorem fld_skip {xs : List Int} {i : Nat} : ∀ {m : Nat}, 1 ≤ m → (∀ j, i ≤ j → j < i + m → sepB (xs.getD j 0) = false) → fldS xs (i + m) = if (fldS xs i).1 < 0 then ((i : Int), (fldS xs i).2) else fldS xs i
  | 0, h, _ => by omega
  | 1, _, h => by rw [fldS, h i (Nat.le_refl _) (by omega)]; simp
  | m + 2, _, h => by
    have ih := fld_skip (xs := xs) (i := i) (m := m + 1) (by omega) (fun j h1 h2 => h j h1 (by omega))
    have hl : sepB (xs.getD (i + (m + 1)) 0) = false := h _ (by omega) (by omega)
    rw [show i + (m + 2) = (i + (m + 1)) + 1 by omega, fldS, hl, ih]
    simp only [Bool.false_eq_true, if_false]
    split
    · have : ¬ ((i : Int), (fldS xs i).2).1 < 0 := by show ¬ ((i : Int) < 0); omega
      rw [if_neg this]
    · rename_i h2
      first | rw [if_neg h2] | rfl
theorem fld_bd {xs : List Int} : ∀ q ∈ fldE xs, q.1 < q.2 ∧ q.2 ≤ xs.length := by
  intro q hq
  obtain ⟨h1, h2⟩ := fld_st xs xs.length
  unfold fldE at hq
  split at hq
  · rcases List.mem_append.1 hq with hq | hq
    · exact h2 q hq
    · have : q = ((fldS xs xs.length).1.toNat, xs.length) := by simpa using hq
      subst this
      show (fldS xs xs.length).1.toNat < xs.length ∧ xs.length ≤ xs.length
      omega
  · exact h2 q hq
/-- lines behind the first i bytes: where the open line began; closed lines -/
def lnS (xs : List Int) : Nat → Nat × List (Nat × Nat)
  | 0 => (0, [])
  | i + 1 => if xs.getD i 0 = 10 then (i + 1, (lnS xs i).2 ++ [((lnS xs i).1, i)]) else lnS xs i
def lnE (xs : List Int) : List (Nat × Nat) := (lnS xs xs.length).2 ++ [((lnS xs xs.length).1, xs.length)]
theorem ln_st (xs : List Int) : ∀ i, (lnS xs i).1 ≤ i ∧ ∀ q ∈ (lnS xs i).2, q.1 ≤ q.2 ∧ q.2 ≤ i
  | 0 => ⟨Nat.le_refl _, fun q hq => by simp [lnS] at hq⟩
  | i + 1 => by
    obtain ⟨h1, h2⟩ := ln_st xs i
    rw [lnS]
    split
    · refine ⟨Nat.le_refl _, fun q hq => ?_⟩
      rcases List.mem_append.1 hq with hq | hq
      · have := h2 q hq; omega
      · have : q = ((lnS xs i).1, i) := by simpa using hq
        subst this
        exact ⟨h1, by show i ≤ i + 1; omega⟩
    · exact ⟨by omega, fun q hq => by have := h2 q hq; omega⟩
theorem ln_pre1 (xs : List Int) (i : Nat) : (lnS xs i).2 <+: (lnS xs (i + 1)).2 := by
  rw [lnS]
  split
  · exact List.prefix_append _ _
  · exact List.prefix_refl _
theorem ln_pre (xs : List Int) {i : Nat} : ∀ {j : Nat}, i ≤ j → (lnS xs i).2 <+: (lnS xs j).2
  | 0, h => by obtain rfl : i = 0 := by omega
               exact List.prefix_refl _
  | j + 1, h => by
    rcases Nat.lt_or_ge i (j + 1) with h1 | h1
    · exact (ln_pre xs (by omega : i ≤ j)).trans (ln_pre1 xs j)
    · obtain rfl : i = j + 1 := by omega
      exact List.prefix_refl _
theorem ln_skip {xs : List Int} {i : Nat} : ∀ {m : Nat}, (∀ j, i ≤ j → j < i + m → xs.getD j 0 ≠ 10) → lnS xs (i + m) = lnS xs i
  | 0, _ => rfl
  | m + 1, h => by
    rw [← Nat.add_assoc, lnS, if_neg (h _ (by omega) (by omega))]
    exact ln_skip fun j h1 h2 => h j h1 (by omega)
/-- the next line feed behind place i -/
theorem ln_hit {xs : List Int} {i m : Nat} (hm : i + m < xs.length) (h : ∀ j, i ≤ j → j < i + m → xs.getD j 0 ≠ 10) (h1 : xs.getD (i + m) 0 = 10) (hi : (lnS xs i).1 = i) :
    (lnS xs (i + m + 1)).1 = i + m + 1 ∧ (lnS xs (i + m + 1)).2.length = (lnS xs i).2.length + 1 ∧ (lnS xs i).2.length < (lnE xs).length ∧ (lnE xs).getD (lnS xs i).2.length (0, 0) = (i, i + m) := by
  have e : lnS xs (i + m + 1) = (i + m + 1, (lnS xs i).2 ++ [(i, i + m)]) := by rw [lnS, if_pos h1, ln_skip h, hi]
  refine ⟨by rw [e], by rw [e]; simp, ?_⟩
  refine pre_at ?_
  have := (ln_pre xs (show i + m + 1 ≤ xs.length by omega)).trans (List.prefix_append _ [((lnS xs xs.length).1, xs.length)])
  rwa [e] at this
theorem ln_miss {xs : List Int} {i : Nat} (hi0 : i ≤ xs.length) (h : ∀ j, i ≤ j → j < xs.length → xs.getD j 0 ≠ 10) (hi : (lnS xs i).1 = i) :
    (lnS xs i).2.length < (lnE xs).length ∧ (lnE xs).getD (lnS xs i).2.length (0, 0) = (i, xs.length) ∧ (lnS xs i).2.length + 1 = (lnE xs).length := by
  have e : lnS xs xs.length = lnS xs i := by
    have := ln_skip (xs := xs) (i := i) (m := xs.length - i) (fun j h1 h2 => h j h1 (by omega))
    rwa [show i + (xs.length - i) = xs.length by omega] at this
  have e2 : lnE xs = (lnS xs i).2 ++ [(i, xs.length)] := by rw [lnE, e, hi]
  obtain ⟨h1, h2⟩ := pre_at (d := (0, 0)) (show (lnS xs i).2 ++ [(i, xs.length)] <+: lnE xs by rw [e2]; exact List.prefix_refl _)
  exact ⟨h1, h2, by rw [e2]; simp⟩
theorem ln_bd {xs : List Int} : ∀ q ∈ lnE xs, q.1 ≤ q.2 ∧ q.2 ≤ xs.length := by
  intro q hq
  obtain ⟨h1, h2⟩ := ln_st xs xs.length
  rcases List.mem_append.1 hq with hq | hq
  · exact h2 q hq
  · have : q = ((lnS xs xs.length).1, xs.length) := by simpa using hq
    subst this
    exact ⟨h1, Nat.le_refl _⟩
/-- a piece -/
def cut (xs : List Int) (q : Nat × Nat) : List Int := (xs.take q.2).drop q.1
theorem cut_len {xs : List Int} {q : Nat × Nat} (h : q.2 ≤ xs.length) : (cut xs q).length = q.2 - q.1 := by simp [cut]; omega
theorem cut_getD {xs : List Int} {q : Nat × Nat} {j : Nat} (h : q.1 + j < q.2) : (cut xs q).getD j 0 = xs.getD (q.1 + j) 0 := by
  simp [cut, List.getD, List.getElem?_drop, List.getElem?_take, h]
/-- the words of a line -/
def lnW (xs : List Int) (q : Nat × Nat) : List (Nat × Nat) := if q.1 < q.2 ∧ xs.getD q.1 0 = 99 then [] else (fldE (cut xs q)).map fun r => (q.1 + r.1, q.1 + r.2)
/-- the words of the first k lines -/
def wrdS (xs : List Int) : Nat → List (Nat × Nat)
  | 0 => []
  | k + 1 => wrdS xs k ++ lnW xs ((lnE xs).getD k (0, 0))
def wrdE (xs : List Int) : List (Nat × Nat) := wrdS xs (lnE xs).length
def wordsV (xs : List Int) : List (List Int) := (wrdE xs).map (cut xs)
theorem wrd_pre (xs : List Int) {i : Nat} : ∀ {j : Nat}, i ≤ j → wrdS xs i <+: wrdS xs j
  | 0, h => by obtain rfl : i = 0 := by omega
               exact List.prefix_refl _
  | j + 1, h => by
    rcases Nat.lt_or_ge i (j + 1) with h1 | h1
    · exact (wrd_pre xs (by omega : i ≤ j)).trans (List.prefix_append _ _)
    · obtain rfl : i = j + 1 := by omega
      exact List.prefix_refl _
theorem wrd_at {xs : List Int} {k i : Nat} (hk : k < (lnE xs).length) (hi : i < (lnW xs ((lnE xs).getD k (0, 0))).length) :
    (wrdS xs k).length + i < (wrdE xs).length ∧ (wrdE xs).getD ((wrdS xs k).length + i) (0, 0) = (lnW xs ((lnE xs).getD k (0, 0))).getD i (0, 0) := by
  obtain ⟨t, ht⟩ := wrd_pre xs (show k + 1 ≤ (lnE xs).length by omega)
  have e : wrdE xs = wrdS xs k ++ lnW xs ((lnE xs).getD k (0, 0)) ++ t := by rw [wrdE, ← ht, wrdS]
  generalize lnW xs ((lnE xs).getD k (0, 0)) = m at hi e
  refine ⟨by rw [e]; simp only [List.length_append]; omega, ?_⟩
  rw [e]
  simp only [List.getD, List.append_assoc]
  rw [List.getElem?_append_right (by omega), Nat.add_sub_cancel_left, List.getElem?_append_left hi]
theorem wrd_bd {xs : List Int} : ∀ q ∈ wrdE xs, q.1 < q.2 ∧ q.2 ≤ xs.length := by
  have h : ∀ k, k ≤ (lnE xs).length → ∀ q ∈ wrdS xs k, q.1 < q.2 ∧ q.2 ≤ xs.length := by
    intro k
    induction k with
    | zero => intro _ q hq; simp [wrdS] at hq
    | succ k ih =>
      intro hk q hq
      rw [wrdS] at hq
      rcases List.mem_append.1 hq with hq | hq
      · exact ih (by omega) q hq
      · have hb := ln_bd (xs := xs) ((lnE xs).getD k (0, 0)) (by simp [List.getD, List.getElem?_eq_getElem (show k < (lnE xs).length by omega)])
        generalize (lnE xs).getD k (0, 0) = p at hq hb
        unfold lnW at hq
        split at hq
        · simp at hq
        · obtain ⟨r, hr, rfl⟩ := List.mem_map.1 hq
          have := fld_bd r hr
          rw [cut_len hb.2] at this
          show p.1 + r.1 < p.1 + r.2 ∧ p.1 + r.2 ≤ xs.length
          omega
  exact h _ (Nat.le_refl _)
/-- one rune -/
def decN (xs : List Int) : Nat × Nat := Go.Lib.decodeN xs.length (xs.getD 0 0).toNat (xs.getD 1 0).toNat (xs.getD 2 0).toNat (xs.getD 3 0).toNat
def isBytes (xs : List Int) : Prop := ∀ x ∈ xs, 0 ≤ x ∧ x < 256
theorem sep_hi {x : Int} (h : 128 ≤ x) : sepB x = false := by
  have h1 : ¬ x = 32 := by omega
  have h2 : ¬ x = 9 := by omega
  have h3 : ¬ x = 13 := by omega
  simp [sepB, h1, h2, h3]
set_option maxRecDepth 100000 in
theorem dec_ok {xs : List Int} (hb : isBytes xs) (h0 : 0 < xs.length) :
    1 ≤ (decN xs).2 ∧ (decN xs).2 ≤ xs.length ∧ sepB ((decN xs).1 : Int) = sepB (xs.getD 0 0) ∧ (sepB (xs.getD 0 0) = true → (decN xs).2 = 1) ∧ (∀ j, 1 ≤ j → j < (decN xs).2 → sepB (xs.getD j 0) = false) ∧ (decN xs).1 < 2147483648 := by
  have hg : ∀ j, 0 ≤ xs.getD j 0 ∧ xs.getD j 0 < 256 := fun j => by
    by_cases hj : j < xs.length
    · simp only [List.getD, List.getElem?_eq_getElem hj, Option.getD_some]; exact hb _ (List.getElem_mem hj)
    · simp [List.getD, List.getElem?_eq_none (by omega : xs.length ≤ j)]
  unfold decN
  have g0 := hg 0
  have g1 := hg 1
  have g2 := hg 2
  have g3 := hg 3
  have hx : ∀ j, 1 ≤ j → j < 4 → (1 ≤ j → (xs.getD j 0).toNat / 64 = 2 → sepB (xs.getD j 0) = false) := fun j _ _ _ h => sep_hi (by have h4 := hg j; have h5 := Nat.div_add_mod (xs.getD j 0).toNat 64; omega)
  obtain ⟨n, hn⟩ : ∃ n, xs.length = n := ⟨_, rfl⟩
  rw [hn] at h0 ⊢
  by_cases ha : (xs.getD 0 0).toNat < 128
  · have e : Go.Lib.decodeN n (xs.getD 0 0).toNat (xs.getD 1 0).toNat (xs.getD 2 0).toNat (xs.getD 3 0).toNat = ((xs.getD 0 0).toNat, 1) := by unfold Go.Lib.decodeN; rw [if_pos ha]
    rw [e]
    refine ⟨Nat.le_refl _, h0, ?_, fun _ => rfl, fun j h1 h2 => by have h2 : j < 1 := h2
                                                                   omega, by show (xs.getD 0 0).toNat < _; omega⟩
    show sepB (((xs.getD 0 0).toNat : Nat) : Int) = _
    rw [show (((xs.getD 0 0).toNat : Nat) : Int) = xs.getD 0 0 by omega]
  · have hs0 : sepB (xs.getD 0 0) = false := sep_hi (by omega)
    rw [hs0]
    have k1 := hx 1 (by omega) (by omega) (by omega)
    have k2 := hx 2 (by omega) (by omega) (by omega)
    have k3 := hx 3 (by omega) (by omega) (by omega)
    generalize hB0 : (xs.getD 0 0).toNat = b0 at *
    generalize hB1 : (xs.getD 1 0).toNat = b1 at *
    generalize hB2 : (xs.getD 2 0).toNat = b2 at *
    generalize hB3 : (xs.getD 3 0).toNat = b3 at *
    have hb0 : b0 < 256 := by omega
    have bad : ∀ r : Nat, 128 ≤ r → r < 2147483648 → 1 ≤ 1 ∧ 1 ≤ n ∧ sepB ((r : Nat) : Int) = false ∧ (false = true → 1 = 1) ∧ (∀ j, 1 ≤ j → j < 1 → sepB (xs.getD j 0) = false) ∧ r < 2147483648 := fun r h1 h2 => ⟨Nat.le_refl _, h0, sep_hi (by omega), by simp, (fun j h3 h4 => by omega), h2⟩
    unfold Go.Lib.decodeN
    rw [if_neg ha]
    split
    · rename_i h
      split
      · refine ⟨by show 1 ≤ 2; omega, by show 2 ≤ n; omega, sep_hi (by omega), by simp, fun j h1 h2 => ?_, by omega⟩
        have h2 : j < 2 := h2
        obtain rfl : j = 1 := by omega
        exact k1 (by omega)
      · exact bad 65533 (by omega) (by omega)
    · split
      · rename_i h
        split
        · refine ⟨by show 1 ≤ 3; omega, by show 3 ≤ n; omega, sep_hi (by omega), by simp, fun j h1 h2 => ?_, by omega⟩
          have h2 : j < 3 := h2
          rcases (by omega : j = 1 ∨ j = 2) with rfl | rfl
          · exact k1 (by omega)
          · exact k2 (by omega)
        · exact bad 65533 (by omega) (by omega)
      · split
        · rename_i h
          split
          · refine ⟨by show 1 ≤ 4; omega, by show 4 ≤ n; omega, sep_hi (by omega), by simp, fun j h1 h2 => ?_, by omega⟩
            have h2 : j < 4 := h2
            rcases (by omega : j = 1 ∨ j = 2 ∨ j = 3) with rfl | rfl | rfl
            · exact k1 (by omega)
            · exact k2 (by omega)
            · exact k3 (by omega)
          · exact bad 65533 (by omega) (by omega)
        · exact bad 65533 (by omega) (by omega)
end Go.Proofs.YtbpbndlgfiammaaGreatDoor.Cn
