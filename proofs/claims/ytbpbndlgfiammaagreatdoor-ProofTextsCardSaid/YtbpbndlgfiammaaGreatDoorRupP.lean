/- Reverse unit propagation, as plain functions: what a clause forces under a set of true literals, what follows, that the order of the steps does not matter. Plain definitions and lemmas; no program in sight. -/
import Derived.Test.YtbpbndlgfiammaaGreatDoorCnfP
import Derived.Test.YtbpbndlgfiammaaGreatDoorMapV
set_option linter.unusedSimpArgs false
set_option linter.unusedVariables false
set_option linter.unnecessarySimpa false
namespace Go.Proofs.YtbpbndlgfiammaaGreatDoor.Cn
open Go

/-- the literals of l that are not false under t -/
def opn (t : Int → Bool) (l : List Int) : List Int := l.filter fun x => mayP x 65536 && !t (-x)
/-- what a clause forces (0: nothing), and whether it is false -/
def lookV (t : Int → Bool) (l : List Int) : Int × Bool := match opn t l with
  | [] => (0, true)
  | y :: m => if (y :: m).any t = true then (0, false) else if m.all (fun x => x == y) = true then (y, false) else (0, false)
def addT (t : Int → Bool) (y : Int) : Int → Bool := fun z => t z || z == y
inductive Rup (c : List (List Int)) : (Int → Bool) → Prop
  | conf (t : Int → Bool) (l : List Int) : l ∈ c → (lookV t l).2 = true → Rup c t
  | unit (t : Int → Bool) (l : List Int) : l ∈ c → (lookV t l).1 ≠ 0 → Rup c (addT t (lookV t l).1) → Rup c t
theorem opn_mem {t : Int → Bool} {l : List Int} {x : Int} : x ∈ opn t l ↔ x ∈ l ∧ mayP x 65536 = true ∧ t (-x) = false := by
  unfold opn; rw [List.mem_filter]; simp
theorem look_conf {t : Int → Bool} {l : List Int} : (lookV t l).2 = true ↔ ∀ x ∈ l, mayP x 65536 = true → t (-x) = true := by
  unfold lookV
  cases ho : opn t l with
  | nil =>
    refine ⟨fun _ x hx hm => ?_, fun _ => rfl⟩
    cases ht : t (-x) with
    | true => rfl
    | false => have := opn_mem.2 ⟨hx, hm, ht⟩; rw [ho] at this; cases this
  | cons y m =>
    have hy : y ∈ opn t l := by rw [ho]; exact List.mem_cons_self
    obtain ⟨h1, h2, h3⟩ := opn_mem.1 hy
    constructor
    · intro h
      exfalso
      simp only at h
      split at h
      · cases h
      · split at h <;> cases h
    · intro h
      have := h y h1 h2
      rw [h3] at this; cases this
theorem may_ne {x n : Int} (h : mayP x n = true) : x ≠ 0 := (mayP_iff.1 h).1
/-- y is forced -/
def UnitV (t : Int → Bool) (l : List Int) (y : Int) : Prop := (y ∈ l ∧ mayP y 65536 = true ∧ t (-y) = false ∧ t y = false) ∧ ∀ x ∈ l, mayP x 65536 = true → t (-x) = true ∨ x = y
theorem look_unit {t : Int → Bool} {l : List Int} (h : (lookV t l).1 ≠ 0) : UnitV t l (lookV t l).1 := by
  unfold lookV at h ⊢
  cases ho : opn t l with
  | nil => rw [ho] at h; exact absurd rfl h
  | cons y m =>
    rw [ho] at h
    have hy : y ∈ opn t l := by rw [ho]; exact List.mem_cons_self
    obtain ⟨h1, h2, h3⟩ := opn_mem.1 hy
    by_cases ha : (y :: m).any t = true
    · simp only [ha, if_true] at h; exact absurd rfl h
    · by_cases hb : m.all (fun x => x == y) = true
      · simp only [ha, hb, if_true, if_false]
        have ha' : ∀ x ∈ y :: m, t x = false := fun x hx => by
          cases ht : t x with
          | false => rfl
          | true => exact absurd (List.any_eq_true.2 ⟨x, hx, ht⟩) ha
        refine ⟨⟨h1, h2, h3, ha' y List.mem_cons_self⟩, fun x hx hm => ?_⟩
        cases ht : t (-x) with
        | true => exact .inl rfl
        | false =>
          have hx2 := opn_mem.2 ⟨hx, hm, ht⟩
          rw [ho] at hx2
          rcases List.mem_cons.1 hx2 with e | e
          · exact .inr e
          · exact .inr (by simpa using (List.all_eq_true.1 hb) x e)
      · simp only [ha, hb, if_false] at h; exact absurd rfl h
theorem unit_look {t : Int → Bool} {l : List Int} {y : Int} (h : UnitV t l y) : lookV t l = (y, false) := by
  obtain ⟨⟨h1, h2, h3, h4⟩, h5⟩ := h
  have hy : y ∈ opn t l := opn_mem.2 ⟨h1, h2, h3⟩
  have hall : ∀ x ∈ opn t l, x = y := fun x hx => by
    obtain ⟨q1, q2, q3⟩ := opn_mem.1 hx
    rcases h5 x q1 q2 with h | h
    · rw [q3] at h; cases h
    · exact h
  unfold lookV
  cases ho : opn t l with
  | nil => rw [ho] at hy; cases hy
  | cons z m =>
    rw [ho] at hall
    have hz : z = y := hall z List.mem_cons_self
    subst hz
    have ha : ¬ (z :: m).any t = true := fun h => by
      obtain ⟨x, hx, ht⟩ := List.any_eq_true.1 h
      rw [hall x hx, h4] at ht; cases ht
    have hb : m.all (fun x => x == z) = true := List.all_eq_true.2 fun x hx => by simpa using hall x (List.mem_cons_of_mem _ hx)
    show (if (z :: m).any t = true then ((0 : Int), false) else if m.all (fun x => x == z) = true then (z, false) else (0, false)) = (z, false)
    rw [if_neg ha, if_pos hb]
theorem look_cases (t : Int → Bool) (l : List Int) : (lookV t l).2 = true ∨ (lookV t l).1 ≠ 0 ∨ lookV t l = (0, false) := by
  cases h2 : (lookV t l).2 with
  | true => exact .inl rfl
  | false =>
    by_cases h1 : (lookV t l).1 = 0
    · exact .inr (.inr (by rw [← h1, ← h2]))
    · exact .inr (.inl h1)
/-- more true literals, and clauses that are the same as sets: what follows still follows -/
theorem Rup.mono {c : List (List Int)} {t : Int → Bool} (h : Rup c t) : ∀ {c' : List (List Int)} {t' : Int → Bool}, (∀ l ∈ c, ∃ l' ∈ c', ∀ x, x ∈ l ↔ x ∈ l') → (∀ z, t z = true → t' z = true) → Rup c' t' := by
  induction h with
  | conf t l hl hc =>
    intro c' t' hcc ht
    obtain ⟨l', hl', he⟩ := hcc l hl
    exact .conf t' l' hl' (look_conf.2 fun x hx hm => ht _ (look_conf.1 hc x ((he x).2 hx) hm))
  | unit t l hl hy _ ih =>
    intro c' t' hcc ht
    obtain ⟨l', hl', he⟩ := hcc l hl
    obtain ⟨⟨h1, h2, h3, h4⟩, h5⟩ := look_unit hy
    generalize (lookV t l).1 = y at *
    cases hny : t' (-y) with
    | true =>
      refine .conf t' l' hl' (look_conf.2 fun x hx hm => ?_)
      rcases h5 x ((he x).2 hx) hm with h | h
      · exact ht _ h
      · rw [h]; exact hny
    | false =>
      cases hty : t' y with
      | true =>
        refine ih hcc fun z hz => ?_
        simp only [addT, Bool.or_eq_true, beq_iff_eq] at hz
        rcases hz with hz | hz
        · exact ht z hz
        · rw [hz]; exact hty
      | false =>
        have hu : UnitV t' l' y := ⟨⟨(he y).1 h1, h2, hny, hty⟩, fun x hx hm => by
          rcases h5 x ((he x).2 hx) hm with h | h
          · exact .inl (ht _ h)
          · exact .inr h⟩
        have hl := unit_look hu
        refine .unit t' l' hl' (by rw [hl]; exact may_ne h2) (ih hcc fun z hz => ?_)
        rw [hl]
        simp only [addT, Bool.or_eq_true, beq_iff_eq] at hz ⊢
        rcases hz with hz | hz
        · exact .inl (ht z hz)
        · exact .inr hz
theorem Rup.mono_t {c : List (List Int)} {t t' : Int → Bool} (h : Rup c t) (ht : ∀ z, t z = true → t' z = true) : Rup c t' := h.mono (fun l hl => ⟨l, hl, fun _ => Iff.rfl⟩) ht
/-- nothing is forced and nothing is false -/
theorem rup_closed {c : List (List Int)} {t : Int → Bool} (h : ∀ l ∈ c, lookV t l = (0, false)) : ¬ Rup c t := fun hr => by
  cases hr with
  | conf _ l hl hc => rw [h l hl] at hc; cases hc
  | unit _ l hl hy _ => rw [h l hl] at hy; exact hy rfl
/-- the negations of the literals of l -/
def negT (l : List Int) : Int → Bool := fun z => l.any fun x => mayP x 65536 && z == -x
def contra (l : List Int) : Bool := l.any fun x => mayP x 65536 && l.contains (-x)
theorem negT_iff {l : List Int} {z : Int} : negT l z = true ↔ mayP z 65536 = true ∧ -z ∈ l := by
  unfold negT
  rw [List.any_eq_true]
  constructor
  · rintro ⟨x, hx, h⟩
    simp only [Bool.and_eq_true, beq_iff_eq] at h
    obtain ⟨h1, rfl⟩ := h
    rw [mayP_iff] at h1 ⊢
    exact ⟨⟨by omega, by omega, by omega⟩, by rw [Int.neg_neg]; exact hx⟩
  · rintro ⟨h1, h2⟩
    refine ⟨-z, h2, ?_⟩
    simp only [Bool.and_eq_true, beq_iff_eq, Int.neg_neg, and_true]
    rw [mayP_iff] at h1 ⊢
    exact ⟨by omega, by omega, by omega⟩
theorem may_neg {x n : Int} : mayP (-x) n = mayP x n := by
  rw [Bool.eq_iff_iff, mayP_iff, mayP_iff]; constructor <;> rintro ⟨h1, h2, h3⟩ <;> exact ⟨by omega, by omega, by omega⟩
theorem contra_iff {l : List Int} : contra l = true ↔ ∃ x ∈ l, mayP x 65536 = true ∧ -x ∈ l := by
  unfold contra; rw [List.any_eq_true]; simp
/-- no variable both true and false -/
def Cons (t : Int → Bool) : Prop := ∀ z, t z = true → t (-z) = false
theorem cons_neg {l : List Int} (h : contra l = false) : Cons (negT l) := fun z hz => by
  cases h2 : negT l (-z) with
  | false => rfl
  | true =>
    have h3 := (negT_iff.1 hz)
    have h4 := (negT_iff.1 h2).2
    rw [Int.neg_neg] at h4
    have := contra_iff.2 ⟨z, h4, h3.1, h3.2⟩
    rw [h] at this; cases this
theorem cons_add {t : Int → Bool} {l : List Int} {y : Int} (h : Cons t) (hu : UnitV t l y) : Cons (addT t y) := fun z hz => by
  obtain ⟨⟨_, h2, h3, h4⟩, _⟩ := hu
  have hy := may_ne h2
  simp only [addT, Bool.or_eq_true, beq_iff_eq] at hz
  simp only [addT, Bool.or_eq_false_iff, beq_eq_false_iff_ne]
  rcases hz with hz | hz
  · refine ⟨h z hz, fun e => ?_⟩
    rw [show z = -y by omega, h3] at hz; cases hz
  · subst hz; exact ⟨h3, by omega⟩
/-- propagation, at most n steps; none: not done yet -/
def propV : Nat → List (List Int) → (Int → Bool) → Option Bool
  | 0, _, _ => none
  | n + 1, c, t => if c.any (fun l => (lookV t l).2) = true then some true else match c.find? (fun l => (lookV t l).1 != 0) with
    | none => some false
    | some l => propV n c (addT t (lookV t l).1)
theorem prop_rup : ∀ {n : Nat} {c : List (List Int)} {t : Int → Bool} {b : Bool}, propV n c t = some b → (Rup c t ↔ b = true)
  | 0, _, _, _, h => by cases h
  | n + 1, c, t, b, h => by
    unfold propV at h
    split at h
    · rename_i ha
      cases h
      obtain ⟨l, hl, hc⟩ := List.any_eq_true.1 ha
      exact ⟨fun _ => rfl, fun _ => .conf t l hl hc⟩
    · rename_i ha
      split at h
      · rename_i hf
        cases h
        refine ⟨fun hr => absurd hr (rup_closed fun l hl => ?_), fun h => by cases h⟩
        rcases look_cases t l with h | h | h
        · exact absurd (List.any_eq_true.2 ⟨l, hl, h⟩) ha
        · exact absurd (bne_iff_ne.2 h) (by simpa using (List.find?_eq_none.1 hf) l hl)
        · exact h
      · rename_i l hf
        have hl := List.mem_of_find?_eq_some hf
        have hy : (lookV t l).1 ≠ 0 := bne_iff_ne.1 (List.find?_some (p := fun l => (lookV t l).1 != 0) hf)
        rw [← prop_rup h]
        exact ⟨fun hr => hr.mono_t fun z hz => by simp [addT, hz], fun hr => .unit t l hl hy hr⟩
/-- a literal of the clause is true -/
def satB (t : Int → Bool) (l : List Int) : Bool := l.any fun y => mayP y 65536 && t y
theorem cnt_lt {α : Type} {p q : α → Bool} : ∀ {c : List α}, (∀ x ∈ c, q x = true → p x = true) → (∃ x ∈ c, p x = true ∧ q x = false) → c.countP q < c.countP p
  | [], _, h => by obtain ⟨x, hx, _⟩ := h; cases hx
  | y :: c, hqp, h => by
    have hle : c.countP q ≤ c.countP p := List.countP_mono_left fun x hx h => hqp x (List.mem_cons_of_mem _ hx) h
    rw [List.countP_cons, List.countP_cons]
    obtain ⟨x, hx, h1, h2⟩ := h
    rcases List.mem_cons.1 hx with rfl | hx
    · rw [h1, h2]; simp; omega
    · have := cnt_lt (c := c) (fun x hx h => hqp x (List.mem_cons_of_mem _ hx) h) ⟨x, hx, h1, h2⟩
      have h3 := hqp y List.mem_cons_self
      cases hq : q y <;> cases hp : p y <;> simp_all <;> omega
theorem prop_some : ∀ {n : Nat} {c : List (List Int)} {t : Int → Bool}, Cons t → c.countP (fun l => !satB t l) < n → ∃ b, propV n c t = some b
  | 0, _, _, _, h => absurd h (Nat.not_lt_zero _)
  | n + 1, c, t, hc, h => by
    unfold propV
    split
    · exact ⟨_, rfl⟩
    · split
      · exact ⟨_, rfl⟩
      · rename_i l hf
        have hl := List.mem_of_find?_eq_some hf
        have hy : (lookV t l).1 ≠ 0 := bne_iff_ne.1 (List.find?_some (p := fun l => (lookV t l).1 != 0) hf)
        have hu := look_unit hy
        generalize (lookV t l).1 = y at *
        refine prop_some (cons_add hc hu) (Nat.lt_of_lt_of_le (cnt_lt (fun x _ hx => ?_) ⟨l, hl, ?_, ?_⟩) (Nat.le_of_lt_succ h))
        · simp only [Bool.not_eq_true', satB, List.any_eq_false] at hx ⊢
          intro z hz hzt
          refine hx z hz ?_
          simp only [Bool.and_eq_true] at hzt ⊢
          exact ⟨hzt.1, by simp [addT, hzt.2]⟩
        · simp only [Bool.not_eq_true', satB, List.any_eq_false]
          intro z hz hzt
          simp only [Bool.and_eq_true] at hzt
          rcases hu.2 z hz hzt.1 with h1 | h1
          · rw [hc z hzt.2] at h1; cases h1
          · rw [h1, hu.1.2.2.2] at hzt; cases hzt.2
        · simp only [Bool.not_eq_false', satB, List.any_eq_true]
          exact ⟨y, hu.1.1, by simp [hu.1.2.1, addT]⟩
/-- the clause l follows from the clauses c by reverse unit propagation -/
def flwV (c : List (List Int)) (l : List Int) : Bool := contra l || (propV (c.length + 1) c (negT l) == some true)
theorem prop_neg {c : List (List Int)} {l : List Int} (h : contra l = false) : ∃ b, propV (c.length + 1) c (negT l) = some b := prop_some (cons_neg h) (Nat.lt_succ_of_le List.countP_le_length)
theorem flw_c {c : List (List Int)} {l : List Int} (h : contra l = true) : flwV c l = true := by unfold flwV; rw [h]; rfl
theorem flw_t {c : List (List Int)} {l : List Int} (h : Rup c (negT l)) : flwV c l = true := by
  cases hc : contra l with
  | true => exact flw_c hc
  | false =>
    obtain ⟨b, hb⟩ := prop_neg (c := c) hc
    unfold flwV
    rw [hb, (prop_rup hb).1 h]
    simp
theorem flw_f {c : List (List Int)} {l : List Int} (h : contra l = false) (hr : ¬ Rup c (negT l)) : flwV c l = false := by
  obtain ⟨b, hb⟩ := prop_neg (c := c) h
  unfold flwV
  rw [h, hb]
  cases b with
  | true => exact absurd ((prop_rup hb).2 rfl) hr
  | false => rfl
/-- a clause with a true literal -/
theorem look_sat {t : Int → Bool} {l : List Int} (hc : Cons t) {y : Int} (hy : y ∈ l) (hm : mayP y 65536 = true) (ht : t y = true) : lookV t l = (0, false) := by
  rcases look_cases t l with h | h | h
  · have := look_conf.1 h y hy hm
    rw [hc y ht] at this; cases this
  · obtain ⟨⟨h1, h2, h3, h4⟩, h5⟩ := look_unit h
    rcases h5 y hy hm with h6 | h6
    · rw [hc y ht] at h6; cases h6
    · rw [← h6, ht] at h4; cases h4
  · exact h
end Go.Proofs.YtbpbndlgfiammaaGreatDoor.Cn
