/- Propagation round by round: the open literals of a clause, the literals made true at the start, what is kept between two steps. Plain definitions and lemmas; no program in sight. -/
import Derived.Test.YtbpbndlgfiammaaGreatDoorRupP
set_option linter.unusedSimpArgs false
set_option linter.unusedVariables false
set_option linter.unnecessarySimpa false
namespace Go.Proofs.YtbpbndlgfiammaaGreatDoor.Cn
open Go

theorem ntT {e : Bool} (h : (!e) = true) : e = false := by cases e <;> simp_all
theorem ntF {e : Bool} (h : (!e) = false) : e = true := by cases e <;> simp_all
def hasK (ks : List Int) : Int → Bool := fun z => ks.contains z
theorem has_add (ks : List Int) (y : Int) : hasK (addK ks y) = addT (hasK ks) y := funext fun z => addK_contains ks y z
def stepO (t : Int → Bool) (s : List Int × Int) (x : Int) : List Int × Int := bif mayP x 65536 && !t (-x) then (addK s.1 x, x) else s
/-- the distinct open literals, and the last of them -/
def lkS (t : Int → Bool) (l : List Int) : List Int × Int := l.foldl (stepO t) ([], 0)
theorem lk_next {t : Int → Bool} {l : List Int} {i : Nat} (h : i < l.length) : lkS t (l.take (i + 1)) = stepO t (lkS t (l.take i)) (l.getD i 0) := by
  unfold lkS; rw [take_sD (d := 0) h, List.foldl_append]; rfl
theorem lk_skip {t : Int → Bool} {l : List Int} {i : Nat} (h : i < l.length) (hs : ((!(mayP (l.getD i 0) 65536)) || t (-(l.getD i 0))) = true) : lkS t (l.take (i + 1)) = lkS t (l.take i) := by
  rw [lk_next h]; unfold stepO
  have : (mayP (l.getD i 0) 65536 && !t (-(l.getD i 0))) = false := by
    cases h1 : mayP (l.getD i 0) 65536 <;> cases h2 : t (-(l.getD i 0)) <;> simp_all
  rw [this]; rfl
theorem lk_add {t : Int → Bool} {l : List Int} {i : Nat} (h : i < l.length) (hs : ((!(mayP (l.getD i 0) 65536)) || t (-(l.getD i 0))) = false) : lkS t (l.take (i + 1)) = (addK (lkS t (l.take i)).1 (l.getD i 0), l.getD i 0) := by
  rw [lk_next h]; unfold stepO
  have : (mayP (l.getD i 0) 65536 && !t (-(l.getD i 0))) = true := by
    cases h1 : mayP (l.getD i 0) 65536 <;> cases h2 : t (-(l.getD i 0)) <;> simp_all
  rw [this]; rfl
theorem lk_len (t : Int → Bool) : ∀ (l : List Int) (s : List Int × Int), (l.foldl (stepO t) s).1.length ≤ s.1.length + l.length
  | [], s => by simp
  | x :: l, s => by
    rw [List.foldl_cons]
    have h1 := lk_len t l (stepO t s x)
    have h2 : (stepO t s x).1.length ≤ s.1.length + 1 := by
      unfold stepO
      cases (mayP x 65536 && !t (-x)) with
      | true => exact addK_len _ _
      | false => exact Nat.le_succ _
    simp only [List.length_cons]; omega
theorem lkS_len (t : Int → Bool) (l : List Int) (i : Nat) : (lkS t (l.take i)).1.length ≤ l.length := by
  have := lk_len t (l.take i) ([], 0)
  have h2 : (l.take i).length ≤ l.length := by rw [List.length_take]; omega
  unfold lkS; simp only [List.length_nil] at this; omega
theorem lk_mem (t : Int → Bool) : ∀ (l : List Int) (s : List Int × Int), (∀ x, x ∈ (l.foldl (stepO t) s).1 ↔ x ∈ s.1 ∨ x ∈ opn t l) ∧ ((l.foldl (stepO t) s).2 = s.2 ∧ opn t l = [] ∨ (l.foldl (stepO t) s).2 ∈ opn t l)
  | [], s => ⟨fun x => by simp [opn], .inl ⟨rfl, rfl⟩⟩
  | y :: l, s => by
    rw [List.foldl_cons]
    obtain ⟨h1, h2⟩ := lk_mem t l (stepO t s y)
    have ho : opn t (y :: l) = if (mayP y 65536 && !t (-y)) = true then y :: opn t l else opn t l := by unfold opn; rw [List.filter_cons]
    cases hb : (mayP y 65536 && !t (-y)) with
    | true =>
      have hs : stepO t s y = (addK s.1 y, y) := by unfold stepO; rw [hb]; rfl
      rw [hs] at h1 h2 ⊢
      rw [ho, if_pos hb]
      refine ⟨fun x => ?_, ?_⟩
      · rw [h1 x, addK_mem, List.mem_cons, or_assoc]
      · rcases h2 with ⟨h2, _⟩ | h2
        · right; rw [h2]; exact List.mem_cons_self
        · right; exact List.mem_cons_of_mem _ h2
    | false =>
      have hs : stepO t s y = s := by unfold stepO; rw [hb]; rfl
      rw [hs] at h1 h2 ⊢
      rw [ho, if_neg (by rw [hb]; simp)]
      exact ⟨h1, h2⟩
theorem addK_nd {ks : List Int} {k : Int} (h : ks.Nodup) : (addK ks k).Nodup := by
  unfold addK
  cases hk : ks.contains k with
  | true => exact h
  | false =>
    have hk' : k ∉ ks := fun e => by rw [List.contains_iff_mem.2 e] at hk; cases hk
    show (ks ++ [k]).Nodup
    rw [List.nodup_append]
    exact ⟨h, by simp, fun x hx y hy => by rw [List.mem_singleton.1 hy]; exact fun e => hk' (e ▸ hx)⟩
theorem lk_nd (t : Int → Bool) : ∀ (l : List Int) (s : List Int × Int), s.1.Nodup → (l.foldl (stepO t) s).1.Nodup
  | [], s, h => h
  | x :: l, s, h => by
    rw [List.foldl_cons]
    refine lk_nd t l _ ?_
    unfold stepO
    cases (mayP x 65536 && !t (-x)) with
    | true => exact addK_nd h
    | false => exact h
/-- no open literal so far is true -/
def noT (t : Int → Bool) (l : List Int) : Prop := ∀ x ∈ opn t l, t x = false
theorem noT_skip {t : Int → Bool} {l : List Int} {i : Nat} (h : i < l.length) (hs : ((!(mayP (l.getD i 0) 65536)) || t (-(l.getD i 0))) = true) (hn : noT t (l.take i)) : noT t (l.take (i + 1)) := fun x hx => by
  obtain ⟨h1, h2, h3⟩ := opn_mem.1 hx
  rw [take_sD (d := 0) h] at h1
  rcases List.mem_append.1 h1 with h1 | h1
  · exact hn x (opn_mem.2 ⟨h1, h2, h3⟩)
  · rw [List.mem_singleton.1 h1] at h2 h3; rw [h2, h3] at hs; cases hs
theorem noT_add {t : Int → Bool} {l : List Int} {i : Nat} (h : i < l.length) (hs : t (l.getD i 0) = false) (hn : noT t (l.take i)) : noT t (l.take (i + 1)) := fun x hx => by
  obtain ⟨h1, h2, h3⟩ := opn_mem.1 hx
  rw [take_sD (d := 0) h] at h1
  rcases List.mem_append.1 h1 with h1 | h1
  · exact hn x (opn_mem.2 ⟨h1, h2, h3⟩)
  · rw [List.mem_singleton.1 h1]; exact hs
theorem noT_0 (t : Int → Bool) (l : List Int) : noT t (l.take 0) := fun x hx => by simp [opn] at hx
theorem look_true {t : Int → Bool} {l : List Int} {i : Nat} (h : i < l.length) (hs : ((!(mayP (l.getD i 0) 65536)) || t (-(l.getD i 0))) = false) (ht : t (l.getD i 0) = true) : lookV t l = (0, false) := by
  have hm : mayP (l.getD i 0) 65536 = true ∧ t (-(l.getD i 0)) = false := by
    cases h1 : mayP (l.getD i 0) 65536 <;> cases h2 : t (-(l.getD i 0)) <;> simp_all
  have hx : l.getD i 0 ∈ opn t l := opn_mem.2 ⟨getD_memL h, hm.1, hm.2⟩
  unfold lookV
  cases ho : opn t l with
  | nil => rw [ho] at hx; cases hx
  | cons y m =>
    show (if (y :: m).any t = true then ((0 : Int), false) else _) = _
    rw [if_pos (List.any_eq_true.2 ⟨_, by rw [← ho]; exact hx, ht⟩)]
section
variable {t : Int → Bool} {l : List Int} {i : Nat} (hi : i = l.length) (hn : noT t (l.take i))
include hi hn
theorem look_0 (h : ((lkS t (l.take i)).1.length : Int) = 0) : lookV t l = (0, true) := by
  subst hi
  rw [List.take_length] at hn h
  have hm := (lk_mem t l ([], 0)).1
  have h0 : (lkS t l).1 = [] := List.eq_nil_of_length_eq_zero (by omega)
  unfold lkS at h0
  unfold lookV
  cases ho : opn t l with
  | nil => rfl
  | cons y m =>
    have := (hm y).2 (.inr (by rw [ho]; exact List.mem_cons_self))
    rw [h0] at this; cases this
theorem look_1 (h : ((lkS t (l.take i)).1.length : Int) = 1) : lookV t l = ((lkS t (l.take i)).2, false) := by
  subst hi
  rw [List.take_length] at hn h ⊢
  obtain ⟨hm, h2⟩ := lk_mem t l ([], 0)
  have hl : (lkS t l).1.length = 1 := by omega
  obtain ⟨z, hz⟩ := List.length_eq_one_iff.1 hl
  have hz' : (l.foldl (stepO t) ([], 0)).1 = [z] := hz
  have hall : ∀ x ∈ opn t l, x = z := fun x hx => by
    have := (hm x).2 (.inr hx)
    rw [hz'] at this
    exact List.mem_singleton.1 this
  have hzo : z ∈ opn t l := by
    have := (hm z).1 (by rw [hz']; exact List.mem_singleton.2 rfl)
    rcases this with h | h
    · cases h
    · exact h
  have h3 : (lkS t l).2 = z := by
    rcases h2 with ⟨_, h2⟩ | h2
    · rw [h2] at hzo; cases hzo
    · exact hall _ h2
  rw [h3]
  obtain ⟨q1, q2, q3⟩ := opn_mem.1 hzo
  refine unit_look ⟨⟨q1, q2, q3, hn z hzo⟩, fun x hx hmx => ?_⟩
  cases ht : t (-x) with
  | true => exact .inl rfl
  | false => exact .inr (hall x (opn_mem.2 ⟨hx, hmx, ht⟩))
theorem look_2 (h0 : ¬ ((lkS t (l.take i)).1.length : Int) = 0) (h1 : ¬ ((lkS t (l.take i)).1.length : Int) = 1) : lookV t l = (0, false) := by
  subst hi
  rw [List.take_length] at hn h0 h1
  obtain ⟨hm, _⟩ := lk_mem t l ([], 0)
  have hnd : (lkS t l).1.Nodup := lk_nd t l ([], 0) List.nodup_nil
  have hex : ∃ a b, a ∈ (lkS t l).1 ∧ b ∈ (lkS t l).1 ∧ a ≠ b := by
    match hq : (lkS t l).1, hnd with
    | [], _ => rw [hq] at h0; exact absurd rfl h0
    | [a], _ => rw [hq] at h1; exact absurd rfl h1
    | a :: b :: m, hnd =>
      refine ⟨a, b, by simp, by simp, fun e => ?_⟩
      have := (List.nodup_cons.1 hnd).1
      exact this (by rw [e]; exact List.mem_cons_self)
  obtain ⟨a, b, ha, hb, hab⟩ := hex
  have hao : a ∈ opn t l := ((hm a).1 ha).elim (fun h => by cases h) id
  have hbo : b ∈ opn t l := ((hm b).1 hb).elim (fun h => by cases h) id
  rcases look_cases t l with h | h | h
  · obtain ⟨q1, q2, q3⟩ := opn_mem.1 hao
    have := look_conf.1 h a q1 q2
    rw [q3] at this; cases this
  · obtain ⟨_, h5⟩ := look_unit h
    obtain ⟨q1, q2, q3⟩ := opn_mem.1 hao
    obtain ⟨r1, r2, r3⟩ := opn_mem.1 hbo
    have e1 := h5 a q1 q2
    have e2 := h5 b r1 r2
    rw [q3] at e1
    rw [r3] at e2
    exact absurd ((e1.resolve_left (by simp)).trans (e2.resolve_left (by simp)).symm) hab
  · exact h
end
/-- the negations of the literals of l, in the order of their coming -/
def iniK (l : List Int) : List Int := l.foldl (fun ks x => bif mayP x 65536 then addK ks (-x) else ks) []
theorem ini_next {l : List Int} {i : Nat} (h : i < l.length) : iniK (l.take (i + 1)) = bif mayP (l.getD i 0) 65536 then addK (iniK (l.take i)) (-(l.getD i 0)) else iniK (l.take i) := by
  unfold iniK; rw [take_sD (d := 0) h, List.foldl_append]; rfl
theorem ini_skip {l : List Int} {i : Nat} (h : i < l.length) (hm : mayP (l.getD i 0) 65536 = false) : iniK (l.take (i + 1)) = iniK (l.take i) := by rw [ini_next h, hm]; rfl
theorem ini_add {l : List Int} {i : Nat} (h : i < l.length) (hm : mayP (l.getD i 0) 65536 = true) : iniK (l.take (i + 1)) = addK (iniK (l.take i)) (-(l.getD i 0)) := by rw [ini_next h, hm]; rfl
theorem ini_has : ∀ l : List Int, hasK (iniK l) = negT l := fun l => by
  have key : ∀ (l ks : List Int) (z : Int), (l.foldl (fun ks x => bif mayP x 65536 then addK ks (-x) else ks) ks).contains z = (ks.contains z || negT l z) := by
    intro l
    induction l with
    | nil => intro ks z; simp [negT]
    | cons x l ih =>
      intro ks z
      rw [List.foldl_cons, ih]
      have hn : negT (x :: l) z = ((mayP x 65536 && z == -x) || negT l z) := by simp [negT]
      rw [hn]
      cases mayP x 65536 with
      | true => simp only [cond_true, addK_contains, Bool.true_and, Bool.or_assoc]
      | false => simp
  funext z
  have := key l [] z
  unfold hasK iniK
  rw [this]; simp
theorem contra_hit {l : List Int} {i : Nat} (h : i < l.length) (hm : mayP (l.getD i 0) 65536 = true) (hc : (addK (iniK (l.take i)) (-(l.getD i 0))).contains (l.getD i 0) = true) : contra l = true := by
  rw [addK_contains] at hc
  have h0 := may_ne hm
  have h1 : (iniK (l.take i)).contains (l.getD i 0) = true := by
    cases h2 : (iniK (l.take i)).contains (l.getD i 0) with
    | true => rfl
    | false => rw [h2] at hc; simp only [Bool.false_or, beq_iff_eq] at hc; omega
  have h2 : negT (l.take i) (l.getD i 0) = true := by rw [← ini_has]; exact h1
  obtain ⟨_, h3⟩ := negT_iff.1 h2
  exact contra_iff.2 ⟨l.getD i 0, getD_memL h, hm, List.mem_of_mem_take h3⟩
theorem contra_skip {l : List Int} {i : Nat} (h : i < l.length) (hm : mayP (l.getD i 0) 65536 = false) (hc : contra (l.take i) = false) : contra (l.take (i + 1)) = false := by
  cases h2 : contra (l.take (i + 1)) with
  | false => rfl
  | true =>
    obtain ⟨x, h3, h4, h5⟩ := contra_iff.1 h2
    rw [take_sD (d := 0) h] at h3 h5
    have hne : ∀ y, mayP y 65536 = true → y ∈ l.take i ++ [l.getD i 0] → y ∈ l.take i := fun y hy hm2 => by
      rcases List.mem_append.1 hm2 with q | q
      · exact q
      · rw [List.mem_singleton.1 q, hm] at hy; cases hy
    have := contra_iff.2 ⟨x, hne x h4 h3, h4, hne (-x) (by rw [may_neg]; exact h4) h5⟩
    rw [this] at hc; cases hc
theorem contra_add {l : List Int} {i : Nat} (h : i < l.length) (hm : mayP (l.getD i 0) 65536 = true) (hq : (addK (iniK (l.take i)) (-(l.getD i 0))).contains (l.getD i 0) = false) (hc : contra (l.take i) = false) : contra (l.take (i + 1)) = false := by
  cases h2 : contra (l.take (i + 1)) with
  | false => rfl
  | true =>
    obtain ⟨x, h3, h4, h5⟩ := contra_iff.1 h2
    rw [take_sD (d := 0) h] at h3 h5
    rw [addK_contains, Bool.or_eq_false_iff] at hq
    have hno : negT (l.take i) (l.getD i 0) = false := by rw [← ini_has]; exact hq.1
    have hno' : ∀ y, y ∈ l.take i → y ≠ -(l.getD i 0) := fun y hy e => by
      have := negT_iff.2 ⟨hm, by rw [← e]; exact hy⟩
      rw [hno] at this; cases this
    exfalso
    have h0 := may_ne hm
    rcases List.mem_append.1 h3 with q | q <;> rcases List.mem_append.1 h5 with r | r
    · have := contra_iff.2 ⟨x, q, h4, r⟩
      rw [this] at hc; cases hc
    · have := List.mem_singleton.1 r
      exact hno' x q (by omega)
    · have := List.mem_singleton.1 q
      exact hno' (-x) r (by omega)
    · have := List.mem_singleton.1 q
      have := List.mem_singleton.1 r
      omega
/-- what is kept between two steps of the program's propagation: the clauses left, the true literals -/
def StepI (c : List (List Int)) (l : List Int) (lf : List (List Int)) (ks : List Int) : Prop :=
  lf.length ≤ c.length ∧ (∀ x ∈ lf, x ∈ c) ∧ Cons (hasK ks) ∧ (∀ z, negT l z = true → hasK ks z = true) ∧ (∀ x ∈ c, x ∈ lf ∨ ∃ y ∈ x, mayP y 65536 = true ∧ hasK ks y = true) ∧ (Rup c (hasK ks) → Rup c (negT l))
theorem step_init {c : List (List Int)} {l : List Int} (h : contra l = false) : StepI c l c (iniK l) := by
  have e := ini_has l
  exact ⟨Nat.le_refl _, fun _ h => h, by rw [e]; exact cons_neg h, fun z hz => by rw [e]; exact hz, fun x hx => .inl hx, fun hr => by rw [e] at hr; exact hr⟩
theorem mem_del {lf : List (List Int)} {i : Nat} {x : List Int} (hi : i < lf.length) (hx : x ∈ lf) : x ∈ lf.take i ++ lf.drop (i + 1) ∨ x = lf.getD i [] := by
  have e : lf = lf.take i ++ lf.getD i [] :: lf.drop (i + 1) := by
    rw [List.getD_eq_getElem?_getD, List.getElem?_eq_getElem hi]
    simp
  rw [e] at hx
  rcases List.mem_append.1 hx with h | h
  · exact .inl (List.mem_append_left _ h)
  · rcases List.mem_cons.1 h with h | h
    · exact .inr h
    · exact .inl (List.mem_append_right _ h)
theorem step_next {c : List (List Int)} {l : List Int} {lf : List (List Int)} {ks : List Int} {i : Nat} (h : StepI c l lf ks) (hi : i < lf.length) (hy : (lookV (hasK ks) (lf.getD i [])).1 ≠ 0) : StepI c l (lf.take i ++ lf.drop (i + 1)) (addK ks (lookV (hasK ks) (lf.getD i [])).1) := by
  obtain ⟨h1, h2, h3, h4, h5, h6⟩ := h
  have hu := look_unit hy
  have hmem : lf.getD i [] ∈ c := h2 _ (getD_memL hi)
  refine ⟨by simp; omega, fun x hx => ?_, ?_, fun z hz => ?_, fun x hx => ?_, fun hr => ?_⟩
  · rcases List.mem_append.1 hx with q | q
    · exact h2 x (List.mem_of_mem_take q)
    · exact h2 x (List.mem_of_mem_drop q)
  · rw [has_add]; exact cons_add h3 hu
  · rw [has_add]; simp [addT, h4 z hz]
  · rcases h5 x hx with q | ⟨y, q1, q2, q3⟩
    · rcases mem_del hi q with q | q
      · exact .inl q
      · refine .inr ⟨_, by rw [q]; exact hu.1.1, hu.1.2.1, ?_⟩
        rw [has_add]; simp [addT]
    · exact .inr ⟨y, q1, q2, by rw [has_add]; simp [addT, q3]⟩
  · rw [has_add] at hr
    exact h6 (.unit _ _ hmem hy hr)
theorem step_true {c : List (List Int)} {l : List Int} {lf : List (List Int)} {ks : List Int} {i : Nat} (h : StepI c l lf ks) (hi : i < lf.length) (hq : (lookV (hasK ks) (lf.getD i [])).2 = true) : flwV c l = true :=
  flw_t (h.2.2.2.2.2 (.conf _ _ (h.2.1 _ (getD_memL hi)) hq))
theorem step_false {c : List (List Int)} {l : List Int} {lf : List (List Int)} {ks : List Int} (h : StepI c l lf ks) (hc : contra l = false) (hq : ∀ j, j < lf.length → lookV (hasK ks) (lf.getD j []) = (0, false)) : flwV c l = false := by
  obtain ⟨h1, h2, h3, h4, h5, h6⟩ := h
  refine flw_f hc fun hr => rup_closed (fun x hx => ?_) (hr.mono_t h4)
  rcases h5 x hx with q | ⟨y, q1, q2, q3⟩
  · obtain ⟨j, hj, rfl⟩ := List.mem_iff_getElem.1 q
    have := hq j hj
    rwa [List.getD_eq_getElem?_getD, List.getElem?_eq_getElem hj] at this
  · exact look_sat h3 q1 q2 q3
theorem look_next {ks : List Int} {lf : List (List Int)} {i : Nat} (hok : ∀ j, j < i → lookV (hasK ks) (lf.getD j []) = (0, false)) (h2 : (lookV (hasK ks) (lf.getD i [])).2 = false) (h1 : (lookV (hasK ks) (lf.getD i [])).1 = 0) : ∀ j, j < i + 1 → lookV (hasK ks) (lf.getD j []) = (0, false) := fun j hj => by
  rcases Nat.lt_succ_iff_lt_or_eq.1 hj with h | rfl
  · exact hok j h
  · rw [← h1, ← h2]
theorem mayN {x : Int} (h : (!(!(mayP x 65536))) = true) : -9223372036854775808 ≤ -x ∧ -x ≤ 9223372036854775807 := by
  rw [Bool.not_not, mayP_iff] at h; omega
end Go.Proofs.YtbpbndlgfiammaaGreatDoor.Cn
