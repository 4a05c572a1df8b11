/- The main theorem of elimination: clauses after the elimination of v, and clauses before. No program in sight. -/
import Derived.Test.YthhfdjcaafckbaaElimR
set_option linter.unusedSimpArgs false
set_option linter.unusedVariables false
namespace Go.Proofs.Ythhfdjcaafckbaa.Cn
open Go

theorem cut_all {many : Int} : ∀ {acc ls : List (List Int)}, ((cutX many acc ls).length : Int) ≤ many → cutX many acc ls = acc ++ ls
  | acc, [], _ => by rw [cut_nil, List.append_nil]
  | acc, l :: ls, h => by
    have e : cutX many acc (l :: ls) = if many < ((acc ++ [l]).length : Int) then acc ++ [l] else cutX many (acc ++ [l]) ls := rfl
    by_cases hb : many < ((acc ++ [l]).length : Int)
    · rw [e, if_pos hb] at h; omega
    · rw [e, if_neg hb] at h ⊢
      rw [cut_all h, List.append_assoc]; rfl
theorem out_all {c : List (List Int)} {v many : Int} (h : ((outX c v many).length : Int) ≤ many) (l : List Int) :
    l ∈ outX c v many ↔ l ∈ xOf c v ∨ ∃ a b, a ∈ posL c v ∧ b ∈ negL c v ∧ tautL (resL a b v) = false ∧ l = resL a b v := by
  unfold outX at h ⊢
  rw [cut_all h, List.mem_append]
  refine or_congr Iff.rfl ?_
  unfold resA
  rw [List.take_length]
  simp only [List.mem_flatMap]
  constructor
  · rintro ⟨a, ha, b, hb, h⟩
    unfold resT at h
    split at h
    · cases h
    · rename_i ht
      rw [List.mem_singleton] at h
      exact ⟨a, b, ha, hb, by simpa using ht, h⟩
  · rintro ⟨a, b, ha, hb, ht, rfl⟩
    exact ⟨a, ha, b, hb, by unfold resT; rw [if_neg (by rw [ht]; simp)]; exact List.mem_singleton_self _⟩
/-- a literal's truth -/
def tv (a : List Bool) (x : Int) : Bool := a.getD x.natAbs false == decide (0 < x)
section
variable {N v : Int} {L : List (List Int)} {a : List Bool}
theorem lit_tv {x : Int} (hN : N ≤ 65536) (hx : mayP x N = true) (ha : (a.length : Int) = N + 1) : litV a x = tv a x := by
  obtain ⟨h0, h1, h2⟩ := mayP_iff.1 hx
  unfold litV tv
  rw [mayP_iff.2 ⟨h0, by omega, by omega⟩, decide_eq_true (by omega : x.natAbs < a.length)]
  simp
theorem tv_neg {x : Int} (h : x ≠ 0) : tv a (-x) = !(tv a x) := by
  unfold tv
  rw [Int.natAbs_neg]
  by_cases hp : 0 < x
  · rw [decide_eq_true hp, decide_eq_false (by omega : ¬ 0 < -x)]; cases a.getD x.natAbs false <;> rfl
  · rw [decide_eq_false hp, decide_eq_true (by omega : 0 < -x)]; cases a.getD x.natAbs false <;> rfl
theorem set_get {k n : Nat} {b : Bool} (hn : n < a.length) : (a.set n b).getD k false = if k = n then b else a.getD k false := by
  rw [List.getD_eq_getElem?_getD, List.getD_eq_getElem?_getD, List.getElem?_set]
  by_cases h : n = k
  · subst h; rw [if_pos rfl, if_pos rfl, if_pos hn]; rfl
  · rw [if_neg h, if_neg (fun e => h e.symm)]
theorem tv_set_other {x : Int} {n : Nat} {b : Bool} (hn : n < a.length) (h : x.natAbs ≠ n) : tv (a.set n b) x = tv a x := by
  unfold tv; rw [set_get hn, if_neg h]
theorem tv_set_same {x : Int} {n : Nat} {b : Bool} (hn : n < a.length) (h : x.natAbs = n) : tv (a.set n b) x = (b == decide (0 < x)) := by
  unfold tv; rw [set_get hn, if_pos h]
theorem set_self {n : Nat} (hn : n < a.length) : a = a.set n (a.getD n false) := by
  rw [List.getD_eq_getElem?_getD, List.getElem?_eq_getElem hn]
  simp
/-- clauses in range -/
def Rng (N : Int) (l : List Int) : Prop := ∀ x ∈ l, mayP x N = true
theorem holds_tv {l : List Int} (hN : N ≤ 65536) (hl : Rng N l) (ha : (a.length : Int) = N + 1) : holdsV a l = true ↔ ∃ x ∈ l, tv a x = true := by
  unfold holdsV
  rw [List.any_eq_true]
  constructor
  · rintro ⟨x, hx, h⟩; exact ⟨x, hx, by rwa [lit_tv hN (hl x hx) ha] at h⟩
  · rintro ⟨x, hx, h⟩; exact ⟨x, hx, by rwa [lit_tv hN (hl x hx) ha]⟩
end
section
variable {N v : Int} {c : List (List Int)} {a : List Bool}
theorem pos_iff {l : List Int} : l ∈ posL c v ↔ l ∈ c ∧ v ∈ l ∧ -v ∉ l := by
  rw [pos_eq, List.mem_filter]
  unfold wP
  rw [Bool.and_eq_true, Bool.not_eq_true', ← Bool.not_eq_true, List.contains_iff_mem, List.contains_iff_mem]
theorem neg_iff {l : List Int} : l ∈ negL c v ↔ l ∈ c ∧ -v ∈ l ∧ v ∉ l := by
  rw [neg_eq, List.mem_filter]
  unfold wP
  rw [Int.neg_neg, Bool.and_eq_true, Bool.not_eq_true', ← Bool.not_eq_true, List.contains_iff_mem, List.contains_iff_mem]
theorem rest_iff {l : List Int} : l ∈ xOf c v ↔ l ∈ c ∧ v ∉ l ∧ -v ∉ l := by
  unfold xOf hasV
  rw [List.mem_filter, Bool.not_eq_true', Bool.or_eq_false_iff, ← Bool.not_eq_true, ← Bool.not_eq_true, List.contains_iff_mem, List.contains_iff_mem]
theorem res_mem {l b : List Int} {y : Int} (hv1 : 1 ≤ v) (hv2 : v ≤ 65536) (hl : l ∈ posL c v) (hb : b ∈ negL c v) : y ∈ resL l b v ↔ ((y ∈ l ∧ y ≠ v) ∨ (y ∈ b ∧ y ≠ -v)) ∧ mayP y 65536 = true := by
  have hon : onB l b v = true := by
    unfold onB
    rw [Bool.and_eq_true, List.contains_iff_mem, List.contains_iff_mem]
    exact ⟨(pos_iff.1 hl).2.1, (neg_iff.1 hb).2.1⟩
  unfold resL
  rw [if_pos ⟨hv1, hv2⟩, if_pos hon]
  unfold resOn
  rw [norm_mem, List.mem_append, List.mem_filter, List.mem_filter]
  simp
theorem abs_ne {y : Int} (hv : 1 ≤ v) (h1 : y ≠ v) (h2 : y ≠ -v) : y.natAbs ≠ v.toNat := by omega
theorem tv_v {b : Bool} (hv : 1 ≤ v) (hn : v.toNat < a.length) : tv (a.set v.toNat b) v = b := by
  rw [tv_set_same hn (by omega), decide_eq_true (by omega : 0 < v)]; cases b <;> rfl
theorem tv_nv {b : Bool} (hv : 1 ≤ v) (hn : v.toNat < a.length) : tv (a.set v.toNat b) (-v) = !b := by
  rw [tv_neg (by omega), tv_v hv hn]
/-- a model of what is left can be extended -/
theorem same_fwd (hv1 : 1 ≤ v) (hv2 : v ≤ 65536) (hn : v.toNat < a.length) (hc : ∀ l ∈ c, ∀ x ∈ l, mayP x 65536 = true) (hs : ((outX c v 65536).length : Int) ≤ 65536)
    (h : ∀ l ∈ outX c v 65536, ∃ x ∈ l, tv a x = true) : (∀ l ∈ c, ∃ x ∈ l, tv (a.set v.toNat true) x = true) ∨ (∀ l ∈ c, ∃ x ∈ l, tv (a.set v.toNat false) x = true) := by
  have hrest : ∀ (b : Bool) (l : List Int), l ∈ c → v ∉ l → -v ∉ l → ∃ x ∈ l, tv (a.set v.toNat b) x = true := fun b l hl h1 h2 => by
    obtain ⟨y, hy, ht⟩ := h l ((out_all hs l).2 (.inl (rest_iff.2 ⟨hl, h1, h2⟩)))
    exact ⟨y, hy, by rw [tv_set_other hn (abs_ne hv1 (fun e => h1 (e ▸ hy)) (fun e => h2 (e ▸ hy)))]; exact ht⟩
  by_cases hq : ∀ b ∈ negL c v, ∃ y ∈ b, y ≠ -v ∧ tv a y = true
  · left
    intro l hl
    by_cases h1 : v ∈ l
    · exact ⟨v, h1, tv_v hv1 hn⟩
    · by_cases h2 : -v ∈ l
      · obtain ⟨y, hy, hne, ht⟩ := hq l (neg_iff.2 ⟨hl, h2, h1⟩)
        exact ⟨y, hy, by rw [tv_set_other hn (abs_ne hv1 (fun e => h1 (e ▸ hy)) hne)]; exact ht⟩
      · exact hrest true l hl h1 h2
  · right
    have hq' : ∃ b, b ∈ negL c v ∧ ∀ y ∈ b, y ≠ -v → tv a y = false := by
      refine Classical.byContradiction fun hno => hq fun b hb => ?_
      refine Classical.byContradiction fun hno2 => hno ⟨b, hb, fun y hy hne => ?_⟩
      cases ht : tv a y with
      | false => rfl
      | true => exact absurd ⟨y, hy, hne, ht⟩ hno2
    obtain ⟨b, hb, hbf⟩ := hq'
    intro l hl
    by_cases h2 : -v ∈ l
    · exact ⟨-v, h2, by rw [tv_nv hv1 hn]; rfl⟩
    · by_cases h1 : v ∈ l
      · have hp := pos_iff.2 ⟨hl, h1, h2⟩
        have hz : ∃ z ∈ resL l b v, tv a z = true := by
          cases ht : tautL (resL l b v) with
          | false => exact h _ ((out_all hs _).2 (.inr ⟨l, b, hp, hb, ht, rfl⟩))
          | true =>
            obtain ⟨y, hy1, hy2⟩ := taut_iff.1 ht
            have hr1 := (norm_mem.1 hy1).1
            have hr2 := (norm_mem.1 hy2).1
            cases hty : tv a y with
            | true => exact ⟨y, hr1, hty⟩
            | false => exact ⟨-y, hr2, by rw [tv_neg (norm_nz hy1), hty]; rfl⟩
        obtain ⟨z, hz, htz⟩ := hz
        rcases ((res_mem hv1 hv2 hp hb).1 hz).1 with ⟨h3, h4⟩ | ⟨h3, h4⟩
        · exact ⟨z, h3, by rw [tv_set_other hn (abs_ne hv1 h4 (fun e => h2 (e ▸ h3)))]; exact htz⟩
        · rw [hbf z h3 h4] at htz; cases htz
      · exact hrest false l hl h1 h2
/-- a model stays one -/
theorem same_bwd {b : Bool} (hv1 : 1 ≤ v) (hv2 : v ≤ 65536) (hn : v.toNat < a.length) (hc : ∀ l ∈ c, ∀ x ∈ l, mayP x 65536 = true) (hs : ((outX c v 65536).length : Int) ≤ 65536)
    (h : ∀ l ∈ c, ∃ x ∈ l, tv (a.set v.toNat b) x = true) : ∀ l ∈ outX c v 65536, ∃ x ∈ l, tv a x = true := by
  intro l hl
  rcases (out_all hs l).1 hl with hx | ⟨p, q, hp, hq, _, rfl⟩
  · obtain ⟨hlc, h1, h2⟩ := rest_iff.1 hx
    obtain ⟨y, hy, ht⟩ := h l hlc
    exact ⟨y, hy, by rw [tv_set_other hn (abs_ne hv1 (fun e => h1 (e ▸ hy)) (fun e => h2 (e ▸ hy)))] at ht; exact ht⟩
  · obtain ⟨hpc, hp1, hp2⟩ := pos_iff.1 hp
    obtain ⟨hqc, hq1, hq2⟩ := neg_iff.1 hq
    cases b with
    | true =>
      obtain ⟨y, hy, ht⟩ := h q hqc
      have hne : y ≠ -v := fun e => by rw [e, tv_nv hv1 hn] at ht; cases ht
      exact ⟨y, (res_mem hv1 hv2 hp hq).2 ⟨.inr ⟨hy, hne⟩, hc q hqc y hy⟩, by rw [tv_set_other hn (abs_ne hv1 (fun e => hq2 (e ▸ hy)) hne)] at ht; exact ht⟩
    | false =>
      obtain ⟨y, hy, ht⟩ := h p hpc
      have hne : y ≠ v := fun e => by rw [e, tv_v hv1 hn] at ht; cases ht
      exact ⟨y, (res_mem hv1 hv2 hp hq).2 ⟨.inl ⟨hy, hne⟩, hc p hpc y hy⟩, by rw [tv_set_other hn (abs_ne hv1 hne (fun e => hp2 (e ▸ hy)))] at ht; exact ht⟩
end
section
variable {N v : Int} {L : List (List Int)} {a : List Bool}
theorem val_iff (ha : (a.length : Int) = N + 1) (hc : chkV N L = 0) : valV N L a = true ↔ ∀ l ∈ L, ∃ x ∈ l, tv a x = true := by
  obtain ⟨hN, hr, _⟩ := chkV_0.1 hc
  unfold valV
  rw [hc, Bool.and_eq_true, List.all_eq_true]
  constructor
  · rintro ⟨_, h⟩ l hl; exact (holds_tv hN.2 (hr l hl) ha).1 (h l hl)
  · intro h; exact ⟨rfl, fun l hl => (holds_tv hN.2 (hr l hl) ha).2 (h l hl)⟩
theorem chk_out (hc : chkV N L = 0) (hv1 : 1 ≤ v) (hv2 : v ≤ N) (hs : ((outX L v 65536).length : Int) ≤ 65536) : chkV N (outX L v 65536) = 0 := by
  obtain ⟨hN, hr, _⟩ := chkV_0.1 hc
  refine chkV_0.2 ⟨hN, fun l hl x hx => ?_, by omega⟩
  rcases (out_all hs l).1 hl with h | ⟨p, q, hp, hq, _, rfl⟩
  · exact hr l (rest_iff.1 h).1 x hx
  · rcases ((res_mem hv1 (by omega) hp hq).1 hx).1 with ⟨h, _⟩ | ⟨h, _⟩
    · exact hr p (pos_iff.1 hp).1 x h
    · exact hr q (neg_iff.1 hq).1 x h
theorem rng_big (hc : chkV N L = 0) : ∀ l ∈ L, ∀ x ∈ l, mayP x 65536 = true := fun l hl x hx => by
  obtain ⟨hN, hr, _⟩ := chkV_0.1 hc
  obtain ⟨h0, h1, h2⟩ := mayP_iff.1 (hr l hl x hx)
  exact mayP_iff.2 ⟨h0, by omega, by omega⟩
theorem set_or (b : Bool) {n : Nat} (hn : n < a.length) : (a.set n b = a) ∨ (a.set n b = a.set n (!(a.getD n false))) := by
  have h := set_self (a := a) hn
  cases hb : a.getD n false <;> rw [hb] at h <;> cases b
  · exact .inl h.symm
  · exact .inr rfl
  · exact .inr rfl
  · exact .inl h.symm
theorem same_val (ha : (a.length : Int) = N + 1) (hc : chkV N L = 0) (hv1 : 1 ≤ v) (hv2 : v ≤ N) (hs : ((outX L v 65536).length : Int) ≤ 65536) :
    valV N (outX L v 65536) a = (valV N L a || valV N L (a.set v.toNat (!(a.getD v.toNat false)))) := by
  obtain ⟨hN, hr, _⟩ := chkV_0.1 hc
  have hn : v.toNat < a.length := by omega
  have hb := rng_big hc
  have hlen : ∀ b : Bool, ((a.set v.toNat b).length : Int) = N + 1 := fun b => by rw [List.length_set]; exact ha
  rw [Bool.eq_iff_iff, Bool.or_eq_true, val_iff ha (chk_out hc hv1 hv2 hs), val_iff ha hc, val_iff (hlen _) hc]
  constructor
  · intro h
    have hor : ∀ b : Bool, (∀ l ∈ L, ∃ x ∈ l, tv (a.set v.toNat b) x = true) → (∀ l ∈ L, ∃ x ∈ l, tv a x = true) ∨ (∀ l ∈ L, ∃ x ∈ l, tv (a.set v.toNat (!(a.getD v.toNat false))) x = true) := fun b hb => by
      rcases set_or b hn with e | e
      · left; rwa [e] at hb
      · right; rwa [e] at hb
    rcases same_fwd hv1 (by omega) hn hb hs h with h | h
    · exact hor true h
    · exact hor false h
  · rintro (h | h)
    · refine same_bwd (b := a.getD v.toNat false) hv1 (by omega) hn hb hs ?_
      rw [← set_self hn]; exact h
    · exact same_bwd hv1 (by omega) hn hb hs h
theorem back_val (ha : (a.length : Int) = N + 1) (hc : chkV N L = 0) (hv1 : 1 ≤ v) (hv2 : v ≤ N) (hs : ((outX L v 65536).length : Int) ≤ 65536) (h : valV N (outX L v 65536) a = true) :
    valV N L (backF [(v, uOf L v)] a) = true := by
  obtain ⟨hN, hr, _⟩ := chkV_0.1 hc
  have hn : v.toNat < a.length := by omega
  have hlen : ∀ b : Bool, ((a.set v.toNat b).length : Int) = N + 1 := fun b => by rw [List.length_set]; exact ha
  have hx := (val_iff ha (chk_out hc hv1 hv2 hs)).1 h
  have hbk : backF [(v, uOf L v)] a = a.set v.toNat ((uOf L v).any fun l => !(holdsV (a.set v.toNat false) l)) := by
    show backStep a (v, uOf L v) = _
    unfold backStep
    rw [if_neg (by show ¬ (v < 1 ∨ 65536 < v); omega)]
    unfold padB setB
    rw [if_neg (by show ¬ (v + 1 - (a.length : Int) > 0); omega)]
    simp
  rw [hbk, val_iff (hlen _) hc]
  have hset : ∀ l ∈ L, Rng N l := fun l hl => hr l hl
  cases hu : (uOf L v).any fun l => !(holdsV (a.set v.toNat false) l) with
  | false =>
    intro l hl
    by_cases hm : hasV v l = true
    · have hlu : l ∈ uOf L v := List.mem_filter.2 ⟨hl, hm⟩
      have := List.any_eq_false.1 hu l hlu
      exact (holds_tv hN.2 (hset l hl) (hlen _)).1 (by simpa using this)
    · have hlx : l ∈ xOf L v := by unfold xOf; exact List.mem_filter.2 ⟨hl, by simpa using hm⟩
      obtain ⟨_, h1, h2⟩ := rest_iff.1 hlx
      obtain ⟨y, hy, ht⟩ := hx l ((out_all hs l).2 (.inl hlx))
      exact ⟨y, hy, by rw [tv_set_other hn (abs_ne hv1 (fun e => h1 (e ▸ hy)) (fun e => h2 (e ▸ hy)))]; exact ht⟩
  | true =>
    rcases same_fwd hv1 (by omega) hn (rng_big hc) hs hx with h | h
    · exact h
    · exfalso
      obtain ⟨l, hl, hf⟩ := List.any_eq_true.1 hu
      have hlL := (List.mem_filter.1 hl).1
      have := (holds_tv hN.2 (hset l hlL) (hlen _)).2 (h l hlL)
      rw [this] at hf
      cases hf
end
end Go.Proofs.Ythhfdjcaafckbaa.Cn
