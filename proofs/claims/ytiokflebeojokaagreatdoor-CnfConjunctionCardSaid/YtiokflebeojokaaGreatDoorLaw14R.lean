/- Plain facts for the laws of layer 14 on what Norm, Resolve and Subsumes give. -/
import Derived.Test.YtiokflebeojokaaGreatDoorLaw14Q
set_option linter.unusedSimpArgs false
set_option linter.unusedVariables false
set_option linter.unnecessarySimpa false
namespace Go.Proofs.YtiokflebeojokaaGreatDoor.Cn
variable {a b l t : List Int} {w : List Bool} {v x : Int}
theorem holds_iff {l : List Int} : holdsV w l = true ↔ ∃ x, x ∈ l ∧ litV w x = true := by unfold holdsV; exact List.any_eq_true
theorem lit_may (h : litV w x = true) : mayP x 65536 = true := by unfold litV at h; exact (Bool.and_eq_true_iff.1 h).1
theorem may_neg : mayP (-x) 65536 = mayP x 65536 := by
  rw [Bool.eq_iff_iff, mayP_iff, mayP_iff]; omega
theorem lit_neg (h : mayP x 65536 = true) : litV w (-x) = !(litV w x) := by
  unfold litV
  rw [may_neg, h, Int.natAbs_neg]
  have h0 := (mayP_iff.1 h).1
  generalize (decide (x.natAbs < w.length) && w.getD x.natAbs false) = u
  rw [Bool.true_and, Bool.true_and]
  by_cases hx : 0 < x
  · rw [decide_eq_true hx, decide_eq_false (show ¬ 0 < -x by omega)]; cases u <;> rfl
  · rw [decide_eq_false hx, decide_eq_true (show 0 < -x by omega)]; cases u <;> rfl
theorem holds_norm : holdsV w (normL l) = holdsV w l := by
  rw [Bool.eq_iff_iff, holds_iff, holds_iff]
  exact ⟨fun ⟨x, h1, h2⟩ => ⟨x, (norm_mem.1 h1).1, h2⟩, fun ⟨x, h1, h2⟩ => ⟨x, norm_mem.2 ⟨h1, lit_may h2⟩, h2⟩⟩
theorem taut_holds (h : tautL l = true) : holdsV w l = true := by
  obtain ⟨x, h1, h2⟩ := taut_iff.1 h
  cases hl : litV w x with
  | true => exact holds_iff.2 ⟨x, (norm_mem.1 h1).1, hl⟩
  | false => exact holds_iff.2 ⟨-x, (norm_mem.1 h2).1, by rw [lit_neg (norm_mem.1 h1).2, hl]; rfl⟩
theorem norm_idem : normL (normL l) = normL l := norm_of (norm_str l) fun x => ⟨fun h => ⟨h, (norm_mem.1 h).2⟩, And.left⟩
theorem taut_idem : tautL (normL l) = tautL l := by unfold tautL; rw [norm_idem]
theorem sub_iff : (!(a.any fun x => !(b.contains x))) = true ↔ ∀ x, x ∈ a → x ∈ b := by
  simp [List.any_eq_true]
theorem sub_norm : (!((normL l).any fun x => !(l.contains x))) = true := sub_iff.2 fun x h => (norm_mem.1 h).1
theorem sub_holds (h : (!(a.any fun x => !(b.contains x))) = true) (ha : holdsV w a = true) : holdsV w b = true := by
  obtain ⟨x, h1, h2⟩ := holds_iff.1 ha
  exact holds_iff.2 ⟨x, sub_iff.1 h x h1, h2⟩
theorem norm_round {i : Nat} (h : i < (normL l).length) : ((normL l).getD i 0 ≠ 0 ∧ -65536 ≤ (normL l).getD i 0 ∧ (normL l).getD i 0 ≤ 65536) ∧
    (0 < i → (((normL l).getD (i - 1) 0).natAbs < ((normL l).getD i 0).natAbs ∨ ((normL l).getD (i - 1) 0).natAbs = ((normL l).getD i 0).natAbs ∧ (normL l).getD i 0 < (normL l).getD (i - 1) 0) ∧ -65536 ≤ (normL l).getD (i - 1) 0 ∧ (normL l).getD (i - 1) 0 ≤ 65536) :=
  ⟨⟨norm_nz (getD_memL h), norm_bd h⟩, fun h0 => ⟨ahd_iff.1 (str_at (norm_str l) (show i - 1 < i by omega) h), norm_bd (by omega)⟩⟩
/-! ### resolving -/
theorem res_rng (h : (resE a b v == 0) = true) : 1 ≤ v ∧ v ≤ 65536 := by
  unfold resE at h
  by_cases hv : 1 ≤ v ∧ v ≤ 65536
  · exact hv
  · rw [if_neg hv] at h; cases h
theorem res_err (h : (resE a b v != 0) = true) : resL a b v = [] ∧ resE a b v = 140 := by
  unfold resE resL at *
  by_cases hv : 1 ≤ v ∧ v ≤ 65536
  · rw [if_pos hv] at h ⊢
    rw [if_pos hv]
    cases h1 : onB a b v <;> cases h2 : onB a b (-v) <;> simp_all
  · rw [if_neg hv, if_neg hv]; exact ⟨rfl, rfl⟩
theorem res_how (h : resE a b v = 0) : ∃ x, a.contains x = true ∧ b.contains (-x) = true ∧ resL a b v = resOn a b x := by
  have hv := res_rng (a := a) (b := b) (by rw [h]; rfl)
  unfold resE at h
  rw [if_pos hv] at h
  unfold resL
  rw [if_pos hv]
  cases h1 : onB a b v with
  | true =>
    rw [if_pos rfl]
    unfold onB at h1
    rw [Bool.and_eq_true_iff] at h1
    exact ⟨v, h1.1, h1.2, rfl⟩
  | false =>
    cases h2 : onB a b (-v) with
    | true =>
      rw [if_neg (by simp), if_pos rfl]
      unfold onB at h2
      rw [Bool.and_eq_true_iff] at h2
      exact ⟨-v, h2.1, h2.2, rfl⟩
    | false => rw [h1, h2] at h; simp at h
theorem norm_comm : normL (a ++ b) = normL (b ++ a) := norm_of (norm_str _) fun x => by
  rw [norm_mem, List.mem_append, List.mem_append, or_comm]
theorem res_comm (hf : (resE b a v == 0) = true) (ha : a.contains (0 - v) = false) (hb : b.contains v = false) : resL a b v = resL b a v := by
  have hv := res_rng hf
  rw [Int.zero_sub] at ha
  have h1 : onB b a v = false := by unfold onB; rw [hb]; rfl
  have h2 : onB b a (-v) = true := by
    unfold resE at hf
    rw [if_pos hv, h1] at hf
    cases h : onB b a (-v) with
    | true => rfl
    | false => rw [h] at hf; simp at hf
  have h3 : onB a b v = true := by
    unfold onB at h2 ⊢
    rw [Int.neg_neg] at h2
    rw [Bool.and_comm]; exact h2
  unfold resL
  rw [if_pos hv, if_pos hv, h3, h1, h2]
  simp only [if_true, Bool.false_eq_true, if_false]
  unfold resOn
  rw [Int.neg_neg, norm_comm]
theorem mem_resOn {y : Int} : y ∈ resOn a b x ↔ ((y ∈ a ∧ y ≠ x) ∨ (y ∈ b ∧ y ≠ -x)) ∧ mayP y 65536 = true := by
  unfold resOn
  rw [norm_mem, List.mem_append, List.mem_filter, List.mem_filter]
  simp
theorem res_fits (hl : a.length = 1) (h : resE a b v = 0) : (!((resL a b v).any fun x => !(b.contains x))) = true := by
  obtain ⟨x, hx, -, e⟩ := res_how h
  rw [e]
  refine sub_iff.2 fun y hy => ?_
  rcases (mem_resOn.1 hy).1 with ⟨h1, h2⟩ | ⟨h1, _⟩
  · match a, hl with
    | [z], _ =>
      simp at hx h1
      exact absurd (h1.trans hx.symm) h2
  · exact h1
theorem res_sound (h : resE a b v = 0) (ha : holdsV w a = true) (hb : holdsV w b = true) : holdsV w (resL a b v) = true := by
  obtain ⟨x, hx, hy, e⟩ := res_how h
  rw [e]
  obtain ⟨p, p1, p2⟩ := holds_iff.1 ha
  obtain ⟨q, q1, q2⟩ := holds_iff.1 hb
  by_cases hp : p = x
  · by_cases hq : q = -x
    · subst hp hq
      rw [lit_neg (lit_may p2), p2] at q2
      cases q2
    · exact holds_iff.2 ⟨q, mem_resOn.2 ⟨.inr ⟨q1, hq⟩, lit_may q2⟩, q2⟩
  · exact holds_iff.2 ⟨p, mem_resOn.2 ⟨.inl ⟨p1, hp⟩, lit_may p2⟩, p2⟩
/-! ### what falsifies a clause -/
def trF (y : List Int) : List Bool := (List.range 65537).map fun (k : Nat) => y.contains (-(k : Int))
theorem trF_len (y : List Int) : (trF y).length = 65537 := by unfold trF; rw [List.length_map, List.length_range]
theorem trF_at {y : List Int} {k : Nat} (h : k < 65537) : (trF y).getD k false = y.contains (-(k : Int)) := by
  unfold trF; rw [List.getD_eq_getElem?_getD, List.getElem?_map, List.getElem?_range h]; rfl
theorem trF_nil : List.replicate 65537 false = trF [] := by
  apply List.ext_getElem?
  intro k
  unfold trF
  rw [List.getElem?_replicate, List.getElem?_map]
  by_cases h : k < 65537
  · rw [if_pos h, List.getElem?_range h]; rfl
  · rw [if_neg h, List.getElem?_eq_none (by rw [List.length_range]; omega)]; rfl
theorem take_c {y : List Int} {i : Nat} (hi : i < y.length) (z : Int) : (y.take (i + 1)).contains z = ((y.take i).contains z || y.getD i 0 == z) := by
  have e : y[i] = y.getD i 0 := by rw [List.getD_eq_getElem?_getD, List.getElem?_eq_getElem hi]; rfl
  rw [List.take_succ_eq_append_getElem hi, e, Bool.eq_iff_iff, Bool.or_eq_true, List.contains_iff_mem, List.contains_iff_mem, List.mem_append, List.mem_singleton, beq_iff_eq]
  exact or_congr_right ⟨Eq.symm, Eq.symm⟩
theorem trF_next {y : List Int} {i : Nat} (hi : i < y.length) (h : y.getD i 0 < 0) (h2 : -65536 ≤ y.getD i 0) : (trF (y.take i)).set (0 - y.getD i 0).toNat true = trF (y.take (i + 1)) := by
  apply List.ext_getElem?
  intro k
  rw [List.getElem?_set]
  by_cases hk : k < 65537
  · have e : ∀ z, (trF z)[k]? = some (z.contains (-(k : Int))) := fun z => by unfold trF; rw [List.getElem?_map, List.getElem?_range hk]; rfl
    rw [e, e, take_c hi, trF_len]
    by_cases hz : (0 - y.getD i 0).toNat = k
    · rw [if_pos hz, if_pos (by omega), show (y.getD i 0 == -(k : Int)) = true by rw [beq_iff_eq]; omega, Bool.or_true]
    · rw [if_neg hz, show (y.getD i 0 == -(k : Int)) = false by rw [beq_eq_false_iff_ne]; omega, Bool.or_false]
  · rw [if_neg (by omega)]
    rw [List.getElem?_eq_none (by rw [trF_len]; omega), List.getElem?_eq_none (by rw [trF_len]; omega)]
theorem trF_skip {y : List Int} {i : Nat} (hi : i < y.length) (h : (decide (y.getD i 0 < 0) && decide (y.getD i 0 ≥ -65536)) = false) (h2 : -65536 ≤ y.getD i 0) (h0 : y.getD i 0 ≠ 0) : trF (y.take i) = trF (y.take (i + 1)) := by
  have h9 : ¬ y.getD i 0 < 0 := by
    intro hh; rw [decide_eq_true hh, decide_eq_true (show y.getD i 0 ≥ -65536 by omega)] at h; cases h
  unfold trF
  apply List.map_congr_left
  intro k hk
  rw [take_c hi, show (y.getD i 0 == -(k : Int)) = false by rw [beq_eq_false_iff_ne]; omega, Bool.or_false]
theorem lit_val (h : mayP x 65536 = true) (hl : w.length = 65537) : litV w x = (w.getD x.natAbs false == decide (0 < x)) := by
  unfold litV
  have := mayP_iff.1 h
  rw [h, Bool.true_and, decide_eq_true (show x.natAbs < w.length by omega), Bool.true_and]
/-- x is no literal of the clause y (no tautology): the truths that falsify y, turned so that x holds, falsify y still. -/
theorem sub_wit (ht : tautL b = false) (hx : x ∈ normL a) (hn : (normL b).contains x = false) :
    (holdsV ((trF (normL b)).set x.natAbs (decide (0 < x))) a && !(holdsV ((trF (normL b)).set x.natAbs (decide (0 < x))) b)) = true := by
  have hm := (norm_mem.1 hx).2
  have hb := mayP_iff.1 hm
  have hl : ((trF (normL b)).set x.natAbs (decide (0 < x))).length = 65537 := by rw [List.length_set, trF_len]
  have hat : ∀ k : Nat, k < 65537 → ((trF (normL b)).set x.natAbs (decide (0 < x))).getD k false = if k = x.natAbs then decide (0 < x) else (normL b).contains (-(k : Int)) := fun k hk => by
    rw [List.getD_eq_getElem?_getD, List.getElem?_set]
    by_cases e : k = x.natAbs
    · rw [if_pos e.symm, if_pos e, if_pos (by rw [trF_len]; omega)]; rfl
    · rw [if_neg (fun h => e h.symm), if_neg e, ← List.getD_eq_getElem?_getD, trF_at hk]
  rw [Bool.and_eq_true_iff]
  constructor
  · refine holds_iff.2 ⟨x, (norm_mem.1 hx).1, ?_⟩
    rw [lit_val hm hl, hat _ (by omega), if_pos rfl]
    exact beq_self_eq_true _
  · rw [← holds_norm, Bool.not_eq_true']
    cases hh : holdsV ((trF (normL b)).set x.natAbs (decide (0 < x))) (normL b) with
    | false => rfl
    | true =>
      exfalso
      obtain ⟨z, z1, z2⟩ := holds_iff.1 hh
      have zm := (norm_mem.1 z1).2
      have zb := mayP_iff.1 zm
      rw [lit_val zm hl, hat _ (by omega), beq_iff_eq] at z2
      have hnx : x ∉ normL b := fun h => by rw [List.contains_iff_mem.2 h] at hn; cases hn
      by_cases e : z.natAbs = x.natAbs
      · rw [if_pos e] at z2
        have hs : 0 < x ↔ 0 < z := by rw [← decide_eq_decide]; exact z2
        have : z = x := by omega
        exact hnx (this ▸ z1)
      · rw [if_neg e] at z2
        by_cases hz : 0 < z
        · rw [decide_eq_true hz] at z2
          have hz2 : -z ∈ normL b := by
            rw [show (-(z.natAbs : Int)) = -z by omega] at z2
            exact List.contains_iff_mem.1 z2
          have := taut_iff.2 ⟨z, z1, hz2⟩
          rw [ht] at this; cases this
        · rw [decide_eq_false hz] at z2
          rw [show (-(z.natAbs : Int)) = z by omega, List.contains_iff_mem.2 z1] at z2
          cases z2
theorem rs_fin (h : resE a b v = 0) : true = (((((a.length : Int) == 1) && (!((resL a b v).any fun x => !(b.contains x)))) || ((a.length : Int) != 1)) && ((!(holdsV w a) || !(holdsV w b)) || holdsV w (resL a b v))) := by
  have h1 : ((((a.length : Int) == 1) && (!((resL a b v).any fun x => !(b.contains x)))) || ((a.length : Int) != 1)) = true := by
    by_cases hl : a.length = 1
    · rw [res_fits hl h, hl]; rfl
    · rw [show ((a.length : Int) != 1) = true by rw [bne_iff_ne]; omega, Bool.or_true]
  rw [h1, Bool.true_and]
  cases ha : holdsV w a with
  | false => rfl
  | true =>
    cases hb : holdsV w b with
    | false => rfl
    | true => rw [res_sound h ha hb]; rfl
theorem ss_is (h : (!(a.any fun x => !(b.contains x))) = true) : true = (!(holdsV w a) || holdsV w b) := by
  cases ha : holdsV w a with
  | false => rfl
  | true => rw [sub_holds h ha]; rfl
theorem ss_wit (ht : tautL b = false) (hx : x ∈ normL a) (hn : (normL b).contains x = false) :
    true = (holdsV ((trF (normL b)).set (max x (0 - x)).toNat (decide (x > 0))) a && !(holdsV ((trF (normL b)).set (max x (0 - x)).toNat (decide (x > 0))) b)) := by
  rw [show (max x (0 - x)).toNat = x.natAbs by omega]
  exact (sub_wit ht hx hn).symm
end Go.Proofs.YtiokflebeojokaaGreatDoor.Cn
