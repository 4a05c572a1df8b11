/- Plain facts for the laws of layer 14. -/
import Derived.Test.YtbpbndlgfiammaaGreatDoorGetP
import Derived.Test.YtbpbndlgfiammaaGreatDoorCnfR
import Derived.Test.YtbpbndlgfiammaaGreatDoorPutP
set_option linter.unusedSimpArgs false
set_option linter.unusedVariables false
set_option linter.unnecessarySimpa false
namespace Go.Proofs.YtbpbndlgfiammaaGreatDoor.Cn
theorem val_no {N : Int} {L : List (List Int)} {a : List Bool} {k : Nat} (hk : k < L.length) (h : holdsV a (L.getD k []) = false) : valV N L a = false := by
  have : L.all (holdsV a) = false := List.all_eq_false.2 ⟨L[k], List.getElem_mem hk, by rw [List.getD_eq_getElem?_getD, List.getElem?_eq_getElem hk] at h; simpa using h⟩
  unfold valV; rw [this, Bool.and_false]
theorem val_yes {N : Int} {L : List (List Int)} {a : List Bool} (h : ∀ j, j < L.length → holdsV a (L.getD j []) = true) : valV N L a = (chkV N L == 0) := by
  have : L.all (holdsV a) = true := List.all_eq_true.2 fun l hl => by
    obtain ⟨j, hj, rfl⟩ := List.getElem_of_mem hl
    have := h j hj
    rwa [List.getD_eq_getElem?_getD, List.getElem?_eq_getElem hj] at this
  unfold valV; rw [this, Bool.and_true]
theorem sub_no {a b : List Int} {k : Nat} (hk : k < a.length) (h : b.contains (a.getD k 0) = false) : (!(a.any fun x => !(b.contains x))) = false := by
  have : (a.any fun x => !(b.contains x)) = true := List.any_eq_true.2 ⟨a[k], List.getElem_mem hk, by rw [List.getD_eq_getElem?_getD, List.getElem?_eq_getElem hk] at h; simp only [Option.getD_some] at h; rw [h]; rfl⟩
  rw [this]; rfl
theorem sub_yes {a b : List Int} (h : ∀ j, j < a.length → b.contains (a.getD j 0) = true) : (!(a.any fun x => !(b.contains x))) = true := by
  have : (a.any fun x => !(b.contains x)) = false := List.any_eq_false.2 fun x hx => by
    obtain ⟨j, hj, rfl⟩ := List.getElem_of_mem hx
    have := h j hj
    rw [List.getD_eq_getElem?_getD, List.getElem?_eq_getElem hj] at this
    simp only [Option.getD_some] at this
    rw [this]; simp
  rw [this]; rfl
end Go.Proofs.YtbpbndlgfiammaaGreatDoor.Cn
namespace Go.Proofs.YtbpbndlgfiammaaGreatDoor.Cn
theorem resL_len (a b : List Int) (v : Int) : (resL a b v).length ≤ a.length + b.length := by
  have hn : ∀ x, (resOn a b x).length ≤ a.length + b.length := fun x => by
    unfold resOn
    refine Nat.le_trans (norm_len _) ?_
    rw [List.length_append]
    exact Nat.add_le_add (List.length_filter_le _ _) (List.length_filter_le _ _)
  unfold resL
  split
  · split
    · exact hn v
    · split
      · exact hn (-v)
      · simp
  · simp
end Go.Proofs.YtbpbndlgfiammaaGreatDoor.Cn
namespace Go.Proofs.YtbpbndlgfiammaaGreatDoor.Cn
variable {a b l t : List Int} {w : List Bool} {v x : Int}
theorem holds_iff {l : List Int} : holdsV w l = true ↔ ∃ x, x ∈ l ∧ litV w x = true := by unfold holdsV; exact List.any_eq_true
theorem lit_may (h : litV w x = true) : mayP x 65536 = true := by unfold litV at h; exact (Bool.and_eq_true_iff.1 h).1
theorem may_negR : mayP (-x) 65536 = mayP x 65536 := by
  rw [Bool.eq_iff_iff, mayP_iff, mayP_iff]; omega
theorem lit_neg (h : mayP x 65536 = true) : litV w (-x) = !(litV w x) := by
  unfold litV
  rw [may_negR, h, Int.natAbs_neg]
  have h0 := (mayP_iff.1 h).1
  generalize (decide (x.natAbs < w.length) && w.getD x.natAbs false) = u
  rw [Bool.true_and, Bool.true_and]
  by_cases hx : 0 < x
  · rw [decide_eq_true hx, decide_eq_false (show ¬ 0 < -x by omega)]; cases u <;> rfl
  · rw [decide_eq_false hx, decide_eq_true (show 0 < -x by omega)]; cases u <;> rfl
theorem holds_norm : holdsV w (normL l) = holdsV w l := by
  rw [Bool.eq_iff_iff, holds_iff, holds_iff]
  exact ⟨fun ⟨x, h1, h2⟩ => ⟨x, (norm_mem.1 h1).1, h2⟩, fun ⟨x, h1, h2⟩ => ⟨x, norm_mem.2 ⟨h1, lit_may h2⟩, h2⟩⟩
theorem taut_holds (h : tautL l = true) : holdsV w l = true := by
  obtain ⟨x, h1, h2⟩ := taut_iff.1 h
  cases hl : litV w x with
  | true => exact holds_iff.2 ⟨x, (norm_mem.1 h1).1, hl⟩
  | false => exact holds_iff.2 ⟨-x, (norm_mem.1 h2).1, by rw [lit_neg (norm_mem.1 h1).2, hl]; rfl⟩
theorem norm_idem : normL (normL l) = normL l := norm_of (norm_str l) fun x => ⟨fun h => ⟨h, (norm_mem.1 h).2⟩, And.left⟩
theorem taut_idem : tautL (normL l) = tautL l := by unfold tautL; rw [norm_idem]
theorem sub_iff : (!(a.any fun x => !(b.contains x))) = true ↔ ∀ x, x ∈ a → x ∈ b := by
  simp [List.any_eq_true]
theorem sub_norm : (!((normL l).any fun x => !(l.contains x))) = true := sub_iff.2 fun x h => (norm_mem.1 h).1
theorem sub_holds (h : (!(a.any fun x => !(b.contains x))) = true) (ha : holdsV w a = true) : holdsV w b = true := by
  obtain ⟨x, h1, h2⟩ := holds_iff.1 ha
  exact holds_iff.2 ⟨x, sub_iff.1 h x h1, h2⟩
theorem norm_round {i : Nat} (h : i < (normL l).length) : ((normL l).getD i 0 ≠ 0 ∧ -65536 ≤ (normL l).getD i 0 ∧ (normL l).getD i 0 ≤ 65536) ∧
    (0 < i → (((normL l).getD (i - 1) 0).natAbs < ((normL l).getD i 0).natAbs ∨ ((normL l).getD (i - 1) 0).natAbs = ((normL l).getD i 0).natAbs ∧ (normL l).getD i 0 < (normL l).getD (i - 1) 0) ∧ -65536 ≤ (normL l).getD (i - 1) 0 ∧ (normL l).getD (i - 1) 0 ≤ 65536) :=
  ⟨⟨norm_nz (getD_memL h), norm_bd h⟩, fun h0 => ⟨ahd_iff.1 (str_at (norm_str l) (show i - 1 < i by omega) h), norm_bd (by omega)⟩⟩
/-! ### resolving -/
theorem res_rng (h : (resE a b v == 0) = true) : 1 ≤ v ∧ v ≤ 65536 := by
  unfold resE at h
  by_cases hv : 1 ≤ v ∧ v ≤ 65536
  · exact hv
  · rw [if_neg hv] at h; cases h
theorem res_err (h : (resE a b v != 0) = true) : resL a b v = [] ∧ resE a b v = 140 := by
  unfold resE resL at *
  by_cases hv : 1 ≤ v ∧ v ≤ 65536
  · rw [if_pos hv] at h ⊢
    rw [if_pos hv]
    cases h1 : onB a b v <;> cases h2 : onB a b (-v) <;> simp_all
  · rw [if_neg hv, if_neg hv]; exact ⟨rfl, rfl⟩
theorem res_how (h : resE a b v = 0) : ∃ x, a.contains x = true ∧ b.contains (-x) = true ∧ resL a b v = resOn a b x := by
  have hv := res_rng (a := a) (b := b) (by rw [h]; rfl)
  unfold resE at h
  rw [if_pos hv] at h
  unfold resL
  rw [if_pos hv]
  cases h1 : onB a b v with
  | true =>
    rw [if_pos rfl]
    unfold onB at h1
    rw [Bool.and_eq_true_iff] at h1
    exact ⟨v, h1.1, h1.2, rfl⟩
  | false =>
    cases h2 : onB a b (-v) with
    | true =>
      rw [if_neg (by simp), if_pos rfl]
      unfold onB at h2
      rw [Bool.and_eq_true_iff] at h2
      exact ⟨-v, h2.1, h2.2, rfl⟩
    | false => rw [h1, h2] at h; simp at h
theorem norm_comm : normL (a ++ b) = normL (b ++ a) := norm_of (norm_str _) fun x => by
  rw [norm_mem, List.mem_append, List.mem_append, or_comm]
theorem res_comm (hf : (resE b a v == 0) = true) (ha : a.contains (0 - v) = false) (hb : b.contains v = false) : resL a b v = resL b a v := by
  have hv := res_rng hf
  rw [Int.zero_sub] at ha
  have h1 : onB b a v = false := by unfold onB; rw [hb]; rfl
  have h2 : onB b a (-v) = true := by
    unfold resE at hf
    rw [if_pos hv, h1] at hf
    cases h : onB b a (-v) with
    | true => rfl
    | false => rw [h] at hf; simp at hf
  have h3 : onB a b v = true := by
    unfold onB at h2 ⊢
    rw [Int.neg_neg] at h2
    rw [Bool.and_comm]; exact h2
  unfold resL
  rw [if_pos hv, if_pos hv, h3, h1, h2]
  simp only [if_true, Bool.false_eq_true, if_false]
  unfold resOn
  rw [Int.neg_neg, norm_comm]
theorem mem_resOn {y : Int} : y ∈ resOn a b x ↔ ((y ∈ a ∧ y ≠ x) ∨ (y ∈ b ∧ y ≠ -x)) ∧ mayP y 65536 = true := by
  unfold resOn
  rw [norm_mem, List.mem_append, List.mem_filter, List.mem_filter]
  simp
theorem res_fits (hl : a.length = 1) (h : resE a b v = 0) : (!((resL a b v).any fun x => !(b.contains x))) = true := by
  obtain ⟨x, hx, -, e⟩ := res_how h
  rw [e]
  refine sub_iff.2 fun y hy => ?_
  rcases (mem_resOn.1 hy).1 with ⟨h1, h2⟩ | ⟨h1, _⟩
  · match a, hl with
    | [z], _ =>
      simp at hx h1
      exact absurd (h1.trans hx.symm) h2
  · exact h1
theorem res_sound (h : resE a b v = 0) (ha : holdsV w a = true) (hb : holdsV w b = true) : holdsV w (resL a b v) = true := by
  obtain ⟨x, hx, hy, e⟩ := res_how h
  rw [e]
  obtain ⟨p, p1, p2⟩ := holds_iff.1 ha
  obtain ⟨q, q1, q2⟩ := holds_iff.1 hb
  by_cases hp : p = x
  · by_cases hq : q = -x
    · subst hp hq
      rw [lit_neg (lit_may p2), p2] at q2
      cases q2
    · exact holds_iff.2 ⟨q, mem_resOn.2 ⟨.inr ⟨q1, hq⟩, lit_may q2⟩, q2⟩
  · exact holds_iff.2 ⟨p, mem_resOn.2 ⟨.inl ⟨p1, hp⟩, lit_may p2⟩, p2⟩
/-! ### what falsifies a clause -/
def trF (y : List Int) : List Bool := (List.range 65537).map fun (k : Nat) => y.contains (-(k : Int))
theorem trF_len (y : List Int) : (trF y).length = 65537 := by unfold trF; rw [List.length_map, List.length_range]
theorem trF_at {y : List Int} {k : Nat} (h : k < 65537) : (trF y).getD k false = y.contains (-(k : Int)) := by
  unfold trF; rw [List.getD_eq_getElem?_getD, List.getElem?_map, List.getElem?_range h]; rfl
theorem trF_nil : List.replicate 65537 false = trF [] := by
  apply List.ext_getElem?
  intro k
  unfold trF
  rw [List.getElem?_replicate, List.getElem?_map]
  by_cases h : k < 65537
  · rw [if_pos h, List.getElem?_range h]; rfl
  · rw [if_neg h, List.getElem?_eq_none (by rw [List.length_range]; omega)]; rfl
theorem take_c {y : List Int} {i : Nat} (hi : i < y.length) (z : Int) : (y.take (i + 1)).contains z = ((y.take i).contains z || y.getD i 0 == z) := by
  have e : y[i] = y.getD i 0 := by rw [List.getD_eq_getElem?_getD, List.getElem?_eq_getElem hi]; rfl
  rw [List.take_succ_eq_append_getElem hi, e, Bool.eq_iff_iff, Bool.or_eq_true, List.contains_iff_mem, List.contains_iff_mem, List.mem_append, List.mem_singleton, beq_iff_eq]
  exact or_congr_right ⟨Eq.symm, Eq.symm⟩
theorem trF_next {y : List Int} {i : Nat} (hi : i < y.length) (h : y.getD i 0 < 0) (h2 : -65536 ≤ y.getD i 0) : (trF (y.take i)).set (0 - y.getD i 0).toNat true = trF (y.take (i + 1)) := by
  apply List.ext_getElem?
  intro k
  rw [List.getElem?_set]
  by_cases hk : k < 65537
  · have e : ∀ z, (trF z)[k]? = some (z.contains (-(k : Int))) := fun z => by unfold trF; rw [List.getElem?_map, List.getElem?_range hk]; rfl
    rw [e, e, take_c hi, trF_len]
    by_cases hz : (0 - y.getD i 0).toNat = k
    · rw [if_pos hz, if_pos (by omega), show (y.getD i 0 == -(k : Int)) = true by rw [beq_iff_eq]; omega, Bool.or_true]
    · rw [if_neg hz, show (y.getD i 0 == -(k : Int)) = false by rw [beq_eq_false_iff_ne]; omega, Bool.or_false]
  · rw [if_neg (by omega)]
    rw [List.getElem?_eq_none (by rw [trF_len]; omega), List.getElem?_eq_none (by rw [trF_len]; omega)]
theorem trF_skip {y : List Int} {i : Nat} (hi : i < y.length) (h : (decide (y.getD i 0 < 0) && decide (y.getD i 0 ≥ -65536)) = false) (h2 : -65536 ≤ y.getD i 0) (h0 : y.getD i 0 ≠ 0) : trF (y.take i) = trF (y.take (i + 1)) := by
  have h9 : ¬ y.getD i 0 < 0 := by
    intro hh; rw [decide_eq_true hh, decide_eq_true (show y.getD i 0 ≥ -65536 by omega)] at h; cases h
  unfold trF
  apply List.map_congr_left
  intro k hk
  rw [take_c hi, show (y.getD i 0 == -(k : Int)) = false by rw [beq_eq_false_iff_ne]; omega, Bool.or_false]
theorem lit_val (h : mayP x 65536 = true) (hl : w.length = 65537) : litV w x = (w.getD x.natAbs false == decide (0 < x)) := by
  unfold litV
  have := mayP_iff.1 h
  rw [h, Bool.true_and, decide_eq_true (show x.natAbs < w.length by omega), Bool.true_and]
/-- x is no literal of the clause y (no tautology): the truths that falsify y, turned so that x holds, falsify y still. -/
theorem sub_wit (ht : tautL b = false) (hx : x ∈ normL a) (hn : (normL b).contains x = false) :
    (holdsV ((trF (normL b)).set x.natAbs (decide (0 < x))) a && !(holdsV ((trF (normL b)).set x.natAbs (decide (0 < x))) b)) = true := by
  have hm := (norm_mem.1 hx).2
  have hb := mayP_iff.1 hm
  have hl : ((trF (normL b)).set x.natAbs (decide (0 < x))).length = 65537 := by rw [List.length_set, trF_len]
  have hat : ∀ k : Nat, k < 65537 → ((trF (normL b)).set x.natAbs (decide (0 < x))).getD k false = if k = x.natAbs then decide (0 < x) else (normL b).contains (-(k : Int)) := fun k hk => by
    rw [List.getD_eq_getElem?_getD, List.getElem?_set]
    by_cases e : k = x.natAbs
    · rw [if_pos e.symm, if_pos e, if_pos (by rw [trF_len]; omega)]; rfl
    · rw [if_neg (fun h => e h.symm), if_neg e, ← List.getD_eq_getElem?_getD, trF_at hk]
  rw [Bool.and_eq_true_iff]
  constructor
  · refine holds_iff.2 ⟨x, (norm_mem.1 hx).1, ?_⟩
    rw [lit_val hm hl, hat _ (by omega), if_pos rfl]
    exact beq_self_eq_true _
  · rw [← holds_norm, Bool.not_eq_true']
    cases hh : holdsV ((trF (normL b)).set x.natAbs (decide (0 < x))) (normL b) with
    | false => rfl
    | true =>
      exfalso
      obtain ⟨z, z1, z2⟩ := holds_iff.1 hh
      have zm := (norm_mem.1 z1).2
      have zb := mayP_iff.1 zm
      rw [lit_val zm hl, hat _ (by omega), beq_iff_eq] at z2
      have hnx : x ∉ normL b := fun h => by rw [List.contains_iff_mem.2 h] at hn; cases hn
      by_cases e : z.natAbs = x.natAbs
      · rw [if_pos e] at z2
        have hs : 0 < x ↔ 0 < z := by rw [← decide_eq_decide]; exact z2
        have : z = x := by omega
        exact hnx (this ▸ z1)
      · rw [if_neg e] at z2
        by_cases hz : 0 < z
        · rw [decide_eq_true hz] at z2
          have hz2 : -z ∈ normL b := by
            rw [show (-(z.natAbs : Int)) = -z by omega] at z2
            exact List.contains_iff_mem.1 z2
          have := taut_iff.2 ⟨z, z1, hz2⟩
          rw [ht] at this; cases this
        · rw [decide_eq_false hz] at z2
          rw [show (-(z.natAbs : Int)) = z by omega, List.contains_iff_mem.2 z1] at z2
          cases z2
theorem rs_fin (h : resE a b v = 0) : true = (((((a.length : Int) == 1) && (!((resL a b v).any fun x => !(b.contains x)))) || ((a.length : Int) != 1)) && ((!(holdsV w a) || !(holdsV w b)) || holdsV w (resL a b v))) := by
  have h1 : ((((a.length : Int) == 1) && (!((resL a b v).any fun x => !(b.contains x)))) || ((a.length : Int) != 1)) = true := by
    by_cases hl : a.length = 1
    · rw [res_fits hl h, hl]; rfl
    · rw [show ((a.length : Int) != 1) = true by rw [bne_iff_ne]; omega, Bool.or_true]
  rw [h1, Bool.true_and]
  cases ha : holdsV w a with
  | false => rfl
  | true =>
    cases hb : holdsV w b with
    | false => rfl
    | true => rw [res_sound h ha hb]; rfl
theorem ss_is (h : (!(a.any fun x => !(b.contains x))) = true) : true = (!(holdsV w a) || holdsV w b) := by
  cases ha : holdsV w a with
  | false => rfl
  | true => rw [sub_holds h ha]; rfl
theorem ss_wit (ht : tautL b = false) (hx : x ∈ normL a) (hn : (normL b).contains x = false) :
    true = (holdsV ((trF (normL b)).set (max x (0 - x)).toNat (decide (x > 0))) a && !(holdsV ((trF (normL b)).set (max x (0 - x)).toNat (decide (x > 0))) b)) := by
  rw [show (max x (0 - x)).toNat = x.natAbs by omega]
  exact (sub_wit ht hx hn).symm
end Go.Proofs.YtbpbndlgfiammaaGreatDoor.Cn
namespace Go.Proofs.YtbpbndlgfiammaaGreatDoor.Cn
open Go
/-- lines, byte by byte: the open line, the closed ones -/
def lstep (s : List Int × List (List Int)) (x : Int) : List Int × List (List Int) := if x = 10 then ([], s.2 ++ [s.1]) else (s.1 ++ [x], s.2)
def lfold (xs : List Int) : List Int × List (List Int) := xs.foldl lstep ([], [])
def linesR (xs : List Int) : List (List Int) := (lfold xs).2 ++ [(lfold xs).1]
def fstep (s : List Int × List (List Int)) (x : Int) : List Int × List (List Int) := if sepB x = true then (if s.1 = [] then s else ([], s.2 ++ [s.1])) else (s.1 ++ [x], s.2)
def ffold (xs : List Int) : List Int × List (List Int) := xs.foldl fstep ([], [])
def fieldsR (xs : List Int) : List (List Int) := if (ffold xs).1 = [] then (ffold xs).2 else (ffold xs).2 ++ [(ffold xs).1]
def lineW (l : List Int) : List (List Int) := if 0 < l.length ∧ l.getD 0 0 = 99 then [] else fieldsR l
def wordsR (xs : List Int) : List (List Int) := (linesR xs).flatMap lineW
theorem take_s {xs : List Int} {i : Nat} (h : i < xs.length) : xs.take (i + 1) = xs.take i ++ [xs.getD i 0] := by
  rw [List.take_succ_eq_append_getElem h, List.getD_eq_getElem?_getD, List.getElem?_eq_getElem h]; rfl
theorem fold_s {α : Type} (f : α → Int → α) (z : α) {xs : List Int} {i : Nat} (h : i < xs.length) : (xs.take (i + 1)).foldl f z = f ((xs.take i).foldl f z) (xs.getD i 0) := by
  rw [take_s h, List.foldl_append]; rfl
theorem drop_s {xs : List Int} {i s : Nat} (h : i < xs.length) (hs : s ≤ i) : (xs.take (i + 1)).drop s = (xs.take i).drop s ++ [xs.getD i 0] := by
  rw [take_s h, List.drop_append_of_le_length (by rw [List.length_take]; omega)]
theorem ln_is (xs : List Int) : ∀ i, i ≤ xs.length → (xs.take i).foldl lstep ([], []) = ((xs.take i).drop (lnS xs i).1, (lnS xs i).2.map (cut xs))
  | 0, _ => by simp [lnS]
  | i + 1, h => by
    have ih := ln_is xs i (by omega)
    have hs := (ln_st xs i).1
    rw [fold_s _ _ (by omega), ih, lnS]
    unfold lstep
    by_cases hx : xs.getD i 0 = 10
    · rw [if_pos hx, if_pos hx, List.map_append]
      simp [cut]
    · rw [if_neg hx, if_neg hx, drop_s (by omega) hs]
theorem lines_is (xs : List Int) : linesR xs = (lnE xs).map (cut xs) := by
  have h := ln_is xs xs.length (Nat.le_refl _)
  rw [List.take_length] at h
  unfold linesR lfold lnE
  rw [h, List.map_append]
  simp [cut]
theorem fd_is (xs : List Int) : ∀ i, i ≤ xs.length → (xs.take i).foldl fstep ([], []) = (if (fldS xs i).1 < 0 then [] else (xs.take i).drop (fldS xs i).1.toNat, (fldS xs i).2.map (cut xs))
  | 0, _ => by simp [fldS]
  | i + 1, h => by
    have ih := fd_is xs i (by omega)
    have hs := (fld_st xs i).1
    rw [fold_s _ _ (by omega), ih]
    unfold fstep
    by_cases hx : sepB (xs.getD i 0) = true
    · by_cases h0 : (fldS xs i).1 < 0
      · rw [fld_idle hx h0, if_pos hx, if_pos h0, if_pos rfl, if_pos h0]
      · have hne : (xs.take i).drop (fldS xs i).1.toNat ≠ [] := fun e => by
          have := congrArg List.length e
          rw [List.length_drop, List.length_take] at this
          simp at this
          omega
        rw [fld_close hx (by omega), if_pos hx, if_neg h0, if_neg hne]
        simp [cut]
    · have e : fldS xs (i + 1) = if (fldS xs i).1 < 0 then ((i : Int), (fldS xs i).2) else fldS xs i := by rw [fldS, if_neg hx]
      rw [e, if_neg hx]
      by_cases h0 : (fldS xs i).1 < 0
      · rw [if_pos h0, if_pos h0, if_neg (by show ¬ ((i : Int) < 0); omega)]
        rw [show ((i : Int), (fldS xs i).2).1.toNat = i by simp, drop_s (by omega) (Nat.le_refl _), List.drop_eq_nil_of_le (by rw [List.length_take]; omega)]
      · rw [if_neg h0, if_neg h0, if_neg h0, drop_s (by omega) (by omega)]
theorem fields_is (xs : List Int) : fieldsR xs = (fldE xs).map (cut xs) := by
  have h := fd_is xs xs.length (Nat.le_refl _)
  rw [List.take_length] at h
  have hs := (fld_st xs xs.length).1
  unfold fieldsR ffold fldE
  rw [h]
  by_cases h0 : (fldS xs xs.length).1 < 0
  · simp only [if_pos h0, if_true, if_neg (show ¬ (0 ≤ (fldS xs xs.length).1) by omega)]
  · have hne : xs.drop (fldS xs xs.length).1.toNat ≠ [] := fun e => by
      have := congrArg List.length e
      rw [List.length_drop] at this
      simp at this
      omega
    simp only [if_neg h0, if_neg hne, if_pos (show 0 ≤ (fldS xs xs.length).1 by omega), List.map_append, List.map_cons, List.map_nil]
    simp [cut]
theorem cut_cut {xs : List Int} {q r : Nat × Nat} (hr : r.2 ≤ (cut xs q).length) (hq : q.1 ≤ q.2) (hq2 : q.2 ≤ xs.length) : cut (cut xs q) r = cut xs (q.1 + r.1, q.1 + r.2) := by
  rw [cut_len hq2] at hr
  unfold cut
  rw [List.take_drop, List.take_take, List.drop_drop, Nat.min_eq_left (by omega)]
theorem words_fl (xs : List Int) : ∀ k, wrdS xs k = ((List.range k).flatMap fun j => lnW xs ((lnE xs).getD j (0, 0)))
  | 0 => rfl
  | k + 1 => by rw [wrdS, words_fl xs k, List.range_succ, List.flatMap_append]; simp
theorem range_fl {α β : Type} (f : α → List β) (d : α) (l : List α) : ((List.range l.length).flatMap fun j => f (l.getD j d)) = l.flatMap f := by
  have e : l = (List.range l.length).map fun j => l.getD j d := by
    apply List.ext_getElem
    · simp
    · intro i h1 h2
      simp [List.getD, h1]
  conv => rhs; rw [e, List.flatMap_map]
theorem line_is {xs : List Int} {q : Nat × Nat} (h : q.1 ≤ q.2 ∧ q.2 ≤ xs.length) : (lnW xs q).map (cut xs) = lineW (cut xs q) := by
  unfold lnW lineW
  have hc := cut_len (q := q) h.2
  by_cases h0 : q.1 < q.2
  · have hg := cut_getD (xs := xs) (q := q) (j := 0) (by omega)
    rw [Nat.add_zero] at hg
    rw [hg]
    by_cases h1 : xs.getD q.1 0 = 99
    · rw [if_pos ⟨h0, h1⟩, if_pos ⟨by omega, h1⟩]; rfl
    · rw [if_neg (fun h => h1 h.2), if_neg (fun h => h1 h.2), fields_is, List.map_map]
      refine List.map_congr_left fun r hr => ?_
      have := fld_bd (xs := cut xs q) r hr
      exact (cut_cut this.2 h.1 h.2).symm
  · rw [if_neg (fun h => h0 h.1), if_neg (fun h => by omega), fields_is, List.map_map]
    refine List.map_congr_left fun r hr => ?_
    have := fld_bd (xs := cut xs q) r hr
    exact (cut_cut this.2 h.1 h.2).symm
theorem words_is (xs : List Int) : wordsV xs = wordsR xs := by
  unfold wordsV wrdE wordsR
  rw [words_fl, range_fl (lnW xs), lines_is, List.map_flatMap, List.flatMap_map, List.flatMap_def, List.flatMap_def]
  exact congrArg _ (List.map_congr_left fun q hq => line_is (ln_bd q hq))
/-! ### putting together -/
theorem lstep_no : ∀ (A : List Int) (c : List Int) (d : List (List Int)), (∀ x ∈ A, x ≠ 10) → A.foldl lstep (c, d) = (c ++ A, d)
  | [], c, d, _ => by simp
  | x :: A, c, d, h => by
    rw [List.foldl_cons, show lstep (c, d) x = (c ++ [x], d) from if_neg (h x (by simp)), lstep_no A _ _ fun y hy => h y (by simp [hy])]
    simp
theorem lines_cons {A B : List Int} (h : ∀ x ∈ A, x ≠ 10) : ∀ (d : List (List Int)), (A ++ 10 :: B).foldl lstep ([], d) = B.foldl lstep ([], d ++ [A]) := fun d => by
  rw [List.foldl_append, lstep_no A _ _ h, List.foldl_cons]
  exact congrArg (B.foldl lstep) (by show lstep ([] ++ A, d) 10 = _; unfold lstep; rw [if_pos rfl]; simp)
theorem lfold_d : ∀ (B c : List Int) (d : List (List Int)), B.foldl lstep (c, d) = ((B.foldl lstep (c, [])).1, d ++ (B.foldl lstep (c, [])).2)
  | [], c, d => by simp
  | x :: B, c, d => by
    rw [List.foldl_cons, List.foldl_cons]
    by_cases hx : x = 10
    · rw [show lstep (c, d) x = ([], d ++ [c]) from if_pos hx, show lstep (c, []) x = ([], [] ++ [c]) from if_pos hx, lfold_d B [] (d ++ [c]), lfold_d B [] ([] ++ [c])]
      simp
    · rw [show lstep (c, d) x = (c ++ [x], d) from if_neg hx, show lstep (c, []) x = (c ++ [x], []) from if_neg hx]
      exact lfold_d B _ d
theorem words_line {A B : List Int} (h : ∀ x ∈ A, x ≠ 10) : wordsR (A ++ 10 :: B) = lineW A ++ wordsR B := by
  unfold wordsR linesR lfold
  rw [lines_cons h, lfold_d B [] ([] ++ [A])]
  simp
theorem words_nil : wordsR [] = [] := rfl
theorem fstep_no : ∀ (A : List Int) (c : List Int) (d : List (List Int)), (∀ x ∈ A, sepB x = false) → A.foldl fstep (c, d) = (c ++ A, d)
  | [], c, d, _ => by simp
  | x :: A, c, d, h => by
    rw [List.foldl_cons, show fstep (c, d) x = (c ++ [x], d) from if_neg (by rw [h x (by simp)]; simp), fstep_no A _ _ fun y hy => h y (by simp [hy])]
    simp
theorem ffold_d : ∀ (B c : List Int) (d : List (List Int)), B.foldl fstep (c, d) = ((B.foldl fstep (c, [])).1, d ++ (B.foldl fstep (c, [])).2)
  | [], c, d => by simp
  | x :: B, c, d => by
    rw [List.foldl_cons, List.foldl_cons]
    by_cases hx : sepB x = true
    · by_cases hc : c = []
      · rw [show fstep (c, d) x = (c, d) by unfold fstep; rw [if_pos hx, if_pos hc], show fstep (c, []) x = (c, []) by unfold fstep; rw [if_pos hx, if_pos hc]]
        exact ffold_d B c d
      · rw [show fstep (c, d) x = ([], d ++ [c]) by unfold fstep; rw [if_pos hx, if_neg hc], show fstep (c, []) x = ([], [] ++ [c]) by unfold fstep; rw [if_pos hx, if_neg hc], ffold_d B [] (d ++ [c]), ffold_d B [] ([] ++ [c])]
        simp
    · rw [show fstep (c, d) x = (c ++ [x], d) from if_neg hx, show fstep (c, []) x = (c ++ [x], []) from if_neg hx]
      exact ffold_d B _ d
theorem fields_cons {A B : List Int} (h : ∀ x ∈ A, sepB x = false) (hn : A ≠ []) : fieldsR (A ++ 32 :: B) = A :: fieldsR B := by
  unfold fieldsR ffold
  rw [List.foldl_append, fstep_no A _ _ h, List.foldl_cons, show fstep ([] ++ A, []) 32 = ([], [A]) by unfold fstep; rw [if_pos (by decide), if_neg (by simpa using hn)]; simp, ffold_d B [] [A]]
  split <;> simp
theorem fields_one {A : List Int} (h : ∀ x ∈ A, sepB x = false) (hn : A ≠ []) : fieldsR A = [A] := by
  unfold fieldsR ffold
  rw [fstep_no A _ _ h]
  simp [hn]
/-! ### numerals -/
def dgs (u : Nat) : List Int := (Go.Lib.decDigits u).map fun b => (b.toNat : Int)
theorem dgs_lo {u : Nat} (h : u < 10) : dgs u = [48 + (u : Int)] := by
  unfold dgs
  rw [Go.Lib.decDigits_one h]
  have : (UInt8.ofNat (48 + u)).toNat = 48 + u := by rw [UInt8.toNat_ofNat']; omega
  simp only [List.map_cons, List.map_nil, this]
  simp
theorem dgs_hi {u : Nat} (h : ¬ u < 10) : dgs u = dgs (u / 10) ++ [48 + ((u % 10 : Nat) : Int)] := by
  unfold dgs
  rw [Go.Lib.decDigits, dif_neg h, List.map_append]
  have : (UInt8.ofNat (48 + u % 10)).toNat = 48 + u % 10 := by rw [UInt8.toNat_ofNat']; omega
  simp only [List.map_cons, List.map_nil, this]
  simp
theorem dgs_all : ∀ (u : Nat), (∀ x ∈ dgs u, 48 ≤ x ∧ x ≤ 57) ∧ dval (dgs u) = (u : Int) ∧ 1 ≤ (dgs u).length ∧ ((dgs u).getD 0 0 = 48 → u = 0) := fun u => by
  induction u using Nat.strongRecOn with
  | _ u ih =>
    by_cases h : u < 10
    · rw [dgs_lo h]
      exact ⟨fun x hx => by rw [List.mem_singleton] at hx; omega, by show 10 * 0 + (48 + (u : Int) - 48) = u; omega, by simp, fun h => by simp at h; omega⟩
    · obtain ⟨h1, h2, h3, h4⟩ := ih (u / 10) (by omega)
      rw [dgs_hi h]
      refine ⟨fun x hx => ?_, ?_, by simp, fun h9 => ?_⟩
      · rcases List.mem_append.1 hx with h9 | h9
        · exact h1 x h9
        · rw [List.mem_singleton] at h9; omega
      · rw [dval_snoc, h2]; omega
      · rw [List.getD_eq_getElem?_getD, List.getElem?_append_left (by omega), ← List.getD_eq_getElem?_getD] at h9
        have := h4 h9
        omega
theorem dgs_len : ∀ (k u : Nat), u < 10 ^ (k + 1) → (dgs u).length ≤ k + 1
  | 0, u, h => by rw [dgs_lo (by simpa using h)]; simp
  | k + 1, u, h => by
    by_cases h9 : u < 10
    · rw [dgs_lo h9]; simp
    · rw [dgs_hi h9, List.length_append]
      have := dgs_len k (u / 10) (by rw [Nat.pow_succ] at h; omega)
      simp; omega
theorem itoa_pos {n : Int} (h : 0 ≤ n) : itoaI n = dgs n.toNat := by unfold itoaI dgs Go.Lib.itoa; rw [if_neg (by omega)]
theorem itoa_neg {n : Int} (h : n < 0) : itoaI n = 45 :: dgs n.natAbs := by unfold itoaI dgs Go.Lib.itoa; rw [if_pos h]; rfl
theorem itoa_mem {n : Int} : ∀ x ∈ itoaI n, x = 45 ∨ (48 ≤ x ∧ x ≤ 57) := fun x hx => by
  by_cases h : n < 0
  · rw [itoa_neg h, List.mem_cons] at hx
    rcases hx with rfl | hx
    · exact .inl rfl
    · exact .inr ((dgs_all _).1 x hx)
  · rw [itoa_pos (by omega)] at hx
    exact .inr ((dgs_all _).1 x hx)
theorem itoa_ne (n : Int) : itoaI n ≠ [] := fun e => by
  by_cases h : n < 0
  · rw [itoa_neg h] at e; cases e
  · rw [itoa_pos (by omega)] at e
    have := (dgs_all n.toNat).2.2.1
    rw [e] at this; simp at this
theorem dig_all {u : Nat} : (dgs u).all isDg = true := List.all_eq_true.2 fun x hx => by
  have := (dgs_all u).1 x hx
  unfold isDg
  rw [decide_eq_false (show ¬ x < 48 by omega), decide_eq_false (show ¬ x > 57 by omega)]; rfl
theorem num_itoa {n : Int} (h1 : -65536 ≤ n) (h2 : n ≤ 65536) : numOk (itoaI n) = true ∧ numN (itoaI n) = n := by
  have key : ∀ u : Nat, u ≤ 65536 → (dgs u).length ≤ 5 := fun u hu => dgs_len 4 u (by omega)
  by_cases h : n < 0
  · have hM : numM (itoaI n) = true := by unfold numM; rw [itoa_neg h]; simp
    have hD : numD (itoaI n) = dgs n.natAbs := by rw [numD_t hM, List.take_length, itoa_neg h]; rfl
    obtain ⟨a1, a2, a3, a4⟩ := dgs_all n.natAbs
    have a5 := key n.natAbs (by omega)
    have hB : numBad (itoaI n) = false := by
      rw [bad_of hD, hM, show (((dgs n.natAbs).length : Int) == 0) = false by rw [beq_eq_false_iff_ne]; omega, decide_eq_false (show ¬ ((dgs n.natAbs).length : Int) > 10 by omega), show (((dgs n.natAbs).getD 0 0) == 48) = false by rw [beq_eq_false_iff_ne]; intro e; have := a4 e; omega]
      rfl
    have hO : numOk (itoaI n) = true := by unfold numOk; rw [hB, hD, dig_all]; rfl
    exact ⟨hO, by unfold numN; rw [hO, hM, hD, a2]; show -((n.natAbs : Nat) : Int) = n; omega⟩
  · have e := itoa_pos (n := n) (by omega)
    obtain ⟨a1, a2, a3, a4⟩ := dgs_all n.toNat
    have a5 := key n.toNat (by omega)
    have hM : numM (itoaI n) = false := by
      unfold numM
      rw [e]
      have : (dgs n.toNat).getD 0 0 ∈ dgs n.toNat := getD_memL (by omega)
      have := a1 _ this
      rw [show ((dgs n.toNat).getD 0 0 == 45) = false by rw [beq_eq_false_iff_ne]; omega, Bool.and_false]
    have hD : numD (itoaI n) = dgs n.toNat := by rw [numD_f hM, e]
    have hB : numBad (itoaI n) = false := by
      rw [bad_of hD, hM, show (((dgs n.toNat).length : Int) == 0) = false by rw [beq_eq_false_iff_ne]; omega, decide_eq_false (show ¬ ((dgs n.toNat).length : Int) > 10 by omega)]
      by_cases h0 : (dgs n.toNat).getD 0 0 = 48
      · have := a4 h0
        rw [this, dgs_lo (by omega)]; decide
      · rw [show (((dgs n.toNat).getD 0 0) == 48) = false by rw [beq_eq_false_iff_ne]; exact h0]; rfl
    have hO : numOk (itoaI n) = true := by unfold numOk; rw [hB, hD, dig_all]; rfl
    exact ⟨hO, by unfold numN; rw [hO, hM, hD, a2]; show ((n.toNat : Nat) : Int) = n; omega⟩
end Go.Proofs.YtbpbndlgfiammaaGreatDoor.Cn
namespace Go.Proofs.YtbpbndlgfiammaaGreatDoor.Cn
open Go
theorem itoa_sep {n x : Int} (h : x ∈ itoaI n) : sepB x = false ∧ x ≠ 10 ∧ x ≠ 99 := by
  have := itoa_mem x h
  have h1 : ¬ x = 32 := by omega
  have h2 : ¬ x = 9 := by omega
  have h3 : ¬ x = 13 := by omega
  exact ⟨by simp [sepB, h1, h2, h3], by omega, by omega⟩
theorem fields_lits : ∀ l : List Int, fieldsR (litsB l ++ [48]) = l.map itoaI ++ [[48]]
  | [] => by decide
  | x :: l => by
    have e : litsB (x :: l) ++ [48] = itoaI x ++ 32 :: (litsB l ++ [48]) := by simp [litsB]
    rw [e, fields_cons (fun y hy => (itoa_sep hy).1) (itoa_ne x), fields_lits l]; rfl
theorem lits_mem {l : List Int} : ∀ x ∈ litsB l, x = 32 ∨ x = 45 ∨ (48 ≤ x ∧ x ≤ 57) := fun x hx => by
  obtain ⟨y, _, h⟩ := List.mem_flatMap.1 hx
  rcases List.mem_append.1 h with h | h
  · exact .inr (itoa_mem x h)
  · rw [List.mem_singleton] at h; exact .inl h
theorem line_lits (l : List Int) : lineW (litsB l ++ [48]) = l.map itoaI ++ [[48]] := by
  have h : ¬ (0 < (litsB l ++ [48]).length ∧ (litsB l ++ [48]).getD 0 0 = 99) := fun h => by
    have hm : (litsB l ++ [48]).getD 0 0 ∈ litsB l ++ [48] := getD_memL h.1
    rw [h.2] at hm
    rcases List.mem_append.1 hm with h9 | h9
    · have := lits_mem _ h9; omega
    · rw [List.mem_singleton] at h9; omega
  unfold lineW
  rw [if_neg h, fields_lits]
theorem words_cls : ∀ L : List (List Int), wordsR (clsB L) = L.flatMap fun l => l.map itoaI ++ [[48]]
  | [] => rfl
  | l :: L => by
    have e : clsB (l :: L) = (litsB l ++ [48]) ++ 10 :: clsB L := by simp [clsB]
    rw [e, words_line (fun x hx => by
      rcases List.mem_append.1 hx with h9 | h9
      · have := lits_mem _ h9; omega
      · rw [List.mem_singleton] at h9; omega), line_lits, words_cls L]
    rfl
theorem words_put (N : Int) (L : List (List Int)) : wordsV (putB N L) = [112] :: [99, 110, 102] :: itoaI N :: itoaI L.length :: L.flatMap fun l => l.map itoaI ++ [[48]] := by
  have e : putB N L = ([112] ++ 32 :: ([99, 110, 102] ++ 32 :: (itoaI N ++ 32 :: itoaI L.length))) ++ 10 :: clsB L := by simp [putB, litsB]
  rw [words_is, e, words_line (fun x hx => by
    simp only [List.mem_append, List.mem_cons, List.not_mem_nil, or_false] at hx
    rcases hx with h | h | (h | h | h) | h | h | h | h
    all_goals first | omega | exact (itoa_sep h).2.1), words_cls]
  unfold lineW
  rw [if_neg (by simp), fields_cons (by decide) (by decide), fields_cons (by decide) (by decide), fields_cons (fun y hy => (itoa_sep hy).1) (itoa_ne N), fields_one (fun y hy => (itoa_sep hy).1) (itoa_ne _)]
  rfl
theorem num_0 : numOk [48] = true ∧ numN [48] = 0 := by decide
theorem spl_all : ∀ (L acc : List (List Int)), (∀ l ∈ L, ∀ x ∈ l, x ≠ 0) → spl (L.flatMap fun l => l ++ [0]) [] acc = some (acc ++ L)
  | [], acc, _ => by simp [spl]
  | l :: L, acc, h => by
    rw [List.flatMap_cons, List.append_assoc, spl_skip l _ _ _ (h l (by simp)), List.nil_append, List.singleton_append, spl, if_pos rfl, spl_all L _ fun m hm => h m (by simp [hm])]
    simp
theorem nums_fl {L : List (List Int)} (h : ∀ l ∈ L, ∀ x ∈ l, -65536 ≤ x ∧ x ≤ 65536) : (L.flatMap fun l => l.map itoaI ++ [[48]]).map numN = L.flatMap fun l => l ++ [0] := by
  rw [List.map_flatMap, List.flatMap_def, List.flatMap_def]
  refine congrArg _ (List.map_congr_left fun l hl => ?_)
  rw [List.map_append, List.map_map, List.map_cons, List.map_nil, num_0.2]
  congr 1
  conv => rhs; rw [← List.map_id l]
  exact List.map_congr_left fun x hx => (num_itoa (h l hl x hx).1 (h l hl x hx).2).2
theorem get_put {N : Int} {L : List (List Int)} (h : chkV N L = 0) : getV (wordsV (putB N L)) = (N, L, 0) := by
  obtain ⟨h0, h1, h2, h3⟩ := chk_lit h
  have hb : ∀ l ∈ L, ∀ x ∈ l, -65536 ≤ x ∧ x ≤ 65536 := fun l hl x hx => by have := h3 l hl x hx; omega
  have hN := num_itoa (n := N) (by omega) h1
  have hK := num_itoa (n := (L.length : Int)) (by omega) (by omega)
  rw [words_put]
  have hn : numsW ([112] :: [99, 110, 102] :: itoaI N :: itoaI L.length :: L.flatMap fun l => l.map itoaI ++ [[48]]) = N :: (L.length : Int) :: L.flatMap fun l => l ++ [0] := by
    unfold numsW
    rw [show ([112] :: [99, 110, 102] :: itoaI N :: itoaI L.length :: L.flatMap fun l => l.map itoaI ++ [[48]]).drop 2 = itoaI N :: itoaI L.length :: L.flatMap fun l => l.map itoaI ++ [[48]] from rfl, List.map_cons, List.map_cons, hN.2, hK.2, nums_fl hb]
  have hbad : badW ([112] :: [99, 110, 102] :: itoaI N :: itoaI L.length :: L.flatMap fun l => l.map itoaI ++ [[48]]) = false := get_ok fun i hi => by
    match i, hi with
    | 0, _ => rfl
    | 1, _ => rfl
    | 2, _ => show (numOk (itoaI N) && decide (0 ≤ numN (itoaI N))) = true; rw [hN.1, hN.2, decide_eq_true h0]; rfl
    | 3, _ => show (numOk (itoaI L.length) && decide (0 ≤ numN (itoaI L.length))) = true; rw [hK.1, hK.2, decide_eq_true (show (0 : Int) ≤ (L.length : Int) by omega)]; rfl
    | i + 4, hi =>
      unfold okW
      rw [if_neg (by omega), if_neg (by omega), if_neg (by omega)]
      have hm : (L.flatMap fun l => l.map itoaI ++ [[48]]).getD i [] ∈ L.flatMap fun l => l.map itoaI ++ [[48]] := getD_memL (by simp only [List.length_cons] at hi; omega)
      show numOk ((L.flatMap fun l => l.map itoaI ++ [[48]]).getD i []) = true
      obtain ⟨l, hl, hw⟩ := List.mem_flatMap.1 hm
      rcases List.mem_append.1 hw with h9 | h9
      · obtain ⟨x, hx, e⟩ := List.mem_map.1 h9
        rw [← e]; exact (num_itoa (hb l hl x hx).1 (hb l hl x hx).2).1
      · rw [List.mem_singleton] at h9
        rw [h9]; exact num_0.1
  unfold getV
  rw [hbad, hn]
  simp only [Bool.false_eq_true, if_false, List.length_cons]
  rw [if_neg (by omega), if_neg (by show ¬ (65536 < N ∨ 65536 < (L.length : Int)); omega)]
  rw [show (N :: (L.length : Int) :: L.flatMap fun l => l ++ [0]).drop 2 = L.flatMap fun l => l ++ [0] from rfl, spl_all L [] fun l hl x hx => (h3 l hl x hx).1]
  simp only [List.nil_append]
  rw [if_neg (by show ¬ ((L.length : Int) ≠ (L.length : Int)); omega), if_neg (by show ¬ (chkV N L ≠ 0); omega)]
  rfl
theorem get_yes {W : List (List Int)} (h : (getV W).2.2 = 0) : chkV (getV W).1 (getV W).2.1 = 0 ∧ spl ((numsW W).drop 2) [] [] = some (getV W).2.1 := by
  revert h
  unfold getV
  split
  · intro h; cases h
  · split
    · intro h; cases h
    · split
      · intro h; cases h
      · split
        · intro h; cases h
        · rename_i L hs
          split
          · intro h; cases h
          · split
            · rename_i hc; intro h; exact absurd h hc
            · rename_i hc
              intro _
              exact ⟨by simpa using hc, hs⟩
theorem get_no {W : List (List Int)} (h : (getV W).2.2 ≠ 0) : (getV W).1 = 0 ∧ (getV W).2.1 = [] := by
  revert h
  unfold getV
  split
  · intro _; exact ⟨rfl, rfl⟩
  · split
    · intro _; exact ⟨rfl, rfl⟩
    · split
      · intro _; exact ⟨rfl, rfl⟩
      · split
        · intro _; exact ⟨rfl, rfl⟩
        · split
          · intro _; exact ⟨rfl, rfl⟩
          · split
            · intro _; exact ⟨rfl, rfl⟩
            · intro h; exact absurd rfl h
theorem spl_size : ∀ (Z cur : List Int) (acc L : List (List Int)), spl Z cur acc = some L → sizeL L + L.length ≤ sizeL acc + acc.length + cur.length + Z.length
  | [], cur, acc, L, h => by
    unfold spl at h
    split at h
    · cases h; simp
    · cases h
  | x :: Z, cur, acc, L, h => by
    unfold spl at h
    split at h
    · have := spl_size Z [] (acc ++ [cur]) L h
      simp [sizeL] at this ⊢
      omega
    · have := spl_size Z (cur ++ [x]) acc L h
      simp [sizeL] at this ⊢
      omega
/-! ### no more words than bytes -/
theorem ffold_cnt : ∀ (xs c : List Int) (d : List (List Int)), ((xs.foldl fstep (c, d)).2.length + (if (xs.foldl fstep (c, d)).1 = [] then 0 else 1)) ≤ d.length + (if c = [] then 0 else 1) + xs.length
  | [], c, d => Nat.le_refl _
  | x :: xs, c, d => by
    rw [List.foldl_cons]
    by_cases hx : sepB x = true
    · by_cases hc : c = []
      · rw [show fstep (c, d) x = (c, d) by unfold fstep; rw [if_pos hx, if_pos hc]]
        have := ffold_cnt xs c d
        simp only [List.length_cons]; omega
      · rw [show fstep (c, d) x = ([], d ++ [c]) by unfold fstep; rw [if_pos hx, if_neg hc]]
        have := ffold_cnt xs [] (d ++ [c])
        rw [if_neg hc]
        simp only [List.length_append, List.length_cons, List.length_nil, if_true] at this ⊢
        omega
    · rw [show fstep (c, d) x = (c ++ [x], d) from if_neg hx]
      have := ffold_cnt xs (c ++ [x]) d
      rw [if_neg (show ¬ (c ++ [x] = []) by simp)] at this
      simp only [List.length_cons]
      have h9 : (if c = [] then 0 else 1) ≤ 1 := by split <;> omega
      omega
theorem line_cnt (l : List Int) : (lineW l).length ≤ l.length := by
  unfold lineW
  split
  · simp
  · have := ffold_cnt l [] []
    unfold fieldsR ffold
    split
    · rename_i h; rw [if_pos h] at this; simpa using this
    · rename_i h; rw [if_neg h] at this; simpa using this
theorem lfold_cnt : ∀ (xs c : List Int) (d : List (List Int)), sizeL (xs.foldl lstep (c, d)).2 + (xs.foldl lstep (c, d)).1.length ≤ sizeL d + c.length + xs.length
  | [], c, d => by simp
  | x :: xs, c, d => by
    rw [List.foldl_cons]
    by_cases hx : x = 10
    · rw [show lstep (c, d) x = ([], d ++ [c]) from if_pos hx]
      have := lfold_cnt xs [] (d ++ [c])
      simp [sizeL] at this ⊢
      omega
    · rw [show lstep (c, d) x = (c ++ [x], d) from if_neg hx]
      have := lfold_cnt xs (c ++ [x]) d
      simp [sizeL] at this ⊢
      omega
theorem words_le (b : List Int) : (wordsV b).length ≤ b.length := by
  rw [words_is]
  have h1 := lfold_cnt b [] []
  have h2 : ∀ M : List (List Int), (M.flatMap lineW).length ≤ sizeL M := fun M => by
    induction M with
    | nil => simp [sizeL]
    | cons l M ih =>
      rw [List.flatMap_cons, List.length_append]
      have := line_cnt l
      simp [sizeL] at ih ⊢
      omega
  have h3 := h2 (linesR b)
  unfold wordsR
  refine Nat.le_trans h3 ?_
  unfold linesR lfold
  simp [sizeL] at h1 ⊢
  omega
theorem get_size {b : List Int} (h : (getV (wordsV b)).2.2 = 0) : sizeL (getV (wordsV b)).2.1 + (getV (wordsV b)).2.1.length ≤ b.length := by
  have h1 := spl_size _ _ _ _ (get_yes h).2
  have h2 := words_le b
  rw [List.length_drop, nums_len] at h1
  simp [sizeL] at h1 ⊢
  omega
theorem size_mem {L : List (List Int)} {l : List Int} (h : l ∈ L) : l.length ≤ sizeL L := by
  induction L with
  | nil => cases h
  | cons m L ih =>
    have e : sizeL (m :: L) = m.length + sizeL L := by simp [sizeL]
    rw [e]
    rcases List.mem_cons.1 h with h | h
    · subst h; omega
    · have := ih h; omega
theorem put_bytes (N : Int) (L : List (List Int)) : isBytes (putB N L) := fun x hx => by
  have hl : ∀ l : List Int, ∀ y ∈ litsB l, 0 ≤ y ∧ y < 256 := fun l y hy => by have := lits_mem y hy; omega
  have hi : ∀ n : Int, ∀ y ∈ itoaI n, 0 ≤ y ∧ y < 256 := fun n y hy => by have := itoa_mem y hy; omega
  unfold putB clsB at hx
  rcases List.mem_append.1 hx with hx | hx
  · rcases List.mem_append.1 hx with hx | hx
    · rcases List.mem_append.1 hx with hx | hx
      · rcases List.mem_append.1 hx with hx | hx
        · simp at hx; omega
        · exact hl _ x hx
      · exact hi _ x hx
    · simp at hx; omega
  · obtain ⟨l, _, h⟩ := List.mem_flatMap.1 hx
    rcases List.mem_append.1 h with h | h
    · exact hl _ x h
    · simp at h; omega
theorem put_len {N : Int} {L : List (List Int)} (h : chkV N L = 0) : (putB N L).length ≤ 60 + 22 * sizeL L + 2 * L.length := by
  obtain ⟨h0, h1, h2, h3⟩ := chk_lit h
  have hb : ∀ l ∈ L, ∀ x ∈ l, -65536 ≤ x ∧ x ≤ 65536 := fun l hl x hx => by have := h3 l hl x hx; omega
  have hc := cls_len hb
  have hN := itoa_len (n := N) (by omega) (by omega)
  have hK := itoa_len (n := (L.length : Int)) (by omega) (by omega)
  unfold putB
  simp only [List.length_append, List.length_cons, List.length_nil, litsB, List.flatMap_cons, List.flatMap_nil]
  omega
end Go.Proofs.YtbpbndlgfiammaaGreatDoor.Cn
namespace Go.Proofs.YtbpbndlgfiammaaGreatDoor.Cn
open Go
theorem words_cls_app (T : List Int) : ∀ L : List (List Int), wordsR (clsB L ++ T) = (L.flatMap fun l => l.map itoaI ++ [[48]]) ++ wordsR T
  | [] => rfl
  | l :: L => by
    have e : clsB (l :: L) ++ T = (litsB l ++ [48]) ++ 10 :: (clsB L ++ T) := by simp [clsB]
    rw [e, words_line (fun x hx => by
      rcases List.mem_append.1 hx with h9 | h9
      · have := lits_mem _ h9; omega
      · rw [List.mem_singleton] at h9; omega), line_lits, words_cls_app T L]
    simp
def headB (N K : Int) : List Int := [112] ++ 32 :: ([99, 110, 102] ++ 32 :: (itoaI N ++ 32 :: itoaI K))
theorem put_head (N : Int) (L : List (List Int)) : putB N L = headB N L.length ++ 10 :: clsB L := by simp [putB, litsB, headB]
theorem head_no {N K : Int} : ∀ x ∈ headB N K, x ≠ 10 := fun x hx => by
  unfold headB at hx
  simp only [List.mem_append, List.mem_cons, List.not_mem_nil, or_false] at hx
  rcases hx with h | h | (h | h | h) | h | h | h | h
  all_goals first | omega | exact (itoa_sep h).2.1
theorem words_put_app (N : Int) (L : List (List Int)) (T : List Int) : wordsV (putB N L ++ T) = wordsV (putB N L) ++ wordsR T := by
  rw [words_is, words_is, put_head, List.append_assoc, List.cons_append, words_line head_no, words_line head_no, words_cls_app, words_cls, List.append_assoc]
def talkB (more : List Int) : List Int := (99 :: more) ++ [10, 32, 9]
theorem line_99 (more : List Int) : lineW (99 :: more) = [] := by unfold lineW; rw [if_pos ⟨by simp, rfl⟩]
theorem words_talk_app {more : List Int} (h : ∀ x ∈ more, x ≠ 10) (T : List Int) : wordsR (talkB more ++ T) = wordsR (32 :: 9 :: T) := by
  have e : talkB more ++ T = (99 :: more) ++ 10 :: (32 :: 9 :: T) := by simp [talkB]
  rw [e, words_line (fun x hx => (List.mem_cons.1 hx).elim (fun h9 => by omega) (fun h9 => h x h9)), line_99]
  rfl
theorem line_blank {A : List Int} (h : A.getD 0 0 ≠ 99) : lineW (32 :: 9 :: A) = lineW A := by
  unfold lineW
  rw [if_neg (by simp), if_neg (fun h9 => h h9.2)]
  rfl
theorem words_blank_put (N : Int) (L : List (List Int)) : wordsR (32 :: 9 :: putB N L) = wordsR (putB N L) := by
  rw [put_head, ← List.cons_append, ← List.cons_append, words_line (fun x hx => by
    rcases List.mem_cons.1 hx with h | h
    · omega
    · rcases List.mem_cons.1 h with h | h
      · omega
      · exact head_no x h), words_line head_no, line_blank (by show (112 : Int) ≠ 99; decide)]
theorem get_after {N : Int} {L : List (List Int)} {more : List Int} (hc : chkV N L = 0) (h : ∀ x ∈ more, x ≠ 10) : getV (wordsV (putB N L ++ talkB more)) = (N, L, 0) := by
  have e : wordsR (talkB more) = [] := by
    have := words_talk_app h []
    rw [List.append_nil] at this
    rw [this]; decide
  rw [words_put_app, e, List.append_nil]
  exact get_put hc
theorem get_talk {N : Int} {L : List (List Int)} {more : List Int} (hc : chkV N L = 0) (h : ∀ x ∈ more, x ≠ 10) : getV (wordsV (talkB more ++ putB N L)) = (N, L, 0) := by
  rw [words_is, words_talk_app h, words_blank_put, ← words_is]
  exact get_put hc
theorem talk_len (more : List Int) : (talkB more).length = more.length + 4 := by simp [talkB]
theorem talk_bytes {more : List Int} (h : isBytes more) : isBytes (talkB more) := fun x hx => by
  unfold talkB at hx
  simp only [List.mem_append, List.mem_cons, List.not_mem_nil, or_false] at hx
  rcases hx with (h9 | h9) | h9 | h9 | h9
  · omega
  · exact h x h9
  all_goals omega
end Go.Proofs.YtbpbndlgfiammaaGreatDoor.Cn
