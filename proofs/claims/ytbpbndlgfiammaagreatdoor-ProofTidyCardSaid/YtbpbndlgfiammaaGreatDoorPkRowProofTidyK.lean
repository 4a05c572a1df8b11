/- Lemmas and contracts for the row. -/
import Derived.Test.YtbpbndlgfiammaaGreatDoorPkRowProofTidyG
import Derived.Lib.RowBridge
import Derived.Test.YtbpbndlgfiammaaGreatDoorPkRowProofTidyJ
set_option linter.unusedVariables false
set_option linter.unusedSimpArgs false
set_option linter.unnecessarySimpa false
namespace Go.Proofs.YtbpbndlgfiammaaGreatDoor.Cn
open Go
def sortI (xs : List Int) : List Int := xs.mergeSort fun x y => decide (x ≤ y)
def setI (xs : List Int) : List Int := Lib.compact (sortI xs)
theorem sortI_mem {xs : List Int} {x : Int} : x ∈ sortI xs ↔ x ∈ xs := by unfold sortI; exact List.mem_mergeSort
theorem sortI_len (xs : List Int) : (sortI xs).length = xs.length := by unfold sortI; exact List.length_mergeSort _
theorem sortI_pw (xs : List Int) : (sortI xs).Pairwise fun x y => x ≤ y := by
  have h := List.pairwise_mergeSort (le := fun x y : Int => decide (x ≤ y)) (fun a b c => by simp only [decide_eq_true_eq]; omega) (fun a b => by simp only [Bool.or_eq_true, decide_eq_true_eq]; omega) xs
  exact h.imp fun h => of_decide_eq_true h
theorem compact_inc (xs : List Int) (hs : xs.Pairwise fun x y => x ≤ y) : (∀ x, x ∈ Lib.compact xs ↔ x ∈ xs) ∧ (Lib.compact xs).Pairwise fun x y => x < y := by
  have key : ∀ m, m ≤ xs.length → (∀ x, x ∈ Lib.compactUpTo xs.toArray m ↔ x ∈ xs.take m) ∧ (Lib.compactUpTo xs.toArray m).Pairwise fun x y => x < y := by
    intro m
    induction m with
    | zero => intro _; simp [Lib.compactUpTo]
    | succ m ih =>
      intro hm
      obtain ⟨h1, h2⟩ := ih (by omega)
      have hlt : m < xs.length := by omega
      have eg : xs.toArray[m]! = xs[m] := by rw [getElem!_pos xs.toArray m (by simpa using hlt)]; simp
      rw [Lib.compactUpTo_succ, eg, List.take_succ_eq_append_getElem hlt]
      have hle : ∀ y ∈ xs.take m, y ≤ xs[m] := by
        intro y hy
        obtain ⟨j, hj, rfl⟩ := List.mem_iff_getElem.1 hy
        rw [List.length_take] at hj
        rw [List.getElem_take]
        exact List.pairwise_iff_getElem.1 hs j m (by omega) hlt (by omega)
      cases hk : Lib.keeps xs.toArray m with
      | true =>
        rw [if_pos rfl]
        refine ⟨fun x => by simp only [List.mem_append, h1 x], List.pairwise_append.2 ⟨h2, List.pairwise_singleton _ _, fun y hy z hz => ?_⟩⟩
        rw [List.mem_singleton] at hz
        subst hz
        have hy' := (h1 y).1 hy
        have hle' := hle y hy'
        rcases Int.lt_or_le y xs[m] with h | h
        · exact h
        · have e : y = xs[m] := by omega
          subst e
          exfalso
          simp only [Lib.keeps, decide_eq_true_eq] at hk
          rcases hk with h0 | hne
          · subst h0; simp at hy'
          · by_cases hm0 : m = 0
            · subst hm0; simp at hy'
            apply hne
            have e1 : xs.toArray[m - 1]! = xs[m - 1] := by rw [getElem!_pos xs.toArray (m - 1) (by simp; omega)]; simp
            rw [eg, e1]
            have hp : xs[m - 1] ≤ xs[m] := List.pairwise_iff_getElem.1 hs (m - 1) m (by omega) hlt (by omega)
            obtain ⟨j, hj, hj2⟩ := List.mem_iff_getElem.1 hy'
            rw [List.length_take] at hj
            rw [List.getElem_take] at hj2
            by_cases hjm : j = m - 1
            · subst hjm; exact hj2.symm
            · have h4 : xs[j] ≤ xs[m - 1] := List.pairwise_iff_getElem.1 hs j (m - 1) (by omega) (by omega) (by omega)
              omega
      | false =>
        rw [if_neg (by simp)]
        refine ⟨fun x => ?_, by simpa using h2⟩
        simp only [List.append_nil, List.mem_append, List.mem_singleton, h1 x]
        constructor
        · exact .inl
        · rintro (h | rfl)
          · exact h
          · simp only [Lib.keeps, decide_eq_false_iff_not, not_or, Decidable.not_not] at hk
            obtain ⟨hm0, he⟩ := hk
            have e1 : xs.toArray[m - 1]! = xs[m - 1] := by rw [getElem!_pos xs.toArray (m - 1) (by simp; omega)]; simp
            rw [eg, e1] at he
            rw [he]
            exact List.mem_iff_getElem.2 ⟨m - 1, by rw [List.length_take]; omega, by rw [List.getElem_take]⟩
  have := key xs.length (Nat.le_refl _)
  rw [List.take_length] at this
  exact this
theorem setI_mem {xs : List Int} {x : Int} : x ∈ setI xs ↔ x ∈ xs := by unfold setI; rw [(compact_inc _ (sortI_pw xs)).1, sortI_mem]
theorem setI_inc (xs : List Int) : (setI xs).Pairwise fun x y => x < y := (compact_inc _ (sortI_pw xs)).2
theorem setI_len (xs : List Int) : (setI xs).length ≤ xs.length := by unfold setI; exact Nat.le_trans (Lib.compact_length_le _) (by rw [sortI_len]; exact Nat.le_refl _)
theorem inc_ext : ∀ {a b : List Int}, a.Pairwise (fun x y => x < y) → b.Pairwise (fun x y => x < y) → (∀ x, x ∈ a ↔ x ∈ b) → a = b
  | [], [], _, _, _ => rfl
  | [], y :: b, _, _, h => absurd ((h y).2 (by simp)) (by simp)
  | x :: a, [], _, _, h => absurd ((h x).1 (by simp)) (by simp)
  | x :: a, y :: b, ha, hb, h => by
    have ha1 : ∀ {z}, z ∈ a → x < z := fun h => List.rel_of_pairwise_cons ha h
    have hb1 : ∀ {z}, z ∈ b → y < z := fun h => List.rel_of_pairwise_cons hb h
    have e : x = y := by
      have h1 := (h x).1 (by simp)
      have h2 := (h y).2 (by simp)
      rcases List.mem_cons.1 h1 with e | h1
      · exact e
      · rcases List.mem_cons.1 h2 with e | h2
        · exact e.symm
        · have := hb1 h1; have := ha1 h2; omega
    subst e
    rw [inc_ext ha.of_cons hb.of_cons fun z => ?_]
    have hz := h z
    simp only [List.mem_cons] at hz
    constructor
    · intro h1
      rcases hz.1 (.inr h1) with e | h2
      · have := ha1 h1; omega
      · exact h2
    · intro h1
      rcases hz.2 (.inr h1) with e | h2
      · have := hb1 h1; omega
      · exact h2
theorem setI_alike (a b : List Int) : (setI a == setI b) = alikeB a b := by
  rw [Bool.eq_iff_iff, beq_iff_eq, alike_iff]
  refine ⟨fun h x => by rw [← setI_mem, ← setI_mem (xs := b), h], fun h => inc_ext (setI_inc _) (setI_inc _) fun x => by rw [setI_mem, setI_mem]; exact h x⟩
theorem eq_len {a b : List Int} (h : (a.length : Int) ≠ b.length) : (a == b) = false := by
  rw [beq_eq_false_iff_ne]; rintro rfl; exact h rfl
theorem eq_no {a b : List Int} {k : Nat} (hk : k < a.length) (h : a.getD k 0 ≠ b.getD k 0) : (a == b) = false := by
  rw [beq_eq_false_iff_ne]; rintro rfl; exact h rfl
theorem eq_yes {a b : List Int} (hl : (a.length : Int) = b.length) (h : ∀ j, j < a.length → a.getD j 0 = b.getD j 0) : (a == b) = true := by
  rw [beq_iff_eq]
  refine List.ext_getElem (by omega) fun j h1 h2 => ?_
  have := h j h1
  rwa [List.getD_eq_getElem?_getD, List.getD_eq_getElem?_getD, List.getElem?_eq_getElem h1, List.getElem?_eq_getElem h2] at this
theorem any_alike (L : List (List Int)) (l : List Int) : (L.any fun x => setI x == setI l) = L.any fun y => alikeB y l := by simp only [setI_alike]
theorem idx_alike (L : List (List Int)) (l : List Int) : idxF (fun x => setI x == setI l) L = idxF (fun y => alikeB y l) L := by simp only [setI_alike]
def dropC (cs : List (List Int)) (l : List Int) : List (List Int) := if 0 ≤ idxF (fun y => alikeB y l) cs then cs.eraseIdx (idxF (fun y => alikeB y l) cs).toNat else cs
theorem idx_lt {α : Type} {p : α → Bool} {l : List α} (h : idxF p l ≥ 0) : idxF p l < l.length := by
  rcases idxF_bd (p := p) l with h1 | h1
  · exact h1.2
  · omega
theorem drop_yes {cs : List (List Int)} {l : List Int} (h : idxF (fun x => setI x == setI l) cs ≥ 0) : cs.take (idxF (fun x => setI x == setI l) cs).toNat ++ cs.drop (idxF (fun x => setI x == setI l) cs + 1).toNat = dropC cs l := by
  rw [idx_alike] at h ⊢
  unfold dropC
  rw [if_pos (by omega), List.eraseIdx_eq_take_drop_succ, show (idxF (fun y => alikeB y l) cs + 1).toNat = (idxF (fun y => alikeB y l) cs).toNat + 1 by omega]
theorem drop_no {cs : List (List Int)} {l : List Int} (h : ¬ idxF (fun x => setI x == setI l) cs ≥ 0) : cs = dropC cs l := by
  rw [idx_alike] at h
  unfold dropC
  rw [if_neg (by omega)]
def nextC (cs : List (List Int)) (x : Int × List Int) : List (List Int) := if x.1 = 3 then dropC cs x.2 else cs ++ [x.2]
def okC (L cs : List (List Int)) (x : Int × List Int) : Bool := if x.1 = 1 then L.any fun y => alikeB y x.2 else if x.1 = 2 then flwV cs x.2 else decide (0 ≤ idxF (fun y => alikeB y x.2) cs)
theorem run_cons (L cs : List (List Int)) (x : Int × List Int) (p : List (Int × List Int)) (h1 : 1 ≤ x.1) (h3 : x.1 ≤ 3) : runC L cs (x :: p) = if okC L cs x = true then runC L (nextC cs x) p else none := by
  unfold okC nextC
  rw [runC]
  by_cases e1 : x.1 = 1
  · rw [if_pos e1, if_pos e1, if_neg (show ¬ x.1 = 3 by omega)]
  · rw [if_neg e1, if_neg e1]
    by_cases e2 : x.1 = 2
    · rw [if_pos e2, if_pos e2, if_neg (show ¬ x.1 = 3 by omega)]
    · rw [if_neg e2, if_neg e2, if_pos (show x.1 = 3 by omega)]
      by_cases e : 0 ≤ idxF (fun y => alikeB y x.2) cs
      · rw [if_pos e, if_pos (decide_eq_true e)]; unfold dropC; rw [if_pos e]
      · rw [if_neg e, if_neg (by rw [decide_eq_false e]; simp)]
theorem run_next {L cs : List (List Int)} {p : List (Int × List Int)} {i : Nat} (hi : i < p.length) (hr : runC L [] (p.take i) = some cs) (h1 : 1 ≤ (p.getD i (0, [])).1) (h3 : (p.getD i (0, [])).1 ≤ 3) (hq : okC L cs (p.getD i (0, [])) = true) : runC L [] (p.take (i + 1)) = some (nextC cs (p.getD i (0, []))) := by
  rw [take_sD (d := (0, [])) hi, run_app, hr]
  show runC L cs [_] = _
  rw [run_cons _ _ _ _ h1 h3, if_pos hq]; rfl
theorem run_stop {L cs : List (List Int)} {p : List (Int × List Int)} {i : Nat} (hi : i < p.length) (hr : runC L [] (p.take i) = some cs) (h1 : 1 ≤ (p.getD i (0, [])).1) (h3 : (p.getD i (0, [])).1 ≤ 3) (hq : okC L cs (p.getD i (0, [])) = false) : runC L [] p = none := by
  have e : p = p.take i ++ p.getD i (0, []) :: p.drop (i + 1) := by
    rw [List.getD_eq_getElem?_getD, List.getElem?_eq_getElem hi]; simp
  rw [e, run_app, hr]
  show runC L cs (_ :: _) = _
  rw [run_cons _ _ _ _ h1 h3, if_neg (by rw [hq]; simp)]
theorem line_kind {p : List (Int × List Int)} (h : frmV p = 0) {i : Nat} (hi : i < p.length) : 1 ≤ (p.getD i (0, [])).1 ∧ (p.getD i (0, [])).1 ≤ 3 := by
  have h2 := List.all_eq_true.1 (frm_ok.1 h).2 _ (getD_memL (d := (0, [])) hi)
  unfold lineOk at h2
  simp only [Bool.and_eq_true, decide_eq_true_eq] at h2
  exact h2.1
theorem line_three {p : List (Int × List Int)} (h : frmV p = 0) {i : Nat} (hi : i < p.length) : (p.getD i (0, [])).1 = 1 ∨ (p.getD i (0, [])).1 = 2 ∨ (p.getD i (0, [])).1 = 3 := by
  have := line_kind h hi; omega
theorem next_len (cs : List (List Int)) (x : Int × List Int) : (nextC cs x).length ≤ cs.length + 1 := by
  unfold nextC dropC
  split
  · split
    · have := List.length_eraseIdx_le cs (idxF (fun y => alikeB y x.2) cs).toNat; omega
    · omega
  · simp
theorem next_mem {cs : List (List Int)} {x : Int × List Int} {l : List Int} (h : l ∈ nextC cs x) : l ∈ cs ∨ l = x.2 := by
  unfold nextC dropC at h
  split at h
  · split at h
    · exact .inl (List.mem_of_mem_eraseIdx h)
    · exact .inl h
  · rcases List.mem_append.1 h with h | h
    · exact .inl h
    · exact .inr (List.mem_singleton.1 h)
theorem next_1 {cs : List (List Int)} {x : Int × List Int} (h : x.1 ≠ 3) : cs ++ [x.2] = nextC cs x := by unfold nextC; rw [if_neg h]
theorem next_3 {cs : List (List Int)} {x : Int × List Int} (h : x.1 = 3) : dropC cs x.2 = nextC cs x := by unfold nextC; rw [if_pos h]
theorem ok_1 {L cs : List (List Int)} {x : Int × List Int} (h : x.1 = 1) : okC L cs x = L.any fun y => alikeB y x.2 := by unfold okC; rw [if_pos h]
theorem ok_2 {L cs : List (List Int)} {x : Int × List Int} (h : x.1 = 2) : okC L cs x = flwV cs x.2 := by unfold okC; rw [if_neg (by omega), if_pos h]
theorem ok_3 {L cs : List (List Int)} {x : Int × List Int} (h : x.1 = 3) : okC L cs x = decide (0 ≤ idxF (fun y => alikeB y x.2) cs) := by unfold okC; rw [if_neg (by omega), if_neg (by omega)]
def coreAt (N : Int) (core : List Int) (i : Nat) : Bool := mayP (core.getD i 0) N && (!(core.take i).contains (core.getD i 0) && !(core.take i).contains (-(core.getD i 0)))
theorem core_is (N : Int) (core : List Int) : coreOk N core = (List.range core.length).all (coreAt N core) := rfl
theorem core_yes {N : Int} {core : List Int} {n : Nat} (hn : n = core.length) (h : ∀ j, j < n → coreAt N core j = true) : coreOk N core = true := by
  rw [core_is, List.all_eq_true]; intro j hj; exact h j (by rw [List.mem_range] at hj; omega)
theorem core_no {N : Int} {core : List Int} {i : Nat} (hi : i < core.length) (h : coreAt N core i = false) : coreOk N core = false := by
  rw [core_is, List.all_eq_false]; exact ⟨i, List.mem_range.2 hi, by rw [h]; simp⟩
theorem core_at {N : Int} {core : List Int} {i : Nat} : (((((core.getD i 0 == 0) || decide (core.getD i 0 > N)) || decide (core.getD i 0 < -N)) || ((core.take i).drop 0).contains (core.getD i 0)) || ((core.take i).drop 0).contains (-(core.getD i 0))) = !coreAt N core i := by
  unfold coreAt mayP
  rw [List.drop_zero, Bool.eq_iff_iff]
  simp only [Bool.or_eq_true, Bool.not_eq_true', Bool.and_eq_false_iff, decide_eq_true_eq, decide_eq_false_iff_not, beq_iff_eq, bne_eq_false_iff_eq, Bool.not_eq_false']
  constructor
  · rintro ((((h | h) | h) | h) | h)
    · exact .inl (.inl (.inl h))
    · exact .inl (.inr (by omega))
    · exact .inl (.inl (.inr (by omega)))
    · exact .inr (.inl h)
    · exact .inr (.inr h)
  · rintro (((h | h) | h) | (h | h))
    · exact .inl (.inl (.inl (.inl h)))
    · exact .inl (.inl (.inr (by omega)))
    · exact .inl (.inl (.inl (.inr (by omega))))
    · exact .inl (.inr h)
    · exact .inr h
theorem core_fit {x N : Int} (h0 : 0 ≤ N) (hN : N ≤ 65536) {b : Bool} (h : (!((((x == 0) || decide (x > N)) || decide (x < -N)) || b)) = true) : -9223372036854775808 ≤ -x ∧ -x ≤ 9223372036854775807 := by
  simp only [Bool.not_eq_true', Bool.or_eq_false_iff, decide_eq_false_iff_not] at h
  omega
theorem core_bd {N : Int} {core : List Int} {i : Nat} (h0 : 0 ≤ N) (hN : N ≤ 65536) (h : coreAt N core i = true) : -65536 ≤ core.getD i 0 ∧ core.getD i 0 ≤ 65536 := by
  unfold coreAt at h
  simp only [Bool.and_eq_true] at h
  have := mayP_iff.1 h.1
  omega
theorem core_next {core : List Int} {i : Nat} (hi : i < core.length) : (core.take i).map (fun x => -x) ++ [-(core.getD i 0)] = (core.take (i + 1)).map fun x => -x := by
  rw [take_sD (d := 0) hi, List.map_append]; rfl
theorem chk_e1 {N : Int} {L : List (List Int)} {p : List (Int × List Int)} {core : List Int} (h : chkV N L ≠ 0) : chkC N L p core = chkV N L := by unfold chkC; rw [if_pos h]
theorem chk_e2 {N : Int} {L : List (List Int)} {p : List (Int × List Int)} {core : List Int} (h1 : chkV N L = 0) (h : frmV p ≠ 0) : chkC N L p core = frmV p := by unfold chkC; rw [if_neg (by omega), if_pos h]
theorem chk_e3 {N : Int} {L : List (List Int)} {p : List (Int × List Int)} {core : List Int} (h1 : chkV N L = 0) (h2 : frmV p = 0) (h : coreOk N core = false) : chkC N L p core = 1 := by unfold chkC; rw [if_neg (by omega), if_neg (by omega), if_pos h]
theorem chk_e4 {N : Int} {L : List (List Int)} {p : List (Int × List Int)} {core : List Int} (h1 : chkV N L = 0) (h2 : frmV p = 0) (h3 : coreOk N core = true) : chkC N L p core = endC core (runC L [] p) := by unfold chkC; rw [if_neg (by omega), if_neg (by omega), if_neg (by rw [h3]; simp)]
end Go.Proofs.YtbpbndlgfiammaaGreatDoor.Cn
namespace Go.Proofs.YtbpbndlgfiammaaGreatDoor.Cn
open Go
end Go.Proofs.YtbpbndlgfiammaaGreatDoor.Cn
namespace Go.Proofs.YtbpbndlgfiammaaGreatDoor.Cn
open Go
def butI (but : Int) (n k : Nat) : List Nat := (List.range k).filter fun i => decide ((i : Int) ≠ but)
def butL (c : List (List Int)) (but : Int) : List (List Int) := (butI but c.length c.length).map fun i => c.getD i []
theorem butI_succ {but : Int} {n k : Nat} : butI but n (k + 1) = if (k : Int) ≠ but then butI but n k ++ [k] else butI but n k := by
  unfold butI
  rw [List.range_succ, List.filter_append]
  by_cases h : (k : Int) ≠ but
  · rw [if_pos h]; simp [h]
  · rw [if_neg h]; simp only [Decidable.not_not] at h; simp [h]
theorem butI_mono {but : Int} {n k m : Nat} (h : k ≤ m) : ∃ t, butI but n m = butI but n k ++ t := by
  induction m with
  | zero => obtain rfl : k = 0 := by omega
            exact ⟨[], by simp⟩
  | succ m ih =>
    rcases Nat.lt_or_ge m k with h1 | h1
    · obtain rfl : k = m + 1 := by omega
      exact ⟨[], by simp⟩
    · obtain ⟨t, ht⟩ := ih h1
      rw [butI_succ]
      split
      · exact ⟨t ++ [m], by rw [ht]; simp⟩
      · exact ⟨t, ht⟩
theorem butI_at {but : Int} {n k m : Nat} (h : k < m) (hp : (k : Int) ≠ but) : (butI but n k).length < (butI but n m).length ∧ (butI but n m).getD (butI but n k).length 0 = k := by
  obtain ⟨t, ht⟩ := butI_mono (but := but) (n := n) (show k + 1 ≤ m from h)
  rw [ht, butI_succ, if_pos hp]
  constructor
  · simp
  · rw [List.getD_eq_getElem?_getD, List.append_assoc, List.getElem?_append_right (Nat.le_refl _)]
    simp
theorem butI_lt {but : Int} {n m j : Nat} (h : j < (butI but n m).length) : (butI but n m).getD j 0 < m := by
  have := getD_memL (d := 0) h
  exact List.mem_range.1 (List.mem_filter.1 this).1
theorem butL_get {c : List (List Int)} {but : Int} {j : Nat} (h : j < (butL c but).length) : (butL c but).getD j [] = c.getD ((butI but c.length c.length).getD j 0) [] := by
  unfold butL at h ⊢
  rw [List.length_map] at h
  rw [List.getD_eq_getElem?_getD, List.getElem?_map, List.getD_eq_getElem?_getD (l := butI but c.length c.length), List.getElem?_eq_getElem h]
  rfl
theorem butL_len (c : List (List Int)) (but : Int) : (butL c but).length = (butI but c.length c.length).length := by unfold butL; rw [List.length_map]
theorem butL_le (c : List (List Int)) (but : Int) : (butL c but).length ≤ c.length := by
  rw [butL_len]
  refine Nat.le_trans (List.length_filter_le _ _) ?_
  rw [List.length_range]; exact Nat.le_refl _
theorem butL_mem {c : List (List Int)} {but : Int} {l : List Int} (h : l ∈ butL c but) : l ∈ c := by
  unfold butL at h
  obtain ⟨i, hi, rfl⟩ := List.mem_map.1 h
  exact getD_memL (List.mem_range.1 (List.mem_filter.1 hi).1)
def unitF (t : Int → Bool) : Int → List Int → Int × Bool
  | o, [] => (o, o == 0)
  | o, x :: l => if t x = true then (0, false) else if (t (-x) || x == o) = true then unitF t o l else if o ≠ 0 then (0, false) else unitF t x l
section
variable {t : Int → Bool} {l : List Int} {i : Nat} {o : Int}
theorem dropD {α : Type} {d : α} {l : List α} {i : Nat} (h : i < l.length) : l.drop i = l.getD i d :: l.drop (i + 1) := by
  rw [List.getD_eq_getElem?_getD, List.getElem?_eq_getElem h]
  exact List.drop_eq_getElem_cons h
theorem un_true (hi : i < l.length) (h : unitF t 0 l = unitF t o (l.drop i)) (ht : t (l.getD i 0) = true) : unitF t 0 l = (0, false) := by
  rw [h, dropD (d := 0) hi, unitF, if_pos ht]
theorem un_skip (hi : i < l.length) (h : unitF t 0 l = unitF t o (l.drop i)) (ht : t (l.getD i 0) = false) (h2 : (t (-(l.getD i 0)) || l.getD i 0 == o) = true) : unitF t 0 l = unitF t o (l.drop (i + 1)) := by
  rw [h, dropD (d := 0) hi, unitF, if_neg (by rw [ht]; simp), if_pos h2]
theorem un_two (hi : i < l.length) (h : unitF t 0 l = unitF t o (l.drop i)) (ht : t (l.getD i 0) = false) (h2 : (t (-(l.getD i 0)) || l.getD i 0 == o) = false) (h0 : o ≠ 0) : unitF t 0 l = (0, false) := by
  rw [h, dropD (d := 0) hi, unitF, if_neg (by rw [ht]; simp), if_neg (by rw [h2]; simp), if_pos h0]
theorem un_set (hi : i < l.length) (h : unitF t 0 l = unitF t o (l.drop i)) (ht : t (l.getD i 0) = false) (h2 : (t (-(l.getD i 0)) || l.getD i 0 == o) = false) (h0 : o = 0) : unitF t 0 l = unitF t (l.getD i 0) (l.drop (i + 1)) := by
  rw [h, dropD (d := 0) hi, unitF, if_neg (by rw [ht]; simp), if_neg (by rw [h2]; simp), if_neg (by rw [h0]; simp)]
theorem un_end (hi : i = l.length) (h : unitF t 0 l = unitF t o (l.drop i)) : unitF t 0 l = (o, o == 0) := by
  rw [h, hi, List.drop_length]; rfl
theorem unit_tells : ∀ {l : List Int} {o : Int}, (∀ x ∈ l, x ≠ 0) →
    ((unitF t o l).2 = true → o = 0 ∧ ∀ x ∈ l, t (-x) = true) ∧
    ((unitF t o l).1 ≠ 0 → (∀ x ∈ l, t (-x) = true ∨ x = (unitF t o l).1) ∧ (o = (unitF t o l).1 ∨ o = 0 ∧ (unitF t o l).1 ∈ l ∧ t (unitF t o l).1 = false ∧ t (-(unitF t o l).1) = false))
  | [], o, _ => by
    simp only [unitF]
    exact ⟨fun h => ⟨by simpa using h, fun x hx => (by cases hx)⟩, fun _ => ⟨fun x hx => (by cases hx), by simp⟩⟩
  | x :: l, o, hl => by
    have hx0 := hl x List.mem_cons_self
    have hl' := fun y hy => hl y (List.mem_cons_of_mem _ hy)
    rw [unitF]
    split
    · exact ⟨fun h => (by cases h), fun h => absurd rfl h⟩
    · rename_i h1
      split
      · rename_i h2
        obtain ⟨q1, q2⟩ := unit_tells (l := l) (o := o) hl'
        rw [Bool.or_eq_true, beq_iff_eq] at h2
        constructor
        · intro h
          obtain ⟨e, q⟩ := q1 h
          refine ⟨e, fun y hy => ?_⟩
          rcases List.mem_cons.1 hy with rfl | hy
          · rcases h2 with h2 | h2
            · exact h2
            · rw [e] at h2; exact absurd h2 hx0
          · exact q y hy
        · intro h
          obtain ⟨q3, q4⟩ := q2 h
          refine ⟨fun y hy => ?_, q4.imp id fun ⟨a, b, c⟩ => ⟨a, List.mem_cons_of_mem _ b, c⟩⟩
          rcases List.mem_cons.1 hy with rfl | hy
          · rcases h2 with h2 | h2
            · exact .inl h2
            · rcases q4 with q4 | q4
              · exact .inr (h2.trans q4)
              · rw [q4.1] at h2; exact absurd h2 hx0
          · exact q3 y hy
      · rename_i h2
        split
        · exact ⟨fun h => (by cases h), fun h => absurd rfl h⟩
        · rename_i h3
          have h3 : o = 0 := Decidable.not_not.1 h3
          obtain ⟨q1, q2⟩ := unit_tells (l := l) (o := x) hl'
          constructor
          · intro h
            exact absurd (q1 h).1 hx0
          · intro h
            obtain ⟨q3, q4⟩ := q2 h
            simp only [Bool.or_eq_true, not_or, Bool.not_eq_true] at h1 h2
            have key : x = (unitF t x l).1 := q4.elim id fun q => absurd q.1 hx0
            refine ⟨fun y hy => ?_, .inr ⟨h3, ?_, ?_, ?_⟩⟩
            · rcases List.mem_cons.1 hy with rfl | hy
              · exact .inr key
              · exact q3 y hy
            · rw [← key]; exact List.mem_cons_self
            · rw [← key]; exact h1
            · rw [← key]; exact h2.1
end
def passF : List (List Int) → List Int → Bool → Option (List Int × Bool)
  | [], ks, m => some (ks, m)
  | l :: ls, ks, m => if (unitF (hasK ks) 0 l).2 = true then none else if (unitF (hasK ks) 0 l).1 ≠ 0 then passF ls (addK ks (unitF (hasK ks) 0 l).1) true else passF ls ks m
def comesF : Nat → List (List Int) → List Int → Option (List Int)
  | 0, _, ks => some ks
  | n + 1, c, ks => match passF c ks false with | none => none | some (ks', true) => comesF n c ks' | some (ks', false) => some ks'
def restN (c : List (List Int)) (ks : List Int) : Nat := (c.flatten.filter fun x => !(ks.contains x)).length
def iniN (l : List Int) : List Int := l.foldl (fun ks x => addK ks (-x)) []
theorem iniN_next {l : List Int} {i : Nat} (h : i < l.length) : addK (iniN (l.take i)) (-(l.getD i 0)) = iniN (l.take (i + 1)) := by
  unfold iniN; rw [take_sD (d := 0) h, List.foldl_append]; rfl
theorem fold_has (z : Int) : ∀ (l ks : List Int), hasK (l.foldl (fun ks x => addK ks (-x)) ks) z = (hasK ks z || l.any fun x => z == -x)
  | [], ks => by simp
  | x :: l, ks => by
    rw [List.foldl_cons, fold_has z l, has_add]
    unfold addT
    rw [List.any_cons, Bool.or_assoc]
theorem iniN_has (l : List Int) (z : Int) : hasK (iniN l) z = true ↔ -z ∈ l := by
  unfold iniN
  rw [fold_has]
  simp only [hasK, List.contains_nil, Bool.false_or, List.any_eq_true, beq_iff_eq]
  constructor
  · rintro ⟨x, hx, e⟩; rw [e, Int.neg_neg]; exact hx
  · intro h; exact ⟨-z, h, (Int.neg_neg z).symm⟩
def comesV (c : List (List Int)) (but : Int) (left : List Int) : Option (List Int) := comesF (restN (butL c but) (iniN left) + 1) (butL c but) (iniN left)
def isN : Option (List Int) → List Int
  | some ks => ks
  | none => []
theorem rest_add {c : List (List Int)} {l ks : List Int} (hl : l ∈ c) {y : Int} (hy : y ∈ l) (hn : hasK ks y = false) : restN c (addK ks y) < restN c ks := by
  unfold restN
  have hyc : y ∈ c.flatten := List.mem_flatten.2 ⟨l, hl, hy⟩
  have h1 : (c.flatten.filter fun x => !((addK ks y).contains x)) = (c.flatten.filter fun x => !(ks.contains x)).filter fun x => !(x == y) := by
    rw [List.filter_filter]
    congr 1
    funext x
    rw [addK_contains]
    cases ks.contains x <;> cases (x == y) <;> rfl
  rw [h1]
  have hmem : y ∈ c.flatten.filter fun x => !(ks.contains x) := List.mem_filter.2 ⟨hyc, by unfold hasK at hn; rw [hn]; rfl⟩
  refine Nat.lt_of_le_of_ne (List.length_filter_le _ _) fun e => ?_
  have := List.length_filter_eq_length_iff.1 e y hmem
  simp at this
theorem pass_rest {c : List (List Int)} (hz : ∀ l ∈ c, ∀ x ∈ l, x ≠ 0) : ∀ {d : List (List Int)} {ks ks' : List Int} {m m' : Bool}, (∀ l ∈ d, l ∈ c) → passF d ks m = some (ks', m') → restN c ks' ≤ restN c ks ∧ (m = false → m' = true → restN c ks' < restN c ks)
  | [], ks, ks', m, m', hd, h => by cases h; exact ⟨Nat.le_refl _, fun h1 h2 => (by rw [h1] at h2; cases h2)⟩
  | l :: d, ks, ks', m, m', hd, h => by
    rw [passF] at h
    split at h
    · cases h
    · split at h
      · rename_i h1 h2
        obtain ⟨q1, q2⟩ := (unit_tells (t := hasK ks) (l := l) (o := 0) (hz l (hd l List.mem_cons_self))).2 h2
        have q3 := q2.resolve_left (fun e => h2 e.symm)
        have := rest_add (hd l List.mem_cons_self) q3.2.1 q3.2.2.1
        have ih := pass_rest hz (fun l hl => hd l (List.mem_cons_of_mem _ hl)) h
        exact ⟨by omega, fun _ _ => by omega⟩
      · exact pass_rest hz (fun l hl => hd l (List.mem_cons_of_mem _ hl)) h
def Ext (c : List (List Int)) (t s : Int → Bool) : Prop := ∀ t' : Int → Bool, (∀ z, t z = true → t' z = true) → Rup c (fun z => t' z || s z) → Rup c t'
section
variable {c : List (List Int)} {t s : Int → Bool}
theorem ext_in (h : ∀ z, s z = true → t z = true) : Ext c t s := fun t' ht hr => hr.mono_t fun z hz => by
  rw [Bool.or_eq_true] at hz; exact hz.elim id fun q => ht z (h z q)
theorem ext_up {t2 : Int → Bool} (h : Ext c t s) (ht : ∀ z, t z = true → t2 z = true) : Ext c t2 s := fun t' h1 h2 => h t' (fun z hz => h1 z (ht z hz)) h2
theorem ext_unit {l : List Int} {y : Int} (h : Ext c t s) (hl : l ∈ c) (hy : y ∈ l) (hm : mayP y 65536 = true) (hu : ∀ x ∈ l, s (-x) = true ∨ x = y) : Ext c t (addT s y) := fun t' h1 hr => by
  refine h t' h1 ?_
  cases e1 : (fun z => t' z || s z) (-y) with
  | true => exact .conf _ l hl (look_conf.2 fun x hx _ => by
      rcases hu x hx with q | q
      · show (t' (-x) || s (-x)) = true; rw [q, Bool.or_true]
      · rw [q]; exact e1)
  | false =>
    cases e2 : (fun z => t' z || s z) y with
    | true =>
      refine hr.mono_t fun z hz => ?_
      · simp only [addT, Bool.or_eq_true, beq_iff_eq] at hz ⊢
        rcases hz with hz | hz | hz
        · exact .inl hz
        · exact .inr hz
        · rw [hz]; simpa using e2
    | false =>
      have hU : UnitV (fun z => t' z || s z) l y := ⟨⟨hy, hm, e1, e2⟩, fun x hx _ => (hu x hx).imp (fun q => by show (t' (-x) || s (-x)) = true; rw [q, Bool.or_true]) id⟩
      refine .unit _ l hl (by rw [unit_look hU]; exact may_ne hm) ?_
      rw [unit_look hU]
      refine hr.mono_t fun z hz => ?_
      simp only [addT, Bool.or_eq_true] at hz ⊢
      rcases hz with hz | hz | hz
      · exact .inl (.inl hz)
      · exact .inl (.inr hz)
      · exact .inr hz
theorem ext_conf {l : List Int} (h : Ext c t s) (hl : l ∈ c) (hu : ∀ x ∈ l, s (-x) = true) : Rup c t :=
  h t (fun _ hz => hz) (.conf _ l hl (look_conf.2 fun x hx _ => by show (t (-x) || s (-x)) = true; rw [hu x hx, Bool.or_true]))
theorem pass_ext (hz : ∀ l ∈ c, ∀ x ∈ l, mayP x 65536 = true) : ∀ {d : List (List Int)} {ks : List Int} {m : Bool}, (∀ l ∈ d, l ∈ c) → Ext c t (hasK ks) →
    (passF d ks m = none → Rup c t) ∧ ∀ ks' m', passF d ks m = some (ks', m') → Ext c t (hasK ks')
  | [], ks, m, hd, he => ⟨fun h => (by cases h), fun ks' m' h => (by cases h; exact he)⟩
  | l :: d, ks, m, hd, he => by
    have hlc := hd l List.mem_cons_self
    have hd' := fun l hl => hd l (List.mem_cons_of_mem _ hl)
    have hT := unit_tells (t := hasK ks) (l := l) (o := 0) (fun x hx => may_ne (hz l hlc x hx))
    rw [passF]
    split
    · rename_i h1
      exact ⟨fun _ => ext_conf he hlc (hT.1 h1).2, fun ks' m' h => (by cases h)⟩
    · split
      · rename_i h1 h2
        obtain ⟨q1, q2⟩ := hT.2 h2
        have q3 := q2.resolve_left (fun e => h2 e.symm)
        refine pass_ext hz hd' ?_
        rw [has_add]
        exact ext_unit he hlc q3.2.1 (hz l hlc _ q3.2.1) q1
      · exact pass_ext hz hd' he
theorem comes_ext (hz : ∀ l ∈ c, ∀ x ∈ l, mayP x 65536 = true) : ∀ {n : Nat} {d : List (List Int)} {ks : List Int}, (∀ l ∈ d, l ∈ c) → Ext c t (hasK ks) →
    (comesF n d ks = none → Rup c t) ∧ ∀ ks', comesF n d ks = some ks' → Ext c t (hasK ks')
  | 0, d, ks, hd, he => ⟨fun h => (by cases h), fun ks' h => (by cases h; exact he)⟩
  | n + 1, d, ks, hd, he => by
    have hp := pass_ext (m := false) hz hd he
    rw [comesF]
    cases h : passF d ks false with
    | none => exact ⟨fun _ => hp.1 h, fun ks' h' => (by cases h')⟩
    | some x =>
      obtain ⟨ks1, m1⟩ := x
      have h2 := hp.2 ks1 m1 h
      cases m1 with
      | true => exact comes_ext hz hd h2
      | false => exact ⟨fun h' => (by cases h'), fun ks' h' => (by cases h'; exact h2)⟩
end
def Why (c : List (List Int)) (ks0 ks : List Int) : Prop := ∀ y ∈ ks, y ∈ ks0 ∨ ∃ l ∈ c, ∀ z ∈ l, hasK ks (-z) = true ∨ z = y
theorem addK_sub {ks : List Int} {k z : Int} (h : hasK ks z = true) : hasK (addK ks k) z = true := by rw [has_add]; unfold addT; rw [h]; rfl
theorem why_add {c : List (List Int)} {ks0 ks l : List Int} {y : Int} (h : Why c ks0 ks) (hl : l ∈ c) (hu : ∀ x ∈ l, hasK ks (-x) = true ∨ x = y) : Why c ks0 (addK ks y) := fun z hz => by
  have h1 : hasK (addK ks y) z = true := by unfold hasK; simpa using hz
  rw [has_add] at h1
  simp only [addT, Bool.or_eq_true, beq_iff_eq] at h1
  rcases h1 with h1 | rfl
  · rcases h z (by unfold hasK at h1; simpa using h1) with q | ⟨l', hl', q⟩
    · exact .inl q
    · exact .inr ⟨l', hl', fun x hx => (q x hx).imp addK_sub id⟩
  · exact .inr ⟨l, hl, fun x hx => (hu x hx).imp addK_sub id⟩
theorem pass_why {c : List (List Int)} {ks0 : List Int} (hz : ∀ l ∈ c, ∀ x ∈ l, mayP x 65536 = true) : ∀ {d : List (List Int)} {ks ks' : List Int} {m m' : Bool}, (∀ l ∈ d, l ∈ c) → Why c ks0 ks → passF d ks m = some (ks', m') → Why c ks0 ks'
  | [], ks, ks', m, m', hd, hw, h => by cases h; exact hw
  | l :: d, ks, ks', m, m', hd, hw, h => by
    have hlc := hd l List.mem_cons_self
    have hd' := fun l hl => hd l (List.mem_cons_of_mem _ hl)
    rw [passF] at h
    split at h
    · cases h
    · split at h
      · rename_i h1 h2
        exact pass_why hz hd' (why_add hw hlc ((unit_tells (t := hasK ks) (l := l) (o := 0) (fun x hx => may_ne (hz l hlc x hx))).2 h2).1) h
      · exact pass_why hz hd' hw h
theorem comes_why {c : List (List Int)} {ks0 : List Int} (hz : ∀ l ∈ c, ∀ x ∈ l, mayP x 65536 = true) : ∀ {n : Nat} {d : List (List Int)} {ks ks' : List Int}, (∀ l ∈ d, l ∈ c) → Why c ks0 ks → comesF n d ks = some ks' → Why c ks0 ks'
  | 0, d, ks, ks', hd, hw, h => by cases h; exact hw
  | n + 1, d, ks, ks', hd, hw, h => by
    rw [comesF] at h
    cases hp : passF d ks false with
    | none => rw [hp] at h; cases h
    | some x =>
      obtain ⟨ks1, m1⟩ := x
      rw [hp] at h
      have h2 := pass_why hz hd hw hp
      cases m1 with
      | true => exact comes_why hz hd h2 h
      | false => cases h; exact h2
def vivF (c : List (List Int)) (k : Int) : List Int → List Int → List Int
  | left, [] => left
  | left, x :: l => match comesV c k left with
    | none => left
    | some ks => if ks.contains x = true then left ++ [x] else if (!(ks.contains (-x))) = true then vivF c k (left ++ [x]) l else vivF c k left l
theorem viv_sub {c : List (List Int)} {k : Int} : ∀ {l left : List Int}, ∀ y ∈ vivF c k left l, y ∈ left ∨ y ∈ l
  | [], left, y, h => .inl h
  | x :: l, left, y, h => by
    rw [vivF] at h
    split at h
    · exact .inl h
    · split at h
      · rcases List.mem_append.1 h with h | h
        · exact .inl h
        · exact .inr (by rw [List.mem_singleton.1 h]; exact List.mem_cons_self)
      · split at h
        · rcases viv_sub y h with h | h
          · rcases List.mem_append.1 h with h | h
            · exact .inl h
            · exact .inr (by rw [List.mem_singleton.1 h]; exact List.mem_cons_self)
          · exact .inr (List.mem_cons_of_mem _ h)
        · exact (viv_sub y h).imp id (List.mem_cons_of_mem _)
theorem viv_flw {c : List (List Int)} {k : Int} (hz : ∀ l ∈ c, ∀ x ∈ l, mayP x 65536 = true) : ∀ {l left K : List Int}, (∀ x ∈ l, mayP x 65536 = true) → (∀ x ∈ left, mayP x 65536 = true) → Ext c (negT left) (negT K) →
    (∀ left', Ext c (negT left') (negT (K ++ l)) → flwV c left' = true) → flwV c (vivF c k left l) = true
  | [], left, K, hl, hf, he, hend => by
    rw [vivF]
    rw [List.append_nil] at hend
    exact hend left he
  | x :: l, left, K, hl, hf, he, hend => by
    have hini : ∀ z, hasK (iniN left) z = true → negT left z = true := fun z h => by
      have h1 := (iniN_has left z).1 h
      exact negT_iff.2 ⟨by rw [← may_neg]; exact hf _ h1, h1⟩
    have hx : mayP x 65536 = true := hl x List.mem_cons_self
    have hl' := fun y hy => hl y (List.mem_cons_of_mem _ hy)
    have hce := comes_ext (t := negT left) (n := restN (butL c k) (iniN left) + 1) hz (fun l hl => butL_mem (but := k) hl) (ext_in hini)
    rw [vivF]
    cases hc : comesV c k left with
    | none => exact flw_t (hce.1 hc)
    | some ks =>
      have hk := hce.2 ks hc
      simp only
      split
      · rename_i h1
        have hk2 : Ext c (negT (left ++ [x])) (hasK ks) := ext_up hk fun z hz => by
          obtain ⟨q1, q2⟩ := negT_iff.1 hz
          exact negT_iff.2 ⟨q1, List.mem_append_left _ q2⟩
        by_cases hcon : contra (left ++ [x]) = true
        · exact flw_c hcon
        · refine flw_t ?_
          have hxk : x ∈ ks := by simpa using h1
          have hw := comes_why (ks0 := iniN left) hz (fun l hl => butL_mem (but := k) hl) (fun y hy => .inl hy) hc x hxk
          rcases hw with hw | ⟨l', hl', hw⟩
          · exfalso
            have h3 := (iniN_has left x).1 (by unfold hasK; simpa using hw)
            exact hcon (contra_iff.2 ⟨x, List.mem_append_right _ List.mem_cons_self, hx, List.mem_append_left _ h3⟩)
          · refine hk2 _ (fun _ h => h) (.conf _ l' hl' (look_conf.2 fun z hz' _ => ?_))
            rcases hw z hz' with q | q
            · show (negT (left ++ [x]) (-z) || hasK ks (-z)) = true
              rw [q, Bool.or_true]
            · show (negT (left ++ [x]) (-z) || hasK ks (-z)) = true
              rw [Bool.or_eq_true]
              exact .inl (negT_iff.2 ⟨by rw [may_neg, q]; exact hx, by rw [Int.neg_neg, q]; exact List.mem_append_right _ List.mem_cons_self⟩)
      · split
        · refine viv_flw hz hl' (fun y hy => ?_) (K := K ++ [x]) (fun t' h1 h2 => ?_) (fun left' h' => hend left' (by rwa [List.append_assoc] at h'))
          · rcases List.mem_append.1 hy with hy | hy
            · exact hf y hy
            · rw [List.mem_singleton.1 hy]; exact hx
          · refine he t' (fun z hz => h1 z ?_) (h2.mono_t fun z hz => ?_)
            · obtain ⟨q1, q2⟩ := negT_iff.1 hz
              exact negT_iff.2 ⟨q1, List.mem_append_left _ q2⟩
            · rw [Bool.or_eq_true] at hz ⊢
              rcases hz with hz | hz
              · exact .inl hz
              · obtain ⟨q1, q2⟩ := negT_iff.1 hz
                rcases List.mem_append.1 q2 with q2 | q2
                · exact .inr (negT_iff.2 ⟨q1, q2⟩)
                · exact .inl (h1 z (negT_iff.2 ⟨q1, List.mem_append_right _ q2⟩))
        · rename_i h1 h2
          refine viv_flw hz hl' hf (K := K ++ [x]) (fun t' h3 h4 => ?_) (fun left' h' => hend left' (by rwa [List.append_assoc] at h'))
          have hks : hasK ks (-x) = true := by unfold hasK; simpa using h2
          refine he t' h3 (hk _ (fun z hz => by rw [h3 z hz]; rfl) (h4.mono_t fun z hz => ?_))
          rw [Bool.or_eq_true] at hz
          simp only [Bool.or_eq_true]
          rcases hz with hz | hz
          · exact .inl (.inl hz)
          · obtain ⟨q1, q2⟩ := negT_iff.1 hz
            rcases List.mem_append.1 q2 with q2 | q2
            · exact .inl (.inr (negT_iff.2 ⟨q1, q2⟩))
            · refine .inr ?_
              have e : z = -x := by have := List.mem_singleton.1 q2; omega
              rw [e]; exact hks
def unN (t : Int → Bool) (o x : Int) : Int := if (t (-x) || x == o) = true then o else x
theorem unN_1 {t : Int → Bool} {o x : Int} (h : (t (-x) || x == o) = true) : unN t o x = o := if_pos h
theorem unN_0 {t : Int → Bool} {o x : Int} (h : (t (-x) || x == o) = false) : unN t o x = x := if_neg (by rw [h]; simp)
theorem ps_bad {ks ks2 : List Int} {m2 : Bool} {j : Nat} {D : List (List Int)} (hj : j < D.length) (h : passF D ks false = passF (D.drop j) ks2 m2) (hw : (unitF (hasK ks2) 0 (D.getD j [])).2 = true) : passF D ks false = none := by
  rw [h, dropD (d := []) hj, passF, if_pos hw]
theorem ps_add {ks ks2 : List Int} {m2 : Bool} {j : Nat} {D : List (List Int)} (hj : j < D.length) (h : passF D ks false = passF (D.drop j) ks2 m2) (hw : (unitF (hasK ks2) 0 (D.getD j [])).2 = false) (hu : (unitF (hasK ks2) 0 (D.getD j [])).1 ≠ 0) : passF D ks false = passF (D.drop (j + 1)) (addK ks2 (unitF (hasK ks2) 0 (D.getD j [])).1) true := by
  rw [h, dropD (d := []) hj, passF, if_neg (by rw [hw]; simp), if_pos hu]
theorem ps_not {ks ks2 : List Int} {m2 : Bool} {j : Nat} {D : List (List Int)} (hj : j < D.length) (h : passF D ks false = passF (D.drop j) ks2 m2) (hw : (unitF (hasK ks2) 0 (D.getD j [])).2 = false) (hu : (unitF (hasK ks2) 0 (D.getD j [])).1 = 0) : passF D ks false = passF (D.drop (j + 1)) ks2 m2 := by
  rw [h, dropD (d := []) hj, passF, if_neg (by rw [hw]; simp), if_neg (by rw [hu]; simp)]
def psK (ks : List Int) (u : Int) : List Int := if u ≠ 0 then addK ks u else ks
def psM (m : Bool) (u : Int) : Bool := if u ≠ 0 then true else m
theorem ps_next {ks ks2 : List Int} {m2 : Bool} {j : Nat} {D : List (List Int)} (hj : j < D.length) (h : passF D ks false = passF (D.drop j) ks2 m2) (hw : (unitF (hasK ks2) 0 (D.getD j [])).2 = false) : passF D ks false = passF (D.drop (j + 1)) (psK ks2 (unitF (hasK ks2) 0 (D.getD j [])).1) (psM m2 (unitF (hasK ks2) 0 (D.getD j [])).1) := by
  unfold psK psM
  by_cases hu : (unitF (hasK ks2) 0 (D.getD j [])).1 ≠ 0
  · rw [if_pos hu, if_pos hu]; exact ps_add hj h hw hu
  · rw [if_neg hu, if_neg hu]; exact ps_not hj h hw (Decidable.not_not.1 hu)
theorem psK_1 {ks : List Int} {u : Int} (h : u ≠ 0) : psK ks u = addK ks u := if_pos h
theorem psK_0 {ks : List Int} {u : Int} (h : u = 0) : psK ks u = ks := if_neg (by simpa using h)
theorem psM_1 {m : Bool} {u : Int} (h : u ≠ 0) : psM m u = true := if_pos h
theorem psM_0 {m : Bool} {u : Int} (h : u = 0) : psM m u = m := if_neg (by simpa using h)
def CI (c : List (List Int)) (but : Int) (left : List Int) (n : Nat) (ks : List Int) (m : Bool) : Prop :=
  (m = true → comesV c but left = comesF n (butL c but) ks ∧ restN (butL c but) ks < n) ∧ (m = false → comesV c but left = some ks)
theorem ci_0 {c : List (List Int)} {but : Int} {left : List Int} : CI c but left (restN (butL c but) (iniN left) + 1) (iniN left) true := ⟨fun _ => ⟨rfl, Nat.lt_succ_self _⟩, fun h => by cases h⟩
theorem ci_bad {c : List (List Int)} {but : Int} {left ks : List Int} {n : Nat} (h : CI c but left n ks true) (hp : passF (butL c but) ks false = none) : comesV c but left = none := by
  obtain ⟨h1, h2⟩ := h.1 rfl
  obtain ⟨k, rfl⟩ : ∃ k, n = k + 1 := ⟨n - 1, by omega⟩
  rw [h1, comesF, hp]
theorem ci_next {c : List (List Int)} {but : Int} {left ks ks2 : List Int} {n : Nat} {m2 : Bool} (hz : ∀ l ∈ c, ∀ x ∈ l, x ≠ 0) (h : CI c but left n ks true) (hp : passF (butL c but) ks false = some (ks2, m2)) : 0 < n ∧ CI c but left (n - 1) ks2 m2 := by
  obtain ⟨h1, h2⟩ := h.1 rfl
  obtain ⟨k, rfl⟩ : ∃ k, n = k + 1 := ⟨n - 1, by omega⟩
  refine ⟨by omega, fun hm => ?_, fun hm => ?_⟩
  · rw [hm] at hp
    have := (pass_rest (c := butL c but) (fun l hl => hz l (butL_mem hl)) (fun _ h => h) hp).2 rfl rfl
    refine ⟨?_, by omega⟩
    rw [h1, comesF, hp]; rfl
  · rw [hm] at hp
    rw [h1, comesF, hp]
theorem ps_end {ks ks2 : List Int} {m2 : Bool} {D : List (List Int)} (h : passF D ks false = passF (D.drop D.length) ks2 m2) : passF D ks false = some (ks2, m2) := by
  rw [h, List.drop_length]; rfl
theorem vv_conf {c : List (List Int)} {k : Int} {left l : List Int} {i : Nat} (hi : i < l.length) (h : vivF c k [] l = vivF c k left (l.drop i)) (hc : comesV c k left = none) : vivF c k [] l = left := by
  rw [h, dropD (d := 0) hi, vivF, hc]
theorem vv_hit {c : List (List Int)} {k : Int} {left l ks : List Int} {i : Nat} (hi : i < l.length) (h : vivF c k [] l = vivF c k left (l.drop i)) (hc : comesV c k left = some ks) (h1 : ks.contains (l.getD i 0) = true) : vivF c k [] l = left ++ [l.getD i 0] := by
  rw [h, dropD (d := 0) hi, vivF, hc]
  simp only [h1, if_true]
theorem vv_add {c : List (List Int)} {k : Int} {left l ks : List Int} {i : Nat} (hi : i < l.length) (h : vivF c k [] l = vivF c k left (l.drop i)) (hc : comesV c k left = some ks) (h1 : ks.contains (l.getD i 0) = false) (h2 : (!(ks.contains (-(l.getD i 0)))) = true) : vivF c k [] l = vivF c k (left ++ [l.getD i 0]) (l.drop (i + 1)) := by
  rw [h, dropD (d := 0) hi, vivF, hc]
  simp only [h1, h2, if_true, Bool.false_eq_true, if_false]
theorem vv_skip {c : List (List Int)} {k : Int} {left l ks : List Int} {i : Nat} (hi : i < l.length) (h : vivF c k [] l = vivF c k left (l.drop i)) (hc : comesV c k left = some ks) (h1 : ks.contains (l.getD i 0) = false) (h2 : (!(ks.contains (-(l.getD i 0)))) = false) : vivF c k [] l = vivF c k left (l.drop (i + 1)) := by
  rw [h, dropD (d := 0) hi, vivF, hc]
  simp only [h1, h2, Bool.false_eq_true, if_false]
theorem vv_end {c : List (List Int)} {k : Int} {left l : List Int} {i : Nat} (hi : i = l.length) (h : vivF c k [] l = vivF c k left (l.drop i)) : vivF c k [] l = left := by
  rw [h, hi, List.drop_length]; rfl
theorem viv_ok {c : List (List Int)} {k : Int} {N : Int} (hc : chkV N c = 0) (h0 : 0 ≤ k) (h1 : k < c.length) : flwV c (vivF c k [] (normL (c.getD k.toNat []))) = true := by
  have hm : c.getD k.toNat [] ∈ c := getD_memL (by omega)
  obtain ⟨hN, hb, _⟩ := chkV_0.1 hc
  have hz : ∀ l ∈ c, ∀ x ∈ l, mayP x 65536 = true := fun l hl x hx => by
    have := mayP_iff.1 (hb l hl x hx)
    exact mayP_iff.2 ⟨this.1, by omega, by omega⟩
  refine viv_flw (K := []) hz (fun x hx => (norm_mem.1 hx).2) (fun x hx => by cases hx) (ext_in fun z hz => by simp [negT] at hz) fun left he => flw_t (ext_conf he hm fun x hx => ?_)
  exact negT_iff.2 ⟨by rw [may_neg]; exact hz _ hm _ hx, by rw [Int.neg_neg, List.nil_append]; exact norm_mem.2 ⟨hx, hz _ hm _ hx⟩⟩
theorem viv_in {c : List (List Int)} {k : Int} {m : Nat} : ∀ x ∈ vivF c k [] (normL (c.getD m [])), x ∈ c.getD m [] := fun x hx => by
  rcases viv_sub x hx with h | h
  · cases h
  · exact (norm_mem.1 h).1
end Go.Proofs.YtbpbndlgfiammaaGreatDoor.Cn
namespace Go.Proofs.YtbpbndlgfiammaaGreatDoor.Cn
open Go
def vivN (ks left : List Int) (x : Int) : List Int := if (!(ks.contains (-x))) = true then left ++ [x] else left
def vivR (N : Int) (L : List (List Int)) (k : Int) : List Int × Int := if chkV N L ≠ 0 then ([], chkV N L) else if k < 0 ∨ (L.length : Int) ≤ k then ([], 1) else (vivF L k [] (normL (L.getD k.toNat [])), 0)
section
variable {N k x : Int} {L : List (List Int)} {left ks : List Int}
theorem vr_chk (h : chkV N L ≠ 0) : vivR N L k = ([], chkV N L) := if_pos h
theorem vr_arg (h : chkV N L = 0) (h2 : (decide (k < 0) || decide (k ≥ (L.length : Int))) = true) : vivR N L k = ([], 1) := by
  unfold vivR
  rw [if_neg (fun q => q h), if_pos]
  simpa [Bool.or_eq_true, decide_eq_true_eq] using h2
theorem vr_in (h2 : (decide (k < 0) || decide (k ≥ (L.length : Int))) = false) : 0 ≤ k ∧ k < L.length := by
  simp only [Bool.or_eq_false_iff, decide_eq_false_iff_not] at h2
  omega
theorem vr_ok (h : chkV N L = 0) (h2 : 0 ≤ k ∧ k < L.length) : vivR N L k = (vivF L k [] (normL (L.getD k.toNat [])), 0) := by
  unfold vivR
  rw [if_neg (fun q => q h), if_neg (by omega)]
theorem vn_1 (h : (!(ks.contains (-x))) = true) : vivN ks left x = left ++ [x] := if_pos h
theorem vn_0 (h : (!(ks.contains (-x))) = false) : vivN ks left x = left := if_neg (by rw [h]; exact Bool.false_ne_true)
theorem some_isN {o : Option (List Int)} (h : o ≠ none) : o = some (isN o) := by
  cases o with
  | none => exact absurd rfl h
  | some l => rfl
theorem chk_litT (h : chkV N L = 0) : ∀ l ∈ L, ∀ x ∈ l, x ≠ 0 ∧ -65536 ≤ x ∧ x ≤ 65536 := fun l hl x hx => by
  obtain ⟨hN, hb, _⟩ := chkV_0.1 h
  have := mayP_iff.1 (hb l hl x hx)
  exact ⟨this.1, by omega, by omega⟩
theorem vr_err (h : (vivR N L k).2 ≠ 0) : (vivR N L k).1 = [] := by
  unfold vivR at h ⊢
  split
  · rfl
  · split
    · rfl
    · rename_i h1 h2
      rw [if_neg h1, if_neg h2] at h
      exact absurd rfl h
theorem vr_yes (h : (vivR N L k).2 = 0) : chkV N L = 0 ∧ (0 ≤ k ∧ k < L.length) ∧ (vivR N L k).1 = vivF L k [] (normL (L.getD k.toNat [])) := by
  by_cases h1 : chkV N L = 0
  · by_cases h2 : k < 0 ∨ (L.length : Int) ≤ k
    · exfalso
      unfold vivR at h
      rw [if_neg (fun q => q h1), if_pos h2] at h
      cases h
    · refine ⟨h1, by omega, ?_⟩
      rw [vr_ok h1 (by omega)]
  · rw [vr_chk h1] at h; exact absurd h h1
theorem tv_next1 {i : Nat} {l : List Int} (hi : i < l.length) (hv : vivF L k [] l = vivF L k left (l.drop i)) (hc : comesV L k left = some ks) (h1 : ks.contains (l.getD i 0) = false) (h2 : (!(ks.contains (-(l.getD i 0)))) = true) (hll : left.length ≤ i) (hlx : ∀ x ∈ left, -65536 ≤ x ∧ x ≤ 65536) (hxb : -65536 ≤ l.getD i 0 ∧ l.getD i 0 ≤ 65536) :
    i + 1 ≤ l.length ∧ vivF L k [] l = vivF L k (vivN ks left (l.getD i 0)) (l.drop (i + 1)) ∧ (vivN ks left (l.getD i 0)).length ≤ i + 1 ∧ ∀ x ∈ vivN ks left (l.getD i 0), -65536 ≤ x ∧ x ≤ 65536 := by
  rw [vn_1 h2]
  refine ⟨hi, vv_add hi hv hc h1 h2, by simp only [List.length_append, List.length_cons, List.length_nil]; omega, fun x hx => ?_⟩
  rcases List.mem_append.1 hx with hx | hx
  · exact hlx x hx
  · rw [List.mem_singleton.1 hx]; exact hxb
theorem tv_next0 {i : Nat} {l : List Int} (hi : i < l.length) (hv : vivF L k [] l = vivF L k left (l.drop i)) (hc : comesV L k left = some ks) (h1 : ks.contains (l.getD i 0) = false) (h2 : (!(ks.contains (-(l.getD i 0)))) = false) (hll : left.length ≤ i) (hlx : ∀ x ∈ left, -65536 ≤ x ∧ x ≤ 65536) :
    i + 1 ≤ l.length ∧ vivF L k [] l = vivF L k (vivN ks left (l.getD i 0)) (l.drop (i + 1)) ∧ (vivN ks left (l.getD i 0)).length ≤ i + 1 ∧ ∀ x ∈ vivN ks left (l.getD i 0), -65536 ≤ x ∧ x ≤ 65536 := by
  rw [vn_0 h2]
  exact ⟨hi, vv_skip hi hv hc h1 h2, by omega, hlx⟩
theorem viv_len {c : List (List Int)} {k : Int} : ∀ {l left : List Int}, (vivF c k left l).length ≤ left.length + l.length
  | [], left => by rw [vivF]; omega
  | x :: l, left => by
    rw [vivF]
    split
    · simp only [List.length_cons]; omega
    · split
      · simp only [List.length_append, List.length_cons, List.length_nil]; omega
      · split
        · have := viv_len (c := c) (k := k) (l := l) (left := left ++ [x])
          simp only [List.length_append, List.length_cons, List.length_nil] at this
          simp only [List.length_cons]; omega
        · have := viv_len (c := c) (k := k) (l := l) (left := left)
          simp only [List.length_cons]; omega
theorem vr_len {m : Nat} (hm : ∀ l ∈ L, l.length ≤ m) : (vivR N L k).1.length ≤ m := by
  unfold vivR
  split
  · exact Nat.zero_le _
  · split
    · exact Nat.zero_le _
    · refine Nat.le_trans viv_len ?_
      have h1 := norm_len (L.getD k.toNat [])
      have h2 := hm (L.getD k.toNat []) (getD_memL (by omega))
      simp only [List.length_nil]; omega
theorem c_tidy {f : Bool} {n : Int} (h : ((!f) || decide (n > 60)) = false) : f = true ∧ n ≤ 60 := by
  rw [Bool.or_eq_false_iff, decide_eq_false_iff_not] at h
  refine ⟨by cases f; cases h.1; rfl, by omega⟩
theorem ty_dead (h : (vivR N L k).2 = 0) (hd : (decide (k < 0) || decide (k ≥ (L.length : Int))) = true) : False := by
  obtain ⟨_, h2, _⟩ := vr_yes h
  simp only [Bool.or_eq_true, decide_eq_true_eq] at hd
  omega
theorem ty_err (h : (vivR N L k).2 ≠ 0) : (((vivR N L k).1.length : Int) == 0) = true := by rw [vr_err h]; rfl
theorem ty_end (h : (vivR N L k).2 = 0) : (flwV L (vivR N L k).1 && !((vivR N L k).1.any fun x => !((L.getD k.toNat []).contains x))) = true := by
  obtain ⟨h1, h2, h3⟩ := vr_yes h
  rw [h3, viv_ok h1 h2.1 h2.2, Bool.true_and, Bool.not_eq_true', List.any_eq_false]
  intro x hx
  rw [Bool.not_eq_true, Bool.not_eq_false', List.contains_iff_mem]
  exact viv_in x hx
end
end Go.Proofs.YtbpbndlgfiammaaGreatDoor.Cn
