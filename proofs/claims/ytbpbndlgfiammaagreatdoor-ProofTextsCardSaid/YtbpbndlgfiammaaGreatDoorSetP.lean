/- Sorted lists without repetition stand for sets. Plain lemmas; no program in sight. -/
import Derived.Test.YtbpbndlgfiammaaGreatDoorChkP
import Derived.Lib.RowBridge
set_option linter.unusedSimpArgs false
set_option linter.unusedVariables false
set_option linter.unnecessarySimpa false
namespace Go.Proofs.YtbpbndlgfiammaaGreatDoor.Cn
open Go
/-- in increasing order -/
def sortI (xs : List Int) : List Int := xs.mergeSort fun x y => decide (x ≤ y)
/-- in increasing order, each once -/
def setI (xs : List Int) : List Int := Lib.compact (sortI xs)
theorem sortI_mem {xs : List Int} {x : Int} : x ∈ sortI xs ↔ x ∈ xs := by unfold sortI; exact List.mem_mergeSort
theorem sortI_len (xs : List Int) : (sortI xs).length = xs.length := by unfold sortI; exact List.length_mergeSort _
theorem sortI_pw (xs : List Int) : (sortI xs).Pairwise fun x y => x ≤ y := by
  have h := List.pairwise_mergeSort (le := fun x y : Int => decide (x ≤ y)) (fun a b c => by simp only [decide_eq_true_eq]; omega) (fun a b => by simp only [Bool.or_eq_true, decide_eq_true_eq]; omega) xs
  exact h.imp fun h => of_decide_eq_true h
theorem compact_inc (xs : List Int) (hs : xs.Pairwise fun x y => x ≤ y) : (∀ x, x ∈ Lib.compact xs ↔ x ∈ xs) ∧ (Lib.compact xs).Pairwise fun x y => x < y := by
  have key : ∀ m, m ≤ xs.length → (∀ x, x ∈ Lib.compactUpTo xs.toArray m ↔ x ∈ xs.take m) ∧ (Lib.compactUpTo xs.toArray m).Pairwise fun x y => x < y := by
    intro m
    induction m with
    | zero => intro _; simp [Lib.compactUpTo]
    | succ m ih =>
      intro hm
      obtain ⟨h1, h2⟩ := ih (by omega)
      have hlt : m < xs.length := by omega
      have eg : xs.toArray[m]! = xs[m] := by rw [getElem!_pos xs.toArray m (by simpa using hlt)]; simp
      rw [Lib.compactUpTo_succ, eg, List.take_succ_eq_append_getElem hlt]
      have hle : ∀ y ∈ xs.take m, y ≤ xs[m] := by
        intro y hy
        obtain ⟨j, hj, rfl⟩ := List.mem_iff_getElem.1 hy
        rw [List.length_take] at hj
        rw [List.getElem_take]
        exact List.pairwise_iff_getElem.1 hs j m (by omega) hlt (by omega)
      cases hk : Lib.keeps xs.toArray m with
      | true =>
        rw [if_pos rfl]
        refine ⟨fun x => by simp only [List.mem_append, h1 x], List.pairwise_append.2 ⟨h2, List.pairwise_singleton _ _, fun y hy z hz => ?_⟩⟩
        rw [List.mem_singleton] at hz
        subst hz
        have hy' := (h1 y).1 hy
        have hle' := hle y hy'
        rcases Int.lt_or_le y xs[m] with h | h
        · exact h
        · have e : y = xs[m] := by omega
          subst e
          exfalso
          simp only [Lib.keeps, decide_eq_true_eq] at hk
          rcases hk with h0 | hne
          · subst h0; simp at hy'
          · by_cases hm0 : m = 0
            · subst hm0; simp at hy'
            apply hne
            have e1 : xs.toArray[m - 1]! = xs[m - 1] := by rw [getElem!_pos xs.toArray (m - 1) (by simp; omega)]; simp
            rw [eg, e1]
            have hp : xs[m - 1] ≤ xs[m] := List.pairwise_iff_getElem.1 hs (m - 1) m (by omega) hlt (by omega)
            obtain ⟨j, hj, hj2⟩ := List.mem_iff_getElem.1 hy'
            rw [List.length_take] at hj
            rw [List.getElem_take] at hj2
            by_cases hjm : j = m - 1
            · subst hjm; exact hj2.symm
            · have h4 : xs[j] ≤ xs[m - 1] := List.pairwise_iff_getElem.1 hs j (m - 1) (by omega) (by omega) (by omega)
              omega
      | false =>
        rw [if_neg (by simp)]
        refine ⟨fun x => ?_, by simpa using h2⟩
        simp only [List.append_nil, List.mem_append, List.mem_singleton, h1 x]
        constructor
        · exact .inl
        · rintro (h | rfl)
          · exact h
          · simp only [Lib.keeps, decide_eq_false_iff_not, not_or, Decidable.not_not] at hk
            obtain ⟨hm0, he⟩ := hk
            have e1 : xs.toArray[m - 1]! = xs[m - 1] := by rw [getElem!_pos xs.toArray (m - 1) (by simp; omega)]; simp
            rw [eg, e1] at he
            rw [he]
            exact List.mem_iff_getElem.2 ⟨m - 1, by rw [List.length_take]; omega, by rw [List.getElem_take]⟩
  have := key xs.length (Nat.le_refl _)
  rw [List.take_length] at this
  exact this
theorem setI_mem {xs : List Int} {x : Int} : x ∈ setI xs ↔ x ∈ xs := by unfold setI; rw [(compact_inc _ (sortI_pw xs)).1, sortI_mem]
theorem setI_inc (xs : List Int) : (setI xs).Pairwise fun x y => x < y := (compact_inc _ (sortI_pw xs)).2
theorem setI_len (xs : List Int) : (setI xs).length ≤ xs.length := by unfold setI; exact Nat.le_trans (Lib.compact_length_le _) (by rw [sortI_len]; exact Nat.le_refl _)
/-- two lists in strict order with the same members -/
theorem inc_ext : ∀ {a b : List Int}, a.Pairwise (fun x y => x < y) → b.Pairwise (fun x y => x < y) → (∀ x, x ∈ a ↔ x ∈ b) → a = b
  | [], [], _, _, _ => rfl
  | [], y :: b, _, _, h => absurd ((h y).2 (by simp)) (by simp)
  | x :: a, [], _, _, h => absurd ((h x).1 (by simp)) (by simp)
  | x :: a, y :: b, ha, hb, h => by
    have ha1 : ∀ {z}, z ∈ a → x < z := fun h => List.rel_of_pairwise_cons ha h
    have hb1 : ∀ {z}, z ∈ b → y < z := fun h => List.rel_of_pairwise_cons hb h
    have e : x = y := by
      have h1 := (h x).1 (by simp)
      have h2 := (h y).2 (by simp)
      rcases List.mem_cons.1 h1 with e | h1
      · exact e
      · rcases List.mem_cons.1 h2 with e | h2
        · exact e.symm
        · have := hb1 h1; have := ha1 h2; omega
    subst e
    rw [inc_ext ha.of_cons hb.of_cons fun z => ?_]
    have hz := h z
    simp only [List.mem_cons] at hz
    constructor
    · intro h1
      rcases hz.1 (.inr h1) with e | h2
      · have := ha1 h1; omega
      · exact h2
    · intro h1
      rcases hz.2 (.inr h1) with e | h2
      · have := hb1 h1; omega
      · exact h2
theorem setI_alike (a b : List Int) : (setI a == setI b) = alikeB a b := by
  rw [Bool.eq_iff_iff, beq_iff_eq, alike_iff]
  refine ⟨fun h x => by rw [← setI_mem, ← setI_mem (xs := b), h], fun h => inc_ext (setI_inc _) (setI_inc _) fun x => by rw [setI_mem, setI_mem]; exact h x⟩
theorem eq_len {a b : List Int} (h : (a.length : Int) ≠ b.length) : (a == b) = false := by
  rw [beq_eq_false_iff_ne]; rintro rfl; exact h rfl
theorem eq_no {a b : List Int} {k : Nat} (hk : k < a.length) (h : a.getD k 0 ≠ b.getD k 0) : (a == b) = false := by
  rw [beq_eq_false_iff_ne]; rintro rfl; exact h rfl
theorem eq_yes {a b : List Int} (hl : (a.length : Int) = b.length) (h : ∀ j, j < a.length → a.getD j 0 = b.getD j 0) : (a == b) = true := by
  rw [beq_iff_eq]
  refine List.ext_getElem (by omega) fun j h1 h2 => ?_
  have := h j h1
  rwa [List.getD_eq_getElem?_getD, List.getD_eq_getElem?_getD, List.getElem?_eq_getElem h1, List.getElem?_eq_getElem h2] at this
theorem any_alike (L : List (List Int)) (l : List Int) : (L.any fun x => setI x == setI l) = L.any fun y => alikeB y l := by simp only [setI_alike]
theorem idx_alike (L : List (List Int)) (l : List Int) : idxF (fun x => setI x == setI l) L = idxF (fun y => alikeB y l) L := by simp only [setI_alike]
def dropC (cs : List (List Int)) (l : List Int) : List (List Int) := if 0 ≤ idxF (fun y => alikeB y l) cs then cs.eraseIdx (idxF (fun y => alikeB y l) cs).toNat else cs
theorem idx_lt {α : Type} {p : α → Bool} {l : List α} (h : idxF p l ≥ 0) : idxF p l < l.length := by
  rcases idxF_bd (p := p) l with h1 | h1
  · exact h1.2
  · omega
theorem drop_yes {cs : List (List Int)} {l : List Int} (h : idxF (fun x => setI x == setI l) cs ≥ 0) : cs.take (idxF (fun x => setI x == setI l) cs).toNat ++ cs.drop (idxF (fun x => setI x == setI l) cs + 1).toNat = dropC cs l := by
  rw [idx_alike] at h ⊢
  unfold dropC
  rw [if_pos (by omega), List.eraseIdx_eq_take_drop_succ, show (idxF (fun y => alikeB y l) cs + 1).toNat = (idxF (fun y => alikeB y l) cs).toNat + 1 by omega]
theorem drop_no {cs : List (List Int)} {l : List Int} (h : ¬ idxF (fun x => setI x == setI l) cs ≥ 0) : cs = dropC cs l := by
  rw [idx_alike] at h
  unfold dropC
  rw [if_neg (by omega)]
/-- the active clauses behind a line -/
def nextC (cs : List (List Int)) (x : Int × List Int) : List (List Int) := if x.1 = 3 then dropC cs x.2 else cs ++ [x.2]
/-- the line is accepted -/
def okC (L cs : List (List Int)) (x : Int × List Int) : Bool := if x.1 = 1 then L.any fun y => alikeB y x.2 else if x.1 = 2 then flwV cs x.2 else decide (0 ≤ idxF (fun y => alikeB y x.2) cs)
theorem run_cons (L cs : List (List Int)) (x : Int × List Int) (p : List (Int × List Int)) (h1 : 1 ≤ x.1) (h3 : x.1 ≤ 3) : runC L cs (x :: p) = if okC L cs x = true then runC L (nextC cs x) p else none := by
  unfold okC nextC
  rw [runC]
  by_cases e1 : x.1 = 1
  · rw [if_pos e1, if_pos e1, if_neg (show ¬ x.1 = 3 by omega)]
  · rw [if_neg e1, if_neg e1]
    by_cases e2 : x.1 = 2
    · rw [if_pos e2, if_pos e2, if_neg (show ¬ x.1 = 3 by omega)]
    · rw [if_neg e2, if_neg e2, if_pos (show x.1 = 3 by omega)]
      by_cases e : 0 ≤ idxF (fun y => alikeB y x.2) cs
      · rw [if_pos e, if_pos (decide_eq_true e)]; unfold dropC; rw [if_pos e]
      · rw [if_neg e, if_neg (by rw [decide_eq_false e]; simp)]
theorem run_next {L cs : List (List Int)} {p : List (Int × List Int)} {i : Nat} (hi : i < p.length) (hr : runC L [] (p.take i) = some cs) (h1 : 1 ≤ (p.getD i (0, [])).1) (h3 : (p.getD i (0, [])).1 ≤ 3) (hq : okC L cs (p.getD i (0, [])) = true) : runC L [] (p.take (i + 1)) = some (nextC cs (p.getD i (0, []))) := by
  rw [take_sD (d := (0, [])) hi, run_app, hr]
  show runC L cs [_] = _
  rw [run_cons _ _ _ _ h1 h3, if_pos hq]; rfl
theorem run_stop {L cs : List (List Int)} {p : List (Int × List Int)} {i : Nat} (hi : i < p.length) (hr : runC L [] (p.take i) = some cs) (h1 : 1 ≤ (p.getD i (0, [])).1) (h3 : (p.getD i (0, [])).1 ≤ 3) (hq : okC L cs (p.getD i (0, [])) = false) : runC L [] p = none := by
  have e : p = p.take i ++ p.getD i (0, []) :: p.drop (i + 1) := by
    rw [List.getD_eq_getElem?_getD, List.getElem?_eq_getElem hi]; simp
  rw [e, run_app, hr]
  show runC L cs (_ :: _) = _
  rw [run_cons _ _ _ _ h1 h3, if_neg (by rw [hq]; simp)]
theorem line_kind {p : List (Int × List Int)} (h : frmV p = 0) {i : Nat} (hi : i < p.length) : 1 ≤ (p.getD i (0, [])).1 ∧ (p.getD i (0, [])).1 ≤ 3 := by
  have h2 := List.all_eq_true.1 (frm_ok.1 h).2 _ (getD_memL (d := (0, [])) hi)
  unfold lineOk at h2
  simp only [Bool.and_eq_true, decide_eq_true_eq] at h2
  exact h2.1
theorem line_three {p : List (Int × List Int)} (h : frmV p = 0) {i : Nat} (hi : i < p.length) : (p.getD i (0, [])).1 = 1 ∨ (p.getD i (0, [])).1 = 2 ∨ (p.getD i (0, [])).1 = 3 := by
  have := line_kind h hi; omega
theorem next_len (cs : List (List Int)) (x : Int × List Int) : (nextC cs x).length ≤ cs.length + 1 := by
  unfold nextC dropC
  split
  · split
    · have := List.length_eraseIdx_le cs (idxF (fun y => alikeB y x.2) cs).toNat; omega
    · omega
  · simp
theorem next_mem {cs : List (List Int)} {x : Int × List Int} {l : List Int} (h : l ∈ nextC cs x) : l ∈ cs ∨ l = x.2 := by
  unfold nextC dropC at h
  split at h
  · split at h
    · exact .inl (List.mem_of_mem_eraseIdx h)
    · exact .inl h
  · rcases List.mem_append.1 h with h | h
    · exact .inl h
    · exact .inr (List.mem_singleton.1 h)
theorem next_1 {cs : List (List Int)} {x : Int × List Int} (h : x.1 ≠ 3) : cs ++ [x.2] = nextC cs x := by unfold nextC; rw [if_neg h]
theorem next_3 {cs : List (List Int)} {x : Int × List Int} (h : x.1 = 3) : dropC cs x.2 = nextC cs x := by unfold nextC; rw [if_pos h]
theorem ok_1 {L cs : List (List Int)} {x : Int × List Int} (h : x.1 = 1) : okC L cs x = L.any fun y => alikeB y x.2 := by unfold okC; rw [if_pos h]
theorem ok_2 {L cs : List (List Int)} {x : Int × List Int} (h : x.1 = 2) : okC L cs x = flwV cs x.2 := by unfold okC; rw [if_neg (by omega), if_pos h]
theorem ok_3 {L cs : List (List Int)} {x : Int × List Int} (h : x.1 = 3) : okC L cs x = decide (0 ≤ idxF (fun y => alikeB y x.2) cs) := by unfold okC; rw [if_neg (by omega), if_neg (by omega)]
def coreAt (N : Int) (core : List Int) (i : Nat) : Bool := mayP (core.getD i 0) N && (!(core.take i).contains (core.getD i 0) && !(core.take i).contains (-(core.getD i 0)))
theorem core_is (N : Int) (core : List Int) : coreOk N core = (List.range core.length).all (coreAt N core) := rfl
theorem core_yes {N : Int} {core : List Int} {n : Nat} (hn : n = core.length) (h : ∀ j, j < n → coreAt N core j = true) : coreOk N core = true := by
  rw [core_is, List.all_eq_true]; intro j hj; exact h j (by rw [List.mem_range] at hj; omega)
theorem core_no {N : Int} {core : List Int} {i : Nat} (hi : i < core.length) (h : coreAt N core i = false) : coreOk N core = false := by
  rw [core_is, List.all_eq_false]; exact ⟨i, List.mem_range.2 hi, by rw [h]; simp⟩
theorem core_at {N : Int} {core : List Int} {i : Nat} : (((((core.getD i 0 == 0) || decide (core.getD i 0 > N)) || decide (core.getD i 0 < -N)) || ((core.take i).drop 0).contains (core.getD i 0)) || ((core.take i).drop 0).contains (-(core.getD i 0))) = !coreAt N core i := by
  unfold coreAt mayP
  rw [List.drop_zero, Bool.eq_iff_iff]
  simp only [Bool.or_eq_true, Bool.not_eq_true', Bool.and_eq_false_iff, decide_eq_true_eq, decide_eq_false_iff_not, beq_iff_eq, bne_eq_false_iff_eq, Bool.not_eq_false']
  constructor
  · rintro ((((h | h) | h) | h) | h)
    · exact .inl (.inl (.inl h))
    · exact .inl (.inr (by omega))
    · exact .inl (.inl (.inr (by omega)))
    · exact .inr (.inl h)
    · exact .inr (.inr h)
  · rintro (((h | h) | h) | (h | h))
    · exact .inl (.inl (.inl (.inl h)))
    · exact .inl (.inl (.inr (by omega)))
    · exact .inl (.inl (.inl (.inr (by omega))))
    · exact .inl (.inr h)
    · exact .inr h
theorem core_fit {x N : Int} (h0 : 0 ≤ N) (hN : N ≤ 65536) {b : Bool} (h : (!((((x == 0) || decide (x > N)) || decide (x < -N)) || b)) = true) : -9223372036854775808 ≤ -x ∧ -x ≤ 9223372036854775807 := by
  simp only [Bool.not_eq_true', Bool.or_eq_false_iff, decide_eq_false_iff_not] at h
  omega
theorem core_bd {N : Int} {core : List Int} {i : Nat} (h0 : 0 ≤ N) (hN : N ≤ 65536) (h : coreAt N core i = true) : -65536 ≤ core.getD i 0 ∧ core.getD i 0 ≤ 65536 := by
  unfold coreAt at h
  simp only [Bool.and_eq_true] at h
  have := mayP_iff.1 h.1
  omega
theorem core_next {core : List Int} {i : Nat} (hi : i < core.length) : (core.take i).map (fun x => -x) ++ [-(core.getD i 0)] = (core.take (i + 1)).map fun x => -x := by
  rw [take_sD (d := 0) hi, List.map_append]; rfl
theorem chk_e1 {N : Int} {L : List (List Int)} {p : List (Int × List Int)} {core : List Int} (h : chkV N L ≠ 0) : chkC N L p core = chkV N L := by unfold chkC; rw [if_pos h]
theorem chk_e2 {N : Int} {L : List (List Int)} {p : List (Int × List Int)} {core : List Int} (h1 : chkV N L = 0) (h : frmV p ≠ 0) : chkC N L p core = frmV p := by unfold chkC; rw [if_neg (by omega), if_pos h]
theorem chk_e3 {N : Int} {L : List (List Int)} {p : List (Int × List Int)} {core : List Int} (h1 : chkV N L = 0) (h2 : frmV p = 0) (h : coreOk N core = false) : chkC N L p core = 1 := by unfold chkC; rw [if_neg (by omega), if_neg (by omega), if_pos h]
theorem chk_e4 {N : Int} {L : List (List Int)} {p : List (Int × List Int)} {core : List Int} (h1 : chkV N L = 0) (h2 : frmV p = 0) (h3 : coreOk N core = true) : chkC N L p core = endC core (runC L [] p) := by unfold chkC; rw [if_neg (by omega), if_neg (by omega), if_neg (by rw [h3]; simp)]
end Go.Proofs.YtbpbndlgfiammaaGreatDoor.Cn
