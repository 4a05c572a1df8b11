/- The words of a text put together from lines and words; numerals read as they were written. Plain lemmas; no program in sight. -/
import Derived.Test.YtiokflebeojokaaGreatDoorGetP
import Derived.Test.YtiokflebeojokaaGreatDoorPutP
import Derived.Test.YtiokflebeojokaaGreatDoorLaw14R
set_option linter.unusedSimpArgs false
set_option linter.unusedVariables false
set_option linter.unnecessarySimpa false
namespace Go.Proofs.YtiokflebeojokaaGreatDoor.Cn
open Go
/-- lines, byte by byte: the open line, the closed ones -/
def lstep (s : List Int × List (List Int)) (x : Int) : List Int × List (List Int) := if x = 10 then ([], s.2 ++ [s.1]) else (s.1 ++ [x], s.2)
def lfold (xs : List Int) : List Int × List (List Int) := xs.foldl lstep ([], [])
def linesR (xs : List Int) : List (List Int) := (lfold xs).2 ++ [(lfold xs).1]
def fstep (s : List Int × List (List Int)) (x : Int) : List Int × List (List Int) := if sepB x = true then (if s.1 = [] then s else ([], s.2 ++ [s.1])) else (s.1 ++ [x], s.2)
def ffold (xs : List Int) : List Int × List (List Int) := xs.foldl fstep ([], [])
def fieldsR (xs : List Int) : List (List Int) := if (ffold xs).1 = [] then (ffold xs).2 else (ffold xs).2 ++ [(ffold xs).1]
def lineW (l : List Int) : List (List Int) := if 0 < l.length ∧ l.getD 0 0 = 99 then [] else fieldsR l
def wordsR (xs : List Int) : List (List Int) := (linesR xs).flatMap lineW
theorem take_s {xs : List Int} {i : Nat} (h : i < xs.length) : xs.take (i + 1) = xs.take i ++ [xs.getD i 0] := by
  rw [List.take_succ_eq_append_getElem h, List.getD_eq_getElem?_getD, List.getElem?_eq_getElem h]; rfl
theorem fold_s {α : Type} (f : α → Int → α) (z : α) {xs : List Int} {i : Nat} (h : i < xs.length) : (xs.take (i + 1)).foldl f z = f ((xs.take i).foldl f z) (xs.getD i 0) := by
  rw [take_s h, List.foldl_append]; rfl
theorem drop_s {xs : List Int} {i s : Nat} (h : i < xs.length) (hs : s ≤ i) : (xs.take (i + 1)).drop s = (xs.take i).drop s ++ [xs.getD i 0] := by
  rw [take_s h, List.drop_append_of_le_length (by rw [List.length_take]; omega)]
theorem ln_is (xs : List Int) : ∀ i, i ≤ xs.length → (xs.take i).foldl lstep ([], []) = ((xs.take i).drop (lnS xs i).1, (lnS xs i).2.map (cut xs))
  | 0, _ => by simp [lnS]
  | i + 1, h => by
    have ih := ln_is xs i (by omega)
    have hs := (ln_st xs i).1
    rw [fold_s _ _ (by omega), ih, lnS]
    unfold lstep
    by_cases hx : xs.getD i 0 = 10
    · rw [if_pos hx, if_pos hx, List.map_append]
      simp [cut]
    · rw [if_neg hx, if_neg hx, drop_s (by omega) hs]
theorem lines_is (xs : List Int) : linesR xs = (lnE xs).map (cut xs) := by
  have h := ln_is xs xs.length (Nat.le_refl _)
  rw [List.take_length] at h
  unfold linesR lfold lnE
  rw [h, List.map_append]
  simp [cut]
theorem fd_is (xs : List Int) : ∀ i, i ≤ xs.length → (xs.take i).foldl fstep ([], []) = (if (fldS xs i).1 < 0 then [] else (xs.take i).drop (fldS xs i).1.toNat, (fldS xs i).2.map (cut xs))
  | 0, _ => by simp [fldS]
  | i + 1, h => by
    have ih := fd_is xs i (by omega)
    have hs := (fld_st xs i).1
    rw [fold_s _ _ (by omega), ih]
    unfold fstep
    by_cases hx : sepB (xs.getD i 0) = true
    · by_cases h0 : (fldS xs i).1 < 0
      · rw [fld_idle hx h0, if_pos hx, if_pos h0, if_pos rfl, if_pos h0]
      · have hne : (xs.take i).drop (fldS xs i).1.toNat ≠ [] := fun e => by
          have := congrArg List.length e
          rw [List.length_drop, List.length_take] at this
          simp at this
          omega
        rw [fld_close hx (by omega), if_pos hx, if_neg h0, if_neg hne]
        simp [cut]
    · have e : fldS xs (i + 1) = if (fldS xs i).1 < 0 then ((i : Int), (fldS xs i).2) else fldS xs i := by rw [fldS, if_neg hx]
      rw [e, if_neg hx]
      by_cases h0 : (fldS xs i).1 < 0
      · rw [if_pos h0, if_pos h0, if_neg (by show ¬ ((i : Int) < 0); omega)]
        rw [show ((i : Int), (fldS xs i).2).1.toNat = i by simp, drop_s (by omega) (Nat.le_refl _), List.drop_eq_nil_of_le (by rw [List.length_take]; omega)]
      · rw [if_neg h0, if_neg h0, if_neg h0, drop_s (by omega) (by omega)]
theorem fields_is (xs : List Int) : fieldsR xs = (fldE xs).map (cut xs) := by
  have h := fd_is xs xs.length (Nat.le_refl _)
  rw [List.take_length] at h
  have hs := (fld_st xs xs.length).1
  unfold fieldsR ffold fldE
  rw [h]
  by_cases h0 : (fldS xs xs.length).1 < 0
  · simp only [if_pos h0, if_true, if_neg (show ¬ (0 ≤ (fldS xs xs.length).1) by omega)]
  · have hne : xs.drop (fldS xs xs.length).1.toNat ≠ [] := fun e => by
      have := congrArg List.length e
      rw [List.length_drop] at this
      simp at this
      omega
    simp only [if_neg h0, if_neg hne, if_pos (show 0 ≤ (fldS xs xs.length).1 by omega), List.map_append, List.map_cons, List.map_nil]
    simp [cut]
theorem cut_cut {xs : List Int} {q r : Nat × Nat} (hr : r.2 ≤ (cut xs q).length) (hq : q.1 ≤ q.2) (hq2 : q.2 ≤ xs.length) : cut (cut xs q) r = cut xs (q.1 + r.1, q.1 + r.2) := by
  rw [cut_len hq2] at hr
  unfold cut
  rw [List.take_drop, List.take_take, List.drop_drop, Nat.min_eq_left (by omega)]
theorem words_fl (xs : List Int) : ∀ k, wrdS xs k = ((List.range k).flatMap fun j => lnW xs ((lnE xs).getD j (0, 0)))
  | 0 => rfl
  | k + 1 => by rw [wrdS, words_fl xs k, List.range_succ, List.flatMap_append]; simp
theorem range_fl {α β : Type} (f : α → List β) (d : α) (l : List α) : ((List.range l.length).flatMap fun j => f (l.getD j d)) = l.flatMap f := by
  have e : l = (List.range l.length).map fun j => l.getD j d := by
    apply List.ext_getElem
    · simp
    · intro i h1 h2
      simp [List.getD, h1]
  conv => rhs; rw [e, List.flatMap_map]
theorem line_is {xs : List Int} {q : Nat × Nat} (h : q.1 ≤ q.2 ∧ q.2 ≤ xs.length) : (lnW xs q).map (cut xs) = lineW (cut xs q) := by
  unfold lnW lineW
  have hc := cut_len (q := q) h.2
  by_cases h0 : q.1 < q.2
  · have hg := cut_getD (xs := xs) (q := q) (j := 0) (by omega)
    rw [Nat.add_zero] at hg
    rw [hg]
    by_cases h1 : xs.getD q.1 0 = 99
    · rw [if_pos ⟨h0, h1⟩, if_pos ⟨by omega, h1⟩]; rfl
    · rw [if_neg (fun h => h1 h.2), if_neg (fun h => h1 h.2), fields_is, List.map_map]
      refine List.map_congr_left fun r hr => ?_
      have := fld_bd (xs := cut xs q) r hr
      exact (cut_cut this.2 h.1 h.2).symm
  · rw [if_neg (fun h => h0 h.1), if_neg (fun h => by omega), fields_is, List.map_map]
    refine List.map_congr_left fun r hr => ?_
    have := fld_bd (xs := cut xs q) r hr
    exact (cut_cut this.2 h.1 h.2).symm
theorem words_is (xs : List Int) : wordsV xs = wordsR xs := by
  unfold wordsV wrdE wordsR
  rw [words_fl, range_fl (lnW xs), lines_is, List.map_flatMap, List.flatMap_map, List.flatMap_def, List.flatMap_def]
  exact congrArg _ (List.map_congr_left fun q hq => line_is (ln_bd q hq))
/-! ### putting together -/
theorem lstep_no : ∀ (A : List Int) (c : List Int) (d : List (List Int)), (∀ x ∈ A, x ≠ 10) → A.foldl lstep (c, d) = (c ++ A, d)
  | [], c, d, _ => by simp
  | x :: A, c, d, h => by
    rw [List.foldl_cons, show lstep (c, d) x = (c ++ [x], d) from if_neg (h x (by simp)), lstep_no A _ _ fun y hy => h y (by simp [hy])]
    simp
theorem lines_cons {A B : List Int} (h : ∀ x ∈ A, x ≠ 10) : ∀ (d : List (List Int)), (A ++ 10 :: B).foldl lstep ([], d) = B.foldl lstep ([], d ++ [A]) := fun d => by
  rw [List.foldl_append, lstep_no A _ _ h, List.foldl_cons]
  exact congrArg (B.foldl lstep) (by show lstep ([] ++ A, d) 10 = _; unfold lstep; rw [if_pos rfl]; simp)
theorem lfold_d : ∀ (B c : List Int) (d : List (List Int)), B.foldl lstep (c, d) = ((B.foldl lstep (c, [])).1, d ++ (B.foldl lstep (c, [])).2)
  | [], c, d => by simp
  | x :: B, c, d => by
    rw [List.foldl_cons, List.foldl_cons]
    by_cases hx : x = 10
    · rw [show lstep (c, d) x = ([], d ++ [c]) from if_pos hx, show lstep (c, []) x = ([], [] ++ [c]) from if_pos hx, lfold_d B [] (d ++ [c]), lfold_d B [] ([] ++ [c])]
      simp
    · rw [show lstep (c, d) x = (c ++ [x], d) from if_neg hx, show lstep (c, []) x = (c ++ [x], []) from if_neg hx]
      exact lfold_d B _ d
theorem words_line {A B : List Int} (h : ∀ x ∈ A, x ≠ 10) : wordsR (A ++ 10 :: B) = lineW A ++ wordsR B := by
  unfold wordsR linesR lfold
  rw [lines_cons h, lfold_d B [] ([] ++ [A])]
  simp
theorem words_nil : wordsR [] = [] := rfl
theorem fstep_no : ∀ (A : List Int) (c : List Int) (d : List (List Int)), (∀ x ∈ A, sepB x = false) → A.foldl fstep (c, d) = (c ++ A, d)
  | [], c, d, _ => by simp
  | x :: A, c, d, h => by
    rw [List.foldl_cons, show fstep (c, d) x = (c ++ [x], d) from if_neg (by rw [h x (by simp)]; simp), fstep_no A _ _ fun y hy => h y (by simp [hy])]
    simp
theorem ffold_d : ∀ (B c : List Int) (d : List (List Int)), B.foldl fstep (c, d) = ((B.foldl fstep (c, [])).1, d ++ (B.foldl fstep (c, [])).2)
  | [], c, d => by simp
  | x :: B, c, d => by
    rw [List.foldl_cons, List.foldl_cons]
    by_cases hx : sepB x = true
    · by_cases hc : c = []
      · rw [show fstep (c, d) x = (c, d) by unfold fstep; rw [if_pos hx, if_pos hc], show fstep (c, []) x = (c, []) by unfold fstep; rw [if_pos hx, if_pos hc]]
        exact ffold_d B c d
      · rw [show fstep (c, d) x = ([], d ++ [c]) by unfold fstep; rw [if_pos hx, if_neg hc], show fstep (c, []) x = ([], [] ++ [c]) by unfold fstep; rw [if_pos hx, if_neg hc], ffold_d B [] (d ++ [c]), ffold_d B [] ([] ++ [c])]
        simp
    · rw [show fstep (c, d) x = (c ++ [x], d) from if_neg hx, show fstep (c, []) x = (c ++ [x], []) from if_neg hx]
      exact ffold_d B _ d
theorem fields_cons {A B : List Int} (h : ∀ x ∈ A, sepB x = false) (hn : A ≠ []) : fieldsR (A ++ 32 :: B) = A :: fieldsR B := by
  unfold fieldsR ffold
  rw [List.foldl_append, fstep_no A _ _ h, List.foldl_cons, show fstep ([] ++ A, []) 32 = ([], [A]) by unfold fstep; rw [if_pos (by decide), if_neg (by simpa using hn)]; simp, ffold_d B [] [A]]
  split <;> simp
theorem fields_one {A : List Int} (h : ∀ x ∈ A, sepB x = false) (hn : A ≠ []) : fieldsR A = [A] := by
  unfold fieldsR ffold
  rw [fstep_no A _ _ h]
  simp [hn]
/-! ### numerals -/
def dgs (u : Nat) : List Int := (Go.Lib.decDigits u).map fun b => (b.toNat : Int)
theorem dgs_lo {u : Nat} (h : u < 10) : dgs u = [48 + (u : Int)] := by
  unfold dgs
  rw [Go.Lib.decDigits_one h]
  have : (UInt8.ofNat (48 + u)).toNat = 48 + u := by rw [UInt8.toNat_ofNat']; omega
  simp only [List.map_cons, List.map_nil, this]
  simp
theorem dgs_hi {u : Nat} (h : ¬ u < 10) : dgs u = dgs (u / 10) ++ [48 + ((u % 10 : Nat) : Int)] := by
  unfold dgs
  rw [Go.Lib.decDigits, dif_neg h, List.map_append]
  have : (UInt8.ofNat (48 + u % 10)).toNat = 48 + u % 10 := by rw [UInt8.toNat_ofNat']; omega
  simp only [List.map_cons, List.map_nil, this]
  simp
theorem dgs_all : ∀ (u : Nat), (∀ x ∈ dgs u, 48 ≤ x ∧ x ≤ 57) ∧ dval (dgs u) = (u : Int) ∧ 1 ≤ (dgs u).length ∧ ((dgs u).getD 0 0 = 48 → u = 0) := fun u => by
  induction u using Nat.strongRecOn with
  | _ u ih =>
    by_cases h : u < 10
    · rw [dgs_lo h]
      exact ⟨fun x hx => by rw [List.mem_singleton] at hx; omega, by show 10 * 0 + (48 + (u : Int) - 48) = u; omega, by simp, fun h => by simp at h; omega⟩
    · obtain ⟨h1, h2, h3, h4⟩ := ih (u / 10) (by omega)
      rw [dgs_hi h]
      refine ⟨fun x hx => ?_, ?_, by simp, fun h9 => ?_⟩
      · rcases List.mem_append.1 hx with h9 | h9
        · exact h1 x h9
        · rw [List.mem_singleton] at h9; omega
      · rw [dval_snoc, h2]; omega
      · rw [List.getD_eq_getElem?_getD, List.getElem?_append_left (by omega), ← List.getD_eq_getElem?_getD] at h9
        have := h4 h9
        omega
theorem dgs_len : ∀ (k u : Nat), u < 10 ^ (k + 1) → (dgs u).length ≤ k + 1
  | 0, u, h => by rw [dgs_lo (by simpa using h)]; simp
  | k + 1, u, h => by
    by_cases h9 : u < 10
    · rw [dgs_lo h9]; simp
    · rw [dgs_hi h9, List.length_append]
      have := dgs_len k (u / 10) (by rw [Nat.pow_succ] at h; omega)
      simp; omega
theorem itoa_pos {n : Int} (h : 0 ≤ n) : itoaI n = dgs n.toNat := by unfold itoaI dgs Go.Lib.itoa; rw [if_neg (by omega)]
theorem itoa_neg {n : Int} (h : n < 0) : itoaI n = 45 :: dgs n.natAbs := by unfold itoaI dgs Go.Lib.itoa; rw [if_pos h]; rfl
theorem itoa_mem {n : Int} : ∀ x ∈ itoaI n, x = 45 ∨ (48 ≤ x ∧ x ≤ 57) := fun x hx => by
  by_cases h : n < 0
  · rw [itoa_neg h, List.mem_cons] at hx
    rcases hx with rfl | hx
    · exact .inl rfl
    · exact .inr ((dgs_all _).1 x hx)
  · rw [itoa_pos (by omega)] at hx
    exact .inr ((dgs_all _).1 x hx)
theorem itoa_ne (n : Int) : itoaI n ≠ [] := fun e => by
  by_cases h : n < 0
  · rw [itoa_neg h] at e; cases e
  · rw [itoa_pos (by omega)] at e
    have := (dgs_all n.toNat).2.2.1
    rw [e] at this; simp at this
theorem dig_all {u : Nat} : (dgs u).all isDg = true := List.all_eq_true.2 fun x hx => by
  have := (dgs_all u).1 x hx
  unfold isDg
  rw [decide_eq_false (show ¬ x < 48 by omega), decide_eq_false (show ¬ x > 57 by omega)]; rfl
theorem num_itoa {n : Int} (h1 : -65536 ≤ n) (h2 : n ≤ 65536) : numOk (itoaI n) = true ∧ numN (itoaI n) = n := by
  have key : ∀ u : Nat, u ≤ 65536 → (dgs u).length ≤ 5 := fun u hu => dgs_len 4 u (by omega)
  by_cases h : n < 0
  · have hM : numM (itoaI n) = true := by unfold numM; rw [itoa_neg h]; simp
    have hD : numD (itoaI n) = dgs n.natAbs := by rw [numD_t hM, List.take_length, itoa_neg h]; rfl
    obtain ⟨a1, a2, a3, a4⟩ := dgs_all n.natAbs
    have a5 := key n.natAbs (by omega)
    have hB : numBad (itoaI n) = false := by
      rw [bad_of hD, hM, show (((dgs n.natAbs).length : Int) == 0) = false by rw [beq_eq_false_iff_ne]; omega, decide_eq_false (show ¬ ((dgs n.natAbs).length : Int) > 10 by omega), show (((dgs n.natAbs).getD 0 0) == 48) = false by rw [beq_eq_false_iff_ne]; intro e; have := a4 e; omega]
      rfl
    have hO : numOk (itoaI n) = true := by unfold numOk; rw [hB, hD, dig_all]; rfl
    exact ⟨hO, by unfold numN; rw [hO, hM, hD, a2]; show -((n.natAbs : Nat) : Int) = n; omega⟩
  · have e := itoa_pos (n := n) (by omega)
    obtain ⟨a1, a2, a3, a4⟩ := dgs_all n.toNat
    have a5 := key n.toNat (by omega)
    have hM : numM (itoaI n) = false := by
      unfold numM
      rw [e]
      have : (dgs n.toNat).getD 0 0 ∈ dgs n.toNat := getD_memL (by omega)
      have := a1 _ this
      rw [show ((dgs n.toNat).getD 0 0 == 45) = false by rw [beq_eq_false_iff_ne]; omega, Bool.and_false]
    have hD : numD (itoaI n) = dgs n.toNat := by rw [numD_f hM, e]
    have hB : numBad (itoaI n) = false := by
      rw [bad_of hD, hM, show (((dgs n.toNat).length : Int) == 0) = false by rw [beq_eq_false_iff_ne]; omega, decide_eq_false (show ¬ ((dgs n.toNat).length : Int) > 10 by omega)]
      by_cases h0 : (dgs n.toNat).getD 0 0 = 48
      · have := a4 h0
        rw [this, dgs_lo (by omega)]; decide
      · rw [show (((dgs n.toNat).getD 0 0) == 48) = false by rw [beq_eq_false_iff_ne]; exact h0]; rfl
    have hO : numOk (itoaI n) = true := by unfold numOk; rw [hB, hD, dig_all]; rfl
    exact ⟨hO, by unfold numN; rw [hO, hM, hD, a2]; show ((n.toNat : Nat) : Int) = n; omega⟩
end Go.Proofs.YtiokflebeojokaaGreatDoor.Cn
