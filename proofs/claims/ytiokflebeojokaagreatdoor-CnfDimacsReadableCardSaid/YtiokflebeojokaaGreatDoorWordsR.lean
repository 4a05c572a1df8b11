/- What Put writes, Get reads. Plain lemmas; no program in sight. -/
import Derived.Test.YtiokflebeojokaaGreatDoorWordsQ
set_option linter.unusedSimpArgs false
set_option linter.unusedVariables false
set_option linter.unnecessarySimpa false
namespace Go.Proofs.YtiokflebeojokaaGreatDoor.Cn
open Go
theorem itoa_sep {n x : Int} (h : x ∈ itoaI n) : sepB x = false ∧ x ≠ 10 ∧ x ≠ 99 := by
  have := itoa_mem x h
  have h1 : ¬ x = 32 := by omega
  have h2 : ¬ x = 9 := by omega
  have h3 : ¬ x = 13 := by omega
  exact ⟨by simp [sepB, h1, h2, h3], by omega, by omega⟩
theorem fields_lits : ∀ l : List Int, fieldsR (litsB l ++ [48]) = l.map itoaI ++ [[48]]
  | [] => by decide
  | x :: l => by
    have e : litsB (x :: l) ++ [48] = itoaI x ++ 32 :: (litsB l ++ [48]) := by simp [litsB]
    rw [e, fields_cons (fun y hy => (itoa_sep hy).1) (itoa_ne x), fields_lits l]; rfl
theorem lits_mem {l : List Int} : ∀ x ∈ litsB l, x = 32 ∨ x = 45 ∨ (48 ≤ x ∧ x ≤ 57) := fun x hx => by
  obtain ⟨y, _, h⟩ := List.mem_flatMap.1 hx
  rcases List.mem_append.1 h with h | h
  · exact .inr (itoa_mem x h)
  · rw [List.mem_singleton] at h; exact .inl h
theorem line_lits (l : List Int) : lineW (litsB l ++ [48]) = l.map itoaI ++ [[48]] := by
  have h : ¬ (0 < (litsB l ++ [48]).length ∧ (litsB l ++ [48]).getD 0 0 = 99) := fun h => by
    have hm : (litsB l ++ [48]).getD 0 0 ∈ litsB l ++ [48] := getD_memL h.1
    rw [h.2] at hm
    rcases List.mem_append.1 hm with h9 | h9
    · have := lits_mem _ h9; omega
    · rw [List.mem_singleton] at h9; omega
  unfold lineW
  rw [if_neg h, fields_lits]
theorem words_cls : ∀ L : List (List Int), wordsR (clsB L) = L.flatMap fun l => l.map itoaI ++ [[48]]
  | [] => rfl
  | l :: L => by
    have e : clsB (l :: L) = (litsB l ++ [48]) ++ 10 :: clsB L := by simp [clsB]
    rw [e, words_line (fun x hx => by
      rcases List.mem_append.1 hx with h9 | h9
      · have := lits_mem _ h9; omega
      · rw [List.mem_singleton] at h9; omega), line_lits, words_cls L]
    rfl
theorem words_put (N : Int) (L : List (List Int)) : wordsV (putB N L) = [112] :: [99, 110, 102] :: itoaI N :: itoaI L.length :: L.flatMap fun l => l.map itoaI ++ [[48]] := by
  have e : putB N L = ([112] ++ 32 :: ([99, 110, 102] ++ 32 :: (itoaI N ++ 32 :: itoaI L.length))) ++ 10 :: clsB L := by simp [putB, litsB]
  rw [words_is, e, words_line (fun x hx => by
    simp only [List.mem_append, List.mem_cons, List.not_mem_nil, or_false] at hx
    rcases hx with h | h | (h | h | h) | h | h | h | h
    all_goals first | omega | exact (itoa_sep h).2.1), words_cls]
  unfold lineW
  rw [if_neg (by simp), fields_cons (by decide) (by decide), fields_cons (by decide) (by decide), fields_cons (fun y hy => (itoa_sep hy).1) (itoa_ne N), fields_one (fun y hy => (itoa_sep hy).1) (itoa_ne _)]
  rfl
theorem num_0 : numOk [48] = true ∧ numN [48] = 0 := by decide
theorem spl_all : ∀ (L acc : List (List Int)), (∀ l ∈ L, ∀ x ∈ l, x ≠ 0) → spl (L.flatMap fun l => l ++ [0]) [] acc = some (acc ++ L)
  | [], acc, _ => by simp [spl]
  | l :: L, acc, h => by
    rw [List.flatMap_cons, List.append_assoc, spl_skip l _ _ _ (h l (by simp)), List.nil_append, List.singleton_append, spl, if_pos rfl, spl_all L _ fun m hm => h m (by simp [hm])]
    simp
theorem nums_fl {L : List (List Int)} (h : ∀ l ∈ L, ∀ x ∈ l, -65536 ≤ x ∧ x ≤ 65536) : (L.flatMap fun l => l.map itoaI ++ [[48]]).map numN = L.flatMap fun l => l ++ [0] := by
  rw [List.map_flatMap, List.flatMap_def, List.flatMap_def]
  refine congrArg _ (List.map_congr_left fun l hl => ?_)
  rw [List.map_append, List.map_map, List.map_cons, List.map_nil, num_0.2]
  congr 1
  conv => rhs; rw [← List.map_id l]
  exact List.map_congr_left fun x hx => (num_itoa (h l hl x hx).1 (h l hl x hx).2).2
theorem get_put {N : Int} {L : List (List Int)} (h : chkV N L = 0) : getV (wordsV (putB N L)) = (N, L, 0) := by
  obtain ⟨h0, h1, h2, h3⟩ := chk_lit h
  have hb : ∀ l ∈ L, ∀ x ∈ l, -65536 ≤ x ∧ x ≤ 65536 := fun l hl x hx => by have := h3 l hl x hx; omega
  have hN := num_itoa (n := N) (by omega) h1
  have hK := num_itoa (n := (L.length : Int)) (by omega) (by omega)
  rw [words_put]
  have hn : numsW ([112] :: [99, 110, 102] :: itoaI N :: itoaI L.length :: L.flatMap fun l => l.map itoaI ++ [[48]]) = N :: (L.length : Int) :: L.flatMap fun l => l ++ [0] := by
    unfold numsW
    rw [show ([112] :: [99, 110, 102] :: itoaI N :: itoaI L.length :: L.flatMap fun l => l.map itoaI ++ [[48]]).drop 2 = itoaI N :: itoaI L.length :: L.flatMap fun l => l.map itoaI ++ [[48]] from rfl, List.map_cons, List.map_cons, hN.2, hK.2, nums_fl hb]
  have hbad : badW ([112] :: [99, 110, 102] :: itoaI N :: itoaI L.length :: L.flatMap fun l => l.map itoaI ++ [[48]]) = false := get_ok fun i hi => by
    match i, hi with
    | 0, _ => rfl
    | 1, _ => rfl
    | 2, _ => show (numOk (itoaI N) && decide (0 ≤ numN (itoaI N))) = true; rw [hN.1, hN.2, decide_eq_true h0]; rfl
    | 3, _ => show (numOk (itoaI L.length) && decide (0 ≤ numN (itoaI L.length))) = true; rw [hK.1, hK.2, decide_eq_true (show (0 : Int) ≤ (L.length : Int) by omega)]; rfl
    | i + 4, hi =>
      unfold okW
      rw [if_neg (by omega), if_neg (by omega), if_neg (by omega)]
      have hm : (L.flatMap fun l => l.map itoaI ++ [[48]]).getD i [] ∈ L.flatMap fun l => l.map itoaI ++ [[48]] := getD_memL (by simp only [List.length_cons] at hi; omega)
      show numOk ((L.flatMap fun l => l.map itoaI ++ [[48]]).getD i []) = true
      obtain ⟨l, hl, hw⟩ := List.mem_flatMap.1 hm
      rcases List.mem_append.1 hw with h9 | h9
      · obtain ⟨x, hx, e⟩ := List.mem_map.1 h9
        rw [← e]; exact (num_itoa (hb l hl x hx).1 (hb l hl x hx).2).1
      · rw [List.mem_singleton] at h9
        rw [h9]; exact num_0.1
  unfold getV
  rw [hbad, hn]
  simp only [Bool.false_eq_true, if_false, List.length_cons]
  rw [if_neg (by omega), if_neg (by show ¬ (65536 < N ∨ 65536 < (L.length : Int)); omega)]
  rw [show (N :: (L.length : Int) :: L.flatMap fun l => l ++ [0]).drop 2 = L.flatMap fun l => l ++ [0] from rfl, spl_all L [] fun l hl x hx => (h3 l hl x hx).1]
  simp only [List.nil_append]
  rw [if_neg (by show ¬ ((L.length : Int) ≠ (L.length : Int)); omega), if_neg (by show ¬ (chkV N L ≠ 0); omega)]
  rfl
theorem get_yes {W : List (List Int)} (h : (getV W).2.2 = 0) : chkV (getV W).1 (getV W).2.1 = 0 ∧ spl ((numsW W).drop 2) [] [] = some (getV W).2.1 := by
  revert h
  unfold getV
  split
  · intro h; cases h
  · split
    · intro h; cases h
    · split
      · intro h; cases h
      · split
        · intro h; cases h
        · rename_i L hs
          split
          · intro h; cases h
          · split
            · rename_i hc; intro h; exact absurd h hc
            · rename_i hc
              intro _
              exact ⟨by simpa using hc, hs⟩
theorem get_no {W : List (List Int)} (h : (getV W).2.2 ≠ 0) : (getV W).1 = 0 ∧ (getV W).2.1 = [] := by
  revert h
  unfold getV
  split
  · intro _; exact ⟨rfl, rfl⟩
  · split
    · intro _; exact ⟨rfl, rfl⟩
    · split
      · intro _; exact ⟨rfl, rfl⟩
      · split
        · intro _; exact ⟨rfl, rfl⟩
        · split
          · intro _; exact ⟨rfl, rfl⟩
          · split
            · intro _; exact ⟨rfl, rfl⟩
            · intro h; exact absurd rfl h
theorem spl_size : ∀ (Z cur : List Int) (acc L : List (List Int)), spl Z cur acc = some L → sizeL L + L.length ≤ sizeL acc + acc.length + cur.length + Z.length
  | [], cur, acc, L, h => by
    unfold spl at h
    split at h
    · cases h; simp
    · cases h
  | x :: Z, cur, acc, L, h => by
    unfold spl at h
    split at h
    · have := spl_size Z [] (acc ++ [cur]) L h
      simp [sizeL] at this ⊢
      omega
    · have := spl_size Z (cur ++ [x]) acc L h
      simp [sizeL] at this ⊢
      omega
/-! ### no more words than bytes -/
theorem ffold_cnt : ∀ (xs c : List Int) (d : List (List Int)), ((xs.foldl fstep (c, d)).2.length + (if (xs.foldl fstep (c, d)).1 = [] then 0 else 1)) ≤ d.length + (if c = [] then 0 else 1) + xs.length
  | [], c, d => Nat.le_refl _
  | x :: xs, c, d => by
    rw [List.foldl_cons]
    by_cases hx : sepB x = true
    · by_cases hc : c = []
      · rw [show fstep (c, d) x = (c, d) by unfold fstep; rw [if_pos hx, if_pos hc]]
        have := ffold_cnt xs c d
        simp only [List.length_cons]; omega
      · rw [show fstep (c, d) x = ([], d ++ [c]) by unfold fstep; rw [if_pos hx, if_neg hc]]
        have := ffold_cnt xs [] (d ++ [c])
        rw [if_neg hc]
        simp only [List.length_append, List.length_cons, List.length_nil, if_true] at this ⊢
        omega
    · rw [show fstep (c, d) x = (c ++ [x], d) from if_neg hx]
      have := ffold_cnt xs (c ++ [x]) d
      rw [if_neg (show ¬ (c ++ [x] = []) by simp)] at this
      simp only [List.length_cons]
      have h9 : (if c = [] then 0 else 1) ≤ 1 := by split <;> omega
      omega
theorem line_cnt (l : List Int) : (lineW l).length ≤ l.length := by
  unfold lineW
  split
  · simp
  · have := ffold_cnt l [] []
    unfold fieldsR ffold
    split
    · rename_i h; rw [if_pos h] at this; simpa using this
    · rename_i h; rw [if_neg h] at this; simpa using this
theorem lfold_cnt : ∀ (xs c : List Int) (d : List (List Int)), sizeL (xs.foldl lstep (c, d)).2 + (xs.foldl lstep (c, d)).1.length ≤ sizeL d + c.length + xs.length
  | [], c, d => by simp
  | x :: xs, c, d => by
    rw [List.foldl_cons]
    by_cases hx : x = 10
    · rw [show lstep (c, d) x = ([], d ++ [c]) from if_pos hx]
      have := lfold_cnt xs [] (d ++ [c])
      simp [sizeL] at this ⊢
      omega
    · rw [show lstep (c, d) x = (c ++ [x], d) from if_neg hx]
      have := lfold_cnt xs (c ++ [x]) d
      simp [sizeL] at this ⊢
      omega
theorem words_le (b : List Int) : (wordsV b).length ≤ b.length := by
  rw [words_is]
  have h1 := lfold_cnt b [] []
  have h2 : ∀ M : List (List Int), (M.flatMap lineW).length ≤ sizeL M := fun M => by
    induction M with
    | nil => simp [sizeL]
    | cons l M ih =>
      rw [List.flatMap_cons, List.length_append]
      have := line_cnt l
      simp [sizeL] at ih ⊢
      omega
  have h3 := h2 (linesR b)
  unfold wordsR
  refine Nat.le_trans h3 ?_
  unfold linesR lfold
  simp [sizeL] at h1 ⊢
  omega
theorem get_size {b : List Int} (h : (getV (wordsV b)).2.2 = 0) : sizeL (getV (wordsV b)).2.1 + (getV (wordsV b)).2.1.length ≤ b.length := by
  have h1 := spl_size _ _ _ _ (get_yes h).2
  have h2 := words_le b
  rw [List.length_drop, nums_len] at h1
  simp [sizeL] at h1 ⊢
  omega
theorem size_mem {L : List (List Int)} {l : List Int} (h : l ∈ L) : l.length ≤ sizeL L := by
  induction L with
  | nil => cases h
  | cons m L ih =>
    have e : sizeL (m :: L) = m.length + sizeL L := by simp [sizeL]
    rw [e]
    rcases List.mem_cons.1 h with h | h
    · subst h; omega
    · have := ih h; omega
theorem put_bytes (N : Int) (L : List (List Int)) : isBytes (putB N L) := fun x hx => by
  have hl : ∀ l : List Int, ∀ y ∈ litsB l, 0 ≤ y ∧ y < 256 := fun l y hy => by have := lits_mem y hy; omega
  have hi : ∀ n : Int, ∀ y ∈ itoaI n, 0 ≤ y ∧ y < 256 := fun n y hy => by have := itoa_mem y hy; omega
  unfold putB clsB at hx
  rcases List.mem_append.1 hx with hx | hx
  · rcases List.mem_append.1 hx with hx | hx
    · rcases List.mem_append.1 hx with hx | hx
      · rcases List.mem_append.1 hx with hx | hx
        · simp at hx; omega
        · exact hl _ x hx
      · exact hi _ x hx
    · simp at hx; omega
  · obtain ⟨l, _, h⟩ := List.mem_flatMap.1 hx
    rcases List.mem_append.1 h with h | h
    · exact hl _ x h
    · simp at h; omega
theorem put_len {N : Int} {L : List (List Int)} (h : chkV N L = 0) : (putB N L).length ≤ 60 + 22 * sizeL L + 2 * L.length := by
  obtain ⟨h0, h1, h2, h3⟩ := chk_lit h
  have hb : ∀ l ∈ L, ∀ x ∈ l, -65536 ≤ x ∧ x ≤ 65536 := fun l hl x hx => by have := h3 l hl x hx; omega
  have hc := cls_len hb
  have hN := itoa_len (n := N) (by omega) (by omega)
  have hK := itoa_len (n := (L.length : Int)) (by omega) (by omega)
  unfold putB
  simp only [List.length_append, List.length_cons, List.length_nil, litsB, List.flatMap_cons, List.flatMap_nil]
  omega
end Go.Proofs.YtiokflebeojokaaGreatDoor.Cn
