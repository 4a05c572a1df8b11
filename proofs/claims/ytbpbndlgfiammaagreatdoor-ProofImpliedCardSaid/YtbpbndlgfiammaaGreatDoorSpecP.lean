/- The reference's Text, Put, words, number, numbers and Get answer as the program's do. Plain lemmas; no condition beyond their own hypotheses. -/
import Derived.Test.YtbpbndlgfiammaaGreatDoorLaw14P
import Derived.Test.YtbpbndlgfiammaaGreatDoorEngS
set_option linter.unusedSimpArgs false
set_option linter.unusedVariables false
set_option linter.unnecessarySimpa false
namespace Go.Proofs.YtbpbndlgfiammaaGreatDoor.Cn
open Go Go.RowKit En
/-! ### strings as lists of bytes -/
theorem str_size (a : List Int) : (strOfNums a).size = a.length := by
  show (strOfNums a).data.size = _
  simp [strOfNums]
theorem str_app (a b : List Int) : strOfNums a ++ strOfNums b = strOfNums (a ++ b) := by
  apply ByteArray.ext
  rw [ByteArray.data_append]
  simp [strOfNums]
theorem bytesI_app (a b : ByteArray) : bytesI (a ++ b) = bytesI a ++ bytesI b := by
  unfold bytesI
  rw [ByteArray.data_append, Array.toList_append, List.map_append]
theorem bytesI_str {a : List Int} (h : isBytes a) : bytesI (strOfNums a) = a := by
  unfold bytesI
  rw [strOfNums_data, List.map_map]
  conv => rhs; rw [← List.map_id a]
  refine List.map_congr_left fun x hx => ?_
  have := h x hx
  show (((UInt8.ofNat x.toNat).toNat : Nat) : Int) = x
  rw [UInt8.toNat_ofNat']
  omega
theorem bytesI_lit (l : List UInt8) : bytesI ⟨l.toArray⟩ = l.map fun b => (b.toNat : Int) := by simp [bytesI]
theorem bytesI_drop (z : ByteArray) : bytesI (z.extract 1 z.size) = (bytesI z).drop 1 := by
  unfold bytesI
  have : z.size = z.data.toList.length := by rw [Array.length_toList]; rfl
  rw [ByteArray.data_extract, Array.toList_extract, this]
  rw [List.extract_eq_take_drop, List.take_of_length_le (by rw [List.length_drop]; omega), List.map_drop]
/-! ### decimal text -/
def txM (n : Int) : Nat := if n < 0 then n.natAbs + 1 else n.natAbs
theorem txM_neg {n : Int} (h : n < 0) : txM (0 - n) < txM n := by unfold txM; rw [if_pos h, if_neg (by omega)]; omega
theorem tdiv10 {n : Int} (h0 : 0 ≤ n) : n.tdiv 10 = n / 10 ∧ n.tmod 10 = n % 10 := ⟨Int.tdiv_eq_ediv_of_nonneg h0, Int.tmod_eq_emod_of_nonneg h0⟩
theorem txM_div {n : Int} (h0 : ¬ n < 0) (h : ¬ n < 10) : txM (n.tdiv 10) < txM n := by
  rw [(tdiv10 (by omega)).1]
  unfold txM
  rw [if_neg (by omega), if_neg h0]
  omega
theorem txt_neg {n : Int} (h : n < 0) : (⟨#[45]⟩ : ByteArray) ++ strOfNums (itoaI (0 - n)) = strOfNums (itoaI n) := by
  rw [itoa_neg h, itoa_pos (by omega), show (⟨#[45]⟩ : ByteArray) = strOfNums [45] from rfl, str_app, show (0 - n).toNat = n.natAbs by omega]; rfl
theorem txt_one {n : Int} (h0 : ¬ n < 0) (h : n < 10) : strOfNums [48 + n.tmod 10] = strOfNums (itoaI n) := by
  rw [itoa_pos (by omega), dgs_lo (by omega), (tdiv10 (by omega)).2, show n % 10 = (n.toNat : Int) by omega]
theorem txt_more {n : Int} (h0 : ¬ n < 0) (h : ¬ n < 10) : strOfNums (itoaI (n.tdiv 10)) ++ strOfNums [48 + n.tmod 10] = strOfNums (itoaI n) := by
  rw [str_app, itoa_pos (n := n) (by omega), dgs_hi (by omega), (tdiv10 (by omega)).1, (tdiv10 (by omega)).2, itoa_pos (by omega), show (n / 10).toNat = n.toNat / 10 by omega, show n % 10 = ((n.toNat % 10 : Nat) : Int) by omega]
theorem itoa_bytes (n : Int) : isBytes (itoaI n) := fun x hx => by rcases itoa_mem x hx with h | h <;> omega
theorem txt_len {n : Int} (h0 : -1000000000 ≤ n) (h1 : n ≤ 1000000000) : (strOfNums (itoaI n)).size ≤ 21 := by rw [str_size]; exact itoa_len (by omega) (by omega)
/-! ### Put -/
theorem put_init (N K : Int) : bytesI (((((⟨#[112, 32, 99, 110, 102, 32]⟩ : ByteArray) ++ strOfNums (itoaI N)) ++ ⟨#[32]⟩) ++ strOfNums (itoaI K)) ++ ⟨#[10]⟩) = headB N K ++ 10 :: clsB [] := by
  rw [bytesI_app, bytesI_app, bytesI_app, bytesI_app, bytesI_str (itoa_bytes N), bytesI_str (itoa_bytes K)]
  simp [headB, clsB, bytesI]
theorem put_lit {X : List Int} {l : List Int} {k : Nat} (hk : k < l.length) : ((X ++ litsB (l.take k)) ++ bytesI (strOfNums (itoaI (l.getD k 0)))) ++ [32] = X ++ litsB (l.take (k + 1)) := by
  rw [bytesI_str (itoa_bytes _), lits_take hk]
  simp only [List.append_assoc]
theorem put_cls {h : List Int} {L : List (List Int)} {i k : Nat} (hi : i < L.length) (hk : k = (L.getD i []).length) : ((h ++ 10 :: clsB (L.take i)) ++ litsB ((L.getD i []).take k)) ++ [48, 10] = h ++ 10 :: clsB (L.take (i + 1)) := by
  subst hk
  rw [cls_take hi, List.take_length]
  simp only [List.append_assoc, List.cons_append]
theorem put_end {N : Int} {L : List (List Int)} {i : Nat} (hi : i = L.length) (hc : chkV N L = 0) : headB N L.length ++ 10 :: clsB (L.take i) = (if chkV N L = 0 then putB N L else []) := by
  rw [if_pos hc, hi, List.take_length, put_head]
theorem put_bd {N : Int} {L : List (List Int)} {i : Nat} (hL : ∀ l ∈ L, ∀ x ∈ l, -65536 ≤ x ∧ x ≤ 65536) (hi : i ≤ L.length) : (clsB (L.take i)).length ≤ 22 * sizeL L + 2 * L.length := by
  have h1 := cls_len (L := L.take i) (fun l hl => hL l (List.mem_of_mem_take hl))
  have h2 := size_le (L := L) (k := i)
  rw [List.length_take] at h1
  omega
theorem head_len {N : Int} {K : Nat} (h0 : 0 ≤ N) (h1 : N ≤ 65536) (h2 : K ≤ 65536) : (headB N K).length ≤ 60 := by
  have a := itoa_len (n := N) (by omega) (by omega)
  have b := itoa_len (n := (K : Int)) (by omega) (by omega)
  unfold headB
  simp only [List.length_append, List.length_cons, List.length_nil]
  omega
/-! ### words -/
def wStep (s : List (List Int) × List Int × Bool × Bool) (x : Int) : List (List Int) × List Int × Bool × Bool :=
  bif ((((bif (x == 10) then false else bif (s.2.2.1 && (x == 99)) then true else s.2.2.2) || (x == 32)) || (x == 9)) || (x == 10)) || (x == 13)
  then ((if s.2.1 = [] then s.1 else s.1 ++ [s.2.1]), [], (x == 10), (bif (x == 10) then false else bif (s.2.2.1 && (x == 99)) then true else s.2.2.2))
  else (s.1, s.2.1 ++ [x], (x == 10), (bif (x == 10) then false else bif (s.2.2.1 && (x == 99)) then true else s.2.2.2))
def wS (xs : List Int) (i : Nat) : List (List Int) × List Int × Bool × Bool := (xs.take i).foldl wStep ([], [], true, false)
theorem wS_0 (xs : List Int) : wS xs 0 = ([], [], true, false) := rfl
theorem wS_next {xs : List Int} {i : Nat} (h : i < xs.length) : wS xs (i + 1) = wStep (wS xs i) (xs.getD i 0) := fold_s wStep _ h
/-- the part of the state that the line begun so far makes -/
theorem w_inv (p : List Int) : (p.foldl wStep ([], [], true, false)) =
    ((lfold p).2.flatMap lineW ++ (if 0 < (lfold p).1.length ∧ (lfold p).1.getD 0 0 = 99 then [] else (ffold (lfold p).1).2), (if 0 < (lfold p).1.length ∧ (lfold p).1.getD 0 0 = 99 then [] else (ffold (lfold p).1).1), decide ((lfold p).1 = []), decide (0 < (lfold p).1.length ∧ (lfold p).1.getD 0 0 = 99)) := by
  have key : ∀ (q : List Int) (k : Nat), k ≤ q.length → ((q.take k).foldl wStep ([], [], true, false)) =
      ((lfold (q.take k)).2.flatMap lineW ++ (if 0 < (lfold (q.take k)).1.length ∧ (lfold (q.take k)).1.getD 0 0 = 99 then [] else (ffold (lfold (q.take k)).1).2), (if 0 < (lfold (q.take k)).1.length ∧ (lfold (q.take k)).1.getD 0 0 = 99 then [] else (ffold (lfold (q.take k)).1).1), decide ((lfold (q.take k)).1 = []), decide (0 < (lfold (q.take k)).1.length ∧ (lfold (q.take k)).1.getD 0 0 = 99)) := fun q k => by
    induction k with
    | zero => intro _; rfl
    | succ k ih =>
      intro hk
      have h1 := ih (by omega)
      have e1 := fold_s wStep ([], [], true, false) (xs := q) (i := k) (by omega)
      have e2 : lfold (q.take (k + 1)) = lstep (lfold (q.take k)) (q.getD k 0) := fold_s lstep ([], []) (by omega)
      rw [e1, e2, h1]
      generalize q.getD k 0 = x
      obtain ⟨c, d⟩ := lfold (q.take k)
      by_cases hx : x = 10
      · subst hx
        have e3 : lstep (c, d) 10 = ([], d ++ [c]) := by unfold lstep; rw [if_pos rfl]
        rw [e3]
        unfold wStep
        by_cases h9 : 0 < c.length ∧ c.getD 0 0 = 99
        · have el : lineW c = [] := by unfold lineW; rw [if_pos h9]
          have h7 : ffold [] = ([], []) := rfl
          simp only [h9, and_self, if_true, decide_true, beq_self_eq_true, cond_true, Bool.or_true, Bool.true_or, List.flatMap_append, List.flatMap_cons, List.flatMap_nil, List.append_nil, el, h7]
          simp
        · have el : lineW c = fieldsR c := by unfold lineW; rw [if_neg h9]
          simp only [h9, if_false, decide_false]
          simp only [beq_self_eq_true, cond_true, Bool.or_true, Bool.true_or, List.flatMap_append, List.flatMap_cons, List.flatMap_nil, List.append_nil, el]
          unfold fieldsR
          have h7 : ffold [] = ([], []) := rfl
          by_cases h8 : (ffold c).1 = []
          · simp [h8, h7]
          · simp [h8, h7]
      · have e3 : lstep (c, d) x = (c ++ [x], d) := by unfold lstep; rw [if_neg hx]
        have hx2 : (x == 10) = false := by simpa using hx
        have e4 : ffold (c ++ [x]) = fstep (ffold c) x := by unfold ffold; rw [List.foldl_append]; rfl
        rw [e3]
        unfold wStep
        simp only [hx2, cond_false, Bool.or_false]
        have hne : c ++ [x] ≠ [] := by simp
        by_cases hc : c = []
        · subst hc
          simp only [List.length_nil, Nat.lt_irrefl, false_and, if_false, decide_false, decide_true, Bool.true_and, List.nil_append]
          by_cases h9 : x = 99
          · subst h9
            simp [ffold, fstep]
          · have h9b : (x == 99) = false := by simpa using h9
            have : (x :: []).getD 0 0 = x := rfl
            simp only [h9b, cond_false, Bool.false_or, this, List.length_cons, List.length_nil]
            simp only [h9, and_false, if_false, decide_false]
            by_cases hs : sepB x = true
            · have hs2 : ((x == 32) || (x == 9) || (x == 13)) = true := by unfold sepB at hs; simpa [Bool.or_assoc] using hs
              rw [hs2]
              simp [ffold, fstep, hs]
            · have hs2 : ((x == 32) || (x == 9) || (x == 13)) = false := by unfold sepB at hs; simpa [Bool.or_assoc] using hs
              rw [hs2]
              simp [ffold, fstep, hs]
        · have hcl : 0 < c.length := List.length_pos_iff.2 hc
          have hg : (c ++ [x]).getD 0 0 = c.getD 0 0 := by
            match c, hc with
            | y :: r, _ => rfl
          have hl : 0 < (c ++ [x]).length := by simp
          have hfr : decide (c = []) = false := decide_eq_false hc
          simp only [hg, hl, hcl, true_and, hfr, Bool.false_and, cond_false, hne, decide_false]
          by_cases h9 : c.getD 0 0 = 99
          · simp only [h9, if_true, decide_true, Bool.true_or, cond_true]
          · simp only [h9, if_false, decide_false, Bool.false_or, e4]
            unfold fstep
            by_cases hs : sepB x = true
            · have hs2 : ((x == 32) || (x == 9) || (x == 13)) = true := by unfold sepB at hs; simpa [Bool.or_assoc] using hs
              rw [hs2, if_pos hs]
              by_cases h8 : (ffold c).1 = []
              · simp [h8]
              · simp [h8]
            · have hs2 : ((x == 32) || (x == 9) || (x == 13)) = false := by unfold sepB at hs; simpa [Bool.or_assoc] using hs
              rw [hs2, if_neg hs]
              rfl
  have := key p p.length (Nat.le_refl _)
  rwa [List.take_length] at this
theorem w_all (xs : List Int) : (if (wS xs xs.length).2.1 = [] then (wS xs xs.length).1 else (wS xs xs.length).1 ++ [(wS xs xs.length).2.1]) = wordsV xs := by
  rw [words_is]
  unfold wS wordsR linesR
  rw [List.take_length, w_inv, List.flatMap_append]
  generalize lfold xs = z
  obtain ⟨c, d⟩ := z
  simp only [List.flatMap_cons, List.flatMap_nil, List.append_nil]
  unfold lineW
  by_cases h9 : 0 < c.length ∧ c.getD 0 0 = 99
  · simp only [h9, and_self, if_true]
  · simp only [h9, if_false]
    unfold fieldsR
    by_cases h8 : (ffold c).1 = []
    · simp [h8]
    · simp [h8]
/-! rounds of the loop -/
section
variable {b : List Int} {i : Nat}
theorem ws_1 (hi : i < b.length) (hs : (((((bif ((b.getD i 0) == 10) then false else (bif (((wS b i).2.2.1) && ((b.getD i 0) == 99)) then true else ((wS b i).2.2.2))) || ((b.getD i 0) == 32)) || ((b.getD i 0) == 9)) || ((b.getD i 0) == 10)) || ((b.getD i 0) == 13)) = true) :
    wS b (i + 1) = ((if (wS b i).2.1 = [] then (wS b i).1 else (wS b i).1 ++ [(wS b i).2.1]), [], ((b.getD i 0) == 10), (bif ((b.getD i 0) == 10) then false else (bif (((wS b i).2.2.1) && ((b.getD i 0) == 99)) then true else ((wS b i).2.2.2)))) := by
  rw [wS_next hi]
  unfold wStep
  rw [hs]; rfl
theorem ws_0 (hi : i < b.length) (hs : (((((bif ((b.getD i 0) == 10) then false else (bif (((wS b i).2.2.1) && ((b.getD i 0) == 99)) then true else ((wS b i).2.2.2))) || ((b.getD i 0) == 32)) || ((b.getD i 0) == 9)) || ((b.getD i 0) == 10)) || ((b.getD i 0) == 13)) = false) :
    wS b (i + 1) = ((wS b i).1, (wS b i).2.1 ++ [b.getD i 0], ((b.getD i 0) == 10), (bif ((b.getD i 0) == 10) then false else (bif (((wS b i).2.2.1) && ((b.getD i 0) == 99)) then true else ((wS b i).2.2.2)))) := by
  rw [wS_next hi]
  unfold wStep
  rw [hs]; rfl
theorem str_nil (w : List Int) : ((strOfNums w).toList == (⟨#[]⟩ : ByteArray).toList) = decide (w = []) := by
  have hl : ∀ u : List Int, (strOfNums u).toList = u.map fun n => UInt8.ofNat n.toNat := fun u => by rw [Go.Lib.strOfNums_toList]; rfl
  rw [show (⟨#[]⟩ : ByteArray) = strOfNums [] from rfl, hl, hl]
  cases w with
  | nil => rfl
  | cons x w => rw [decide_eq_false (by simp)]; rfl
theorem ws_row {w : List Int} {o : List (List Int)} : (bif (!((strOfNums w).toList == (⟨#[]⟩ : ByteArray).toList)) then ((o.map strOfNums) ++ [(strOfNums w)]) else (o.map strOfNums)) = (if w = [] then o else o ++ [w]).map strOfNums := by
  rw [str_nil]
  by_cases h : w = []
  · rw [if_pos h, decide_eq_true h]; rfl
  · rw [if_neg h, decide_eq_false h]; simp
theorem ws_end (hi : i = b.length) : (bif (!((strOfNums (wS b i).2.1).toList == (⟨#[]⟩ : ByteArray).toList)) then (((wS b i).1.map strOfNums) ++ [(strOfNums (wS b i).2.1)]) else ((wS b i).1.map strOfNums)) = (wordsV b).map strOfNums := by
  rw [ws_row, hi, w_all]
theorem ws_len (b : List Int) : ∀ i, i ≤ b.length → (wS b i).1.length + (wS b i).2.1.length ≤ i
  | 0, _ => by simp [wS]
  | i + 1, h => by
    have ih := ws_len b i (by omega)
    rw [wS_next (by omega)]
    unfold wStep
    generalize (((((bif (b.getD i 0 == 10) then false else bif ((wS b i).2.2.1 && (b.getD i 0 == 99)) then true else (wS b i).2.2.2) || (b.getD i 0 == 32)) || (b.getD i 0 == 9)) || (b.getD i 0 == 10)) || (b.getD i 0 == 13)) = c
    cases c with
    | false => simp only [cond_false, List.length_append, List.length_cons, List.length_nil]; omega
    | true =>
      simp only [cond_true, List.length_nil]
      by_cases hw : (wS b i).2.1 = []
      · rw [if_pos hw]; omega
      · rw [if_neg hw, List.length_append]
        have : 0 < (wS b i).2.1.length := List.length_pos_iff.2 hw
        simp only [List.length_cons, List.length_nil]; omega
end
end Go.Proofs.YtbpbndlgfiammaaGreatDoor.Cn
namespace Go.Proofs.YtbpbndlgfiammaaGreatDoor.Cn
open Go Go.RowKit En
/-! ### number -/
def badP (w : List Int) : Bool := ((decide ((w.length : Int) < 1)) || (decide ((w.length : Int) > 10))) || ((w.getD 0 0 == 48) && (decide ((w.length : Int) > 1)))
def numP (w : List Int) : Int × Bool := if badP w = true then (0, false) else if w.all isDg = true then (dval w, true) else (0, false)
def rN : List Int → Int × Bool
  | [] => (0, false)
  | x :: t => if x = 45 then (0 - (rN t).1, (rN t).2 && decide ((rN t).1 > 0)) else numP (x :: t)
theorem numP_bd (w : List Int) : 0 ≤ (numP w).1 ∧ (numP w).1 < 10000000000 := by
  unfold numP
  by_cases h1 : badP w = true
  · rw [if_pos h1]; decide
  · rw [if_neg h1]
    by_cases h2 : w.all isDg = true
    · rw [if_pos h2]
      have hl : w.length ≤ 10 := by
        have := Bool.eq_false_iff.2 h1
        unfold badP at this
        simp only [Bool.or_eq_false_iff, decide_eq_false_iff_not] at this
        omega
      have := dval_lt (l := w) (k := w.length) (fun j hj => by
        have := List.all_eq_true.1 h2 w[j] (List.getElem_mem hj)
        simpa [List.getD, List.getElem?_eq_getElem hj] using this) (Nat.le_refl _) hl
      rwa [List.take_length] at this
    · rw [if_neg h2]; decide
theorem rN_bd : ∀ w : List Int, -10000000000 < (rN w).1 ∧ (rN w).1 < 10000000000
  | [] => by decide
  | x :: t => by
    rw [rN]
    by_cases h : x = 45
    · rw [if_pos h]
      have := rN_bd t
      show -10000000000 < 0 - (rN t).1 ∧ 0 - (rN t).1 < 10000000000
      omega
    · rw [if_neg h]
      have := numP_bd (x :: t)
      omega
theorem rN_minus {w : List Int} (h : (decide ((w.length : Int) > 0) && (w.getD 0 0 == 45)) = true) : rN w = (0 - (rN (w.drop 1)).1, (rN (w.drop 1)).2 && decide ((rN (w.drop 1)).1 > 0)) := by
  rw [Bool.and_eq_true, decide_eq_true_iff, beq_iff_eq] at h
  match w, h with
  | x :: t, h =>
    have : x = 45 := h.2
    rw [rN, if_pos this]; rfl
theorem rN_plain {w : List Int} (h : (decide ((w.length : Int) > 0) && (w.getD 0 0 == 45)) = false) : rN w = numP w := by
  match w, h with
  | [], _ => rfl
  | x :: t, h =>
    have hx : ¬ x = 45 := fun e => by
      rw [Bool.and_eq_false_iff] at h
      rcases h with h | h
      · simp at h
      · have : (x :: t).getD 0 0 = x := rfl
        rw [this, e] at h
        simp at h
    rw [rN, if_neg hx]
theorem numP_bad {w : List Int} (h : badP w = true) : numP w = (0, false) := by unfold numP; rw [if_pos h]
theorem numP_no {w : List Int} {k : Nat} (hb : badP w = false) (hk : k < w.length) (h : isDg (w.getD k 0) = false) : numP w = (0, false) := by
  unfold numP; rw [if_neg (by rw [hb]; simp), if_neg (by rw [not_dg hk h]; simp)]
theorem numP_yes {w : List Int} {k : Nat} (hb : badP w = false) (hk : k = w.length) (h : ∀ j, j < k → isDg (w.getD j 0) = true) : numP w = (dval (w.take k), true) := by
  subst hk
  unfold numP; rw [if_neg (by rw [hb]; simp), if_pos (all_dg h), List.take_length]
theorem badP_len {w : List Int} (h : badP w = false) : w.length ≤ 10 ∧ 1 ≤ w.length := by
  unfold badP at h
  simp only [Bool.or_eq_false_iff, decide_eq_false_iff_not] at h
  omega
/-- the same number as the program's -/
theorem dval_ge : ∀ (l : List Int) (n : Int), 0 ≤ n → (∀ x ∈ l, 48 ≤ x) → n ≤ l.foldl (fun n c => 10 * n + (c - 48)) n
  | [], n, _, _ => Int.le_refl _
  | x :: l, n, h0, h => by
    have hx := h x (by simp)
    have := dval_ge l (10 * n + (x - 48)) (by omega) (fun y hy => h y (by simp [hy]))
    rw [List.foldl_cons]
    omega
theorem dval_pos {t : List Int} (hl : 1 ≤ t.length) (h : ∀ x ∈ t, isDg x = true) (h0 : t.getD 0 0 ≠ 48) : 0 < dval t := by
  match t, hl with
  | x :: l, _ =>
    have hx := dig_f (h x (by simp))
    have h1 : x ≠ 48 := h0
    have := dval_ge l (10 * 0 + (x - 48)) (by omega) (fun y hy => (dig_f (h y (by simp [hy]))).1)
    unfold dval
    rw [List.foldl_cons]
    omega
theorem numP_ok {w : List Int} : (numP w).2 = (!badP w && w.all isDg) := by
  unfold numP
  by_cases h1 : badP w = true
  · rw [if_pos h1, h1]; rfl
  · rw [if_neg h1, Bool.eq_false_iff.2 h1]
    by_cases h2 : w.all isDg = true
    · rw [if_pos h2, h2]; rfl
    · rw [if_neg h2, Bool.eq_false_iff.2 h2]; rfl
theorem numM_cons (x : Int) (t : List Int) : numM (x :: t) = (x == 45) := by
  unfold numM
  have h1 : decide (((x :: t).length : Int) > 0) = true := decide_eq_true (by simp)
  rw [h1]; rfl
theorem rN_is : ∀ w : List Int, (rN w).2 = numOk w ∧ (numOk w = true → (rN w).1 = numN w) := fun w => by
  match w with
  | [] => exact ⟨rfl, fun h => absurd h (by decide)⟩
  | x :: t =>
    by_cases hx : x = 45
    · subst hx
      have hM : numM (45 :: t) = true := by rw [numM_cons]; rfl
      have hD : numD (45 :: t) = t := by rw [numD_t hM, List.take_length]; rfl
      have hB := bad_of hD
      rw [hM] at hB
      rw [rN, if_pos rfl]
      by_cases ht : ∃ u, t = 45 :: u
      · obtain ⟨u, rfl⟩ := ht
        have h1 : numOk (45 :: 45 :: u) = false := by
          unfold numOk
          rw [hD]
          have : List.all (45 :: u) isDg = false := by rw [List.all_cons, show isDg 45 = false from by decide]; rfl
          rw [this, Bool.and_false]
        refine ⟨?_, fun h => by rw [h1] at h; cases h⟩
        rw [h1, rN, if_pos rfl]
        show (((rN u).2 && decide ((rN u).1 > 0)) && decide (0 - (rN u).1 > 0)) = false
        by_cases hp : (rN u).1 > 0
        · rw [decide_eq_false (show ¬ (0 - (rN u).1 > 0) by omega), Bool.and_false]
        · rw [decide_eq_false hp, Bool.and_false, Bool.false_and]
      · have hp : rN t = numP t := by
          match t, ht with
          | [], _ => rfl
          | y :: u, ht => rw [rN, if_neg (fun e => ht ⟨u, by rw [e]⟩)]
        have hok : numOk (45 :: t) = (!(((((t.length : Int) == 0) || (decide ((t.length : Int) > 10))) || ((t.getD 0 0 == 48) && (true || (decide ((t.length : Int) > 1)))))) && t.all isDg) := by unfold numOk; rw [hB, hD]
        have key : ((numP t).2 && decide ((numP t).1 > 0)) = numOk (45 :: t) := by
          rw [hok, numP_ok]
          by_cases ha : t.all isDg = true
          · have hall := List.all_eq_true.1 ha
            by_cases hb : badP t = true
            · rw [hb, ha]
              unfold badP at hb
              simp only [Bool.or_eq_true, decide_eq_true_eq, Bool.and_eq_true, beq_iff_eq] at hb
              have : (((((t.length : Int) == 0) || (decide ((t.length : Int) > 10))) || ((t.getD 0 0 == 48) && (true || (decide ((t.length : Int) > 1)))))) = true := by
                simp only [Bool.or_eq_true, decide_eq_true_eq, Bool.and_eq_true, beq_iff_eq, Bool.true_or, and_true]
                rcases hb with (h | h) | h
                · left; left; omega
                · left; right; exact h
                · right; exact h.1
              rw [this]; rfl
            · have hbf := Bool.eq_false_iff.2 hb
              obtain ⟨h10, h1l⟩ := badP_len hbf
              have hv : (numP t).1 = dval t := by unfold numP; rw [if_neg hb, if_pos ha]
              rw [hbf, ha, hv]
              have e1 : ((t.length : Int) == 0) = false := by simp; intro e; rw [e] at h1l; simp at h1l
              have e2 : decide ((t.length : Int) > 10) = false := decide_eq_false (by omega)
              rw [e1, e2]
              by_cases h48 : t.getD 0 0 = 48
              · have hl1 : t.length = 1 := by
                  unfold badP at hbf
                  simp only [Bool.or_eq_false_iff, decide_eq_false_iff_not, Bool.and_eq_false_iff, beq_eq_false_iff_ne] at hbf
                  rcases hbf.2 with h | h
                  · exact absurd h48 h
                  · omega
                match t, hl1 with
                | [y], _ =>
                  have : y = 48 := h48
                  subst this
                  rfl
              · have := dval_pos h1l hall h48
                have e3 : (t.getD 0 0 == 48) = false := by simpa using h48
                rw [e3, decide_eq_true (show dval t > 0 from this)]; rfl
          · rw [Bool.eq_false_iff.2 ha]; simp
        rw [hp]
        refine ⟨key, fun h => ?_⟩
        rw [← key] at h
        rw [Bool.and_eq_true] at h
        have hn : numN (45 :: t) = -(dval t) := by
          unfold numN
          rw [← key, h.1, h.2, hM, hD]; rfl
        have hv : (numP t).1 = dval t := by
          rw [numP_ok, Bool.and_eq_true] at h
          unfold numP
          rw [if_neg (by have := h.1.1; simpa using this), if_pos h.1.2]
        show 0 - (numP t).1 = _
        rw [hn, hv]; omega
    · have hM : numM (x :: t) = false := by rw [numM_cons]; simpa using hx
      have hD := numD_f hM
      have hB := bad_of hD
      rw [hM] at hB
      rw [rN, if_neg hx]
      have hbb : numBad (x :: t) = badP (x :: t) := by
        rw [hB]
        unfold badP
        have : (((x :: t).length : Int) == 0) = decide (((x :: t).length : Int) < 1) := by
          rw [Bool.eq_iff_iff, beq_iff_eq, decide_eq_true_iff]; omega
        rw [this, Bool.false_or]
      have hok : numOk (x :: t) = (numP (x :: t)).2 := by rw [numP_ok]; unfold numOk; rw [hbb, hD]
      refine ⟨hok.symm, fun h => ?_⟩
      rw [hok, numP_ok, Bool.and_eq_true] at h
      have h2 : numOk (x :: t) = true := by rw [hok, numP_ok, h.1, h.2]; rfl
      unfold numN
      rw [h2, hM, hD]
      show (numP (x :: t)).1 = dval (x :: t)
      unfold numP
      rw [if_neg (by have := h.1; simpa using this), if_pos h.2]
/-! ### numbers -/
def nmB (l : List ByteArray) : Bool := l.all fun s => (rN (bytesI s)).2
def nmV (l : List ByteArray) : List Int := if nmB l = true then l.map fun s => (rN (bytesI s)).1 else []
theorem nm_no {l : List ByteArray} {k : Nat} {d : ByteArray} (hk : k < l.length) (h : (rN (bytesI (l.getD k d))).2 = false) : nmB l = false := by
  unfold nmB
  rw [List.all_eq_false]
  exact ⟨l[k], List.getElem_mem hk, by rw [List.getD_eq_getElem?_getD, List.getElem?_eq_getElem hk] at h; simpa using h⟩
theorem nm_yes {l : List ByteArray} {k : Nat} {d : ByteArray} (hk : k = l.length) (h : ∀ j, j < k → (rN (bytesI (l.getD j d))).2 = true) : nmB l = true := by
  subst hk
  unfold nmB
  rw [List.all_eq_true]
  intro s hs
  obtain ⟨j, hj, rfl⟩ := List.mem_iff_getElem.1 hs
  have := h j hj
  rwa [List.getD_eq_getElem?_getD, List.getElem?_eq_getElem hj] at this
theorem nm_next {l : List ByteArray} {k : Nat} {d : ByteArray} (hk : k < l.length) : ((l.take k).map fun s => (rN (bytesI s)).1) ++ [(rN (bytesI (l.getD k d))).1] = (l.take (k + 1)).map fun s => (rN (bytesI s)).1 := by
  rw [List.take_succ_eq_append_getElem hk, List.map_append, List.getD_eq_getElem?_getD, List.getElem?_eq_getElem hk]; rfl
theorem nm_all {l : List ByteArray} {k : Nat} {d : ByteArray} (hk : k = l.length) (h : ∀ j, j < k → (rN (bytesI (l.getD j d))).2 = true) : nmV l = l.map fun s => (rN (bytesI s)).1 := by unfold nmV; rw [nm_yes hk h]; rfl
theorem getD_memS {l : List ByteArray} {i : Nat} {d : ByteArray} (h : i < l.length) : l.getD i d ∈ l := by rw [List.getD_eq_getElem?_getD, List.getElem?_eq_getElem h]; exact List.getElem_mem _
/-! ### what the walks ask -/
theorem put_in {L : List (List Int)} {i : Nat} (h : ∀ l ∈ L, ∀ x ∈ l, -65536 ≤ x ∧ x ≤ 65536) (hi : i < L.length) : (L.getD i []).length ≤ sizeL L ∧ (∀ k, (litsB ((L.getD i []).take k)).length ≤ 22 * sizeL L) ∧
    ∀ k, k < (L.getD i []).length → -65536 ≤ (L.getD i []).getD k 0 ∧ (L.getD i []).getD k 0 ≤ 65536 ∧ (strOfNums (itoaI ((L.getD i []).getD k 0))).size ≤ 21 := by
  have hm : L.getD i [] ∈ L := by rw [List.getD_eq_getElem?_getD, List.getElem?_eq_getElem hi]; exact List.getElem_mem _
  have hs := size_mem hm
  refine ⟨hs, fun k => ?_, fun k hk => ?_⟩
  · have := lits_len (l := (L.getD i []).take k) (fun x hx => h _ hm x (List.mem_of_mem_take hx))
    rw [List.length_take] at this
    omega
  · have hx : (L.getD i []).getD k 0 ∈ L.getD i [] := by rw [List.getD_eq_getElem?_getD (l := L.getD i []), List.getElem?_eq_getElem hk]; exact List.getElem_mem _
    have := h _ hm _ hx
    exact ⟨this.1, this.2, txt_len (by omega) (by omega)⟩
theorem put_sz {a b : ByteArray} (h1 : a.size ≤ 21) (h2 : b.size ≤ 21) : (⟨#[112, 32, 99, 110, 102, 32]⟩ : ByteArray).size + a.size + (⟨#[32]⟩ : ByteArray).size + b.size + (⟨#[10]⟩ : ByteArray).size ≤ maxLen := by
  show 6 + a.size + 1 + b.size + 1 ≤ maxLen
  unfold maxLen; omega
theorem pos_of {n : Nat} {b : Bool} (h : (decide ((n : Int) > 0) && b) = true) : 0 < n := by
  have := of_decide_eq_true (Bool.and_eq_true_iff.1 h).1
  omega
theorem ext_size {s : ByteArray} (h : 0 < s.size) : (s.extract 1 s.size).size = s.size - 1 := by simp [ByteArray.size_extract]
end Go.Proofs.YtbpbndlgfiammaaGreatDoor.Cn
namespace Go.Proofs.YtbpbndlgfiammaaGreatDoor.Cn
open Go Go.RowKit En
def goodW (W : List (List Int)) : Prop := ∀ w ∈ W, isBytes w ∧ 0 < w.length
theorem good_words {b : List Int} (hb : isBytes b) : goodW (wordsV b) := fun w hw => by
  obtain ⟨q, hq, rfl⟩ := List.mem_map.1 hw
  have h := wrd_bd q hq
  exact ⟨fun x hx => hb x (cut_sub x hx), by rw [cut_len h.2]; omega⟩
variable {W : List (List Int)}
theorem good_at (hW : goodW W) {k : Nat} (h : k < W.length) : isBytes (W.getD k []) ∧ 0 < (W.getD k []).length := by
  refine hW _ ?_
  rw [List.getD_eq_getElem?_getD, List.getElem?_eq_getElem h]; exact List.getElem_mem _
theorem s_at (W : List (List Int)) (k : Nat) : (W.map strOfNums).getD k ByteArray.empty = strOfNums (W.getD k []) := by
  rw [List.getD_eq_getElem?_getD, List.getD_eq_getElem?_getD, List.getElem?_map]
  cases W[k]? with
  | none => rfl
  | some w => rfl
/-- a word that begins with a minus is no number from 0 on -/
theorem ok_minus {w : List Int} (h : w.getD 0 0 = 45) (h2 : numOk w = true) : numN w < 0 := by
  match w, h with
  | x :: t, h =>
    have hx : x = 45 := h
    subst hx
    have hM : numM (45 :: t) = true := by rw [numM_cons]; rfl
    have hD : numD (45 :: t) = t := by rw [numD_t hM, List.take_length]; rfl
    have h3 := h2
    unfold numOk at h3
    rw [hD, Bool.and_eq_true] at h3
    have hb : numBad (45 :: t) = false := by simpa using h3.1
    rw [bad_of hD, hM] at hb
    simp only [Bool.or_eq_false_iff, Bool.and_eq_false_iff, Bool.true_or, beq_eq_false_iff_ne, decide_eq_false_iff_not, Bool.true_eq_false, or_false] at hb
    have hl : 1 ≤ t.length := by have := hb.1.1; omega
    have hp := dval_pos hl (List.all_eq_true.1 h3.2) hb.2
    unfold numN
    rw [h2, hM, hD]
    show -(dval t) < 0
    omega
theorem ok_plus {w : List Int} (h : w.getD 0 0 ≠ 45) (h2 : numOk w = true) : 0 ≤ numN w := by
  have hM : numM w = false := by
    unfold numM
    rw [Bool.and_eq_false_iff]
    exact .inr (by simpa using h)
  have hD := numD_f hM
  unfold numN
  rw [h2, hM, hD]
  show 0 ≤ dval w
  have h3 := h2
  unfold numOk at h3
  rw [hD, Bool.and_eq_true] at h3
  exact dval_ge w 0 (Int.le_refl _) (fun x hx => (dig_f (List.all_eq_true.1 h3.2 x hx)).1)
theorem g44t (hW : goodW W) (h : ((((decide ((((W.map strOfNums).length : Nat) : Int) < 4)) || (!(((W.map strOfNums).getD 0 ByteArray.empty).toList == (⟨#[112]⟩ : ByteArray).toList))) || (!(((W.map strOfNums).getD 1 ByteArray.empty).toList == (⟨#[99, 110, 102]⟩ : ByteArray).toList))) || ((bytesI ((W.map strOfNums).getD 2 ByteArray.empty)).getD 0 0 == 45) || ((bytesI ((W.map strOfNums).getD 3 ByteArray.empty)).getD 0 0 == 45)) = true) : getV W = (0, [], 11) := by
  rw [List.length_map, s_at, s_at, s_at, s_at] at h
  by_cases h4 : W.length < 4
  · exact get_short h4
  · have g0 := good_at hW (k := 0) (by omega)
    have g1 := good_at hW (k := 1) (by omega)
    have g2 := good_at hW (k := 2) (by omega)
    have g3 := good_at hW (k := 3) (by omega)
    rw [bytesI_str g2.1, bytesI_str g3.1, decide_eq_false (show ¬ ((W.length : Int) < 4) by omega), Bool.false_or, ← okW_0 (p := 0) g0.1 rfl, ← okW_1 (p := 1) g1.1 rfl] at h
    simp only [Bool.or_eq_true, Bool.not_eq_true', beq_iff_eq] at h
    have key : ∀ k, 2 ≤ k → k < 4 → (W.getD k []).getD 0 0 = 45 → getV W = (0, [], 11) := fun k hk1 hk2 e => by
      refine get_bad (i := k) (by omega) ?_
      rw [okW_2 (by omega) (by omega) (by omega)]
      cases ho : numOk (W.getD k []) with
      | false => rfl
      | true =>
        have := ok_minus e ho
        rw [decide_eq_false (show ¬ (numN (W.getD k []) ≥ 0) by omega)]; rfl
    rcases h with ((h | h) | h) | h
    · exact get_bad (i := 0) (by omega) h
    · exact get_bad (i := 1) (by omega) h
    · exact key 2 (by omega) (by omega) h
    · exact key 3 (by omega) (by omega) h
theorem g44f (hW : goodW W) (h : ((((decide ((((W.map strOfNums).length : Nat) : Int) < 4)) || (!(((W.map strOfNums).getD 0 ByteArray.empty).toList == (⟨#[112]⟩ : ByteArray).toList))) || (!(((W.map strOfNums).getD 1 ByteArray.empty).toList == (⟨#[99, 110, 102]⟩ : ByteArray).toList))) || ((bytesI ((W.map strOfNums).getD 2 ByteArray.empty)).getD 0 0 == 45) || ((bytesI ((W.map strOfNums).getD 3 ByteArray.empty)).getD 0 0 == 45)) = false) :
    ¬ W.length < 4 ∧ okW 0 (W.getD 0 []) = true ∧ okW 1 (W.getD 1 []) = true ∧ (W.getD 2 []).getD 0 0 ≠ 45 ∧ (W.getD 3 []).getD 0 0 ≠ 45 := by
  rw [List.length_map, s_at, s_at, s_at, s_at] at h
  by_cases h4 : W.length < 4
  · rw [decide_eq_true (show ((W.length : Int) < 4) by omega)] at h
    simp at h
  · have g0 := good_at hW (k := 0) (by omega)
    have g1 := good_at hW (k := 1) (by omega)
    have g2 := good_at hW (k := 2) (by omega)
    have g3 := good_at hW (k := 3) (by omega)
    rw [bytesI_str g2.1, bytesI_str g3.1, decide_eq_false (show ¬ ((W.length : Int) < 4) by omega), Bool.false_or, ← okW_0 (p := 0) g0.1 rfl, ← okW_1 (p := 1) g1.1 rfl] at h
    simp only [Bool.or_eq_false_iff, Bool.not_eq_false', beq_eq_false_iff_ne] at h
    exact ⟨h4, h.1.1.1, h.1.1.2, h.1.2, h.2⟩
/-! ### the numbers -/
theorem nm_list (W : List (List Int)) : (((W.map strOfNums).take (W.map strOfNums).length).drop 2) = (W.drop 2).map strOfNums := by rw [List.take_length, List.map_drop]
theorem nmB_is (hW : goodW W) : nmB (((W.map strOfNums).take (W.map strOfNums).length).drop 2) = (W.drop 2).all numOk := by
  rw [nm_list]
  unfold nmB
  rw [List.all_map, Bool.eq_iff_iff, List.all_eq_true, List.all_eq_true]
  have e : ∀ w ∈ W.drop 2, (rN (bytesI (strOfNums w))).2 = numOk w := fun w hw => by rw [bytesI_str (hW w (List.mem_of_mem_drop hw)).1]; exact (rN_is w).1
  exact ⟨fun h w hw => by rw [← e w hw]; exact h w hw, fun h w hw => by show (rN (bytesI (strOfNums w))).2 = true; rw [e w hw]; exact h w hw⟩
theorem nmV_is (hW : goodW W) (h : nmB (((W.map strOfNums).take (W.map strOfNums).length).drop 2) = true) : nmV (((W.map strOfNums).take (W.map strOfNums).length).drop 2) = numsW W := by
  have h2 := h
  rw [nmB_is hW, List.all_eq_true] at h2
  unfold nmV
  rw [if_pos h, nm_list, List.map_map]
  refine List.map_congr_left fun w hw => ?_
  show (rN (bytesI (strOfNums w))).1 = numN w
  rw [bytesI_str (hW w (List.mem_of_mem_drop hw)).1]
  exact (rN_is w).2 (h2 w hw)
theorem g53t (hW : goodW W) (h4 : ¬ W.length < 4) (h : nmB (((W.map strOfNums).take (W.map strOfNums).length).drop 2) = false) : getV W = (0, [], 11) := by
  rw [nmB_is hW, List.all_eq_false] at h
  obtain ⟨w, hw, hn⟩ := h
  obtain ⟨j, hj, rfl⟩ := List.mem_iff_getElem.1 hw
  rw [List.length_drop] at hj
  have e : W.getD (j + 2) [] = (W.drop 2)[j] := by
    rw [List.getD_eq_getElem?_getD, List.getElem?_eq_getElem (by omega), List.getElem_drop, Option.getD_some]
    congr 1; omega
  refine get_bad (i := j + 2) (by omega) ?_
  have hn' : numOk (W.getD (j + 2) []) = false := by rw [e]; simpa using hn
  by_cases hj2 : j + 2 < 4
  · rw [okW_2 (by omega) (by omega) (by omega), hn']; rfl
  · rw [okW_4 (by omega) (by omega) (by omega), hn']
theorem g53f (hW : goodW W) (h4 : ¬ W.length < 4 ∧ okW 0 (W.getD 0 []) = true ∧ okW 1 (W.getD 1 []) = true ∧ (W.getD 2 []).getD 0 0 ≠ 45 ∧ (W.getD 3 []).getD 0 0 ≠ 45) (h : nmB (((W.map strOfNums).take (W.map strOfNums).length).drop 2) = true) : badW W = false := by
  rw [nmB_is hW, List.all_eq_true] at h
  refine get_ok fun i hi => ?_
  by_cases h0 : i = 0
  · subst h0; exact h4.2.1
  by_cases h1 : i = 1
  · subst h1; exact h4.2.2.1
  have hm : W.getD i [] ∈ W.drop 2 := by
    rw [List.getD_eq_getElem?_getD, List.getElem?_eq_getElem hi, Option.getD_some]
    rw [List.mem_iff_getElem]
    exact ⟨i - 2, by rw [List.length_drop]; omega, by rw [List.getElem_drop]; congr 1; omega⟩
  have hn := h _ hm
  by_cases hj2 : i < 4
  · rw [okW_2 (by omega) (by omega) (by omega), hn]
    have hne : (W.getD i []).getD 0 0 ≠ 45 := by
      by_cases h2 : i = 2
      · subst h2; exact h4.2.2.2.1
      · have : i = 3 := by omega
        subst this; exact h4.2.2.2.2
    rw [decide_eq_true (show numN (W.getD i []) ≥ 0 from ok_plus hne hn)]; rfl
  · rw [okW_4 (by omega) (by omega) (by omega), hn]
/-! ### the clauses -/
def spStep (s : List Int × List (List Int)) (x : Int) : List Int × List (List Int) := if x = 0 then ([], s.2 ++ [s.1]) else (s.1 ++ [x], s.2)
def spF (Z : List Int) (i : Nat) : List Int × List (List Int) := ((Z.take i).drop 2).foldl spStep ([], [])
theorem spl_fold : ∀ (l cur : List Int) (acc : List (List Int)), spl l cur acc = if (l.foldl spStep (cur, acc)).1 = [] then some (l.foldl spStep (cur, acc)).2 else none
  | [], cur, acc => rfl
  | x :: l, cur, acc => by
    rw [spl, List.foldl_cons]
    unfold spStep
    by_cases h : x = 0
    · rw [if_pos h, if_pos h, spl_fold l]; rfl
    · rw [if_neg h, if_neg h, spl_fold l]; rfl
theorem spF_step {Z : List Int} {i : Nat} (hi : i < Z.length) (h2 : 2 ≤ i) : spF Z (i + 1) = spStep (spF Z i) (Z.getD i 0) := by
  unfold spF
  rw [drop_s hi h2, List.foldl_append]; rfl
theorem spF_0 {Z : List Int} {i : Nat} (hi : i < Z.length) (h2 : 2 ≤ i) (h : Z.getD i 0 = 0) : spF Z (i + 1) = ([], (spF Z i).2 ++ [(spF Z i).1]) := by rw [spF_step hi h2]; unfold spStep; rw [if_pos h]
theorem spF_1 {Z : List Int} {i : Nat} (hi : i < Z.length) (h2 : 2 ≤ i) (h : ¬ Z.getD i 0 = 0) : spF Z (i + 1) = ((spF Z i).1 ++ [Z.getD i 0], (spF Z i).2) := by rw [spF_step hi h2]; unfold spStep; rw [if_neg h]
theorem spF_2 (Z : List Int) : spF Z 2 = ([], []) := by
  unfold spF
  rw [List.drop_eq_nil_of_le (by rw [List.length_take]; omega)]; rfl
theorem spF_len (Z : List Int) : ∀ i, 2 ≤ i → i ≤ Z.length → (spF Z i).1.length + (spF Z i).2.length ≤ i ∧ ∀ l ∈ (spF Z i).2, l.length ≤ i := fun i => by
  induction i with
  | zero => intro h; omega
  | succ i ih =>
    intro h hi
    by_cases h2 : i + 1 = 2
    · rw [h2, spF_2]; simp
    · obtain ⟨h3, h4⟩ := ih (by omega) (by omega)
      rw [spF_step (by omega) (by omega)]
      unfold spStep
      by_cases hz : Z.getD i 0 = 0
      · rw [if_pos hz]
        refine ⟨by simp only [List.length_nil, List.length_append, List.length_cons]; omega, fun l hl => ?_⟩
        rcases List.mem_append.1 hl with hl | hl
        · have := h4 l hl; omega
        · rw [List.mem_singleton.1 hl]; omega
      · rw [if_neg hz]
        exact ⟨by simp only [List.length_nil, List.length_append, List.length_cons]; omega, fun l hl => by have := h4 l hl; omega⟩
theorem get_fold (hb : badW W = false) (h4 : ¬ W.length < 4) (hN : ¬ (65536 < (numsW W).getD 0 0 ∨ 65536 < (numsW W).getD 1 0)) {i : Nat} (hi : i = (numsW W).length) :
    getV W = if ¬ (spF (numsW W) i).1 = [] then (0, [], 11) else if ((spF (numsW W) i).2.length : Int) ≠ (numsW W).getD 1 0 then (0, [], 11) else
      if chkV ((numsW W).getD 0 0) (spF (numsW W) i).2 ≠ 0 then (0, [], chkV ((numsW W).getD 0 0) (spF (numsW W) i).2) else ((numsW W).getD 0 0, (spF (numsW W) i).2, 0) := by
  have e : spF (numsW W) i = ((numsW W).drop 2).foldl spStep ([], []) := by unfold spF; rw [hi, List.take_length]
  unfold getV
  rw [if_neg (by rw [hb]; simp), if_neg h4, if_neg hN, spl_fold, ← e]
  by_cases h : (spF (numsW W) i).1 = []
  · rw [if_pos h, if_neg (fun h9 => h9 h)]
  · rw [if_neg h, if_pos h]
section
variable {Z : List Int} {i : Nat}
theorem g105t (hb : badW W = false) (h4 : ¬ W.length < 4) (hN : ¬ (65536 < (numsW W).getD 0 0 ∨ 65536 < (numsW W).getD 1 0)) (hZ : Z = numsW W) (hi : i = Z.length)
    (h : ((decide (((spF Z i).1.length : Int) > 0)) || (((spF Z i).2.length : Int) != Z.getD 1 0)) = true) : getV W = (0, [], 11) := by
  subst hZ
  rw [get_fold hb h4 hN hi]
  rw [Bool.or_eq_true, decide_eq_true_iff, bne_iff_ne] at h
  by_cases h1 : (spF (numsW W) i).1 = []
  · rw [if_neg (fun h9 => h9 h1), if_pos]
    rcases h with h | h
    · rw [h1] at h; simp at h
    · exact h
  · rw [if_pos h1]
theorem g105f (h : ((decide (((spF Z i).1.length : Int) > 0)) || (((spF Z i).2.length : Int) != Z.getD 1 0)) = false) : (spF Z i).1 = [] ∧ ((spF Z i).2.length : Int) = Z.getD 1 0 := by
  rw [Bool.or_eq_false_iff, decide_eq_false_iff_not, bne_eq_false_iff_eq] at h
  exact ⟨List.eq_nil_of_length_eq_zero (by omega), h.2⟩
theorem g109t (hb : badW W = false) (h4 : ¬ W.length < 4) (hN : ¬ (65536 < (numsW W).getD 0 0 ∨ 65536 < (numsW W).getD 1 0)) (hZ : Z = numsW W) (hi : i = Z.length) (h5 : (spF Z i).1 = [] ∧ ((spF Z i).2.length : Int) = Z.getD 1 0)
    (h : (chkV (Z.getD 0 0) (spF Z i).2 != 0) = true) : getV W = (0, [], chkV (Z.getD 0 0) (spF Z i).2) := by
  subst hZ
  rw [get_fold hb h4 hN hi, if_neg (fun h9 => h9 h5.1), if_neg (fun h9 => h9 h5.2), if_pos (by simpa using h)]
theorem g109f (hb : badW W = false) (h4 : ¬ W.length < 4) (hN : ¬ (65536 < (numsW W).getD 0 0 ∨ 65536 < (numsW W).getD 1 0)) (hZ : Z = numsW W) (hi : i = Z.length) (h5 : (spF Z i).1 = [] ∧ ((spF Z i).2.length : Int) = Z.getD 1 0)
    (h : (chkV (Z.getD 0 0) (spF Z i).2 != 0) = false) : getV W = (Z.getD 0 0, (spF Z i).2, 0) := by
  subst hZ
  rw [get_fold hb h4 hN hi, if_neg (fun h9 => h9 h5.1), if_neg (fun h9 => h9 h5.2), if_neg (by simpa using h)]
theorem or_gt {a b : Int} (h : ((decide (a > 65536)) || (decide (b > 65536))) = true) : 65536 < a ∨ 65536 < b := by
  rw [Bool.or_eq_true, decide_eq_true_iff, decide_eq_true_iff] at h; exact h
theorem nor_gt {a b : Int} (h : ((decide (a > 65536)) || (decide (b > 65536))) = false) : ¬ (65536 < a ∨ 65536 < b) := by
  rw [Bool.or_eq_false_iff, decide_eq_false_iff_not, decide_eq_false_iff_not] at h; omega
end
theorem str_bd {b : List Int} (h : b.length ≤ 100000) : ∀ s ∈ ((((wordsV b).map strOfNums).take (((wordsV b).map strOfNums).length)).drop 2), s.size ≤ 1000000000 := fun s hs => by
  rw [nm_list] at hs
  obtain ⟨w, hw, rfl⟩ := List.mem_map.1 hs
  obtain ⟨q, hq, rfl⟩ := List.mem_map.1 (List.mem_of_mem_drop hw)
  rw [str_size, cut_len (wrd_bd q hq).2]
  have := (wrd_bd q hq).2
  omega
theorem gl_0 {n : Nat} (h : (!(decide ((n : Int) < 4))) = true) : 4 ≤ n := by simp at h; omega
theorem gl_1 {n : Nat} {x : Bool} (h : (!((decide ((n : Int) < 4)) || x)) = true) : 4 ≤ n := by simp at h; omega
theorem gl_2 {n : Nat} {x y : Bool} (h : (!(((decide ((n : Int) < 4)) || x) || y)) = true) : 4 ≤ n := by simp at h; omega
theorem gl_3 {n : Nat} {x y z : Bool} (h : (!((((decide ((n : Int) < 4)) || x) || y) || z)) = true) : 4 ≤ n := by simp at h; omega
theorem g_ne (hW : goodW W) {k : Nat} (hk : k < W.length) : (0 : Int) ≤ 0 ∧ (0 : Int) < (((W.map strOfNums).getD k ByteArray.empty).size : Int) := by
  have := good_at hW hk
  rw [s_at, str_size]
  omega
theorem g_chk {Z : List Int} {i : Nat} (h : (spF Z i).2.length ≤ 200000 ∧ ∀ l ∈ (spF Z i).2, l.length ≤ 200000) : (spF Z i).2.length ≤ maxLen ∧ ∀ l ∈ (spF Z i).2, l.length ≤ maxLen := by
  refine ⟨by unfold maxLen; omega, fun l hl => ?_⟩
  have := h.2 l hl
  unfold maxLen; omega
theorem get_lens {b : List Int} (h : b.length ≤ 3000) : (getV (wordsV b)).2.1.length ≤ maxLen ∧ ∀ l ∈ (getV (wordsV b)).2.1, l.length ≤ maxLen := by
  by_cases he : (getV (wordsV b)).2.2 = 0
  · have hs := get_size he
    refine ⟨by unfold maxLen; omega, fun l hl => ?_⟩
    have := size_mem hl
    unfold maxLen; omega
  · rw [(get_no he).2]
    exact ⟨by simp, fun l hl => by cases hl⟩
end Go.Proofs.YtbpbndlgfiammaaGreatDoor.Cn
