/- What cnf.number and cnf.Get return. Plain lemmas; no condition beyond their own hypotheses. -/
import Derived.Test.YtbpbndlgfiammaaGreatDoorPutP
import Derived.Laws.BytesArg
import Derived.Lib.Bytes
set_option linter.unusedSimpArgs false
set_option linter.unusedVariables false
namespace Go.Proofs.YtbpbndlgfiammaaGreatDoor.Cn

def dval (l : List Int) : Int := l.foldl (fun n c => 10 * n + (c - 48)) 0
def isDg (c : Int) : Bool := !(decide (c < 48) || decide (c > 57))
def numM (w : List Int) : Bool := decide ((w.length : Int) > 0) && ((w.getD 0 0) == 45)
def numD (w : List Int) : List Int := bif numM w then (w.take w.length).drop 1 else w
def numBad (w : List Int) : Bool := ((((numD w).length : Int) == 0) || (decide (((numD w).length : Int) > 10))) || ((((numD w).getD 0 0) == 48) && ((numM w) || (decide (((numD w).length : Int) > 1))))
theorem bad_of {w v : List Int} (h : numD w = v) : numBad w = (((((v.length : Int) == 0) || (decide ((v.length : Int) > 10))) || (((v.getD 0 0) == 48) && ((numM w) || (decide ((v.length : Int) > 1)))))) := by unfold numBad; rw [h]
theorem numD_t {w : List Int} (h : numM w = true) : numD w = (w.take w.length).drop 1 := by unfold numD; rw [h]; rfl
theorem numD_f {w : List Int} (h : numM w = false) : numD w = w := by unfold numD; rw [h]; rfl
theorem numM_len {w : List Int} (h : numM w = true) : 1 ≤ w.length := by
  simp only [numM, Bool.and_eq_true, decide_eq_true_eq] at h
  omega
theorem bad_len {w v : List Int} (h : numD w = v) (hb : numBad w = false) : v.length ≤ 10 := by
  rw [bad_of h] at hb
  simp only [Bool.or_eq_false_iff, decide_eq_false_iff_not] at hb
  omega
theorem dig_f {c : Int} (h : isDg c = true) : 48 ≤ c ∧ c ≤ 57 := by
  simp only [isDg, Bool.not_eq_true', Bool.or_eq_false_iff, decide_eq_false_iff_not] at h
  omega
def numOk (w : List Int) : Bool := !numBad w && (numD w).all isDg
def numN (w : List Int) : Int := bif numOk w then (bif numM w then -(dval (numD w)) else dval (numD w)) else 0
theorem dval_snoc (l : List Int) (c : Int) : dval (l ++ [c]) = 10 * dval l + (c - 48) := by simp [dval]
theorem dval_take {l : List Int} {k : Nat} (hk : k < l.length) : dval (l.take (k + 1)) = 10 * dval (l.take k) + (l.getD k 0 - 48) := by
  rw [List.take_succ_eq_append_getElem hk, dval_snoc]
  simp [List.getD, List.getElem?_eq_getElem hk]
theorem dval_bd {l : List Int} (h : ∀ j, j < l.length → isDg (l.getD j 0) = true) : ∀ k, k ≤ l.length → 0 ≤ dval (l.take k) ∧ dval (l.take k) < 10 ^ k
  | 0, _ => by simp [dval]
  | k + 1, hk => by
    obtain ⟨h1, h2⟩ := dval_bd h k (by omega)
    have h3 := h k (by omega)
    rw [dval_take (by omega)]
    simp only [isDg, Bool.not_eq_true', Bool.or_eq_false_iff, decide_eq_false_iff_not] at h3
    have : (10 : Int) ^ (k + 1) = 10 ^ k * 10 := Int.pow_succ ..
    omega
theorem dval_lt {l : List Int} {k : Nat} (h : ∀ j, j < k → isDg (l.getD j 0) = true) (hk : k ≤ l.length) (h10 : l.length ≤ 10) : 0 ≤ dval (l.take k) ∧ dval (l.take k) < 10000000000 := by
  obtain ⟨h1, h2⟩ := dval_bd (l := l.take k) (fun j hj => by
    rw [List.length_take] at hj
    have := h j (by omega)
    simpa [List.getD, List.getElem?_take, show j < k by omega] using this) k (by rw [List.length_take]; omega)
  rw [List.take_take, Nat.min_self] at h1 h2
  refine ⟨h1, Int.lt_of_lt_of_le h2 ?_⟩
  have h4 : ((10 ^ k : Nat) : Int) ≤ ((10 ^ 10 : Nat) : Int) := Int.ofNat_le.2 (Nat.pow_le_pow_right (by omega) (by omega))
  have h5 : ((10 ^ k : Nat) : Int) = (10 : Int) ^ k := by simp
  rw [h5] at h4
  have h3 : ((10 ^ 10 : Nat) : Int) = 10000000000 := by decide
  omega
theorem all_dg {l : List Int} (h : ∀ j, j < l.length → isDg (l.getD j 0) = true) : l.all isDg = true := by
  rw [List.all_eq_true]
  intro x hx
  obtain ⟨j, hj, rfl⟩ := List.getElem_of_mem hx
  have := h j hj
  simpa [List.getD, List.getElem?_eq_getElem hj] using this
theorem not_dg {l : List Int} {k : Nat} (hk : k < l.length) (h : isDg (l.getD k 0) = false) : l.all isDg = false := by
  rw [List.all_eq_false]
  exact ⟨l[k], List.getElem_mem hk, by simpa [List.getD, List.getElem?_eq_getElem hk] using h⟩
theorem num_bad {w : List Int} (h : numBad w = true) : numN w = 0 ∧ numOk w = false := by
  have : numOk w = false := by unfold numOk; rw [h]; rfl
  exact ⟨by unfold numN; rw [this]; rfl, this⟩
theorem num_no {w : List Int} {k : Nat} (hk : k < (numD w).length) (h : isDg ((numD w).getD k 0) = false) : numN w = 0 ∧ numOk w = false := by
  have : numOk w = false := by unfold numOk; rw [not_dg hk h, Bool.and_false]
  exact ⟨by unfold numN; rw [this]; rfl, this⟩
theorem num_yes {w : List Int} (h : numBad w = false) (hd : ∀ j, j < (numD w).length → isDg ((numD w).getD j 0) = true) : numOk w = true := by unfold numOk; rw [h, all_dg hd]; rfl
theorem dig_of {c : Int} (h : (decide (c < 48) || decide (c > 57)) = false) : isDg c = true := by unfold isDg; rw [h]; rfl
theorem dig_no {c : Int} (h : (decide (c < 48) || decide (c > 57)) = true) : isDg c = false := by unfold isDg; rw [h]; rfl
theorem num_end {w : List Int} {k : Nat} {b : Bool} (hB : numBad w = false) (hM : numM w = b) (hok : ∀ j, j < k → isDg ((numD w).getD j 0) = true) (hk : k = (numD w).length) : (bif b then -(dval ((numD w).take k)) else dval ((numD w).take k)) = numN w ∧ true = numOk w := by
  subst hk
  have h1 := num_yes hB hok
  refine ⟨?_, h1.symm⟩
  unfold numN
  rw [h1, hM, List.take_length]
  rfl
/-- whether word i may stand where it stands -/
def okW (i : Nat) (w : List Int) : Bool := if i = 0 then w == [112] else if i = 1 then w == [99, 110, 102] else if i < 4 then numOk w && decide (0 ≤ numN w) else numOk w
def numsW (W : List (List Int)) : List Int := (W.drop 2).map numN
/-- the rest behind j clauses, and these clauses -/
def idx0 (Z : List Int) : Int := idxF (fun x => 0 == x) Z
def restZ (Z : List Int) : Nat → List Int
  | 0 => Z
  | j + 1 => (restZ Z j).drop ((idx0 (restZ Z j)).toNat + 1)
def accZ (Z : List Int) : Nat → List (List Int)
  | 0 => []
  | j + 1 => accZ Z j ++ [(restZ Z j).take (idx0 (restZ Z j)).toNat]
def spl : List Int → List Int → List (List Int) → Option (List (List Int))
  | [], cur, acc => if cur = [] then some acc else none
  | x :: l, cur, acc => if x = 0 then spl l [] (acc ++ [cur]) else spl l (cur ++ [x]) acc
theorem spl_skip : ∀ (m l cur : List Int) (acc : List (List Int)), (∀ x ∈ m, x ≠ 0) → spl (m ++ l) cur acc = spl l (cur ++ m) acc
  | [], l, cur, acc, _ => by simp
  | x :: m, l, cur, acc, h => by
    rw [List.cons_append, spl, if_neg (h x (by simp)), spl_skip m l _ _ fun y hy => h y (by simp [hy])]
    simp
theorem idx0_cases (Z : List Int) : (idx0 Z = -1 ∧ ∀ x ∈ Z, x ≠ 0) ∨ ∃ i : Nat, idx0 Z = (i : Int) ∧ i < Z.length ∧ Z.getD i 0 = 0 ∧ ∀ x ∈ Z.take i, x ≠ 0 := by
  unfold idx0
  induction Z with
  | nil => left; exact ⟨rfl, fun x hx => by simp at hx⟩
  | cons z Z ih =>
    rw [idxF]
    by_cases hz : z = 0
    · subst hz
      right
      exact ⟨0, by simp, by simp, by simp, fun x hx => by simp at hx⟩
    · have hb : ¬ ((0 == z) = true) := by simp; omega
      rw [if_neg hb]
      rcases ih with ⟨h1, h2⟩ | ⟨i, h1, h2, h3, h4⟩
      · left
        refine ⟨by rw [h1]; rfl, fun x hx => ?_⟩
        rcases List.mem_cons.1 hx with rfl | hx
        · exact hz
        · exact h2 x hx
      · right
        refine ⟨i + 1, by rw [h1, if_neg (by omega)]; omega, by simp; omega, by simpa using h3, fun x hx => ?_⟩
        rw [List.take_succ_cons] at hx
        rcases List.mem_cons.1 hx with rfl | hx
        · exact hz
        · exact h4 x hx
theorem spl_rest (Z : List Int) : ∀ j, (∀ i, i < j → 0 ≤ idx0 (restZ Z i)) → spl Z [] [] = spl (restZ Z j) [] (accZ Z j)
  | 0, _ => rfl
  | j + 1, h => by
    rw [spl_rest Z j fun i hi => h i (by omega)]
    have h0 := h j (by omega)
    rcases idx0_cases (restZ Z j) with ⟨h1, _⟩ | ⟨i, h1, h2, h3, h4⟩
    · omega
    · rw [restZ, accZ, h1, Int.toNat_natCast]
      generalize restZ Z j = R at h2 h3 h4
      have e : R = R.take i ++ 0 :: R.drop (i + 1) := by
        rw [← h3, List.getD_eq_getElem?_getD, List.getElem?_eq_getElem h2, Option.getD_some, ← List.drop_eq_getElem_cons h2, List.take_append_drop]
      conv => lhs; rw [e]
      rw [spl_skip _ _ _ _ h4, List.nil_append, spl, if_pos rfl]
theorem spl_none {R : List Int} {acc : List (List Int)} (h : idx0 R < 0) (hn : 0 < R.length) : spl R [] acc = none := by
  rcases idx0_cases R with ⟨_, h2⟩ | ⟨i, h1, _⟩
  · have := spl_skip R [] [] acc h2
    rw [List.append_nil, List.nil_append] at this
    rw [this, spl, if_neg (fun e => by rw [e] at hn; simp at hn)]
  · omega
def badW (W : List (List Int)) : Bool := (List.range W.length).any fun i => !okW i (W.getD i [])
/-- what Get returns, by the words -/
def getV (W : List (List Int)) : Int × List (List Int) × Int :=
  if badW W = true then (0, [], 11) else if W.length < 4 then (0, [], 11) else
  if 65536 < (numsW W).getD 0 0 ∨ 65536 < (numsW W).getD 1 0 then (0, [], 2) else
  match spl ((numsW W).drop 2) [] [] with
  | none => (0, [], 11)
  | some L => if (L.length : Int) ≠ (numsW W).getD 1 0 then (0, [], 11) else if chkV ((numsW W).getD 0 0) L ≠ 0 then (0, [], chkV ((numsW W).getD 0 0) L) else ((numsW W).getD 0 0, L, 0)
theorem get_bad {W : List (List Int)} {i : Nat} (hi : i < W.length) (h : okW i (W.getD i []) = false) : getV W = (0, [], 11) := by
  have : badW W = true := List.any_eq_true.2 ⟨i, List.mem_range.2 hi, by rw [h]; rfl⟩
  unfold getV; rw [if_pos this]
theorem get_ok {W : List (List Int)} (h : ∀ i, i < W.length → okW i (W.getD i []) = true) : badW W = false := by
  unfold badW
  rw [List.any_eq_false]
  intro i hi
  rw [h i (List.mem_range.1 hi)]
  simp
theorem get_short {W : List (List Int)} (h : W.length < 4) : getV W = (0, [], 11) := by
  unfold getV
  by_cases hb : badW W = true
  · rw [if_pos hb]
  · rw [if_neg hb, if_pos h]
theorem get_big {W : List (List Int)} (hb : badW W = false) (h : ¬ W.length < 4) (hN : 65536 < (numsW W).getD 0 0 ∨ 65536 < (numsW W).getD 1 0) : getV W = (0, [], 2) := by
  unfold getV; rw [if_neg (by rw [hb]; simp), if_neg h, if_pos hN]
theorem get_open {W : List (List Int)} {j : Nat} (hb : badW W = false) (h : ¬ W.length < 4) (hN : ¬ (65536 < (numsW W).getD 0 0 ∨ 65536 < (numsW W).getD 1 0)) (hj : ∀ i, i < j → 0 ≤ idx0 (restZ ((numsW W).drop 2) i)) (h0 : 0 < (restZ ((numsW W).drop 2) j).length) (h1 : idx0 (restZ ((numsW W).drop 2) j) < 0) : getV W = (0, [], 11) := by
  unfold getV; rw [if_neg (by rw [hb]; simp), if_neg h, if_neg hN, spl_rest _ j hj, spl_none h1 h0]
theorem get_all {W : List (List Int)} {j : Nat} (hb : badW W = false) (h : ¬ W.length < 4) (hN : ¬ (65536 < (numsW W).getD 0 0 ∨ 65536 < (numsW W).getD 1 0)) (hj : ∀ i, i < j → 0 ≤ idx0 (restZ ((numsW W).drop 2) i)) (h0 : ¬ 0 < (restZ ((numsW W).drop 2) j).length) :
    getV W = if ((accZ ((numsW W).drop 2) j).length : Int) ≠ (numsW W).getD 1 0 then (0, [], 11) else if chkV ((numsW W).getD 0 0) (accZ ((numsW W).drop 2) j) ≠ 0 then (0, [], chkV ((numsW W).getD 0 0) (accZ ((numsW W).drop 2) j)) else ((numsW W).getD 0 0, accZ ((numsW W).drop 2) j, 0) := by
  have e : restZ ((numsW W).drop 2) j = [] := List.eq_nil_of_length_eq_zero (by omega)
  unfold getV; rw [if_neg (by rw [hb]; simp), if_neg h, if_neg hN, spl_rest _ j hj, e, spl, if_pos rfl]
theorem notT {e : Bool} (h : (!e) = true) : e = false := by cases e <;> simp_all
theorem notF {e : Bool} (h : (!e) = false) : e = true := by cases e <;> simp_all
theorem str_inj {w v : List Int} (hw : isBytes w) (hv : isBytes v) : ((strOfNums w).toList == (strOfNums v).toList) = (w == v) := by
  have hmap : ∀ {w v : List Int}, isBytes w → isBytes v → (w.map fun n => UInt8.ofNat n.toNat) = (v.map fun n => UInt8.ofNat n.toNat) → w = v := by
    intro w
    induction w with
    | nil => intro v _ _ h; cases v <;> simp_all
    | cons x w ih =>
      intro v hw hv h
      cases v with
      | nil => simp at h
      | cons y v =>
        simp only [List.map_cons, List.cons.injEq] at h
        have h1 := hw x (by simp)
        have h2 := hv y (by simp)
        have h3 := congrArg UInt8.toNat h.1
        rw [UInt8.toNat_ofNat', UInt8.toNat_ofNat'] at h3
        rw [show x = y by omega, ih (fun z hz => hw z (by simp [hz])) (fun z hz => hv z (by simp [hz])) h.2]
  have hl : ∀ u : List Int, (strOfNums u).toList = u.map fun n => UInt8.ofNat n.toNat := fun u => by rw [Go.Lib.strOfNums_toList]; rfl
  rw [hl, hl, Bool.eq_iff_iff, beq_iff_eq, beq_iff_eq]
  exact ⟨hmap hw hv, fun h => by rw [h]⟩
theorem okW_0 {w : List Int} {p : Nat} (hw : isBytes w) (hp : (p : Int) = 0) : okW p w = ((strOfNums w).toList == (⟨#[112]⟩ : ByteArray).toList) := by
  have : p = 0 := by omega
  subst this
  rw [show (⟨#[112]⟩ : ByteArray) = strOfNums [112] from rfl, str_inj hw (by intro x hx; simp at hx; omega)]
  rfl
theorem okW_1 {w : List Int} {p : Nat} (hw : isBytes w) (hp : (p : Int) = 1) : okW p w = ((strOfNums w).toList == (⟨#[99, 110, 102]⟩ : ByteArray).toList) := by
  have : p = 1 := by omega
  subst this
  rw [show (⟨#[99, 110, 102]⟩ : ByteArray) = strOfNums [99, 110, 102] from rfl, str_inj hw (by intro x hx; simp at hx; omega)]
  rfl
theorem okW_2 {w : List Int} {p : Nat} (h0 : ¬ (p : Int) = 0) (h1 : ¬ (p : Int) = 1) (hp : (p : Int) < 4) : okW p w = (numOk w && decide (numN w ≥ 0)) := by
  unfold okW; rw [if_neg (by omega), if_neg (by omega), if_pos (by omega)]
theorem okW_4 {w : List Int} {p : Nat} (h0 : ¬ (p : Int) = 0) (h1 : ¬ (p : Int) = 1) (hp : ¬ (p : Int) < 4) : okW p w = numOk w := by
  unfold okW; rw [if_neg (by omega), if_neg (by omega), if_neg (by omega)]
theorem cut_sub {xs : List Int} {q : Nat × Nat} : ∀ x ∈ cut xs q, x ∈ xs := fun x hx => List.mem_of_mem_take (List.mem_of_mem_drop hx)
theorem word_at {b : List Int} {p : Nat} (hp : p < (wordsV b).length) : isBytes b → isBytes ((wordsV b).getD p []) ∧ ((wordsV b).getD p []).length ≤ b.length := fun hb => by
  rw [wordsV, List.length_map] at hp
  rw [show (wordsV b).getD p [] = cut b ((wrdE b)[p]) by simp [wordsV, List.getD, List.getElem?_eq_getElem hp]]
  refine ⟨fun x hx => hb x (cut_sub x hx), ?_⟩
  simp [cut]; omega
theorem fld_cnt (xs : List Int) : ∀ i, (fldS xs i).2.length ≤ i
  | 0 => by simp [fldS]
  | i + 1 => by
    have := fld_cnt xs i
    rw [fldS]
    split
    · split
      · simp; omega
      · omega
    · split
      · show (fldS xs i).2.length ≤ _; omega
      · omega
theorem ln_cnt (xs : List Int) : ∀ i, (lnS xs i).2.length ≤ i
  | 0 => by simp [lnS]
  | i + 1 => by
    have := ln_cnt xs i
    rw [lnS]
    split
    · simp; omega
    · omega
theorem lnW_cnt (xs : List Int) (q : Nat × Nat) : (lnW xs q).length ≤ xs.length + 1 := by
  unfold lnW
  split
  · simp
  · rw [List.length_map]
    have h1 := fld_cnt (cut xs q) (cut xs q).length
    have h2 : (cut xs q).length ≤ xs.length := by simp [cut]; omega
    unfold fldE
    split
    · rw [List.length_append, List.length_singleton]; omega
    · omega
theorem wrd_cnt (xs : List Int) : ∀ k, (wrdS xs k).length ≤ k * (xs.length + 1)
  | 0 => by simp [wrdS]
  | k + 1 => by
    have h1 := wrd_cnt xs k
    have h2 := lnW_cnt xs ((lnE xs).getD k (0, 0))
    rw [wrdS, List.length_append, Nat.succ_mul]
    omega
theorem words_cnt {b : List Int} (h : b.length ≤ 100000) : (wordsV b).length ≤ 10000200001 := by
  rw [wordsV, List.length_map]
  have h1 := wrd_cnt b (lnE b).length
  have h2 := ln_cnt b b.length
  have h3 : (lnE b).length ≤ 100001 := by unfold lnE; rw [List.length_append, List.length_singleton]; omega
  have h4 : (lnE b).length * (b.length + 1) ≤ 100001 * 100001 := Nat.mul_le_mul h3 (by omega)
  unfold wrdE
  omega
theorem nums_len (W : List (List Int)) : (numsW W).length = W.length - 2 := by simp [numsW]
theorem nums_skip {W : List (List Int)} {p : Nat} (h : p < 2) : numsW (W.take p) = numsW (W.take (p + 1)) := by
  have h1 : (W.take p).drop 2 = [] := List.drop_eq_nil_of_le (by rw [List.length_take]; omega)
  have h2 : (W.take (p + 1)).drop 2 = [] := List.drop_eq_nil_of_le (by rw [List.length_take]; omega)
  unfold numsW; rw [h1, h2]
theorem nums_app {W : List (List Int)} {p : Nat} (h : 2 ≤ p) (hp : p < W.length) : numsW (W.take p) ++ [numN (W.getD p [])] = numsW (W.take (p + 1)) := by
  unfold numsW
  rw [List.take_succ_eq_append_getElem hp, List.drop_append_of_le_length (by rw [List.length_take]; omega), List.map_append]
  simp [List.getD, List.getElem?_eq_getElem hp]
theorem rest_next {R : List Int} (h : 0 ≤ idx0 R) : (R.take R.length).drop (idx0 R + 1).toNat = R.drop ((idx0 R).toNat + 1) := by
  rw [List.take_length, show (idx0 R + 1).toNat = (idx0 R).toNat + 1 by omega]
theorem rest_lt {R : List Int} (h : 0 ≤ idx0 R) : (idx0 R).toNat < R.length := by
  rcases idx0_cases R with ⟨h1, _⟩ | ⟨i, h1, h2, _⟩ <;> omega
theorem rest_len (Z : List Int) : ∀ j, (restZ Z j).length ≤ Z.length ∧ (accZ Z j).length = j
  | 0 => ⟨Nat.le_refl _, rfl⟩
  | j + 1 => by
    have := rest_len Z j
    refine ⟨by rw [restZ, List.length_drop]; omega, by rw [accZ, List.length_append, List.length_singleton, this.2]⟩
theorem acc_lens (Z : List Int) : ∀ j, ∀ l ∈ accZ Z j, l.length ≤ Z.length
  | 0, l, hl => by simp [accZ] at hl
  | j + 1, l, hl => by
    rw [accZ] at hl
    rcases List.mem_append.1 hl with hl | hl
    · exact acc_lens Z j l hl
    · have e : l = (restZ Z j).take (idx0 (restZ Z j)).toNat := by simpa using hl
      have := (rest_len Z j).1
      rw [e, List.length_take]; omega
theorem rest_cnt (Z : List Int) : ∀ j, (∀ i, i < j → 0 ≤ idx0 (restZ Z i)) → j + (restZ Z j).length ≤ Z.length
  | 0, _ => by simp [restZ]
  | j + 1, h => by
    have h1 := rest_cnt Z j fun i hi => h i (by omega)
    have h2 := rest_lt (h j (by omega))
    rw [restZ, List.length_drop]
    omega
end Go.Proofs.YtbpbndlgfiammaaGreatDoor.Cn
