/- A text that reads as a proof is that proof's text; equality of proofs. Plain lemmas; no program in sight. -/
import Derived.Test.YtbpbndlgfiammaaGreatDoorLaw24P
set_option linter.unusedSimpArgs false
set_option linter.unusedVariables false
set_option linter.unnecessarySimpa false
namespace Go.Proofs.YtbpbndlgfiammaaGreatDoor.Cn
open Go Go.RowKit En

section
variable {α : Type} [BEq α] [LawfulBEq α] {a b : List α} {d : α} {i : Nat}
theorem sm_len (h : ¬ a.length = b.length) : false = (a == b) := by
  cases hq : a == b with
  | false => rfl
  | true => exact absurd (congrArg List.length (eq_of_beq hq)) h
theorem sm_no (h : ¬ a.getD i d = b.getD i d) : false = (a == b) := by
  cases hq : a == b with
  | false => rfl
  | true => rw [eq_of_beq hq] at h; exact absurd rfl h
theorem sm_yes (hl : a.length = b.length) (hi : i = a.length) (hok : ∀ j, j < i → a.getD j d = b.getD j d) : true = (a == b) := by
  have : a = b := by
    refine List.ext_getElem hl fun j h1 h2 => ?_
    have := hok j (by omega)
    simpa [List.getD, List.getElem?_eq_getElem h1, List.getElem?_eq_getElem h2] using this
  rw [this]; simp
end
theorem sm_pair {x y : Int × List Int} {k : Nat} (h1 : x.1 = y.1) (h2 : x.2.length = y.2.length) (hk : k = x.2.length) (hok : ∀ j, j < k → x.2.getD j 0 = y.2.getD j 0) : x = y := by
  have h := sm_yes (d := (0 : Int)) h2 hk hok
  have : x.2 = y.2 := eq_of_beq h.symm
  exact Prod.ext h1 this
theorem sm_ne {x y : Int × List Int} (h : ((x.1 != y.1) || ((x.2.length : Int) != (y.2.length : Int))) = true) : ¬ x = y := fun e => by
  rw [e] at h; simp at h
theorem sm_eq {x y : Int × List Int} (h : ((x.1 != y.1) || ((x.2.length : Int) != (y.2.length : Int))) = false) : x.1 = y.1 ∧ x.2.length = y.2.length := by
  rw [Bool.or_eq_false_iff, bne_eq_false_iff_eq, bne_eq_false_iff_eq] at h
  exact ⟨h.1, by omega⟩
theorem sm_in {x y : Int × List Int} {k : Nat} (h : ¬ x.2.getD k 0 = y.2.getD k 0) : ¬ x = y := fun e => by rw [e] at h; exact h rfl
def joinI (c : Int) : List (List Int) → List Int
  | [] => []
  | [w] => w
  | w :: v :: ws => w ++ c :: joinI c (v :: ws)
theorem join_split (c : Int) : ∀ xs : List Int, joinI c (splitI c xs) = xs
  | [] => rfl
  | x :: l => by
    have ih := join_split c l
    obtain ⟨w, ws, e⟩ := splitI_ne c l
    unfold splitI
    rw [e] at ih
    split
    · rename_i hx
      rw [e]
      show [] ++ c :: joinI c (w :: ws) = _
      rw [ih, hx]; rfl
    · rw [e]
      cases ws with
      | nil => show (x :: w) = _; simp only [joinI] at ih; rw [ih]
      | cons v ws => show (x :: w) ++ c :: joinI c (v :: ws) = _; simp only [joinI] at ih; rw [List.cons_append, ih]
theorem join_mid : ∀ (ws : List (List Int)) (w : List Int), joinI 32 (w :: (ws ++ [[48]])) = w ++ (ws.flatMap (fun v => 32 :: v) ++ [32, 48])
  | [], w => rfl
  | v :: ws, w => by
    show w ++ 32 :: joinI 32 (v :: (ws ++ [[48]])) = _
    rw [join_mid ws v]; simp
theorem parts {ws : List (List Int)} (h2 : 2 ≤ ws.length) (h : wd ws (ws.length - 1) = [48]) : ws = wd ws 0 :: (midW ws ++ [[48]]) := by
  match ws, h2, h with
  | w :: r, h2, h =>
    simp only [List.length_cons] at h2
    have hne : r ≠ [] := fun e => by rw [e] at h2; simp at h2
    obtain ⟨s, z, rfl⟩ : ∃ s z, r = s ++ [z] := ⟨r.dropLast, r.getLast hne, (List.dropLast_concat_getLast hne).symm⟩
    have e1 : (w :: (s ++ [z])).length - 1 = s.length + 1 := by simp
    have e2 : midW (w :: (s ++ [z])) = s := by
      unfold midW
      rw [e1, List.take_succ_cons, List.drop_succ_cons, List.drop_zero, List.take_append_of_le_length (Nat.le_refl _), List.take_length]
    have e3 : wd (w :: (s ++ [z])) ((w :: (s ++ [z])).length - 1) = z := by
      rw [e1]; unfold wd; simp [List.getD]
    rw [e3] at h
    rw [e2, ← h]; rfl
theorem kin_back {w : List Int} (hb : isBytes w) (h1 : w.length = 1) (hk : 1 ≤ kinI w) : (1 ≤ kinI w ∧ kinI w ≤ 3) ∧ w = [letW (kinI w)] := by
  match w, h1 with
  | [c], _ =>
    have hc := hb c (by simp)
    have hd : (strOfNums [c]).data.toList = [UInt8.ofNat c.toNat] := by simp [strOfNums]
    unfold kinI at hk ⊢
    rw [hd] at hk ⊢
    have hcc : (UInt8.ofNat c.toNat).toNat = c.toNat := by rw [UInt8.toNat_ofNat']; omega
    rcases index_one (UInt8.ofNat c.toNat) [32, 111, 108, 100] with ⟨e, _⟩ | ⟨a, r, e1, _, e2⟩
    · rw [e] at hk; omega
    · rw [e2] at hk ⊢
      have hlen := congrArg List.length e1
      simp at hlen
      match a, e1, hlen, hk with
      | [], e1, _, hk => simp at hk
      | [_], e1, _, hk =>
        simp at e1
        have : c = 111 := by have := congrArg UInt8.toNat e1.2.1; rw [hcc] at this; have h8 : (111 : UInt8).toNat = 111 := rfl; omega
        subst this
        exact ⟨⟨by simp, by simp⟩, show ([111] : List Int) = [letW 1] by decide⟩
      | [_, _], e1, _, hk =>
        simp at e1
        have : c = 108 := by have := congrArg UInt8.toNat e1.2.2.1; rw [hcc] at this; have h8 : (108 : UInt8).toNat = 108 := rfl; omega
        subst this
        exact ⟨⟨by simp, by simp⟩, show ([108] : List Int) = [letW 2] by decide⟩
      | [_, _, _], e1, _, hk =>
        simp at e1
        have : c = 100 := by have := congrArg UInt8.toNat e1.2.2.2.1; rw [hcc] at this; have h8 : (100 : UInt8).toNat = 100 := rfl; omega
        subst this
        exact ⟨⟨by simp, by simp⟩, show ([100] : List Int) = [letW 3] by decide⟩
      | _ :: _ :: _ :: _ :: a, e1, hlen, hk => simp at hlen; omega
theorem lits_back : ∀ {l : List (List Int)}, (∀ w ∈ l, itoaI (numN w) = w) → litsW (l.map numN) = l.flatMap (fun v => 32 :: v)
  | [], _ => rfl
  | w :: l, h => by
    have ih := lits_back (l := l) fun v hv => h v (List.mem_cons_of_mem _ hv)
    have e : litsW ((w :: l).map numN) = 32 :: itoaI (numN w) ++ litsW (l.map numN) := by simp [litsW]
    rw [e, ih, h w List.mem_cons_self]; simp
theorem line_form {xs : List Int} (hb : isBytes xs) (h : lnOk xs = true) : lineT (lnK xs, lnL xs) = xs ∧ lineOk (lnK xs, lnL xs) = true := by
  unfold lnOk at h
  obtain ⟨hH, hA⟩ := and_t h
  have hL : lnL xs = (midW (splitI 32 xs)).map numN := by
    unfold lnL
    rw [if_pos hH]
    have := List.takeWhile_append_of_pos (l₂ := []) (List.all_eq_true.1 hA)
    simp at this
    rw [this]
  have hH' := hH
  unfold headW at hH'
  simp only [Bool.and_eq_true, decide_eq_true_eq, beq_iff_eq] at hH'
  obtain ⟨q1, q2, q3, q4⟩ := hH'
  have hpts := parts q3 q4
  have hmem : wd (splitI 32 xs) 0 ∈ splitI 32 xs := by rw [hpts]; simp [wd]
  have hk := kin_back (fun x hx => hb x (splitI_mem hmem x hx)) q1 q2
  have hlit : ∀ w ∈ midW (splitI 32 xs), litW w = true := List.all_eq_true.1 hA
  have hmap : litsW ((midW (splitI 32 xs)).map numN) = (midW (splitI 32 xs)).flatMap (fun v => 32 :: v) := by
    refine lits_back fun w hw => ?_
    have := hlit w hw
    unfold litW at this
    simp only [Bool.and_eq_true, beq_iff_eq] at this
    exact this.2
  refine ⟨?_, ?_⟩
  · have hj := join_split 32 xs
    rw [hpts, join_mid, hk.2] at hj
    unfold lineT
    rw [hL, hmap]
    exact hj
  · unfold lineOk
    rw [hL]
    simp only [Bool.and_eq_true, decide_eq_true_eq, List.all_eq_true, List.mem_map]
    refine ⟨hk.1, ?_⟩
    rintro y ⟨w, hw, rfl⟩
    have := hlit w hw
    unfold litW at this
    simp only [Bool.and_eq_true] at this
    exact this.1
theorem get_form : ∀ (n : Nat) {b : List Int} {l : List (Int × List Int)}, isBytes b → getF n b = some l → putP l = b ∧ l.all lineOk = true := by
  intro n
  induction n with
  | zero =>
    intro b l hb h
    cases b with
    | nil => simp [getF] at h; subst h; exact ⟨rfl, rfl⟩
    | cons x r => simp [getF] at h
  | succ n ih =>
    intro b l hb h
    cases b with
    | nil => simp [getF] at h; subst h; exact ⟨rfl, rfl⟩
    | cons x r =>
      unfold getF at h
      split at h
      · rename_i hc
        obtain ⟨h1, h2⟩ := and_t hc
        rcases cut_cases (x :: r) with h0 | ⟨a, rest, e1, _, e3⟩
        · rw [h0] at h1; cases h1
        · rw [e3] at h h2
          simp only at h h2
          obtain ⟨l', hl', rfl⟩ := Option.map_eq_some_iff.1 h
          have hba : isBytes a := fun z hz => hb z (by rw [e1]; simp [hz])
          have hbr : isBytes rest := fun z hz => hb z (by rw [e1]; simp [hz])
          obtain ⟨k1, k2⟩ := ih hbr hl'
          obtain ⟨k3, k4⟩ := line_form hba h2
          refine ⟨?_, by simp [k4, k2]⟩
          have : putP ((lnK a, lnL a) :: l') = lineB (lnK a, lnL a) ++ putP l' := by simp [putP]
          rw [this, lineB_is, k3, k1, e1]; simp
      · cases h
theorem sz_put {l : List (Int × List Int)} : szP l ≤ (putP l).length := by
  induction l with
  | nil => simp [szP, putP]
  | cons x l ih =>
    have e : putP (x :: l) = lineB x ++ putP l := by simp [putP]
    have e2 : szP (x :: l) = 1 + x.2.length + szP l := by simp [szP]
    have h3 : x.2.length ≤ (litsW x.2).length := by
      induction x.2 with
      | nil => simp
      | cons y t iht => have : litsW (y :: t) = 32 :: itoaI y ++ litsW t := by simp [litsW]
                        rw [this]; simp only [List.length_cons, List.length_append]; omega
    rw [e, e2]; simp only [List.length_append, lineB, List.length_cons, List.length_nil]; omega
theorem gv_no {b : List Int} (h : ¬ (getV24 b).2 = 0) : (getV24 b).1 = [] := by
  unfold getV24 at h ⊢
  split
  · rfl
  · split
    · rfl
    · rename_i h1 h2; rw [h1] at h; simp [h2] at h
theorem gv_yes {b : List Int} (hb : isBytes b) (h : (getV24 b).2 = 0) : frmV (getV24 b).1 = 0 ∧ putV (getV24 b).1 = b ∧ szP (getV24 b).1 ≤ b.length := by
  unfold getV24 at h ⊢
  split at h
  · cases h
  · rename_i l hl
    split at h
    · cases h
    · rename_i hle
      obtain ⟨k1, k2⟩ := get_form b.length hb hl
      rw [if_neg hle]
      have hf : frmV l = 0 := frm_ok.2 ⟨by omega, k2⟩
      refine ⟨hf, by unfold putV; rw [if_pos hf]; exact k1, ?_⟩
      have := sz_put (l := l)
      rw [k1] at this; exact this
section
variable {N : Int} {L : List (List Int)} {p : List (Int × List Int)} {core b : List Int}
end
end Go.Proofs.YtbpbndlgfiammaaGreatDoor.Cn
namespace Go.Proofs.YtbpbndlgfiammaaGreatDoor.Cn
open Go Go.RowKit En

theorem txM_neg2 {x : Int} (h : x < 0) : txM (-x) < txM x := by rw [show -x = 0 - x by omega]; exact txM_neg h
theorem txM_mod {n : Int} (h0 : ¬ n < 0) (h : ¬ n < 10) : txM (n.tmod 10) < txM n := by
  have := (tdiv10 (n := n) (by omega)).2
  rw [this]
  unfold txM
  rw [if_neg h0, if_neg (by omega)]
  omega
theorem dec_neg {n : Int} (h : n < 0) : (⟨#[45]⟩ : ByteArray) ++ strOfNums (itoaI (-n)) = strOfNums (itoaI n) := by rw [show -n = 0 - n by omega]; exact txt_neg h
theorem dec_one {n : Int} (h0 : ¬ n < 0) (h : n < 10) : strOfNums [48 + n] = strOfNums (itoaI n) := by
  have := (tdiv10 (n := n) (by omega)).2
  have e : n.tmod 10 = n := by rw [this]; omega
  have h2 := txt_one h0 h
  rwa [e] at h2
theorem dec_more {n : Int} (h0 : ¬ n < 0) (h : ¬ n < 10) : strOfNums (itoaI (n.tdiv 10)) ++ strOfNums (itoaI (n.tmod 10)) = strOfNums (itoaI n) := by
  have := (tdiv10 (n := n) (by omega)).2
  rw [← dec_one (n := n.tmod 10) (by omega) (by omega)]
  exact txt_more h0 h
theorem lit24 (x : Int) : mayP x 65536 = ((decide (x ≥ 1) && decide (x ≤ 65536)) || (decide (x ≤ -1) && decide (x ≥ -65536))) := by
  rw [Bool.eq_iff_iff, mayP_iff]
  simp only [Bool.or_eq_true, Bool.and_eq_true, decide_eq_true_eq]
  omega
section
variable {k : Int} {l : List Int} {i j : Nat} {p : List (Int × List Int)}
theorem form_no (hi : i < l.length) (hq : mayP (l.getD i 0) 65536 = false) : false = lineOk (k, l) := by
  unfold lineOk
  have := allD_no (p := fun y => mayP y 65536) (d := 0) hi hq
  simp only [this, Bool.and_false]
theorem form_yes (hi : i = l.length) (hok : ∀ j, j < i → mayP (l.getD j 0) 65536 = true) : (decide (k ≥ 1) && decide (k ≤ 3)) = lineOk (k, l) := by
  unfold lineOk
  have := allD_yes (p := fun y => mayP y 65536) (d := 0) hi hok
  simp only [this, Bool.and_true]
def headT (k : Int) : List Int := [letW k]
theorem head_0 (h : 1 ≤ k ∧ k ≤ 3) : (⟨#[111, 108, 100]⟩ : ByteArray).extract (k - 1).toNat k.toNat = strOfNums (headT k ++ litsW (l.take 0)) := by
  have e : headT k ++ litsW (l.take 0) = [letW k] := by simp [headT, litsW]
  rw [e]
  rcases let_cases h with ⟨rfl, h2⟩ | ⟨rfl, h2⟩ | ⟨rfl, h2⟩ <;> rw [h2] <;> decide
theorem head_next (hi : i < l.length) : strOfNums (headT k ++ litsW (l.take i)) ++ ((⟨#[32]⟩ : ByteArray) ++ strOfNums (itoaI (l.getD i 0))) = strOfNums (headT k ++ litsW (l.take (i + 1))) := by
  rw [show (⟨#[32]⟩ : ByteArray) = strOfNums [32] by decide, str_app, str_app]
  congr 1
  have := litsW_next hi (headT k)
  rw [← this]; simp
theorem head_fit (h1 : l.length ≤ 1000000000) (h2 : ∀ y ∈ l, -65536 ≤ y ∧ y ≤ 65536) : (headT k ++ litsW (l.take i)).length ≤ 22000000001 := by
  have := litsW_len (l := l.take i) fun y hy => h2 y (List.mem_of_mem_take hy)
  have h3 : (l.take i).length ≤ l.length := by rw [List.length_take]; omega
  rw [List.length_append]
  show 1 + _ ≤ _
  omega
theorem old_le (h : k ≤ 3) : k ≤ ((⟨#[111, 108, 100]⟩ : ByteArray).size : Int) := by
  have : (⟨#[111, 108, 100]⟩ : ByteArray).size = 3 := rfl
  rw [this]; exact h
theorem text_end (hi : i = l.length) : strOfNums (headT k ++ litsW (l.take i)) ++ (⟨#[32, 48, 10]⟩ : ByteArray) = strOfNums (lineB (k, l)) := by
  rw [show (⟨#[32, 48, 10]⟩ : ByteArray) = strOfNums [32, 48, 10] by decide, str_app, hi, List.take_length]
  congr 1
theorem frm_big (h : (p.length : Int) > 65536) : frmV p = 2 := by unfold frmV; rw [if_pos (by omega)]
theorem frm_bad (hl : p.length ≤ 65536) (hi : i < p.length) (hq : lineOk (p.getD i (0, [])) = false) : frmV p = 1 := by
  unfold frmV
  rw [if_neg (by omega), if_neg (by rw [allD_no hi hq]; decide)]
theorem frm_good (hl : p.length ≤ 65536) (hi : i = p.length) (hok : ∀ j, j < i → lineOk (p.getD j (0, [])) = true) : frmV p = 0 := by
  unfold frmV
  rw [if_neg (by omega), if_pos (allD_yes hi hok)]
theorem putP_snoc (hj : j < p.length) : putP (p.take (j + 1)) = putP (p.take j) ++ lineB (p.getD j (0, [])) := by
  have e : p.take (j + 1) = p.take j ++ [p.getD j (0, [])] := by rw [List.take_add_one]; simp [List.getD, List.getElem?_eq_getElem hj]
  rw [e]; simp [putP]
theorem put_text (hj : j < p.length) (h : lineOk (p.getD j (0, [])) = true) : putP (p.take j) ++ bytesI (strOfNums (lineB ((p.getD j (0, [])).1, (p.getD j (0, [])).2))) = putP (p.take (j + 1)) := by
  have hb : isBytes (lineB (p.getD j (0, []))) := by
    have := put_bytes24 [p.getD j (0, [])] (by simp only [List.all_cons, List.all_nil, h]; rfl)
    have e : putP [p.getD j (0, [])] = lineB (p.getD j (0, [])) := by simp [putP]
    rwa [e] at this
  rw [putP_snoc hj, show ((p.getD j (0, [])).1, (p.getD j (0, [])).2) = p.getD j (0, []) from rfl, bytesI_str hb]
theorem put_size (hj : j < p.length) : (putP (p.take j)).length + (strOfNums (lineB ((p.getD j (0, [])).1, (p.getD j (0, [])).2))).size = (putP (p.take (j + 1))).length := by
  rw [putP_snoc hj, List.length_append, str_size]
end
end Go.Proofs.YtbpbndlgfiammaaGreatDoor.Cn
namespace Go.Proofs.YtbpbndlgfiammaaGreatDoor.Cn
open Go Go.RowKit En

def badQ (w : List Int) : Bool := ((decide ((w.length : Int) < 1)) || (decide ((w.length : Int) > 5))) || ((decide ((w.length : Int) > 1)) && (w.getD 0 0 == 48))
def numQ (w : List Int) : Int × Bool := if badQ w = true then (0, false) else if w.all isDg = true then (dval w, decide (dval w ≤ 65536)) else (0, false)
def rQ : List Int → Int × Bool
  | [] => (0, false)
  | x :: t => if x = 45 then (-(rQ t).1, (rQ t).2 && decide ((rQ t).1 > 0)) else numQ (x :: t)
theorem badQ_len {w : List Int} (h : badQ w = false) : w.length ≤ 5 ∧ 1 ≤ w.length ∧ (w.getD 0 0 ≠ 48 ∨ w.length = 1) := by
  unfold badQ at h
  simp only [Bool.or_eq_false_iff, Bool.and_eq_false_iff, decide_eq_false_iff_not, beq_eq_false_iff_ne] at h
  obtain ⟨⟨h1, h2⟩, h3⟩ := h
  refine ⟨by omega, by omega, ?_⟩
  rcases h3 with h3 | h3
  · exact .inr (by omega)
  · exact .inl h3
theorem dgs_dval : ∀ (n : Nat) (w : List Int), w.length = n + 1 → (∀ x ∈ w, isDg x = true) → (w.getD 0 0 ≠ 48 ∨ n = 0) → dgs (dval w).toNat = w := by
  intro n
  induction n with
  | zero =>
    intro w hl hd _
    match w, hl with
    | [c], _ =>
      have hc := dig_f (hd c (by simp))
      have e : dval [c] = c - 48 := by simp [dval]
      rw [e, dgs_lo (by omega)]
      congr 1; omega
  | succ n ih =>
    intro w hl hd h0
    have hne : w ≠ [] := fun e => by rw [e] at hl; simp at hl
    obtain ⟨v, c, rfl⟩ : ∃ v c, w = v ++ [c] := ⟨w.dropLast, w.getLast hne, (List.dropLast_concat_getLast hne).symm⟩
    have hvl : v.length = n + 1 := by simpa using hl
    have hc := dig_f (hd c (by simp))
    have hv0 : v.getD 0 0 ≠ 48 := by
      rcases h0 with h0 | h0
      · rwa [show (v ++ [c]).getD 0 0 = v.getD 0 0 by rw [List.getD_eq_getElem?_getD, List.getD_eq_getElem?_getD, List.getElem?_append_left (by omega)]] at h0
      · omega
    have hvd : ∀ x ∈ v, isDg x = true := fun x hx => hd x (by simp [hx])
    have hp := dval_pos (by omega) hvd hv0
    have hv := ih v hvl hvd (.inl hv0)
    rw [dval_snoc, dgs_hi (by omega), show (10 * dval v + (c - 48)).toNat / 10 = (dval v).toNat by omega, hv]
    congr 2; omega
theorem numQ_ok {w : List Int} (h : (numQ w).2 = true) : badQ w = false ∧ (∀ x ∈ w, isDg x = true) ∧ numQ w = (dval w, true) ∧ dval w ≤ 65536 ∧ 0 ≤ dval w ∧ itoaI (dval w) = w := by
  unfold numQ at h ⊢
  by_cases h1 : badQ w = true
  · rw [if_pos h1] at h; cases h
  · rw [if_neg h1] at h ⊢
    by_cases h2 : w.all isDg = true
    · rw [if_pos h2] at h ⊢
      have hb := Bool.eq_false_iff.2 h1
      have hd := List.all_eq_true.1 h2
      obtain ⟨l1, l2, l3⟩ := badQ_len hb
      have hle : dval w ≤ 65536 := of_decide_eq_true h
      have hge : 0 ≤ dval w := dval_ge w 0 (Int.le_refl _) fun x hx => (dig_f (hd x hx)).1
      obtain ⟨n, hn⟩ : ∃ n, w.length = n + 1 := ⟨w.length - 1, by omega⟩
      have hg := dgs_dval n w hn hd (by rcases l3 with l3 | l3; exact .inl l3; exact .inr (by omega))
      exact ⟨hb, hd, by rw [decide_eq_true hle], hle, hge, by rw [itoa_pos hge, hg]⟩
    · rw [if_neg h2] at h; cases h
theorem rQ_ok : ∀ {w : List Int}, (rQ w).2 = true → itoaI (rQ w).1 = w ∧ -65536 ≤ (rQ w).1 ∧ (rQ w).1 ≤ 65536
  | [], h => by cases h
  | x :: t, h => by
    rw [rQ] at h ⊢
    by_cases hx : x = 45
    · rw [if_pos hx] at h ⊢
      obtain ⟨h1, h2⟩ := and_t h
      have h3 : (rQ t).1 > 0 := of_decide_eq_true h2
      obtain ⟨k1, k2, k3⟩ := rQ_ok h1
      refine ⟨?_, by show -65536 ≤ -(rQ t).1; omega, by show -(rQ t).1 ≤ 65536; omega⟩
      show itoaI (-(rQ t).1) = x :: t
      rw [itoa_neg (by omega), hx]
      rw [itoa_pos (by omega)] at k1
      rw [show (-(rQ t).1).natAbs = (rQ t).1.toNat by omega, k1]
    · rw [if_neg hx] at h ⊢
      obtain ⟨_, _, e, h4, h5, h6⟩ := numQ_ok h
      rw [e]
      exact ⟨h6, by show -65536 ≤ dval (x :: t); omega, h4⟩
theorem dgs_len5 {u : Nat} (h : u < 100000) : (dgs u).length ≤ 5 := dgs_len 4 u (by omega)
theorem numQ_of {w : List Int} (hl : w.length ≤ 5) (h1 : 1 ≤ w.length) (h0 : ¬ (w.length > 1 ∧ w.getD 0 0 = 48)) (hd : w.all isDg = true) (hv : dval w ≤ 65536) : numQ w = (dval w, true) := by
  have hb : badQ w = false := by
    unfold badQ
    simp only [Bool.or_eq_false_iff, Bool.and_eq_false_iff, decide_eq_false_iff_not, beq_eq_false_iff_ne]
    refine ⟨⟨by omega, by omega⟩, ?_⟩
    by_cases h : w.length > 1
    · exact .inr fun e => h0 ⟨h, e⟩
    · exact .inl (by omega)
  unfold numQ
  rw [hb, if_neg (by simp), if_pos hd, decide_eq_true hv]
theorem rQ_lit {w : List Int} (h : litW w = true) : rQ w = (numN w, true) ∧ numN w ≠ 0 := by
  unfold litW at h
  obtain ⟨h1, h2⟩ := and_t h
  have hw : itoaI (numN w) = w := eq_of_beq h2
  have hb := mayP_iff.1 h1
  have hok := (num_itoa hb.2.1 hb.2.2).1
  rw [hw] at hok
  have hok' := hok
  unfold numOk at hok'
  obtain ⟨q1, q2⟩ := and_t hok'
  have q1' : numBad w = false := by simpa using q1
  refine ⟨?_, hb.1⟩
  have hN : numN w = bif numM w then -(dval (numD w)) else dval (numD w) := by
    conv => lhs; unfold numN
    rw [hok]; rfl
  cases hM : numM w with
  | false =>
    have hD := numD_f hM
    have hbd := bad_of hD
    rw [q1', hM] at hbd
    simp only [Bool.false_or] at hbd
    have hbd' := hbd.symm
    simp only [Bool.or_eq_false_iff, Bool.and_eq_false_iff, decide_eq_false_iff_not, beq_eq_false_iff_ne] at hbd'
    rw [hM, hD] at hN
    simp only [cond_false] at hN
    rw [hD] at q2
    have hge : 0 ≤ dval w := dval_ge w 0 (Int.le_refl _) fun x hx => (dig_f (List.all_eq_true.1 q2 x hx)).1
    have hlen : w.length ≤ 5 := by
      have : w = dgs (dval w).toNat := by rw [← itoa_pos hge, ← hN, hw]
      rw [this]; exact dgs_len5 (by omega)
    have hq := numQ_of hlen (by omega) (fun ⟨e1, e2⟩ => by rcases hbd'.2 with h | h; exact h e2; omega) q2 (by omega)
    have hr : rQ w = numQ w := by
      match w, hM with
      | [], _ => rfl
      | x :: t, hM => rw [numM_cons] at hM; rw [rQ, if_neg (fun e => by rw [e] at hM; cases hM)]
    rw [hr, hq, hN]
  | true =>
    match w, hM with
    | [], hM => cases hM
    | x :: t, hM =>
      have hx : x = 45 := by rw [numM_cons] at hM; exact eq_of_beq hM
      have hD : numD (x :: t) = t := by rw [numD_t hM, List.take_length]; rfl
      have hbd := bad_of hD
      rw [q1', hM] at hbd
      have hbd' := hbd.symm
      simp only [Bool.or_eq_false_iff, Bool.and_eq_false_iff, decide_eq_false_iff_not, beq_eq_false_iff_ne, Bool.true_or] at hbd'
      rw [hM, hD] at hN
      simp only [cond_true] at hN
      rw [hD] at q2
      have hge : 0 ≤ dval t := dval_ge t 0 (Int.le_refl _) fun x hx => (dig_f (List.all_eq_true.1 q2 x hx)).1
      have hpos : 0 < dval t := by have := hb.1; omega
      have ht : t = dgs (dval t).toNat := by
        have := hw
        rw [hN, itoa_neg (by omega)] at this
        have e := (List.cons.inj this).2
        rw [show (-(dval t)).natAbs = (dval t).toNat by omega] at e
        exact e.symm
      have hlen : t.length ≤ 5 := by rw [ht]; exact dgs_len5 (by omega)
      have h48 : t.getD 0 0 ≠ 48 := by rcases hbd'.2 with h | h; exact h; cases h
      have hq := numQ_of hlen (by omega) (fun ⟨_, e2⟩ => h48 e2) q2 (by omega)
      have hr : rQ t = numQ t := by
        match t, q2 with
        | [], _ => rfl
        | y :: s, q2 =>
          have hy := dig_f (List.all_eq_true.1 q2 y (by simp))
          rw [rQ, if_neg (by omega)]
      rw [rQ, if_pos hx, hr, hq, hN]
      simp only [decide_eq_true hpos, Bool.and_self]
theorem lit_rQ (w : List Int) : litW w = ((rQ w).2 && !((rQ w).1 == 0)) := by
  cases hl : litW w with
  | true =>
    obtain ⟨h1, h2⟩ := rQ_lit hl
    rw [h1]; simp [h2]
  | false =>
    cases h2 : (rQ w).2 with
    | false => rfl
    | true =>
      obtain ⟨k1, k2, k3⟩ := rQ_ok h2
      by_cases h0 : (rQ w).1 = 0
      · rw [h0]; rfl
      · have := (litW_of (w := w) (mayP_iff.2 ⟨h0, k2, k3⟩) k1).1
        rw [hl] at this; cases this
theorem numQ_bad {w : List Int} (h : badQ w = true) : numQ w = (0, false) := by unfold numQ; rw [if_pos h]
theorem numQ_no {w : List Int} {k : Nat} (hb : badQ w = false) (hk : k < w.length) (h : isDg (w.getD k 0) = false) : numQ w = (0, false) := by
  unfold numQ; rw [if_neg (by rw [hb]; simp), if_neg (by rw [not_dg hk h]; simp)]
theorem numQ_yes {w : List Int} {k : Nat} (hb : badQ w = false) (hk : k = w.length) (h : ∀ j, j < k → isDg (w.getD j 0) = true) : numQ w = (dval (w.take k), decide (dval (w.take k) ≤ 65536)) := by
  subst hk
  unfold numQ; rw [if_neg (by rw [hb]; simp), if_pos (all_dg h), List.take_length]
theorem numQ_bd (w : List Int) : 0 ≤ (numQ w).1 ∧ (numQ w).1 < 10000000000 := by
  unfold numQ
  by_cases h1 : badQ w = true
  · rw [if_pos h1]; decide
  · rw [if_neg h1]
    by_cases h2 : w.all isDg = true
    · rw [if_pos h2]
      have hl := (badQ_len (Bool.eq_false_iff.2 h1)).1
      have := dval_lt (l := w) (k := w.length) (fun j hj => by
        have := List.all_eq_true.1 h2 w[j] (List.getElem_mem hj)
        simpa [List.getD, List.getElem?_eq_getElem hj] using this) (Nat.le_refl _) (by omega)
      rwa [List.take_length] at this
    · rw [if_neg h2]; decide
theorem rQ_bd : ∀ w : List Int, -10000000000 < (rQ w).1 ∧ (rQ w).1 < 10000000000
  | [] => by decide
  | x :: t => by
    rw [rQ]
    by_cases h : x = 45
    · rw [if_pos h]
      have := rQ_bd t
      show -10000000000 < -(rQ t).1 ∧ -(rQ t).1 < 10000000000
      omega
    · rw [if_neg h]
      have := numQ_bd (x :: t)
      omega
theorem rQ_minus {w : List Int} (h : (decide ((w.length : Int) > 0) && (w.getD 0 0 == 45)) = true) : rQ w = (-(rQ (w.drop 1)).1, (rQ (w.drop 1)).2 && decide ((rQ (w.drop 1)).1 > 0)) := by
  rw [Bool.and_eq_true, decide_eq_true_iff, beq_iff_eq] at h
  match w, h with
  | x :: t, h =>
    have : x = 45 := h.2
    rw [rQ, if_pos this]; rfl
theorem rQ_plain {w : List Int} (h : (decide ((w.length : Int) > 0) && (w.getD 0 0 == 45)) = false) : rQ w = numQ w := by
  match w, h with
  | [], _ => rfl
  | x :: t, h =>
    have hx : ¬ x = 45 := fun e => by
      rw [Bool.and_eq_false_iff] at h
      rcases h with h | h
      · simp at h
      · have : (x :: t).getD 0 0 = x := rfl
        rw [this, e] at h
        simp at h
    rw [rQ, if_neg hx]
end Go.Proofs.YtbpbndlgfiammaaGreatDoor.Cn
namespace Go.Proofs.YtbpbndlgfiammaaGreatDoor.Cn
open Go Go.RowKit En

/-- words and the open word behind i steps; the step behind the last byte closes the word -/
def spS (xs : List Int) : Nat → List (List Int) × List Int
  | 0 => ([], [])
  | i + 1 => if (decide ((i : Int) < (xs.length : Int)) && (xs.getD i 0 != 32)) = true then ((spS xs i).1, (spS xs i).2 ++ [xs.getD i 0]) else ((spS xs i).1 ++ [(spS xs i).2], [])
theorem spS_1 {xs : List Int} {i : Nat} (h : (decide ((i : Int) < (xs.length : Int)) && (xs.getD i 0 != 32)) = true) : spS xs (i + 1) = ((spS xs i).1, (spS xs i).2 ++ [xs.getD i 0]) := by rw [spS, if_pos h]
theorem spS_0 {xs : List Int} {i : Nat} (h : (decide ((i : Int) < (xs.length : Int)) && (xs.getD i 0 != 32)) = false) : spS xs (i + 1) = ((spS xs i).1 ++ [(spS xs i).2], []) := by rw [spS, if_neg (by rw [h]; simp)]
theorem sp_inv (xs : List Int) : ∀ i, i ≤ xs.length → (32 : Int) ∉ (spS xs i).2 ∧ (spS xs i).1 ++ splitI 32 ((spS xs i).2 ++ xs.drop i) = splitI 32 xs
  | 0, _ => ⟨by simp [spS], by simp [spS]⟩
  | i + 1, h => by
    obtain ⟨h1, h2⟩ := sp_inv xs i (by omega)
    have hd : xs.drop i = xs.getD i 0 :: xs.drop (i + 1) := by
      rw [List.drop_eq_getElem_cons (by omega)]
      simp [List.getD, List.getElem?_eq_getElem (show i < xs.length by omega)]
    cases hc : (decide ((i : Int) < (xs.length : Int)) && (xs.getD i 0 != 32)) with
    | true =>
      rw [spS_1 hc]
      have hne : xs.getD i 0 ≠ 32 := bne_iff_ne.1 (and_t hc).2
      refine ⟨by simp only [List.mem_append, List.mem_singleton, not_or]; exact ⟨h1, fun e => hne e.symm⟩, ?_⟩
      rw [hd] at h2
      simpa using h2
    | false =>
      rw [spS_0 hc]
      have he : xs.getD i 0 = 32 := by
        rw [Bool.and_eq_false_iff] at hc
        rcases hc with hc | hc
        · rw [decide_eq_false_iff_not] at hc; omega
        · simpa using hc
      refine ⟨by simp, ?_⟩
      rw [hd, he, splitI_hit h1] at h2
      simpa using h2
theorem sp_end (xs : List Int) : (spS xs (xs.length + 1)).1 = splitI 32 xs := by
  obtain ⟨h1, h2⟩ := sp_inv xs xs.length (Nat.le_refl _)
  rw [spS_0 (by rw [Bool.and_eq_false_iff]; left; rw [decide_eq_false_iff_not]; omega)]
  rw [List.drop_length, List.append_nil, splitI_miss h1] at h2
  exact h2
theorem sp_len (xs : List Int) : ∀ i, (spS xs i).1.length + (spS xs i).2.length ≤ i
  | 0 => by simp [spS]
  | i + 1 => by
    have ih := sp_len xs i
    cases hc : (decide ((i : Int) < (xs.length : Int)) && (xs.getD i 0 != 32)) with
    | true => rw [spS_1 hc]; simp only [List.length_append, List.length_cons, List.length_nil]; omega
    | false => rw [spS_0 hc]; simp only [List.length_append, List.length_cons, List.length_nil]; omega
/-- the kind that the reference gives a line -/
def rfK (xs : List Int) : Int := if wd (splitI 32 xs) 0 = [111] then 1 else if wd (splitI 32 xs) 0 = [108] then 2 else if wd (splitI 32 xs) 0 = [100] then 3 else 0
section
variable {s : ByteArray} {i k : Nat}
theorem sp_ws (hi : i = (bytesI s).length + 1) : (spS (bytesI s) i).1.map strOfNums = wsS s := by rw [hi, sp_end]
theorem w0_is {c : Int} (hc : 0 ≤ c ∧ c ≤ 255) : (((wsS s).getD 0 ByteArray.empty).toList == (strOfNums [c]).toList) = (wd (splitI 32 (bytesI s)) 0 == [c]) := by
  rw [ws_at, str_inj (wd_bytes s 0) (fun x hx => by rw [List.mem_singleton] at hx; omega)]
theorem w0_t {c : Int} (hc : 0 ≤ c ∧ c ≤ 255) (h : (((wsS s).getD 0 ByteArray.empty).toList == (strOfNums [c]).toList) = true) : wd (splitI 32 (bytesI s)) 0 = [c] := by rw [w0_is hc] at h; exact eq_of_beq h
theorem w0_f {c : Int} (hc : 0 ≤ c ∧ c ≤ 255) (h : (((wsS s).getD 0 ByteArray.empty).toList == (strOfNums [c]).toList) = false) : ¬ wd (splitI 32 (bytesI s)) 0 = [c] := by rw [w0_is hc] at h; exact beq_eq_false_iff_ne.1 h
theorem rf_1 (h : wd (splitI 32 (bytesI s)) 0 = [111]) : rfK (bytesI s) = 1 ∧ kinI (wd (splitI 32 (bytesI s)) 0) = 1 ∧ (wd (splitI 32 (bytesI s)) 0).length = 1 := by
  unfold rfK; rw [if_pos h, h]; exact ⟨rfl, by decide, rfl⟩
theorem rf_2 (h1 : ¬ wd (splitI 32 (bytesI s)) 0 = [111]) (h : wd (splitI 32 (bytesI s)) 0 = [108]) : rfK (bytesI s) = 2 ∧ kinI (wd (splitI 32 (bytesI s)) 0) = 2 ∧ (wd (splitI 32 (bytesI s)) 0).length = 1 := by
  unfold rfK; rw [if_neg h1, if_pos h, h]; exact ⟨rfl, by decide, rfl⟩
theorem rf_3 (h1 : ¬ wd (splitI 32 (bytesI s)) 0 = [111]) (h2 : ¬ wd (splitI 32 (bytesI s)) 0 = [108]) (h : wd (splitI 32 (bytesI s)) 0 = [100]) : rfK (bytesI s) = 3 ∧ kinI (wd (splitI 32 (bytesI s)) 0) = 3 ∧ (wd (splitI 32 (bytesI s)) 0).length = 1 := by
  unfold rfK; rw [if_neg h1, if_neg h2, if_pos h, h]; exact ⟨rfl, by decide, rfl⟩
theorem rf_0 (h1 : ¬ wd (splitI 32 (bytesI s)) 0 = [111]) (h2 : ¬ wd (splitI 32 (bytesI s)) 0 = [108]) (h3 : ¬ wd (splitI 32 (bytesI s)) 0 = [100]) : rfK (bytesI s) = 0 ∧ headW (splitI 32 (bytesI s)) = false := by
  refine ⟨by unfold rfK; rw [if_neg h1, if_neg h2, if_neg h3], ?_⟩
  cases hH : headW (splitI 32 (bytesI s)) with
  | false => rfl
  | true =>
    unfold headW at hH
    simp only [Bool.and_eq_true, decide_eq_true_eq] at hH
    have hk := kin_back (wd_bytes s 0) hH.1 hH.2.1
    rcases let_cases hk.1 with ⟨_, e⟩ | ⟨_, e⟩ | ⟨_, e⟩ <;> rw [e] at hk
    · exact absurd hk.2 h1
    · exact absurd hk.2 h2
    · exact absurd hk.2 h3
/-- the test of the last word -/
theorem tail_is (hk : 1 ≤ kinI (wd (splitI 32 (bytesI s)) 0)) (hl : (wd (splitI 32 (bytesI s)) 0).length = 1) :
    ((decide (((wsS s).length : Int) < 2)) || (!(((wsS s).getD (((wsS s).length : Int) - 1).toNat ByteArray.empty).toList == (⟨#[48]⟩ : ByteArray).toList))) = !headW (splitI 32 (bytesI s)) := by
  have h := head_is s
  rw [lnK_is, ws_at, str_size, hl] at h
  rw [← h, show decide (lnK (bytesI s) < 1) = false by rw [decide_eq_false_iff_not]; unfold lnK; omega, show (((1 : Nat) : Int) != 1) = false by decide]
  have h8 := (ws_facts s).1
  rw [Bool.or_false, Bool.false_or, show decide (((wsS s).length : Int) - 1 < 1) = decide (((wsS s).length : Int) < 2) by rw [Bool.eq_iff_iff, decide_eq_true_iff, decide_eq_true_iff]; omega]
theorem nq_no {w : ByteArray} {v : List Int} (hw : w = strOfNums v) (hv : isBytes v) (h : (!(rQ (bytesI w)).2 || ((rQ (bytesI w)).1 == 0)) = true) : litW v = false := by
  rw [hw, bytesI_str hv] at h
  rw [lit_rQ]
  cases hq : (rQ v).2 <;> cases h0 : ((rQ v).1 == 0) <;> rw [hq, h0] at h <;> first | rfl | cases h
theorem nq_yes {w : ByteArray} {v : List Int} (hw : w = strOfNums v) (hv : isBytes v) (h : (!(rQ (bytesI w)).2 || ((rQ (bytesI w)).1 == 0)) = false) : litW v = true ∧ (rQ (bytesI w)).1 = numN v := by
  rw [hw, bytesI_str hv] at h ⊢
  have hl : litW v = true := by
    rw [lit_rQ]
    cases hq : (rQ v).2 <;> cases h0 : ((rQ v).1 == 0) <;> rw [hq, h0] at h <;> first | rfl | cases h
  exact ⟨hl, by rw [(rQ_lit hl).1]⟩
theorem mid_snoc {x : Int} (hi : k < (mdS s).length) (h : x = numN ((midW (splitI 32 (bytesI s))).getD k [])) : ((midW (splitI 32 (bytesI s))).take k).map numN ++ [x] = ((midW (splitI 32 (bytesI s))).take (k + 1)).map numN := by
  rw [h]
  rw [mid_len] at hi
  rw [List.take_add_one, List.map_append]
  simp [List.getD, List.getElem?_eq_getElem hi]
theorem sp_str {w : List Int} (hi : i < s.size) : strOfNums w ++ s.extract i (i + 1) = strOfNums (w ++ [(bytesI s).getD i 0]) := by
  have hl : i < s.data.toList.length := by rw [Array.length_toList]; exact hi
  have e : bytesI (s.extract i (i + 1)) = [(bytesI s).getD i 0] := by
    unfold bytesI
    rw [ByteArray.data_extract, Array.toList_extract, List.extract_eq_take_drop, List.drop_eq_getElem_cons hl, show i + 1 - i = 1 by omega]
    simp [List.getD, List.getElem?_eq_getElem hl]
  rw [← str_app, ← e, str_bytesI]
theorem ext_one (hi : i < s.size) : (s.extract i (i + 1)).size = 1 := by rw [ByteArray.size_extract]; omega
theorem lt_of_and {b : Bool} (h : (decide ((i : Int) < (s.size : Int)) && b) = true) : i < s.size := by have := (and_t h).1; simpa using this
end
theorem rf_ok {xs : List Int} (hb : isBytes xs) (h : lnOk xs = true) : rfK xs = lnK xs := by
  unfold lnOk at h
  have hH := (and_t h).1
  have hH' := hH
  unfold headW at hH'
  simp only [Bool.and_eq_true, decide_eq_true_eq] at hH'
  have hm : isBytes (wd (splitI 32 xs) 0) := fun x hx => by
    unfold wd at hx
    rw [List.getD_eq_getElem?_getD] at hx
    cases hq : (splitI 32 xs)[0]? with
    | none => rw [hq] at hx; cases hx
    | some w => rw [hq] at hx; exact hb x (splitI_mem (List.mem_of_getElem? hq) x hx)
  have hk := kin_back hm hH'.1 hH'.2.1
  unfold rfK lnK
  rcases let_cases hk.1 with ⟨e0, e⟩ | ⟨e0, e⟩ | ⟨e0, e⟩ <;> rw [e] at hk
  · rw [if_pos hk.2, e0]
  · rw [if_neg (by rw [hk.2]; decide), if_pos hk.2, e0]
  · rw [if_neg (by rw [hk.2]; decide), if_neg (by rw [hk.2]; decide), if_pos hk.2, e0]
def GI (b : List Int) (i g : Nat) (o : List (Int × List Int)) : Prop := g ≤ i ∧ i ≤ b.length ∧ (10 : Int) ∉ (b.take i).drop g ∧ getI b o (b.drop g) ∧ o.length ≤ i
section
variable {b : List Int} {i g : Nat} {o : List (Int × List Int)}
def nxG (b : List Int) (i g : Nat) : Nat := if b.getD i 0 = 10 then i + 1 else g
theorem nxG_t (hc : b.getD i 0 = 10) : nxG b i g = i + 1 := if_pos hc
theorem nxG_f (hc : ¬ b.getD i 0 = 10) : nxG b i g = g := if_neg hc
theorem GI_0 (b : List Int) : GI b 0 0 [] := ⟨Nat.le_refl _, Nat.zero_le _, by simp, by rw [List.drop_zero]; exact getI_0 b, Nat.le_refl _⟩
theorem tk_next (hg : g ≤ i) (hi : i < b.length) : (b.take (i + 1)).drop g = (b.take i).drop g ++ [b.getD i 0] := by
  have e : b.take (i + 1) = b.take i ++ [b.getD i 0] := by rw [List.take_add_one]; simp [List.getD, List.getElem?_eq_getElem hi]
  rw [e, List.drop_append_of_le_length (by rw [List.length_take]; omega)]
theorem GI_skip (h : GI b i g o) (hi : i < b.length) (hc : b.getD i 0 ≠ 10) : GI b (i + 1) g o := by
  obtain ⟨h1, h2, h3, h4, h5⟩ := h
  refine ⟨by omega, hi, ?_, h4, by omega⟩
  rw [tk_next h1 hi]
  simp only [List.mem_append, List.mem_singleton, not_or]
  exact ⟨h3, fun e => hc e.symm⟩
theorem GI_parts (h : GI b i g o) (hi : i < b.length) : b.drop g = (b.take i).drop g ++ b.getD i 0 :: b.drop (i + 1) := by
  conv => lhs; rw [← List.take_append_drop i b]
  rw [List.drop_append_of_le_length (by rw [List.length_take]; have := h.1; omega), List.drop_eq_getElem_cons hi]
  simp [List.getD, List.getElem?_eq_getElem hi]
theorem GI_cut (h : GI b i g o) (hi : i < b.length) (hc : b.getD i 0 = 10) : cutN (b.drop g) = ((b.take i).drop g, b.drop (i + 1), true) := by
  rw [GI_parts h hi, hc, cut_hit h.2.2.1]
theorem GI_line (hb : isBytes b) (h : GI b i g o) (hi : i < b.length) (hc : b.getD i 0 = 10) (hok : lnOk ((b.take i).drop g) = true) : GI b (i + 1) (i + 1) (o ++ [(rfK ((b.take i).drop g), lnL ((b.take i).drop g))]) := by
  have hcut := GI_cut h hi hc
  have hba : isBytes ((b.take i).drop g) := fun x hx => hb x (List.mem_of_mem_take (List.mem_of_mem_drop hx))
  obtain ⟨h1, h2, h3, h4, h5⟩ := h
  have hn := getI_next h4 (by rw [List.length_drop]; omega) (by rw [hcut]; exact hok)
  rw [hcut] at hn
  refine ⟨Nat.le_refl _, hi, ?_, by rw [rf_ok hba hok]; exact hn, by simp; omega⟩
  rw [List.drop_eq_nil_of_le (by rw [List.length_take]; omega)]; simp
theorem GI_bad (h : GI b i g o) (hi : i < b.length) (hc : b.getD i 0 = 10) (hno : lnOk ((b.take i).drop g) = false) : getV24 b = ([], 11) := by
  have hcut := GI_cut h hi hc
  obtain ⟨h1, h2, h3, h4, h5⟩ := h
  exact getI_no h4 (by rw [List.length_drop]; omega) (by rw [hcut]; exact hno)
theorem GI_open (h : GI b i g o) (hi : i = b.length) (hg : g ≠ b.length) : getV24 b = ([], 11) := by
  obtain ⟨h1, h2, h3, h4, h5⟩ := h
  rw [hi, List.take_length] at h3
  exact getI_no h4 (by rw [List.length_drop]; omega) (by rw [cut_miss h3]; rfl)
theorem GI_end (h : GI b i g o) (hg : g = b.length) : getV24 b = if 65536 < o.length then ([], 2) else (o, 0) := getI_end h.2.2.2.1 (by rw [List.length_drop]; omega)
end
theorem gv_fit {b : List Int} (hb : isBytes b) (hl : b.length ≤ 1000000) : (getV24 b).1.length ≤ maxLen ∧ (getV24 b).1.length ≤ maxLen ∧ (∀ x ∈ (getV24 b).1, x.2.length ≤ maxLen) ∧ ∀ x ∈ (getV24 b).1, x.2.length ≤ maxLen := by
  by_cases h : (getV24 b).2 = 0
  · obtain ⟨_, _, h3⟩ := gv_yes hb h
    have h4 := len_szP (getV24 b).1
    have h5 : ∀ x ∈ (getV24 b).1, x.2.length ≤ maxLen := fun x hx => by have := mem_szP hx; unfold maxLen; omega
    exact ⟨by unfold maxLen; omega, by unfold maxLen; omega, h5, h5⟩
  · rw [gv_no h]
    have h5 : ∀ x ∈ ([] : List (Int × List Int)), x.2.length ≤ maxLen := fun x hx => by cases hx
    exact ⟨Nat.zero_le _, Nat.zero_le _, h5, h5⟩
theorem c_texts {p : List (Int × List Int)} {b : List Int} (h : (!(fewL p 200) || decide ((b.length : Int) > 2000)) = false) : fewL p 200 = true ∧ b.length ≤ 2000 := by
  simp only [Bool.or_eq_false_iff, decide_eq_false_iff_not, Bool.not_eq_false'] at h
  exact ⟨h.1, by omega⟩
end Go.Proofs.YtbpbndlgfiammaaGreatDoor.Cn
