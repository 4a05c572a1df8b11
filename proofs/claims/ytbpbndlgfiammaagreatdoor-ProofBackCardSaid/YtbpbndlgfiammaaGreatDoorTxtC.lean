/- A text that reads as a proof is that proof's text; equality of proofs. Plain lemmas; no program in sight. -/
import Derived.Test.YtbpbndlgfiammaaGreatDoorLaw24P
set_option linter.unusedSimpArgs false
set_option linter.unusedVariables false
set_option linter.unnecessarySimpa false
namespace Go.Proofs.YtbpbndlgfiammaaGreatDoor.Cn
open Go Go.RowKit En

section
variable {α : Type} [BEq α] [LawfulBEq α] {a b : List α} {d : α} {i : Nat}
theorem sm_len (h : ¬ a.length = b.length) : false = (a == b) := by
  cases hq : a == b with
  | false => rfl
  | true => exact absurd (congrArg List.length (eq_of_beq hq)) h
theorem sm_no (h : ¬ a.getD i d = b.getD i d) : false = (a == b) := by
  cases hq : a == b with
  | false => rfl
  | true => rw [eq_of_beq hq] at h; exact absurd rfl h
theorem sm_yes (hl : a.length = b.length) (hi : i = a.length) (hok : ∀ j, j < i → a.getD j d = b.getD j d) : true = (a == b) := by
  have : a = b := by
    refine List.ext_getElem hl fun j h1 h2 => ?_
    have := hok j (by omega)
    simpa [List.getD, List.getElem?_eq_getElem h1, List.getElem?_eq_getElem h2] using this
  rw [this]; simp
end
theorem sm_pair {x y : Int × List Int} {k : Nat} (h1 : x.1 = y.1) (h2 : x.2.length = y.2.length) (hk : k = x.2.length) (hok : ∀ j, j < k → x.2.getD j 0 = y.2.getD j 0) : x = y := by
  have h := sm_yes (d := (0 : Int)) h2 hk hok
  have : x.2 = y.2 := eq_of_beq h.symm
  exact Prod.ext h1 this
theorem sm_ne {x y : Int × List Int} (h : ((x.1 != y.1) || ((x.2.length : Int) != (y.2.length : Int))) = true) : ¬ x = y := fun e => by
  rw [e] at h; simp at h
theorem sm_eq {x y : Int × List Int} (h : ((x.1 != y.1) || ((x.2.length : Int) != (y.2.length : Int))) = false) : x.1 = y.1 ∧ x.2.length = y.2.length := by
  rw [Bool.or_eq_false_iff, bne_eq_false_iff_eq, bne_eq_false_iff_eq] at h
  exact ⟨h.1, by omega⟩
theorem sm_in {x y : Int × List Int} {k : Nat} (h : ¬ x.2.getD k 0 = y.2.getD k 0) : ¬ x = y := fun e => by rw [e] at h; exact h rfl
def joinI (c : Int) : List (List Int) → List Int
  | [] => []
  | [w] => w
  | w :: v :: ws => w ++ c :: joinI c (v :: ws)
theorem join_split (c : Int) : ∀ xs : List Int, joinI c (splitI c xs) = xs
  | [] => rfl
  | x :: l => by
    have ih := join_split c l
    obtain ⟨w, ws, e⟩ := splitI_ne c l
    unfold splitI
    rw [e] at ih
    split
    · rename_i hx
      rw [e]
      show [] ++ c :: joinI c (w :: ws) = _
      rw [ih, hx]; rfl
    · rw [e]
      cases ws with
      | nil => show (x :: w) = _; simp only [joinI] at ih; rw [ih]
      | cons v ws => show (x :: w) ++ c :: joinI c (v :: ws) = _; simp only [joinI] at ih; rw [List.cons_append, ih]
theorem join_mid : ∀ (ws : List (List Int)) (w : List Int), joinI 32 (w :: (ws ++ [[48]])) = w ++ (ws.flatMap (fun v => 32 :: v) ++ [32, 48])
  | [], w => rfl
  | v :: ws, w => by
    show w ++ 32 :: joinI 32 (v :: (ws ++ [[48]])) = _
    rw [join_mid ws v]; simp
theorem parts {ws : List (List Int)} (h2 : 2 ≤ ws.length) (h : wd ws (ws.length - 1) = [48]) : ws = wd ws 0 :: (midW ws ++ [[48]]) := by
  match ws, h2, h with
  | w :: r, h2, h =>
    simp only [List.length_cons] at h2
    have hne : r ≠ [] := fun e => by rw [e] at h2; simp at h2
    obtain ⟨s, z, rfl⟩ : ∃ s z, r = s ++ [z] := ⟨r.dropLast, r.getLast hne, (List.dropLast_concat_getLast hne).symm⟩
    have e1 : (w :: (s ++ [z])).length - 1 = s.length + 1 := by simp
    have e2 : midW (w :: (s ++ [z])) = s := by
      unfold midW
      rw [e1, List.take_succ_cons, List.drop_succ_cons, List.drop_zero, List.take_append_of_le_length (Nat.le_refl _), List.take_length]
    have e3 : wd (w :: (s ++ [z])) ((w :: (s ++ [z])).length - 1) = z := by
      rw [e1]; unfold wd; simp [List.getD]
    rw [e3] at h
    rw [e2, ← h]; rfl
theorem kin_back {w : List Int} (hb : isBytes w) (h1 : w.length = 1) (hk : 1 ≤ kinI w) : (1 ≤ kinI w ∧ kinI w ≤ 3) ∧ w = [letW (kinI w)] := by
  match w, h1 with
  | [c], _ =>
    have hc := hb c (by simp)
    have hd : (strOfNums [c]).data.toList = [UInt8.ofNat c.toNat] := by simp [strOfNums]
    unfold kinI at hk ⊢
    rw [hd] at hk ⊢
    have hcc : (UInt8.ofNat c.toNat).toNat = c.toNat := by rw [UInt8.toNat_ofNat']; omega
    rcases index_one (UInt8.ofNat c.toNat) [32, 111, 108, 100] with ⟨e, _⟩ | ⟨a, r, e1, _, e2⟩
    · rw [e] at hk; omega
    · rw [e2] at hk ⊢
      have hlen := congrArg List.length e1
      simp at hlen
      match a, e1, hlen, hk with
      | [], e1, _, hk => simp at hk
      | [_], e1, _, hk =>
        simp at e1
        have : c = 111 := by have := congrArg UInt8.toNat e1.2.1; rw [hcc] at this; have h8 : (111 : UInt8).toNat = 111 := rfl; omega
        subst this
        exact ⟨⟨by simp, by simp⟩, show ([111] : List Int) = [letW 1] by decide⟩
      | [_, _], e1, _, hk =>
        simp at e1
        have : c = 108 := by have := congrArg UInt8.toNat e1.2.2.1; rw [hcc] at this; have h8 : (108 : UInt8).toNat = 108 := rfl; omega
        subst this
        exact ⟨⟨by simp, by simp⟩, show ([108] : List Int) = [letW 2] by decide⟩
      | [_, _, _], e1, _, hk =>
        simp at e1
        have : c = 100 := by have := congrArg UInt8.toNat e1.2.2.2.1; rw [hcc] at this; have h8 : (100 : UInt8).toNat = 100 := rfl; omega
        subst this
        exact ⟨⟨by simp, by simp⟩, show ([100] : List Int) = [letW 3] by decide⟩
      | _ :: _ :: _ :: _ :: a, e1, hlen, hk => simp at hlen; omega
theorem lits_back : ∀ {l : List (List Int)}, (∀ w ∈ l, itoaI (numN w) = w) → litsW (l.map numN) = l.flatMap (fun v => 32 :: v)
  | [], _ => rfl
  | w :: l, h => by
    have ih := lits_back (l := l) fun v hv => h v (List.mem_cons_of_mem _ hv)
    have e : litsW ((w :: l).map numN) = 32 :: itoaI (numN w) ++ litsW (l.map numN) := by simp [litsW]
    rw [e, ih, h w List.mem_cons_self]; simp
theorem line_form {xs : List Int} (hb : isBytes xs) (h : lnOk xs = true) : lineT (lnK xs, lnL xs) = xs ∧ lineOk (lnK xs, lnL xs) = true := by
  unfold lnOk at h
  obtain ⟨hH, hA⟩ := and_t h
  have hL : lnL xs = (midW (splitI 32 xs)).map numN := by
    unfold lnL
    rw [if_pos hH]
    have := List.takeWhile_append_of_pos (l₂ := []) (List.all_eq_true.1 hA)
    simp at this
    rw [this]
  have hH' := hH
  unfold headW at hH'
  simp only [Bool.and_eq_true, decide_eq_true_eq, beq_iff_eq] at hH'
  obtain ⟨q1, q2, q3, q4⟩ := hH'
  have hpts := parts q3 q4
  have hmem : wd (splitI 32 xs) 0 ∈ splitI 32 xs := by rw [hpts]; simp [wd]
  have hk := kin_back (fun x hx => hb x (splitI_mem hmem x hx)) q1 q2
  have hlit : ∀ w ∈ midW (splitI 32 xs), litW w = true := List.all_eq_true.1 hA
  have hmap : litsW ((midW (splitI 32 xs)).map numN) = (midW (splitI 32 xs)).flatMap (fun v => 32 :: v) := by
    refine lits_back fun w hw => ?_
    have := hlit w hw
    unfold litW at this
    simp only [Bool.and_eq_true, beq_iff_eq] at this
    exact this.2
  refine ⟨?_, ?_⟩
  · have hj := join_split 32 xs
    rw [hpts, join_mid, hk.2] at hj
    unfold lineT
    rw [hL, hmap]
    exact hj
  · unfold lineOk
    rw [hL]
    simp only [Bool.and_eq_true, decide_eq_true_eq, List.all_eq_true, List.mem_map]
    refine ⟨hk.1, ?_⟩
    rintro y ⟨w, hw, rfl⟩
    have := hlit w hw
    unfold litW at this
    simp only [Bool.and_eq_true] at this
    exact this.1
theorem get_form : ∀ (n : Nat) {b : List Int} {l : List (Int × List Int)}, isBytes b → getF n b = some l → putP l = b ∧ l.all lineOk = true := by
  intro n
  induction n with
  | zero =>
    intro b l hb h
    cases b with
    | nil => simp [getF] at h; subst h; exact ⟨rfl, rfl⟩
    | cons x r => simp [getF] at h
  | succ n ih =>
    intro b l hb h
    cases b with
    | nil => simp [getF] at h; subst h; exact ⟨rfl, rfl⟩
    | cons x r =>
      unfold getF at h
      split at h
      · rename_i hc
        obtain ⟨h1, h2⟩ := and_t hc
        rcases cut_cases (x :: r) with h0 | ⟨a, rest, e1, _, e3⟩
        · rw [h0] at h1; cases h1
        · rw [e3] at h h2
          simp only at h h2
          obtain ⟨l', hl', rfl⟩ := Option.map_eq_some_iff.1 h
          have hba : isBytes a := fun z hz => hb z (by rw [e1]; simp [hz])
          have hbr : isBytes rest := fun z hz => hb z (by rw [e1]; simp [hz])
          obtain ⟨k1, k2⟩ := ih hbr hl'
          obtain ⟨k3, k4⟩ := line_form hba h2
          refine ⟨?_, by simp [k4, k2]⟩
          have : putP ((lnK a, lnL a) :: l') = lineB (lnK a, lnL a) ++ putP l' := by simp [putP]
          rw [this, lineB_is, k3, k1, e1]; simp
      · cases h
theorem sz_put {l : List (Int × List Int)} : szP l ≤ (putP l).length := by
  induction l with
  | nil => simp [szP, putP]
  | cons x l ih =>
    have e : putP (x :: l) = lineB x ++ putP l := by simp [putP]
    have e2 : szP (x :: l) = 1 + x.2.length + szP l := by simp [szP]
    have h3 : x.2.length ≤ (litsW x.2).length := by
      induction x.2 with
      | nil => simp
      | cons y t iht => have : litsW (y :: t) = 32 :: itoaI y ++ litsW t := by simp [litsW]
                        rw [this]; simp only [List.length_cons, List.length_append]; omega
    rw [e, e2]; simp only [List.length_append, lineB, List.length_cons, List.length_nil]; omega
theorem gv_no {b : List Int} (h : ¬ (getV24 b).2 = 0) : (getV24 b).1 = [] := by
  unfold getV24 at h ⊢
  split
  · rfl
  · split
    · rfl
    · rename_i h1 h2; rw [h1] at h; simp [h2] at h
theorem gv_yes {b : List Int} (hb : isBytes b) (h : (getV24 b).2 = 0) : frmV (getV24 b).1 = 0 ∧ putV (getV24 b).1 = b ∧ szP (getV24 b).1 ≤ b.length := by
  unfold getV24 at h ⊢
  split at h
  · cases h
  · rename_i l hl
    split at h
    · cases h
    · rename_i hle
      obtain ⟨k1, k2⟩ := get_form b.length hb hl
      rw [if_neg hle]
      have hf : frmV l = 0 := frm_ok.2 ⟨by omega, k2⟩
      refine ⟨hf, by unfold putV; rw [if_pos hf]; exact k1, ?_⟩
      have := sz_put (l := l)
      rw [k1] at this; exact this
section
variable {N : Int} {L : List (List Int)} {p : List (Int × List Int)} {core b : List Int}
theorem c_back (h : (((!(fewC L 40) || !(fewL p 40)) || decide ((core.length : Int) > 40)) || decide ((b.length : Int) > 2000)) = false) : fewC L 40 = true ∧ fewL p 40 = true ∧ core.length ≤ 40 ∧ b.length ≤ 2000 := by
  simp only [Bool.or_eq_false_iff, decide_eq_false_iff_not, Bool.not_eq_false'] at h
  exact ⟨h.1.1.1, h.1.1.2, by omega, by omega⟩
theorem put_fit (h : frmV p = 0) (hs : szP p ≤ 10000) : (putV p).length ≤ 1000000 ∧ isBytes (putV p) := by
  obtain ⟨_, h2⟩ := frm_ok.1 h
  have := putP_len (frm_lits h).2.2
  unfold putV
  rw [if_pos h]
  exact ⟨by omega, put_bytes24 p h2⟩
theorem same_pre {k : Int} (h2 : (p.length : Int) ≤ k ∧ (szP p : Int) ≤ 6 * k ∧ ∀ x ∈ p, x.2.length < szP p) (hk : k ≤ 1000 := by decide) : p.length ≤ maxLen ∧ p.length ≤ maxLen ∧ (∀ x ∈ p, x.2.length ≤ maxLen) ∧ ∀ x ∈ p, x.2.length ≤ maxLen := by
  have h3 : ∀ x ∈ p, x.2.length ≤ maxLen := fun x hx => by have := h2.2.2 x hx; have := h2.2.1; unfold maxLen; omega
  exact ⟨by unfold maxLen; omega, by unfold maxLen; omega, h3, h3⟩
theorem back_dead24 {t : List Int} (hG : getV24 t = (p, 0)) (h : ((((getV24 t).2 != 0) || !((getV24 t).1 == p)) || (chkC N L (getV24 t).1 core != chkC N L p core)) = true) : False := by
  rw [hG] at h; simp at h
end
end Go.Proofs.YtbpbndlgfiammaaGreatDoor.Cn
