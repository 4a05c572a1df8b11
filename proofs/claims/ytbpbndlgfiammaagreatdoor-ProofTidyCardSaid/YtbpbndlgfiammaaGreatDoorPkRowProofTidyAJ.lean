/- Lemmas and contracts for the row. -/
import Derived.Test.YtbpbndlgfiammaaGreatDoorPkRowProofTidyAI
import Derived.Test.YtbpbndlgfiammaaGreatDoorPkRowProofTidyT
import Derived.Test.YtbpbndlgfiammaaGreatDoorPkRowProofTidyG
import Derived.Test.YtbpbndlgfiammaaGreatDoorPkRowProofTidyB
set_option linter.unusedVariables false
set_option linter.unusedSimpArgs false
set_option linter.unnecessarySimpa false
namespace Go.Proofs.YtbpbndlgfiammaaGreatDoor.Cn
open Go Go.RowKit En
theorem itoa_no {n c : Int} (hc : c = 32 ∨ c = 10) : c ∉ itoaI n := fun h => by
  have := itoa_mem _ h
  omega
theorem split_line : ∀ (l : List Int) (a : List Int), (32 : Int) ∉ a → splitI 32 (a ++ (litsW l ++ [32, 48])) = a :: (l.map itoaI ++ [[48]])
  | [], a, h => by
    show splitI 32 (a ++ 32 :: [48]) = _
    rw [splitI_hit h]; rfl
  | y :: l, a, h => by
    have e : a ++ (litsW (y :: l) ++ [32, 48]) = a ++ 32 :: (itoaI y ++ (litsW l ++ [32, 48])) := by simp [litsW]
    rw [e, splitI_hit h, split_line l (itoaI y) (itoa_no (.inl rfl))]
    rfl
def lineT (x : Int × List Int) : List Int := letW x.1 :: (litsW x.2 ++ [32, 48])
theorem lineB_is (x : Int × List Int) : lineB x = lineT x ++ [10] := by simp [lineB, lineT]
theorem let_cases {k : Int} (h : 1 ≤ k ∧ k ≤ 3) : (k = 1 ∧ letW k = 111) ∨ (k = 2 ∧ letW k = 108) ∨ (k = 3 ∧ letW k = 100) := by
  rcases (by omega : k = 1 ∨ k = 2 ∨ k = 3) with rfl | rfl | rfl
  · exact .inl ⟨rfl, by decide⟩
  · exact .inr (.inl ⟨rfl, by decide⟩)
  · exact .inr (.inr ⟨rfl, by decide⟩)
theorem kin_let {k : Int} (h : 1 ≤ k ∧ k ≤ 3) : kinI [letW k] = k := by
  rcases let_cases h with ⟨rfl, e⟩ | ⟨rfl, e⟩ | ⟨rfl, e⟩ <;> rw [e] <;> decide
theorem line_ok {x : Int × List Int} (h : lineOk x = true) : (1 ≤ x.1 ∧ x.1 ≤ 3) ∧ ∀ y ∈ x.2, mayP y 65536 = true := by
  unfold lineOk at h
  simp only [Bool.and_eq_true, decide_eq_true_eq, List.all_eq_true] at h
  exact h
theorem split_T {x : Int × List Int} (h : lineOk x = true) : splitI 32 (lineT x) = [letW x.1] :: (x.2.map itoaI ++ [[48]]) := by
  have := split_line x.2 [letW x.1] (by rcases let_cases (line_ok h).1 with ⟨_, e⟩ | ⟨_, e⟩ | ⟨_, e⟩ <;> rw [e] <;> simp)
  exact this
theorem mid_T {k : Int} {ws : List (List Int)} : midW ([k] :: (ws ++ [[48]])) = ws := by
  unfold midW
  have e : ([k] :: (ws ++ [[48]])).length - 1 = ws.length + 1 := by simp
  rw [e, List.take_succ_cons, List.drop_succ_cons, List.drop_zero, List.take_append_of_le_length (Nat.le_refl _), List.take_length]
theorem head_T {k : Int} (h : 1 ≤ k ∧ k ≤ 3) {ws : List (List Int)} : headW ([letW k] :: (ws ++ [[48]])) = true := by
  have h0 : wd ([letW k] :: (ws ++ [[48]])) 0 = [letW k] := rfl
  have h1 : wd ([letW k] :: (ws ++ [[48]])) (([letW k] :: (ws ++ [[48]])).length - 1) = [48] := by
    unfold wd
    have e : ([letW k] :: (ws ++ [[48]])).length - 1 = ws.length + 1 := by simp
    rw [e]
    simp [List.getD]
  unfold headW
  rw [h0, h1, kin_let h]
  simp
  omega
theorem lit_itoa {y : Int} (h : mayP y 65536 = true) : litW (itoaI y) = true ∧ numN (itoaI y) = y := litW_of h rfl
theorem all_lits {l : List Int} (h : ∀ y ∈ l, mayP y 65536 = true) : (l.map itoaI).all litW = true ∧ (l.map itoaI).takeWhile litW = l.map itoaI ∧ (l.map itoaI).map numN = l := by
  have ha : ∀ w ∈ l.map itoaI, litW w = true := fun w hw => by
    obtain ⟨y, hy, rfl⟩ := List.mem_map.1 hw
    exact (lit_itoa (h y hy)).1
  refine ⟨List.all_eq_true.2 ha, ?_, ?_⟩
  · have := List.takeWhile_append_of_pos (l₂ := []) ha
    simpa using this
  · rw [List.map_map]
    conv => rhs; rw [← List.map_id l]
    exact List.map_congr_left fun y hy => (lit_itoa (h y hy)).2
theorem line_back {x : Int × List Int} (h : lineOk x = true) : lnK (lineT x) = x.1 ∧ lnL (lineT x) = x.2 ∧ lnOk (lineT x) = true := by
  obtain ⟨h1, h2⟩ := line_ok h
  obtain ⟨a1, a2, a3⟩ := all_lits h2
  unfold lnK lnL lnOk
  rw [split_T h, head_T h1, mid_T, if_pos rfl, a2, a3, a1]
  exact ⟨kin_let h1, rfl, rfl⟩
theorem line_no {x : Int × List Int} (h : lineOk x = true) : (10 : Int) ∉ lineT x := by
  unfold lineT
  have hl : (10 : Int) ∉ litsW x.2 := fun hm => by
    unfold litsW at hm
    obtain ⟨y, _, hy⟩ := List.mem_flatMap.1 hm
    rcases List.mem_cons.1 hy with hy | hy
    · cases hy
    · exact itoa_no (.inr rfl) hy
  simp only [List.mem_cons, List.mem_append, not_or]
  refine ⟨?_, hl, by decide, by decide, by simp⟩
  rcases let_cases (line_ok h).1 with ⟨_, e⟩ | ⟨_, e⟩ | ⟨_, e⟩ <;> rw [e] <;> decide
theorem get_put24 : ∀ {p : List (Int × List Int)}, p.all lineOk = true → getL (putP p) = some p
  | [], _ => rfl
  | x :: p, h => by
    simp only [List.all_cons, Bool.and_eq_true] at h
    have e : putP (x :: p) = lineT x ++ 10 :: putP p := by
      have : putP (x :: p) = lineB x ++ putP p := by simp [putP]
      rw [this, lineB_is]; simp
    obtain ⟨b1, b2, b3⟩ := line_back h.1
    have hc := cut_hit (r := putP p) (line_no h.1)
    rw [e, getL_yes (by simp only [List.length_append, List.length_cons]; omega) (by rw [hc, b3]; rfl), hc]
    simp only
    rw [get_put24 h.2, b1, b2]
    rfl
theorem get_putV {p : List (Int × List Int)} (h : frmV p = 0) : getV24 (putV p) = (p, 0) := by
  obtain ⟨h1, h2⟩ := frm_ok.1 h
  unfold putV getV24
  rw [if_pos h, get_put24 h2]
  simp only
  rw [if_neg (by omega)]
end Go.Proofs.YtbpbndlgfiammaaGreatDoor.Cn
namespace Go.Proofs.YtbpbndlgfiammaaGreatDoor.Cn
open Go Go.RowKit En
def szG {α : Type} (f : α → Nat) (l : List α) : Nat := (l.map fun x => 1 + f x).sum
def szC (c : List (List Int)) : Nat := szG List.length c
theorem szG_next {α : Type} {f : α → Nat} {l : List α} {d : α} {i : Nat} (hi : i < l.length) : szG f (l.take i) + (1 + f (l.getD i d)) = szG f (l.take (i + 1)) := by
  have e : l.take (i + 1) = l.take i ++ [l.getD i d] := by rw [List.take_add_one]; simp [List.getD, List.getElem?_eq_getElem hi]
  rw [e]; simp [szG]
theorem szG_take {α : Type} {f : α → Nat} (l : List α) (i : Nat) : szG f (l.take i) ≤ szG f l := by
  have e : szG f (l.take i ++ l.drop i) = szG f (l.take i) + szG f (l.drop i) := by unfold szG; rw [List.map_append, List.sum_append]
  rw [List.take_append_drop] at e
  omega
theorem szG_mem {α : Type} {f : α → Nat} {l : List α} {x : α} (hx : x ∈ l) : f x < szG f l := by
  obtain ⟨i, hi, rfl⟩ := List.getElem_of_mem hx
  have h1 := szG_next (f := f) (d := l[i]) hi
  have h2 := szG_take (f := f) l (i + 1)
  rw [show l.getD i l[i] = l[i] by simp [List.getD, List.getElem?_eq_getElem hi]] at h1
  omega
def fewG {α : Type} (f : α → Nat) (l : List α) (m : Int) : Bool := decide ((l.length : Int) ≤ m) && decide ((szG f l : Int) ≤ 6 * m)
def fewC (c : List (List Int)) (m : Int) : Bool := fewG List.length c m
theorem fewG_big {α : Type} {f : α → Nat} {l : List α} {m : Int} {i : Nat} (h : 6 * m < (szG f (l.take i) : Int)) : false = fewG f l m := by
  have := szG_take (f := f) l i
  unfold fewG
  rw [show decide ((szG f l : Int) ≤ 6 * m) = false by rw [decide_eq_false_iff_not]; omega, Bool.and_false]
theorem fewG_end {α : Type} {f : α → Nat} {l : List α} {m : Int} {i : Nat} (hs : (szG f (l.take i) : Int) ≤ 6 * m) (hi : i ≤ l.length) (h : (decide ((i : Int) < (l.length : Int)) && decide ((i : Int) ≤ m)) = false) : decide ((l.length : Int) ≤ m) = fewG f l m := by
  unfold fewG
  by_cases hl : i = l.length
  · rw [hl, List.take_length] at hs
    rw [show decide ((szG f l : Int) ≤ 6 * m) = true by rw [decide_eq_true_iff]; exact hs, Bool.and_true]
  · have : ¬ (i : Int) ≤ m := by
      intro hm
      rw [show decide ((i : Int) < (l.length : Int)) = true by rw [decide_eq_true_iff]; omega, show decide ((i : Int) ≤ m) = true by rw [decide_eq_true_iff]; exact hm] at h
      cases h
    rw [show decide ((l.length : Int) ≤ m) = false by rw [decide_eq_false_iff_not]; omega, Bool.false_and]
theorem fewC_next {c : List (List Int)} {i : Nat} (hi : i < c.length) : szC (c.take i) + (1 + (c.getD i []).length) = szC (c.take (i + 1)) := szG_next hi
theorem fewC_iff {c : List (List Int)} {m : Int} (h : fewC c m = true) : (c.length : Int) ≤ m ∧ (szC c : Int) ≤ 6 * m ∧ ∀ x ∈ c, x.length < szC c := by
  unfold fewC fewG at h
  simp only [Bool.and_eq_true, decide_eq_true_eq] at h
  exact ⟨h.1, h.2, fun x hx => szG_mem (f := List.length) hx⟩
theorem and_t {a b : Bool} (h : (a && b) = true) : a = true ∧ b = true := Bool.and_eq_true_iff.1 h
end Go.Proofs.YtbpbndlgfiammaaGreatDoor.Cn
namespace Go.Proofs.YtbpbndlgfiammaaGreatDoor.Cn
open Go Go.RowKit En
abbrev four4 : List (List Int) := [[1, 2], [-1, 2], [1, -2], [-1, -2]]
theorem given_next {c : List (List Int)} {i : Nat} (hi : i < c.length) : ((c.take i).map fun l => ((1 : Int), l)) ++ [(1, c.getD i [])] = (c.take (i + 1)).map fun l => ((1 : Int), l) := by
  have e : c.take (i + 1) = c.take i ++ [c.getD i []] := by rw [List.take_add_one]; simp [List.getD, List.getElem?_eq_getElem hi]
  rw [e, List.map_append]; rfl
section
variable {α : Type} {p : α → Bool} {l : List α} {d : α} {i : Nat}
end
theorem lv24_1 : flwV ((four4.take 2).drop 0) [2] = true := by decide +kernel
theorem lv24_2 : flwV four4 [] = false := by decide +kernel
theorem lv24_3 : flwV (four4 ++ [[2]]) [] = true := by decide +kernel
theorem lv24_4 : chkC 2 four4 ((four4.map fun l => ((1 : Int), l)) ++ [(2, [2])]) [] = 0 := by decide +kernel
theorem lv24_5 : chkC 2 four4 ((((four4.map fun l => ((1 : Int), l)) ++ [(2, [2])]).take 4).drop 0) [] = 250 := by decide +kernel
theorem lv24_6 : frmV [(1, [1, -2])] = 0 := by decide +kernel
theorem lv24_7 : putV [(1, [1, -2])] = [111, 32, 49, 32, 45, 50, 32, 48, 10] := by
  have h1 : itoaI 1 = [49] := by rw [show (1 : Int) = ((1 : Nat) : Int) from rfl]; unfold itoaI; rw [Lib.itoa_nonneg, Lib.decDigits_one (by omega)]; rfl
  have h2 : itoaI (-2) = [45, 50] := by rw [show (-2 : Int) = -((2 : Nat) : Int) from rfl]; unfold itoaI; rw [Lib.itoa_neg 2 (by omega), Lib.decDigits_one (by omega)]; rfl
  unfold putV
  rw [if_pos lv24_6]
  simp [putP, lineB, litsW, h1, h2, letW, bytesI]
theorem lv24_8 : getV24 [111, 32, 49, 32, 45, 50, 32, 48, 10] = ([(1, [1, -2])], 0) := by
  rw [← lv24_7]; exact get_putV lv24_6
theorem str24 : ((strOfNums [111, 32, 49, 32, 45, 50, 32, 48, 10]).toList == (⟨#[111, 32, 49, 32, 45, 50, 32, 48, 10]⟩ : ByteArray).toList) = true := by
  rw [show strOfNums [111, 32, 49, 32, 45, 50, 32, 48, 10] = (⟨#[111, 32, 49, 32, 45, 50, 32, 48, 10]⟩ : ByteArray) by decide]
  simp
end Go.Proofs.YtbpbndlgfiammaaGreatDoor.Cn
namespace Go.Proofs.YtbpbndlgfiammaaGreatDoor.Cn
open Go Go.RowKit En
section
variable {N at_ n : Int} {L : List (List Int)} {p : List (Int × List Int)} {core l more : List Int} {a : List Bool}
end
end Go.Proofs.YtbpbndlgfiammaaGreatDoor.Cn
