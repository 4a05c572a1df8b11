/- The elimination of one variable, step by step. Plain lemmas; no program in sight. -/
import Derived.Test.YthhfdjcaafckbaaElimP
set_option linter.unusedSimpArgs false
set_option linter.unusedVariables false
set_option linter.unnecessarySimpa false
namespace Go.Proofs.Ythhfdjcaafckbaa.Cn
open Go

theorem uOf_next_y {c : List (List Int)} {v : Int} {k : Nat} (hk : k < c.length) (h : hasV v (c.getD k []) = true) : uOf (c.take k) v ++ [c.getD k []] = uOf (c.take (k + 1)) v ∧ xOf (c.take k) v = xOf (c.take (k + 1)) v := by
  unfold uOf xOf
  rw [take_sD (d := []) hk, List.filter_append, List.filter_append, List.filter_cons_of_pos h, List.filter_cons_of_neg (by rw [h]; simp)]
  simp
theorem uOf_next_n {c : List (List Int)} {v : Int} {k : Nat} (hk : k < c.length) (h : hasV v (c.getD k []) = false) : xOf (c.take k) v ++ [c.getD k []] = xOf (c.take (k + 1)) v ∧ uOf (c.take k) v = uOf (c.take (k + 1)) v := by
  unfold uOf xOf
  rw [take_sD (d := []) hk, List.filter_append, List.filter_append, List.filter_cons_of_pos (by rw [h]; rfl), List.filter_cons_of_neg (by rw [h]; simp)]
  simp
abbrev posL (c : List (List Int)) (v : Int) : List (List Int) := withL (uOf c v) v
abbrev negL (c : List (List Int)) (v : Int) : List (List Int) := withL (uOf c v) (-v)
/-- the remaining clauses when p clauses with v and, of the next one, q with its negation have been taken -/
def stX (c : List (List Int)) (v : Int) (p q : Nat) : List (List Int) := xOf c v ++ resA (posL c v) (negL c v) v p ++ resB ((posL c v).getD p []) (negL c v) v q
def okX (c : List (List Int)) (v many : Int) (p q : Nat) : Prop := stX c v p q = xOf c v ∨ ((stX c v p q).length : Int) ≤ many
section
variable {c : List (List Int)} {v many : Int} {p q : Nat}
theorem st_zero : xOf c v = stX c v 0 0 := by simp [stX, resA, resB]
theorem ok_zero : okX c v many 0 0 := .inl st_zero.symm
theorem resB_all (a : List Int) (bs : List (List Int)) : resB a bs v bs.length = bs.flatMap (resT a v) := by simp [resB]
theorem st_next (hp : p < (posL c v).length) : stX c v p (negL c v).length = stX c v (p + 1) 0 := by
  unfold stX
  rw [resB_all]
  have h1 : resA (posL c v) (negL c v) v (p + 1) = resA (posL c v) (negL c v) v p ++ (negL c v).flatMap (resT ((posL c v).getD p []) v) := by
    unfold resA; rw [take_sD (d := []) hp, List.flatMap_append]; simp
  rw [h1]
  simp [resB]
theorem ok_next (hp : p < (posL c v).length) (h : okX c v many p (negL c v).length) : okX c v many (p + 1) 0 := by
  unfold okX at h ⊢; rw [← st_next hp]; exact h
theorem resB_succ {a : List Int} {bs : List (List Int)} (hq : q < bs.length) : resB a bs v (q + 1) = resB a bs v q ++ resT a v (bs.getD q []) := by
  unfold resB; rw [take_sD (d := []) hq, List.flatMap_append]; simp
theorem st_skip (hq : q < (negL c v).length) (h : tautL (resL ((posL c v).getD p []) ((negL c v).getD q []) v) = true) : stX c v p q = stX c v p (q + 1) := by
  unfold stX; rw [resB_succ hq]; unfold resT; rw [if_pos h, List.append_nil]
theorem ok_skip (hq : q < (negL c v).length) (h : tautL (resL ((posL c v).getD p []) ((negL c v).getD q []) v) = true) (ho : okX c v many p q) : okX c v many p (q + 1) := by
  unfold okX at ho ⊢; rw [← st_skip hq h]; exact ho
theorem st_add (hq : q < (negL c v).length) (h : tautL (resL ((posL c v).getD p []) ((negL c v).getD q []) v) = false) : stX c v p q ++ [resL ((posL c v).getD p []) ((negL c v).getD q []) v] = stX c v p (q + 1) := by
  unfold stX; rw [resB_succ hq]; unfold resT; rw [if_neg (by rw [h]; simp), ← List.append_assoc]
theorem ok_add (hq : q < (negL c v).length) (h : tautL (resL ((posL c v).getD p []) ((negL c v).getD q []) v) = false) (ho : ((stX c v p q ++ [resL ((posL c v).getD p []) ((negL c v).getD q []) v]).length : Int) ≤ many) : okX c v many p (q + 1) := by
  rw [st_add hq h] at ho; exact .inr ho
theorem cut_pre : ∀ {acc r1 r2 : List (List Int)}, (r1 = [] ∨ ((acc ++ r1).length : Int) ≤ many) → cutX many acc (r1 ++ r2) = cutX many (acc ++ r1) r2
  | acc, [], r2, _ => by simp
  | acc, l :: r1, r2, h => by
    have h' : ((acc ++ l :: r1).length : Int) ≤ many := by rcases h with h | h
                                                           · cases h
                                                           · exact h
    have h1 : ((acc ++ [l]).length : Int) ≤ many := by simp only [List.length_append, List.length_cons, List.length_nil] at h' ⊢; omega
    show (if many < ((acc ++ [l]).length : Int) then acc ++ [l] else cutX many (acc ++ [l]) (r1 ++ r2)) = _
    rw [if_neg (by omega), cut_pre (acc := acc ++ [l]) (r1 := r1) (.inr (by simpa [List.append_assoc] using h')), List.append_assoc]
    rfl
theorem cut_brk {acc ls : List (List Int)} {l : List Int} (h : many < ((acc ++ [l]).length : Int)) : cutX many acc (l :: ls) = acc ++ [l] := by
  show (if many < ((acc ++ [l]).length : Int) then acc ++ [l] else _) = _
  rw [if_pos h]
theorem cut_nil {acc : List (List Int)} : cutX many acc [] = acc := rfl
theorem ok_cut {acc r1 r2 : List (List Int)} (h : acc ++ r1 = acc ∨ ((acc ++ r1).length : Int) ≤ many) : cutX many acc (r1 ++ r2) = cutX many (acc ++ r1) r2 :=
  cut_pre (h.imp (fun h => by simpa using h) id)
theorem st_end (h : okX c v many (posL c v).length 0) : outX c v many = stX c v (posL c v).length 0 := by
  have e : stX c v (posL c v).length 0 = xOf c v ++ resA (posL c v) (negL c v) v (posL c v).length := by simp [stX, resB]
  unfold okX at h
  rw [e] at h ⊢
  have := ok_cut (r2 := []) h
  rw [List.append_nil, cut_nil] at this
  exact this
theorem resA_split (hp : p < (posL c v).length) (hq : q < (negL c v).length) (h : tautL (resL ((posL c v).getD p []) ((negL c v).getD q []) v) = false) :
    ∃ t, resA (posL c v) (negL c v) v (posL c v).length = (resA (posL c v) (negL c v) v p ++ resB ((posL c v).getD p []) (negL c v) v q) ++ (resL ((posL c v).getD p []) ((negL c v).getD q []) v :: t) := by
  have e1 : posL c v = (posL c v).take p ++ ((posL c v).getD p [] :: (posL c v).drop (p + 1)) := by
    rw [List.getD_eq_getElem?_getD, List.getElem?_eq_getElem hp]
    simp
  have e2 : negL c v = (negL c v).take q ++ ((negL c v).getD q [] :: (negL c v).drop (q + 1)) := by
    rw [List.getD_eq_getElem?_getD, List.getElem?_eq_getElem hq]
    simp
  generalize hA : (posL c v).getD p [] = a at *
  generalize hB : (negL c v).getD q [] = b at *
  have e3 : (negL c v).flatMap (resT a v) = resB a (negL c v) v q ++ (resL a b v :: ((negL c v).drop (q + 1)).flatMap (resT a v)) := by
    conv => lhs; rw [e2]
    rw [List.flatMap_append, List.flatMap_cons]
    unfold resB
    have : resT a v b = [resL a b v] := by unfold resT; rw [if_neg (by rw [h]; simp)]
    rw [this]; rfl
  refine ⟨((negL c v).drop (q + 1)).flatMap (resT a v) ++ ((posL c v).drop (p + 1)).flatMap (fun a => (negL c v).flatMap (resT a v)), ?_⟩
  have e4 : resA (posL c v) (negL c v) v (posL c v).length = (posL c v).flatMap fun a => (negL c v).flatMap (resT a v) := by unfold resA; rw [List.take_length]
  have e5 : ((posL c v).flatMap fun a => (negL c v).flatMap (resT a v)) = ((posL c v).take p).flatMap (fun a => (negL c v).flatMap (resT a v)) ++ ((negL c v).flatMap (resT a v) ++ ((posL c v).drop (p + 1)).flatMap (fun a => (negL c v).flatMap (resT a v))) := by
    conv => lhs; arg 2; rw [e1]
    rw [List.flatMap_append, List.flatMap_cons]
  rw [e4, e5, e3]
  unfold resA
  simp [List.append_assoc]
theorem st_brk (hp : p < (posL c v).length) (hq : q < (negL c v).length) (h : tautL (resL ((posL c v).getD p []) ((negL c v).getD q []) v) = false) (ho : okX c v many p q)
    (hb : ((stX c v p q ++ [resL ((posL c v).getD p []) ((negL c v).getD q []) v]).length : Int) > many) : outX c v many = stX c v p q ++ [resL ((posL c v).getD p []) ((negL c v).getD q []) v] := by
  obtain ⟨t, ht⟩ := resA_split hp hq h
  unfold outX
  rw [show resA (withL (uOf c v) v) (withL (uOf c v) (-v)) v (withL (uOf c v) v).length = _ from ht]
  have e : stX c v p q = xOf c v ++ (resA (posL c v) (negL c v) v p ++ resB ((posL c v).getD p []) (negL c v) v q) := by unfold stX; rw [List.append_assoc]
  unfold okX at ho
  rw [e] at ho hb ⊢
  rw [ok_cut ho, cut_brk hb]
/-- sizes -/
theorem sub_len {l : List Int} (hl : ∀ m ∈ c, m.length ≤ 1000) (h : l ∈ c) : l.length ≤ 1000 := hl l h
theorem resL_len (a b : List Int) (v : Int) : (resL a b v).length ≤ a.length + b.length := by
  have hn : ∀ x, (resOn a b x).length ≤ a.length + b.length := fun x => by
    unfold resOn
    refine Nat.le_trans (norm_len _) ?_
    rw [List.length_append]
    exact Nat.add_le_add (List.length_filter_le _ _) (List.length_filter_le _ _)
  unfold resL
  split
  · split
    · exact hn _
    · split
      · exact hn _
      · simp
  · simp
theorem uOf_len : (uOf c v).length ≤ c.length := List.length_filter_le _ _
theorem xOf_len : (xOf c v).length ≤ c.length := List.length_filter_le _ _
theorem with_len {d : List (List Int)} {x : Int} : (withL d x).length ≤ d.length := List.length_filter_le _ _
theorem pos_mem {l : List Int} (h : l ∈ posL c v) : l ∈ c := (List.mem_filter.1 (List.mem_filter.1 h).1).1
theorem neg_mem {l : List Int} (h : l ∈ negL c v) : l ∈ c := (List.mem_filter.1 (List.mem_filter.1 h).1).1
theorem ok_len (hc : c.length ≤ 10000) (hm : many ≤ 65536) (h : okX c v many p q) : (stX c v p q).length ≤ 75536 := by
  rcases h with h | h
  · rw [h]; have := xOf_len (c := c) (v := v); omega
  · omega
theorem cut_len : ∀ {acc ls : List (List Int)}, (cutX many acc ls).length ≤ acc.length + 1 ∨ ((cutX many acc ls).length : Int) ≤ many + 1
  | acc, [] => .inl (by rw [cut_nil]; omega)
  | acc, l :: ls => by
    show (if many < ((acc ++ [l]).length : Int) then acc ++ [l] else cutX many (acc ++ [l]) ls).length ≤ _ ∨ ((if many < ((acc ++ [l]).length : Int) then acc ++ [l] else cutX many (acc ++ [l]) ls).length : Int) ≤ _
    split
    · left; simp
    · rename_i hn
      rcases cut_len (acc := acc ++ [l]) (ls := ls) with h | h
      · right; omega
      · right; exact h
theorem cut_mem : ∀ {acc ls : List (List Int)} {l : List Int}, l ∈ cutX many acc ls → l ∈ acc ∨ l ∈ ls
  | acc, [], l, h => .inl h
  | acc, m :: ls, l, h => by
    have h : l ∈ (if many < ((acc ++ [m]).length : Int) then acc ++ [m] else cutX many (acc ++ [m]) ls) := h
    split at h
    · rcases List.mem_append.1 h with h | h
      · exact .inl h
      · rw [List.mem_singleton] at h; subst h; exact .inr List.mem_cons_self
    · rcases cut_mem h with h | h
      · rcases List.mem_append.1 h with h | h
        · exact .inl h
        · rw [List.mem_singleton] at h; subst h; exact .inr List.mem_cons_self
      · exact .inr (List.mem_cons_of_mem _ h)
theorem out_mem {l : List Int} (h : l ∈ outX c v many) : l ∈ c ∨ ∃ a b, a ∈ posL c v ∧ b ∈ negL c v ∧ tautL (resL a b v) = false ∧ l = resL a b v := by
  rcases cut_mem h with h | h
  · exact .inl (List.mem_filter.1 h).1
  · right
    unfold resA at h
    rw [List.take_length] at h
    obtain ⟨a, ha, h⟩ := List.mem_flatMap.1 h
    obtain ⟨b, hb, h⟩ := List.mem_flatMap.1 h
    unfold resT at h
    split at h
    · cases h
    · rename_i ht
      rw [List.mem_singleton] at h
      exact ⟨a, b, ha, hb, by simpa using ht, h⟩
theorem out_len (hc : c.length ≤ 10000) (hm : many ≤ 65536) : (outX c v many).length ≤ 75537 := by
  have := xOf_len (c := c) (v := v)
  rcases cut_len (many := many) (acc := xOf c v) (ls := resA (withL (uOf c v) v) (withL (uOf c v) (-v)) v (withL (uOf c v) v).length) with h | h
  · unfold outX; omega
  · unfold outX; omega
theorem out_lens (hl : ∀ m ∈ c, m.length ≤ 1000) : ∀ l ∈ outX c v many, l.length ≤ 2000 := fun l h => by
  rcases out_mem h with h | ⟨a, b, ha, hb, _, rfl⟩
  · have := hl l h; omega
  · have h1 := hl a (pos_mem ha)
    have h2 := hl b (neg_mem hb)
    have := resL_len a b v
    omega
end
/-- Out -/
def ouE (N : Int) (L : List (List Int)) (v : Int) : Int := if chkV N L ≠ 0 then chkV N L else if v < 1 ∨ N < v then 140 else if 65536 < ((outX L v 65536).length : Int) then 2 else 0
def ouN (N : Int) (L : List (List Int)) (v : Int) : Int := if ouE N L v = 0 then N else 0
def ouX (N : Int) (L : List (List Int)) (v : Int) : List (List Int) := if ouE N L v = 0 then outX L v 65536 else []
def ouV (N : Int) (L : List (List Int)) (v : Int) : Int := if ouE N L v = 0 then v else 0
def ouU (N : Int) (L : List (List Int)) (v : Int) : List (List Int) := if ouE N L v = 0 then uOf L v else []
theorem ou_no {N : Int} {L : List (List Int)} {v e : Int} (h : ouE N L v = e) (h0 : e ≠ 0) : ouN N L v = 0 ∧ ouX N L v = [] ∧ ouV N L v = 0 ∧ ouU N L v = [] ∧ ouE N L v = e := by
  unfold ouN ouX ouV ouU
  rw [h, if_neg h0, if_neg h0, if_neg h0, if_neg h0]
  exact ⟨rfl, rfl, rfl, rfl, rfl⟩
theorem ou_chk {N : Int} {L : List (List Int)} {v : Int} (h : chkV N L ≠ 0) : ouE N L v = chkV N L := if_pos h
theorem ou_lit {N : Int} {L : List (List Int)} {v : Int} (h : chkV N L = 0) (hv : v < 1 ∨ N < v) : ouE N L v = 140 := by
  unfold ouE; rw [if_neg (fun e => e h), if_pos hv]
theorem ou_big {N : Int} {L : List (List Int)} {v : Int} (h : chkV N L = 0) (hv : ¬ (v < 1 ∨ N < v)) (hb : ¬ (((outX L v 65536).length : Int) ≤ 65536)) : ouE N L v = 2 := by
  unfold ouE; rw [if_neg (fun e => e h), if_neg hv, if_pos (Int.not_le.1 hb)]
theorem ou_ok {N : Int} {L : List (List Int)} {v : Int} (h : chkV N L = 0) (hv : ¬ (v < 1 ∨ N < v)) (hb : ((outX L v 65536).length : Int) ≤ 65536) : ouE N L v = 0 ∧ ouN N L v = N ∧ ouX N L v = outX L v 65536 ∧ ouV N L v = v ∧ ouU N L v = uOf L v := by
  have e : ouE N L v = 0 := by unfold ouE; rw [if_neg (fun e => e h), if_neg hv, if_neg (Int.not_lt.2 hb)]
  unfold ouN ouX ouV ouU
  rw [e]
  exact ⟨rfl, rfl, rfl, rfl, rfl⟩
end Go.Proofs.Ythhfdjcaafckbaa.Cn
