/- Lemmas and contracts for the row. -/
import Derived.Test.YtbpbndlgfiammaaGreatDoorPkRowProofResolvedA
import Derived.Deep.RegionHeld3
import Derived.Shelf.GgClosure.Gives
import Derived.Test.YtbpbndlgfiammaaGreatDoorPkRowProofResolvedB
import Derived.Lib.RowBridge
set_option linter.unusedVariables false
set_option linter.unusedSimpArgs false
set_option linter.unnecessarySimpa false
namespace Go.Proofs.YtbpbndlgfiammaaGreatDoor
open Go
section
variable {P : Program} {ops : Array Oper} {Q : Exit → Act → World → Prop} {md : Region.Mode} {S : World → Prop} {k : Nat}
def wpAnyK (P : Program) (md : Region.Mode) (ops : Array Oper) (Q : Exit → Act → World → Prop) (k : Nat) (S : World → Prop) : Nat → Array Bool → Act → World → Prop
  | 0, listed, a, w => Region.ready md ops listed = [] ∧ Q .normal a w
  | fuel + 1, listed, a, w =>
    (Region.ready md ops listed = [] → Q .normal a w) ∧
    ∀ i ∈ Region.ready md ops listed, wpOp P ops Q i (fun a' w' => ((listed.setIfInBounds i true).getD k false = false → S w') ∧ wpAnyK P md ops Q k S fuel (listed.setIfInBounds i true) a' w') a w
def waitsB (md : Region.Mode) (ops : Array Oper) (i : Nat) : Nat → Nat → Bool
  | 0, _ => false
  | f + 1, j => match ops[j]? with
    | none => false
    | some o => o.after.any fun e => Region.binds md e && (e.on == i || waitsB md ops i f e.on)
def Clo (md : Region.Mode) (ops : Array Oper) (L : Array Bool) : Prop :=
  ∀ j o, ops[j]? = some o → L.getD j false = true → ∀ e ∈ o.after, Region.binds md e = true → L.getD e.on false = true
theorem waitsB_listed {L : Array Bool} (hc : Clo md ops L) {i : Nat} : ∀ (f j : Nat), waitsB md ops i f j = true → L.getD j false = true → L.getD i false = true
  | 0, _, h, _ => by cases h
  | f + 1, j, h, hj => by
    unfold waitsB at h
    cases ho : ops[j]? with
    | none => rw [ho] at h; cases h
    | some o =>
      rw [ho] at h
      obtain ⟨e, he, hb⟩ := Array.any_eq_true'.1 h
      simp only [Bool.and_eq_true, Bool.or_eq_true, beq_iff_eq] at hb
      have h1 := hc j o ho hj e he hb.1
      rcases hb.2 with h2 | h2
      · rw [← h2]; exact h1
      · exact waitsB_listed hc f e.on h2 h1
theorem getD_false_of {L : Array Bool} {i : Nat} (h : L.getD i true = false) : L.getD i false = false := by
  rcases Nat.lt_or_ge i L.size with h' | h'
  · simpa [Array.getD, h'] using h
  · simp [Array.getD, Nat.not_lt.2 h'] at h
theorem getD_set_other {L : Array Bool} {i j : Nat} (h : i ≠ j) (b d : Bool) : (L.setIfInBounds i b).getD j d = L.getD j d := by
  simp [h]
theorem Clo.set_ {L : Array Bool} (hc : Clo md ops L) {j : Nat} (hj : j ∈ Region.ready md ops L) : Clo md ops (L.setIfInBounds j true) := by
  obtain ⟨_, oj, hoj, hall⟩ := mem_ready.1 hj
  have up : ∀ x, L.getD x false = true → (L.setIfInBounds j true).getD x false = true := fun x hx => by
    by_cases h : j = x
    · subst h
      rcases Nat.lt_or_ge j L.size with h' | h'
      · simp [Array.getD, h']
      · simp [Array.getD, Nat.not_lt.2 h'] at hx
    · rw [getD_set_other h]; exact hx
  intro x o hx hl e he hb
  by_cases h : j = x
  · subst h
    rw [hoj] at hx
    cases hx
    exact up _ (hall e he hb)
  · rw [getD_set_other h] at hl
    exact up _ (hc x o hx hl e he hb)
def AllReadyK (P : Program) (md : Region.Mode) (ops : Array Oper) (Q : Exit → Act → World → Prop) (k : Nat) (S : World → Prop) (fuel : Nat) (listed : Array Bool) (a : Act) (w : World) (rs : List Nat) : Prop :=
  ∀ i ∈ rs, wpOp P ops Q i (fun a' w' => ((listed.setIfInBounds i true).getD k false = false → S w') ∧ wpAnyK P md ops Q k S fuel (listed.setIfInBounds i true) a' w') a w
theorem AllReadyK.nil {fuel : Nat} {listed : Array Bool} {a : Act} {w : World} : AllReadyK P md ops Q k S fuel listed a w [] := fun _ h => by cases h
theorem AllReadyK.cons {fuel : Nat} {listed : Array Bool} {a : Act} {w : World} {i : Nat} {o : Oper} {rs : List Nat} (ho : ops[i]? = some o)
    (h : ∀ K' : Act → World → Prop, Shut (∀ a w, S w → (S w → wpAnyK P md ops Q k S fuel (listed.setIfInBounds i true) a w) → K' a w) → if Region.wanted o (yielded ops a.tmps) = true then Oper.wp P o a w K' Q else K' (a.put o.dst undef) w)
    (hs : AllReadyK P md ops Q k S fuel listed a w rs) : AllReadyK P md ops Q k S fuel listed a w (i :: rs) := fun j hj => by
  rcases List.mem_cons.1 hj with rfl | hj
  · exact wpOp_step ho (fun K' hK => h K' (fun a w hS hW => hK a w ⟨fun _ => hS, hW hS⟩))
  · exact hs j hj
end
end Go.Proofs.YtbpbndlgfiammaaGreatDoor
namespace Go.Proofs.YtbpbndlgfiammaaGreatDoor
open Go Go.RowKit Go.Sort
section
variable {α : Type} [Inhabited α] {enc : α → Value} {w : World} {e g off n cap : Nat} {xs ys : List α}
theorem Own.cur {v : Value} {us : List Value} (h : Own w e v us) (hv : v = .slice (some ⟨g, off, none⟩) n cap) (he : e ≠ 5 := by decide) : ∃ cur, w.heap[g]? = some (.cells cur e (0, 0)) ∧ us.length ≤ cap ∧ cap ≤ maxLen ∧ off + cap ≤ cur.size ∧ us.length = n ∧ ∀ j (h : j < us.length), cur[off + j]? = some us[j] := by
  rcases h with ⟨rfl, _⟩ | ⟨g', off', cap', cur, rfl, h1, h2, h3, h4, h5⟩
  · cases hv
  · injection hv with ha hn hc
    injection ha with ha
    injection ha with hb ho
    subst hb ho hc
    exact ⟨cur, h1.plain he, h2, h3, h4, hn, h5⟩
theorem own_holds (ho : Own w e (.slice (some ⟨g, off, none⟩) n cap) (xs.map enc)) (he : e ≠ 5 := by decide) : Holds enc w g off xs.toArray := fun j hj => by
  obtain ⟨cur, h1, h2, h3, h4, hn, h5⟩ := ho.cur rfl he
  have hj' : j < xs.length := by simpa using hj
  refine ⟨?_, by simp [World.frozen?, h1]⟩
  rw [cell_of_row w g _ cur e (0, 0) h1, h5 j (by simpa using hj')]
  simp [getElem!_pos xs.toArray j hj]
theorem sort_kp (q : Nat) (d : Array α) (os : Array Obj) : Kp (fun b => b = g) w (sortWorld enc w g off q d os) := by
  have hs : (w.heap.modify g (onCells (putCells enc off d))).size = w.heap.size := by simp
  refine ⟨rfl, rfl, rfl, ?_, fun k hk hn => ?_⟩
  · show w.heap.size ≤ ((w.heap.modify g (onCells (putCells enc off d))) ++ os).size
    rw [Array.size_append, hs]; omega
  · show ((w.heap.modify g (onCells (putCells enc off d))) ++ os)[k]? = _
    rw [Array.getElem?_append_left (by rw [hs]; exact hk), Array.getElem?_modify, if_neg (fun h => hn h.symm)]
theorem sort_own (ho : Own w e (.slice (some ⟨g, off, none⟩) n cap) (xs.map enc)) (q : Nat) (os : Array Obj) (hl : ys.length = xs.length) {m : Nat} (hm : m ≤ ys.length) (he : e ≠ 5 := by decide) :
    Own (sortWorld enc w g off q ys.toArray os) e (.slice (some ⟨g, off, none⟩) m cap) ((ys.take m).map enc) := by
  obtain ⟨cur, h1, h2, h3, h4, hn, h5⟩ := ho.cur rfl he
  have hg : g < w.heap.size := (Array.getElem?_eq_some_iff.1 h1).1
  have hs : (w.heap.modify g (onCells (putCells enc off ys.toArray))).size = w.heap.size := by simp
  rw [List.length_map] at h2
  refine .inr ⟨g, off, cap, putCells enc off ys.toArray cur, by simp [Nat.min_eq_left hm], ?_, by simp; omega, h3, by simpa [putCells] using h4, fun j hj => ?_⟩
  · refine .mk0 ?_
    show ((w.heap.modify g (onCells (putCells enc off ys.toArray))) ++ os)[g]? = _
    rw [Array.getElem?_append_left (by rw [hs]; exact hg), Array.getElem?_modify, if_pos rfl, h1]
    rfl
  · have hj' : j < m ∧ j < ys.length := by simp only [List.length_map, List.length_take] at hj; omega
    have hjc : off + j < cur.size := by omega
    simp only [putCells, Array.getElem?_mapIdx, Array.getElem?_eq_getElem hjc, Option.map_some]
    rw [if_pos ⟨by omega, by simp; omega⟩, show off + j - off = j by omega]
    simp [hj'.2]
end
end Go.Proofs.YtbpbndlgfiammaaGreatDoor
namespace Go.Proofs.YtbpbndlgfiammaaGreatDoor.Cn
open Go
def sortI (xs : List Int) : List Int := xs.mergeSort fun x y => decide (x ≤ y)
def setI (xs : List Int) : List Int := Lib.compact (sortI xs)
theorem sortI_mem {xs : List Int} {x : Int} : x ∈ sortI xs ↔ x ∈ xs := by unfold sortI; exact List.mem_mergeSort
theorem sortI_len (xs : List Int) : (sortI xs).length = xs.length := by unfold sortI; exact List.length_mergeSort _
theorem sortI_pw (xs : List Int) : (sortI xs).Pairwise fun x y => x ≤ y := by
  have h := List.pairwise_mergeSort (le := fun x y : Int => decide (x ≤ y)) (fun a b c => by simp only [decide_eq_true_eq]; omega) (fun a b => by simp only [Bool.or_eq_true, decide_eq_true_eq]; omega) xs
  exact h.imp fun h => of_decide_eq_true h
theorem compact_inc (xs : List Int) (hs : xs.Pairwise fun x y => x ≤ y) : (∀ x, x ∈ Lib.compact xs ↔ x ∈ xs) ∧ (Lib.compact xs).Pairwise fun x y => x < y := by
  have key : ∀ m, m ≤ xs.length → (∀ x, x ∈ Lib.compactUpTo xs.toArray m ↔ x ∈ xs.take m) ∧ (Lib.compactUpTo xs.toArray m).Pairwise fun x y => x < y := by
    intro m
    induction m with
    | zero => intro _; simp [Lib.compactUpTo]
    | succ m ih =>
      intro hm
      obtain ⟨h1, h2⟩ := ih (by omega)
      have hlt : m < xs.length := by omega
      have eg : xs.toArray[m]! = xs[m] := by rw [getElem!_pos xs.toArray m (by simpa using hlt)]; simp
      rw [Lib.compactUpTo_succ, eg, List.take_succ_eq_append_getElem hlt]
      have hle : ∀ y ∈ xs.take m, y ≤ xs[m] := by
        intro y hy
        obtain ⟨j, hj, rfl⟩ := List.mem_iff_getElem.1 hy
        rw [List.length_take] at hj
        rw [List.getElem_take]
        exact List.pairwise_iff_getElem.1 hs j m (by omega) hlt (by omega)
      cases hk : Lib.keeps xs.toArray m with
      | true =>
        rw [if_pos rfl]
        refine ⟨fun x => by simp only [List.mem_append, h1 x], List.pairwise_append.2 ⟨h2, List.pairwise_singleton _ _, fun y hy z hz => ?_⟩⟩
        rw [List.mem_singleton] at hz
        subst hz
        have hy' := (h1 y).1 hy
        have hle' := hle y hy'
        rcases Int.lt_or_le y xs[m] with h | h
        · exact h
        · have e : y = xs[m] := by omega
          subst e
          exfalso
          simp only [Lib.keeps, decide_eq_true_eq] at hk
          rcases hk with h0 | hne
          · subst h0; simp at hy'
          · by_cases hm0 : m = 0
            · subst hm0; simp at hy'
            apply hne
            have e1 : xs.toArray[m - 1]! = xs[m - 1] := by rw [getElem!_pos xs.toArray (m - 1) (by simp; omega)]; simp
            rw [eg, e1]
            have hp : xs[m - 1] ≤ xs[m] := List.pairwise_iff_getElem.1 hs (m - 1) m (by omega) hlt (by omega)
            obtain ⟨j, hj, hj2⟩ := List.mem_iff_getElem.1 hy'
            rw [List.length_take] at hj
            rw [List.getElem_take] at hj2
            by_cases hjm : j = m - 1
            · subst hjm; exact hj2.symm
            · have h4 : xs[j] ≤ xs[m - 1] := List.pairwise_iff_getElem.1 hs j (m - 1) (by omega) (by omega) (by omega)
              omega
      | false =>
        rw [if_neg (by simp)]
        refine ⟨fun x => ?_, by simpa using h2⟩
        simp only [List.append_nil, List.mem_append, List.mem_singleton, h1 x]
        constructor
        · exact .inl
        · rintro (h | rfl)
          · exact h
          · simp only [Lib.keeps, decide_eq_false_iff_not, not_or, Decidable.not_not] at hk
            obtain ⟨hm0, he⟩ := hk
            have e1 : xs.toArray[m - 1]! = xs[m - 1] := by rw [getElem!_pos xs.toArray (m - 1) (by simp; omega)]; simp
            rw [eg, e1] at he
            rw [he]
            exact List.mem_iff_getElem.2 ⟨m - 1, by rw [List.length_take]; omega, by rw [List.getElem_take]⟩
  have := key xs.length (Nat.le_refl _)
  rw [List.take_length] at this
  exact this
theorem setI_mem {xs : List Int} {x : Int} : x ∈ setI xs ↔ x ∈ xs := by unfold setI; rw [(compact_inc _ (sortI_pw xs)).1, sortI_mem]
theorem setI_inc (xs : List Int) : (setI xs).Pairwise fun x y => x < y := (compact_inc _ (sortI_pw xs)).2
theorem setI_len (xs : List Int) : (setI xs).length ≤ xs.length := by unfold setI; exact Nat.le_trans (Lib.compact_length_le _) (by rw [sortI_len]; exact Nat.le_refl _)
theorem inc_ext : ∀ {a b : List Int}, a.Pairwise (fun x y => x < y) → b.Pairwise (fun x y => x < y) → (∀ x, x ∈ a ↔ x ∈ b) → a = b
  | [], [], _, _, _ => rfl
  | [], y :: b, _, _, h => absurd ((h y).2 (by simp)) (by simp)
  | x :: a, [], _, _, h => absurd ((h x).1 (by simp)) (by simp)
  | x :: a, y :: b, ha, hb, h => by
    have ha1 : ∀ {z}, z ∈ a → x < z := fun h => List.rel_of_pairwise_cons ha h
    have hb1 : ∀ {z}, z ∈ b → y < z := fun h => List.rel_of_pairwise_cons hb h
    have e : x = y := by
      have h1 := (h x).1 (by simp)
      have h2 := (h y).2 (by simp)
      rcases List.mem_cons.1 h1 with e | h1
      · exact e
      · rcases List.mem_cons.1 h2 with e | h2
        · exact e.symm
        · have := hb1 h1; have := ha1 h2; omega
    subst e
    rw [inc_ext ha.of_cons hb.of_cons fun z => ?_]
    have hz := h z
    simp only [List.mem_cons] at hz
    constructor
    · intro h1
      rcases hz.1 (.inr h1) with e | h2
      · have := ha1 h1; omega
      · exact h2
    · intro h1
      rcases hz.2 (.inr h1) with e | h2
      · have := hb1 h1; omega
      · exact h2
theorem setI_alike (a b : List Int) : (setI a == setI b) = alikeB a b := by
  rw [Bool.eq_iff_iff, beq_iff_eq, alike_iff]
  refine ⟨fun h x => by rw [← setI_mem, ← setI_mem (xs := b), h], fun h => inc_ext (setI_inc _) (setI_inc _) fun x => by rw [setI_mem, setI_mem]; exact h x⟩
theorem eq_len {a b : List Int} (h : (a.length : Int) ≠ b.length) : (a == b) = false := by
  rw [beq_eq_false_iff_ne]; rintro rfl; exact h rfl
theorem eq_no {a b : List Int} {k : Nat} (hk : k < a.length) (h : a.getD k 0 ≠ b.getD k 0) : (a == b) = false := by
  rw [beq_eq_false_iff_ne]; rintro rfl; exact h rfl
theorem eq_yes {a b : List Int} (hl : (a.length : Int) = b.length) (h : ∀ j, j < a.length → a.getD j 0 = b.getD j 0) : (a == b) = true := by
  rw [beq_iff_eq]
  refine List.ext_getElem (by omega) fun j h1 h2 => ?_
  have := h j h1
  rwa [List.getD_eq_getElem?_getD, List.getD_eq_getElem?_getD, List.getElem?_eq_getElem h1, List.getElem?_eq_getElem h2] at this
theorem any_alike (L : List (List Int)) (l : List Int) : (L.any fun x => setI x == setI l) = L.any fun y => alikeB y l := by simp only [setI_alike]
theorem idx_alike (L : List (List Int)) (l : List Int) : idxF (fun x => setI x == setI l) L = idxF (fun y => alikeB y l) L := by simp only [setI_alike]
def dropC (cs : List (List Int)) (l : List Int) : List (List Int) := if 0 ≤ idxF (fun y => alikeB y l) cs then cs.eraseIdx (idxF (fun y => alikeB y l) cs).toNat else cs
theorem idx_lt {α : Type} {p : α → Bool} {l : List α} (h : idxF p l ≥ 0) : idxF p l < l.length := by
  rcases idxF_bd (p := p) l with h1 | h1
  · exact h1.2
  · omega
theorem drop_yes {cs : List (List Int)} {l : List Int} (h : idxF (fun x => setI x == setI l) cs ≥ 0) : cs.take (idxF (fun x => setI x == setI l) cs).toNat ++ cs.drop (idxF (fun x => setI x == setI l) cs + 1).toNat = dropC cs l := by
  rw [idx_alike] at h ⊢
  unfold dropC
  rw [if_pos (by omega), List.eraseIdx_eq_take_drop_succ, show (idxF (fun y => alikeB y l) cs + 1).toNat = (idxF (fun y => alikeB y l) cs).toNat + 1 by omega]
theorem drop_no {cs : List (List Int)} {l : List Int} (h : ¬ idxF (fun x => setI x == setI l) cs ≥ 0) : cs = dropC cs l := by
  rw [idx_alike] at h
  unfold dropC
  rw [if_neg (by omega)]
def nextC (cs : List (List Int)) (x : Int × List Int) : List (List Int) := if x.1 = 3 then dropC cs x.2 else cs ++ [x.2]
def okC (L cs : List (List Int)) (x : Int × List Int) : Bool := if x.1 = 1 then L.any fun y => alikeB y x.2 else if x.1 = 2 then flwV cs x.2 else decide (0 ≤ idxF (fun y => alikeB y x.2) cs)
theorem run_cons (L cs : List (List Int)) (x : Int × List Int) (p : List (Int × List Int)) (h1 : 1 ≤ x.1) (h3 : x.1 ≤ 3) : runC L cs (x :: p) = if okC L cs x = true then runC L (nextC cs x) p else none := by
  unfold okC nextC
  rw [runC]
  by_cases e1 : x.1 = 1
  · rw [if_pos e1, if_pos e1, if_neg (show ¬ x.1 = 3 by omega)]
  · rw [if_neg e1, if_neg e1]
    by_cases e2 : x.1 = 2
    · rw [if_pos e2, if_pos e2, if_neg (show ¬ x.1 = 3 by omega)]
    · rw [if_neg e2, if_neg e2, if_pos (show x.1 = 3 by omega)]
      by_cases e : 0 ≤ idxF (fun y => alikeB y x.2) cs
      · rw [if_pos e, if_pos (decide_eq_true e)]; unfold dropC; rw [if_pos e]
      · rw [if_neg e, if_neg (by rw [decide_eq_false e]; simp)]
theorem run_next {L cs : List (List Int)} {p : List (Int × List Int)} {i : Nat} (hi : i < p.length) (hr : runC L [] (p.take i) = some cs) (h1 : 1 ≤ (p.getD i (0, [])).1) (h3 : (p.getD i (0, [])).1 ≤ 3) (hq : okC L cs (p.getD i (0, [])) = true) : runC L [] (p.take (i + 1)) = some (nextC cs (p.getD i (0, []))) := by
  rw [take_sD (d := (0, [])) hi, run_app, hr]
  show runC L cs [_] = _
  rw [run_cons _ _ _ _ h1 h3, if_pos hq]; rfl
theorem run_stop {L cs : List (List Int)} {p : List (Int × List Int)} {i : Nat} (hi : i < p.length) (hr : runC L [] (p.take i) = some cs) (h1 : 1 ≤ (p.getD i (0, [])).1) (h3 : (p.getD i (0, [])).1 ≤ 3) (hq : okC L cs (p.getD i (0, [])) = false) : runC L [] p = none := by
  have e : p = p.take i ++ p.getD i (0, []) :: p.drop (i + 1) := by
    rw [List.getD_eq_getElem?_getD, List.getElem?_eq_getElem hi]; simp
  rw [e, run_app, hr]
  show runC L cs (_ :: _) = _
  rw [run_cons _ _ _ _ h1 h3, if_neg (by rw [hq]; simp)]
theorem line_kind {p : List (Int × List Int)} (h : frmV p = 0) {i : Nat} (hi : i < p.length) : 1 ≤ (p.getD i (0, [])).1 ∧ (p.getD i (0, [])).1 ≤ 3 := by
  have h2 := List.all_eq_true.1 (frm_ok.1 h).2 _ (getD_memL (d := (0, [])) hi)
  unfold lineOk at h2
  simp only [Bool.and_eq_true, decide_eq_true_eq] at h2
  exact h2.1
theorem line_three {p : List (Int × List Int)} (h : frmV p = 0) {i : Nat} (hi : i < p.length) : (p.getD i (0, [])).1 = 1 ∨ (p.getD i (0, [])).1 = 2 ∨ (p.getD i (0, [])).1 = 3 := by
  have := line_kind h hi; omega
theorem next_len (cs : List (List Int)) (x : Int × List Int) : (nextC cs x).length ≤ cs.length + 1 := by
  unfold nextC dropC
  split
  · split
    · have := List.length_eraseIdx_le cs (idxF (fun y => alikeB y x.2) cs).toNat; omega
    · omega
  · simp
theorem next_mem {cs : List (List Int)} {x : Int × List Int} {l : List Int} (h : l ∈ nextC cs x) : l ∈ cs ∨ l = x.2 := by
  unfold nextC dropC at h
  split at h
  · split at h
    · exact .inl (List.mem_of_mem_eraseIdx h)
    · exact .inl h
  · rcases List.mem_append.1 h with h | h
    · exact .inl h
    · exact .inr (List.mem_singleton.1 h)
theorem next_1 {cs : List (List Int)} {x : Int × List Int} (h : x.1 ≠ 3) : cs ++ [x.2] = nextC cs x := by unfold nextC; rw [if_neg h]
theorem next_3 {cs : List (List Int)} {x : Int × List Int} (h : x.1 = 3) : dropC cs x.2 = nextC cs x := by unfold nextC; rw [if_pos h]
theorem ok_1 {L cs : List (List Int)} {x : Int × List Int} (h : x.1 = 1) : okC L cs x = L.any fun y => alikeB y x.2 := by unfold okC; rw [if_pos h]
theorem ok_2 {L cs : List (List Int)} {x : Int × List Int} (h : x.1 = 2) : okC L cs x = flwV cs x.2 := by unfold okC; rw [if_neg (by omega), if_pos h]
theorem ok_3 {L cs : List (List Int)} {x : Int × List Int} (h : x.1 = 3) : okC L cs x = decide (0 ≤ idxF (fun y => alikeB y x.2) cs) := by unfold okC; rw [if_neg (by omega), if_neg (by omega)]
def coreAt (N : Int) (core : List Int) (i : Nat) : Bool := mayP (core.getD i 0) N && (!(core.take i).contains (core.getD i 0) && !(core.take i).contains (-(core.getD i 0)))
theorem core_is (N : Int) (core : List Int) : coreOk N core = (List.range core.length).all (coreAt N core) := rfl
theorem core_yes {N : Int} {core : List Int} {n : Nat} (hn : n = core.length) (h : ∀ j, j < n → coreAt N core j = true) : coreOk N core = true := by
  rw [core_is, List.all_eq_true]; intro j hj; exact h j (by rw [List.mem_range] at hj; omega)
theorem core_no {N : Int} {core : List Int} {i : Nat} (hi : i < core.length) (h : coreAt N core i = false) : coreOk N core = false := by
  rw [core_is, List.all_eq_false]; exact ⟨i, List.mem_range.2 hi, by rw [h]; simp⟩
theorem core_at {N : Int} {core : List Int} {i : Nat} : (((((core.getD i 0 == 0) || decide (core.getD i 0 > N)) || decide (core.getD i 0 < -N)) || ((core.take i).drop 0).contains (core.getD i 0)) || ((core.take i).drop 0).contains (-(core.getD i 0))) = !coreAt N core i := by
  unfold coreAt mayP
  rw [List.drop_zero, Bool.eq_iff_iff]
  simp only [Bool.or_eq_true, Bool.not_eq_true', Bool.and_eq_false_iff, decide_eq_true_eq, decide_eq_false_iff_not, beq_iff_eq, bne_eq_false_iff_eq, Bool.not_eq_false']
  constructor
  · rintro ((((h | h) | h) | h) | h)
    · exact .inl (.inl (.inl h))
    · exact .inl (.inr (by omega))
    · exact .inl (.inl (.inr (by omega)))
    · exact .inr (.inl h)
    · exact .inr (.inr h)
  · rintro (((h | h) | h) | (h | h))
    · exact .inl (.inl (.inl (.inl h)))
    · exact .inl (.inl (.inr (by omega)))
    · exact .inl (.inl (.inl (.inr (by omega))))
    · exact .inl (.inr h)
    · exact .inr h
theorem core_fit {x N : Int} (h0 : 0 ≤ N) (hN : N ≤ 65536) {b : Bool} (h : (!((((x == 0) || decide (x > N)) || decide (x < -N)) || b)) = true) : -9223372036854775808 ≤ -x ∧ -x ≤ 9223372036854775807 := by
  simp only [Bool.not_eq_true', Bool.or_eq_false_iff, decide_eq_false_iff_not] at h
  omega
theorem core_bd {N : Int} {core : List Int} {i : Nat} (h0 : 0 ≤ N) (hN : N ≤ 65536) (h : coreAt N core i = true) : -65536 ≤ core.getD i 0 ∧ core.getD i 0 ≤ 65536 := by
  unfold coreAt at h
  simp only [Bool.and_eq_true] at h
  have := mayP_iff.1 h.1
  omega
theorem core_next {core : List Int} {i : Nat} (hi : i < core.length) : (core.take i).map (fun x => -x) ++ [-(core.getD i 0)] = (core.take (i + 1)).map fun x => -x := by
  rw [take_sD (d := 0) hi, List.map_append]; rfl
theorem chk_e1 {N : Int} {L : List (List Int)} {p : List (Int × List Int)} {core : List Int} (h : chkV N L ≠ 0) : chkC N L p core = chkV N L := by unfold chkC; rw [if_pos h]
theorem chk_e2 {N : Int} {L : List (List Int)} {p : List (Int × List Int)} {core : List Int} (h1 : chkV N L = 0) (h : frmV p ≠ 0) : chkC N L p core = frmV p := by unfold chkC; rw [if_neg (by omega), if_pos h]
theorem chk_e3 {N : Int} {L : List (List Int)} {p : List (Int × List Int)} {core : List Int} (h1 : chkV N L = 0) (h2 : frmV p = 0) (h : coreOk N core = false) : chkC N L p core = 1 := by unfold chkC; rw [if_neg (by omega), if_neg (by omega), if_pos h]
theorem chk_e4 {N : Int} {L : List (List Int)} {p : List (Int × List Int)} {core : List Int} (h1 : chkV N L = 0) (h2 : frmV p = 0) (h3 : coreOk N core = true) : chkC N L p core = endC core (runC L [] p) := by unfold chkC; rw [if_neg (by omega), if_neg (by omega), if_neg (by rw [h3]; simp)]
end Go.Proofs.YtbpbndlgfiammaaGreatDoor.Cn
namespace Go.Proofs.YtbpbndlgfiammaaGreatDoor.Cn
open Go
def ahd (x y : Int) : Bool := decide (x.natAbs < y.natAbs ∨ x.natAbs = y.natAbs ∧ y < x)
def sortL (xs : List Int) : List Int := xs.mergeSort fun x y => !ahd y x
def normL (l : List Int) : List Int := Lib.compact (sortL (l.filter fun x => mayP x 65536))
def tautL (l : List Int) : Bool := (normL l).any fun x => (normL l).contains (-x)
theorem ahd_iff {x y : Int} : ahd x y = true ↔ (x.natAbs < y.natAbs ∨ x.natAbs = y.natAbs ∧ y < x) := by simp [ahd]
theorem ahd_no {x y : Int} : (!ahd y x) = true ↔ x = y ∨ ahd x y = true := by
  rw [ahd_iff]; simp [ahd]; omega
theorem ahd_tr {x y z : Int} (h : ahd x y = true) (h' : ahd y z = true) : ahd x z = true := by
  rw [ahd_iff] at *; omega
theorem ahd_tot {x y : Int} : ahd x y = true ∨ x = y ∨ ahd y x = true := by
  rw [ahd_iff, ahd_iff]; omega
abbrev Str (xs : List Int) : Prop := xs.Pairwise fun x y => ahd x y = true
theorem compact_str (xs : List Int) (hs : xs.Pairwise fun x y => (!ahd y x) = true) : (∀ x, x ∈ Lib.compact xs ↔ x ∈ xs) ∧ Str (Lib.compact xs) := by
  have key : ∀ m, m ≤ xs.length → (∀ x, x ∈ Lib.compactUpTo xs.toArray m ↔ x ∈ xs.take m) ∧ Str (Lib.compactUpTo xs.toArray m) := by
    intro m
    induction m with
    | zero => intro _; simp [Lib.compactUpTo]
    | succ m ih =>
      intro hm
      obtain ⟨h1, h2⟩ := ih (by omega)
      have hlt : m < xs.length := by omega
      have eg : xs.toArray[m]! = xs[m] := by rw [getElem!_pos xs.toArray m (by simpa using hlt)]; simp
      rw [Lib.compactUpTo_succ, eg, List.take_succ_eq_append_getElem hlt]
      have hle : ∀ y ∈ xs.take m, (!ahd xs[m] y) = true := by
        intro y hy
        obtain ⟨j, hj, rfl⟩ := List.mem_iff_getElem.1 hy
        rw [List.length_take] at hj
        rw [List.getElem_take]
        exact List.pairwise_iff_getElem.1 hs j m (by omega) hlt (by omega)
      cases hk : Lib.keeps xs.toArray m with
      | true =>
        rw [if_pos rfl]
        refine ⟨fun x => by simp only [List.mem_append, h1 x], List.pairwise_append.2 ⟨h2, List.pairwise_singleton _ _, fun y hy z hz => ?_⟩⟩
        rw [List.mem_singleton] at hz
        subst hz
        have hy' := (h1 y).1 hy
        rcases ahd_no.1 (hle y hy') with e | h
        · subst e
          exfalso
          simp only [Lib.keeps, decide_eq_true_eq] at hk
          rcases hk with h0 | hne
          · subst h0; simp at hy'
          · by_cases hm0 : m = 0
            · subst hm0; simp at hy'
            apply hne
            have e1 : xs.toArray[m - 1]! = xs[m - 1] := by rw [getElem!_pos xs.toArray (m - 1) (by simp; omega)]; simp
            rw [eg, e1]
            have hp : (!ahd xs[m] xs[m - 1]) = true := List.pairwise_iff_getElem.1 hs (m - 1) m (by omega) hlt (by omega)
            obtain ⟨j, hj, hj2⟩ := List.mem_iff_getElem.1 hy'
            rw [List.length_take] at hj
            rw [List.getElem_take] at hj2
            rcases ahd_no.1 hp with e | h3
            · exact e.symm
            · by_cases hjm : j = m - 1
              · subst hjm; exact hj2.symm
              · have h4 : (!ahd xs[m - 1] xs[j]) = true := List.pairwise_iff_getElem.1 hs j (m - 1) (by omega) (by omega) (by omega)
                rw [hj2] at h4
                rw [h3] at h4
                exact absurd h4 (by decide)
        · exact h
      | false =>
        rw [if_neg (by simp)]
        refine ⟨fun x => ?_, by simpa using h2⟩
        simp only [List.append_nil, List.mem_append, List.mem_singleton, h1 x]
        constructor
        · exact .inl
        · rintro (h | rfl)
          · exact h
          · simp only [Lib.keeps, decide_eq_false_iff_not, not_or, Decidable.not_not] at hk
            obtain ⟨hm0, he⟩ := hk
            have e1 : xs.toArray[m - 1]! = xs[m - 1] := by rw [getElem!_pos xs.toArray (m - 1) (by simp; omega)]; simp
            rw [eg, e1] at he
            rw [he]
            exact List.mem_iff_getElem.2 ⟨m - 1, by rw [List.length_take]; omega, by rw [List.getElem_take]⟩
  have := key xs.length (Nat.le_refl _)
  rw [List.take_length] at this
  exact this
theorem sort_str (xs : List Int) : (sortL xs).Pairwise fun x y => (!ahd y x) = true :=
  List.pairwise_mergeSort (fun a b c h1 h2 => by
    rw [ahd_no] at *
    rcases h1 with rfl | h1 <;> rcases h2 with rfl | h2
    · exact .inl rfl
    · exact .inr h2
    · exact .inr h1
    · exact .inr (ahd_tr h1 h2)) (fun a b => by
    rw [Bool.or_eq_true, ahd_no, ahd_no]
    rcases ahd_tot (x := a) (y := b) with h | h | h
    · exact .inl (.inr h)
    · exact .inl (.inl h)
    · exact .inr (.inr h)) xs
theorem norm_mem {l : List Int} {x : Int} : x ∈ normL l ↔ x ∈ l ∧ mayP x 65536 = true := by
  unfold normL
  rw [(compact_str _ (sort_str _)).1 x, sortL, List.mem_mergeSort, List.mem_filter]
theorem norm_str (l : List Int) : Str (normL l) := (compact_str _ (sort_str _)).2
theorem norm_nz {l : List Int} {x : Int} (h : x ∈ normL l) : x ≠ 0 := (mayP_iff.1 (norm_mem.1 h).2).1
theorem norm_bd {l : List Int} {j : Nat} (h : j < (normL l).length) : -65536 ≤ (normL l).getD j 0 ∧ (normL l).getD j 0 ≤ 65536 := (mayP_iff.1 (norm_mem.1 (getD_memL (d := 0) h)).2).2
theorem norm_len (l : List Int) : (normL l).length ≤ l.length := by
  unfold normL
  refine Nat.le_trans (Lib.compact_length_le _) ?_
  rw [sortL, List.length_mergeSort]
  exact List.length_filter_le _ _
theorem str_at {xs : List Int} (h : Str xs) {i j : Nat} (hij : i < j) (hj : j < xs.length) : ahd (xs.getD i 0) (xs.getD j 0) = true := by
  have hi : i < xs.length := by omega
  rw [List.getD_eq_getElem?_getD, List.getD_eq_getElem?_getD, List.getElem?_eq_getElem hj, List.getElem?_eq_getElem hi]
  exact List.pairwise_iff_getElem.1 h i j hi hj hij
theorem taut_adj_yes {xs : List Int} {i : Nat} (h0 : 0 < i) (hi : i < xs.length) (h : xs.getD (i - 1) 0 = -(xs.getD i 0)) : (xs.any fun x => xs.contains (-x)) = true :=
  any_yes (d := 0) hi (by rw [← h]; exact List.contains_iff_mem.2 (getD_memL (by omega)))
theorem taut_adj_no {xs : List Int} (hs : Str xs) (hn : ∀ x ∈ xs, x ≠ 0) (h : ∀ i, 0 < i → i < xs.length → xs.getD (i - 1) 0 ≠ -(xs.getD i 0)) : (xs.any fun x => xs.contains (-x)) = false := by
  rw [List.any_eq_false]
  intro x hx hc
  have hc := List.contains_iff_mem.1 hc
  have key : ∀ z ∈ xs, -z ∈ xs → 0 < z → False := by
    intro z hz hz' hp
    obtain ⟨i, hi, rfl⟩ := List.mem_iff_getElem.1 hz
    obtain ⟨j, hj, hjv⟩ := List.mem_iff_getElem.1 hz'
    have ei : xs.getD i 0 = xs[i] := by rw [List.getD_eq_getElem?_getD, List.getElem?_eq_getElem hi]; rfl
    have ej : xs.getD j 0 = xs[j] := by rw [List.getD_eq_getElem?_getD, List.getElem?_eq_getElem hj]; rfl
    have hlt : i < j := by
      rcases Nat.lt_trichotomy i j with h1 | h1 | h1
      · exact h1
      · subst h1; omega
      · have := str_at hs h1 hi
        rw [ei, ej, ahd_iff] at this
        omega
    by_cases hji : j = i + 1
    · subst hji
      refine h (i + 1) (by omega) hj ?_
      rw [Nat.add_sub_cancel, ei, ej]
      omega
    · have h1 := str_at hs (show i < i + 1 by omega) (by omega)
      have h2 := str_at hs (show i + 1 < j by omega) hj
      rw [ei, ahd_iff] at h1
      rw [ej, ahd_iff] at h2
      omega
  have hx0 := hn x hx
  by_cases hp : 0 < x
  · exact key x hx hc hp
  · exact key (-x) hc (by rwa [Int.neg_neg]) (by omega)
def lensN (xss : List (List Int)) : Nat := (xss.map List.length).sum
theorem lens_flat (xss : List (List Int)) : xss.flatten.length = lensN xss := by simp [lensN, List.length_flatten]
theorem lens_take (xss : List (List Int)) (i : Nat) : lensN (xss.take i) ≤ lensN xss := by
  induction xss generalizing i with
  | nil => simp [lensN]
  | cons x t ih =>
    cases i with
    | zero => simp [lensN]
    | succ i => have := ih i; simp only [lensN, List.take_succ_cons, List.map_cons, List.sum_cons] at this ⊢; omega
theorem lens_step {xss : List (List Int)} {k : Nat} (h : k < xss.length) : lensN (xss.take (k + 1)) = lensN (xss.take k) + (xss.getD k []).length := by
  rw [take_sD (d := []) h]; simp [lensN]
theorem flat_take {xss : List (List Int)} {k : Nat} (h : k < xss.length) : (xss.take k).flatten ++ xss.getD k [] = (xss.take (k + 1)).flatten := by
  rw [take_sD (d := []) h, List.flatten_append]; simp
def resOn (a b : List Int) (x : Int) : List Int := normL ((a.filter fun y => !(y == x)) ++ (b.filter fun y => !(y == -x)))
def onB (a b : List Int) (x : Int) : Bool := a.contains x && b.contains (-x)
def resL (a b : List Int) (v : Int) : List Int := if 1 ≤ v ∧ v ≤ 65536 then if onB a b v then resOn a b v else if onB a b (-v) then resOn a b (-v) else [] else []
def resE (a b : List Int) (v : Int) : Int := if 1 ≤ v ∧ v ≤ 65536 then if onB a b v || onB a b (-v) then 0 else 140 else 140
theorem onB_no {a b : List Int} {x : Int} (h : ((!(a.contains x)) || (!(b.contains (-x)))) = true) : onB a b x = false := by
  unfold onB; cases h1 : a.contains x <;> cases h2 : b.contains (-x) <;> simp_all
theorem onB_yes {a b : List Int} {x : Int} (h : ((!(a.contains x)) || (!(b.contains (-x)))) = false) : onB a b x = true := by
  unfold onB; cases h1 : a.contains x <;> cases h2 : b.contains (-x) <;> simp_all
theorem two_bd {v : Int} {k : Nat} (h : k < 2) (h1 : 1 ≤ v) (h2 : v ≤ 65536) : -65536 ≤ [v, -v].getD k 0 ∧ [v, -v].getD k 0 ≤ 65536 := by
  match k, h with
  | 0, _ => exact ⟨by show -65536 ≤ v; omega, h2⟩
  | 1, _ => exact ⟨by show -65536 ≤ -v; omega, by show -v ≤ 65536; omega⟩
theorem res_yes {a b : List Int} {v : Int} {k : Nat} (hk : k < 2) (h1 : 1 ≤ v) (h2 : v ≤ 65536) (hn : ∀ j, j < k → onB a b ([v, -v].getD j 0) = false) (hy : onB a b ([v, -v].getD k 0) = true) :
    resL a b v = resOn a b ([v, -v].getD k 0) ∧ resE a b v = 0 := by
  have hv : 1 ≤ v ∧ v ≤ 65536 := ⟨h1, h2⟩
  match k, hk with
  | 0, _ =>
    have hy : onB a b v = true := hy
    exact ⟨by unfold resL; rw [if_pos hv, if_pos hy]; rfl, by unfold resE; rw [if_pos hv, hy]; rfl⟩
  | 1, _ =>
    have hy : onB a b (-v) = true := hy
    have hn : onB a b v = false := hn 0 (by omega)
    exact ⟨by unfold resL; rw [if_pos hv, hn, if_neg (by simp), if_pos hy]; rfl, by unfold resE; rw [if_pos hv, hn, hy]; rfl⟩
theorem res_no {a b : List Int} {v : Int} (hn : ∀ j, j < 2 → onB a b ([v, -v].getD j 0) = false) : resL a b v = [] ∧ resE a b v = 140 := by
  have h0 : onB a b v = false := hn 0 (by omega)
  have h1 : onB a b (-v) = false := hn 1 (by omega)
  unfold resL resE
  rw [h0, h1]
  constructor <;> split <;> rfl
theorem res_out {a b : List Int} {v : Int} (h : v < 1 ∨ 65536 < v) : resL a b v = [] ∧ resE a b v = 140 := by
  exact ⟨by unfold resL; rw [if_neg (by omega)], by unfold resE; rw [if_neg (by omega)]⟩
theorem flat2 (a b : List Int) : [a, b].flatten = a ++ b := by simp
end Go.Proofs.YtbpbndlgfiammaaGreatDoor.Cn
namespace Go.Proofs.YtbpbndlgfiammaaGreatDoor.Cn
open Go
end Go.Proofs.YtbpbndlgfiammaaGreatDoor.Cn
namespace Go.Proofs.YtbpbndlgfiammaaGreatDoor.Cn
open Go
def wP (x : Int) (l : List Int) : Bool := l.contains x && !(l.contains (-x))
def withL (c : List (List Int)) (x : Int) : List (List Int) := c.filter (wP x)
def wIdx (c : List (List Int)) (x : Int) (k : Nat) : List Nat := (List.range k).filter fun i => wP x (c.getD i [])
theorem wIdx_succ {c : List (List Int)} {x : Int} {k : Nat} : wIdx c x (k + 1) = if wP x (c.getD k []) then wIdx c x k ++ [k] else wIdx c x k := by
  unfold wIdx
  rw [List.range_succ, List.filter_append]
  by_cases h : wP x (c.getD k []) = true
  · rw [if_pos h, List.filter_cons_of_pos (p := fun i => wP x (c.getD i [])) h, List.filter_nil]
  · rw [if_neg h, List.filter_cons_of_neg (p := fun i => wP x (c.getD i [])) h, List.filter_nil, List.append_nil]
theorem wIdx_mono {c : List (List Int)} {x : Int} {k n : Nat} (h : k ≤ n) : ∃ t, wIdx c x n = wIdx c x k ++ t := by
  induction n with
  | zero => obtain rfl : k = 0 := (by omega); exact ⟨[], by simp⟩
  | succ n ih =>
    by_cases hk : k = n + 1
    · subst hk; exact ⟨[], by simp⟩
    · obtain ⟨t, ht⟩ := ih (by omega)
      rw [wIdx_succ, ht]
      split
      · exact ⟨t ++ [n], by simp⟩
      · exact ⟨t, rfl⟩
theorem wIdx_at {c : List (List Int)} {x : Int} {k n : Nat} (h : k < n) (hp : wP x (c.getD k []) = true) : (wIdx c x k).length < (wIdx c x n).length ∧ (wIdx c x n).getD (wIdx c x k).length 0 = k := by
  obtain ⟨t, ht⟩ := wIdx_mono (c := c) (x := x) (show k + 1 ≤ n from h)
  rw [wIdx_succ, if_pos hp] at ht
  rw [ht]
  constructor
  · simp
  · rw [List.append_assoc, List.getD_eq_getElem?_getD, List.getElem?_append_right (Nat.le_refl _), Nat.sub_self]; rfl
theorem range_get (c : List (List Int)) : (List.range c.length).map (fun i => c.getD i []) = c := by
  refine List.ext_getElem (by simp) fun i h1 h2 => ?_
  simp [List.getD, h2]
theorem withL_idx (c : List (List Int)) (x : Int) : withL c x = (wIdx c x c.length).map fun i => c.getD i [] := by
  have e : c.filter (wP x) = ((List.range c.length).map fun i => c.getD i []).filter (wP x) := by rw [range_get]
  unfold withL wIdx
  rw [e, List.filter_map]
  rfl
theorem wIdx_lt {c : List (List Int)} {x : Int} {n j : Nat} (h : j < (wIdx c x n).length) : (wIdx c x n).getD j 0 < n := by
  rw [List.getD_eq_getElem?_getD, List.getElem?_eq_getElem h]
  have := (List.mem_filter.1 (List.getElem_mem h)).1
  exact List.mem_range.1 this
theorem withL_get {c : List (List Int)} {x : Int} {j : Nat} (h : j < (withL c x).length) : (withL c x).getD j [] = c.getD ((wIdx c x c.length).getD j 0) [] := by
  have hl : j < (wIdx c x c.length).length := by rw [withL_idx] at h; simpa using h
  have e : (wIdx c x c.length).getD j 0 = (wIdx c x c.length)[j] := by rw [List.getD_eq_getElem?_getD, List.getElem?_eq_getElem hl]; rfl
  rw [withL_idx, e, List.getD_eq_getElem?_getD, List.getElem?_map, List.getElem?_eq_getElem hl]
  rfl
theorem withL_len (c : List (List Int)) (x : Int) : (withL c x).length = (wIdx c x c.length).length := by rw [withL_idx]; simp
def hasV (v : Int) (l : List Int) : Bool := l.contains v || l.contains (-v)
def uOf (c : List (List Int)) (v : Int) : List (List Int) := c.filter (hasV v)
def xOf (c : List (List Int)) (v : Int) : List (List Int) := c.filter fun l => !(hasV v l)
def resT (a : List Int) (v : Int) (b : List Int) : List (List Int) := if tautL (resL a b v) then [] else [resL a b v]
def resB (a : List Int) (bs : List (List Int)) (v : Int) (j : Nat) : List (List Int) := (bs.take j).flatMap (resT a v)
def resA (as_ bs : List (List Int)) (v : Int) (i : Nat) : List (List Int) := (as_.take i).flatMap fun a => bs.flatMap (resT a v)
def cutX (many : Int) : List (List Int) → List (List Int) → List (List Int)
  | acc, [] => acc
  | acc, l :: ls => if many < ((acc ++ [l]).length : Int) then acc ++ [l] else cutX many (acc ++ [l]) ls
def outX (c : List (List Int)) (v many : Int) : List (List Int) := cutX many (xOf c v) (resA (withL (uOf c v) v) (withL (uOf c v) (-v)) v (withL (uOf c v) v).length)
end Go.Proofs.YtbpbndlgfiammaaGreatDoor.Cn
namespace Go.Proofs.YtbpbndlgfiammaaGreatDoor.Cn
open Go
theorem uOf_next_y {c : List (List Int)} {v : Int} {k : Nat} (hk : k < c.length) (h : hasV v (c.getD k []) = true) : uOf (c.take k) v ++ [c.getD k []] = uOf (c.take (k + 1)) v ∧ xOf (c.take k) v = xOf (c.take (k + 1)) v := by
  unfold uOf xOf
  rw [take_sD (d := []) hk, List.filter_append, List.filter_append, List.filter_cons_of_pos h, List.filter_cons_of_neg (by rw [h]; simp)]
  simp
theorem uOf_next_n {c : List (List Int)} {v : Int} {k : Nat} (hk : k < c.length) (h : hasV v (c.getD k []) = false) : xOf (c.take k) v ++ [c.getD k []] = xOf (c.take (k + 1)) v ∧ uOf (c.take k) v = uOf (c.take (k + 1)) v := by
  unfold uOf xOf
  rw [take_sD (d := []) hk, List.filter_append, List.filter_append, List.filter_cons_of_pos (by rw [h]; rfl), List.filter_cons_of_neg (by rw [h]; simp)]
  simp
abbrev posL (c : List (List Int)) (v : Int) : List (List Int) := withL (uOf c v) v
abbrev negL (c : List (List Int)) (v : Int) : List (List Int) := withL (uOf c v) (-v)
def stX (c : List (List Int)) (v : Int) (p q : Nat) : List (List Int) := xOf c v ++ resA (posL c v) (negL c v) v p ++ resB ((posL c v).getD p []) (negL c v) v q
def okX (c : List (List Int)) (v many : Int) (p q : Nat) : Prop := stX c v p q = xOf c v ∨ ((stX c v p q).length : Int) ≤ many
section
variable {c : List (List Int)} {v many : Int} {p q : Nat}
theorem st_zero : xOf c v = stX c v 0 0 := by simp [stX, resA, resB]
theorem ok_zero : okX c v many 0 0 := .inl st_zero.symm
theorem resB_all (a : List Int) (bs : List (List Int)) : resB a bs v bs.length = bs.flatMap (resT a v) := by simp [resB]
theorem st_next (hp : p < (posL c v).length) : stX c v p (negL c v).length = stX c v (p + 1) 0 := by
  unfold stX
  rw [resB_all]
  have h1 : resA (posL c v) (negL c v) v (p + 1) = resA (posL c v) (negL c v) v p ++ (negL c v).flatMap (resT ((posL c v).getD p []) v) := by
    unfold resA; rw [take_sD (d := []) hp, List.flatMap_append]; simp
  rw [h1]
  simp [resB]
theorem ok_next (hp : p < (posL c v).length) (h : okX c v many p (negL c v).length) : okX c v many (p + 1) 0 := by
  unfold okX at h ⊢; rw [← st_next hp]; exact h
theorem resB_succ {a : List Int} {bs : List (List Int)} (hq : q < bs.length) : resB a bs v (q + 1) = resB a bs v q ++ resT a v (bs.getD q []) := by
  unfold resB; rw [take_sD (d := []) hq, List.flatMap_append]; simp
theorem st_skip (hq : q < (negL c v).length) (h : tautL (resL ((posL c v).getD p []) ((negL c v).getD q []) v) = true) : stX c v p q = stX c v p (q + 1) := by
  unfold stX; rw [resB_succ hq]; unfold resT; rw [if_pos h, List.append_nil]
theorem ok_skip (hq : q < (negL c v).length) (h : tautL (resL ((posL c v).getD p []) ((negL c v).getD q []) v) = true) (ho : okX c v many p q) : okX c v many p (q + 1) := by
  unfold okX at ho ⊢; rw [← st_skip hq h]; exact ho
theorem st_add (hq : q < (negL c v).length) (h : tautL (resL ((posL c v).getD p []) ((negL c v).getD q []) v) = false) : stX c v p q ++ [resL ((posL c v).getD p []) ((negL c v).getD q []) v] = stX c v p (q + 1) := by
  unfold stX; rw [resB_succ hq]; unfold resT; rw [if_neg (by rw [h]; simp), ← List.append_assoc]
theorem ok_add (hq : q < (negL c v).length) (h : tautL (resL ((posL c v).getD p []) ((negL c v).getD q []) v) = false) (ho : ((stX c v p q ++ [resL ((posL c v).getD p []) ((negL c v).getD q []) v]).length : Int) ≤ many) : okX c v many p (q + 1) := by
  rw [st_add hq h] at ho; exact .inr ho
theorem cut_pre : ∀ {acc r1 r2 : List (List Int)}, (r1 = [] ∨ ((acc ++ r1).length : Int) ≤ many) → cutX many acc (r1 ++ r2) = cutX many (acc ++ r1) r2
  | acc, [], r2, _ => by simp
  | acc, l :: r1, r2, h => by
    have h' : ((acc ++ l :: r1).length : Int) ≤ many := by rcases h with h | h
                                                           · cases h
                                                           · exact h
    have h1 : ((acc ++ [l]).length : Int) ≤ many := by simp only [List.length_append, List.length_cons, List.length_nil] at h' ⊢; omega
    show (if many < ((acc ++ [l]).length : Int) then acc ++ [l] else cutX many (acc ++ [l]) (r1 ++ r2)) = _
    rw [if_neg (by omega), cut_pre (acc := acc ++ [l]) (r1 := r1) (.inr (by simpa [List.append_assoc] using h')), List.append_assoc]
    rfl
theorem cut_brk {acc ls : List (List Int)} {l : List Int} (h : many < ((acc ++ [l]).length : Int)) : cutX many acc (l :: ls) = acc ++ [l] := by
  show (if many < ((acc ++ [l]).length : Int) then acc ++ [l] else _) = _
  rw [if_pos h]
theorem cut_nil {acc : List (List Int)} : cutX many acc [] = acc := rfl
theorem ok_cut {acc r1 r2 : List (List Int)} (h : acc ++ r1 = acc ∨ ((acc ++ r1).length : Int) ≤ many) : cutX many acc (r1 ++ r2) = cutX many (acc ++ r1) r2 :=
  cut_pre (h.imp (fun h => by simpa using h) id)
theorem st_end (h : okX c v many (posL c v).length 0) : outX c v many = stX c v (posL c v).length 0 := by
  have e : stX c v (posL c v).length 0 = xOf c v ++ resA (posL c v) (negL c v) v (posL c v).length := by simp [stX, resB]
  unfold okX at h
  rw [e] at h ⊢
  have := ok_cut (r2 := []) h
  rw [List.append_nil, cut_nil] at this
  exact this
theorem resA_split (hp : p < (posL c v).length) (hq : q < (negL c v).length) (h : tautL (resL ((posL c v).getD p []) ((negL c v).getD q []) v) = false) :
    ∃ t, resA (posL c v) (negL c v) v (posL c v).length = (resA (posL c v) (negL c v) v p ++ resB ((posL c v).getD p []) (negL c v) v q) ++ (resL ((posL c v).getD p []) ((negL c v).getD q []) v :: t) := by
  have e1 : posL c v = (posL c v).take p ++ ((posL c v).getD p [] :: (posL c v).drop (p + 1)) := by
    rw [List.getD_eq_getElem?_getD, List.getElem?_eq_getElem hp]
    simp
  have e2 : negL c v = (negL c v).take q ++ ((negL c v).getD q [] :: (negL c v).drop (q + 1)) := by
    rw [List.getD_eq_getElem?_getD, List.getElem?_eq_getElem hq]
    simp
  generalize hA : (posL c v).getD p [] = a at *
  generalize hB : (negL c v).getD q [] = b at *
  have e3 : (negL c v).flatMap (resT a v) = resB a (negL c v) v q ++ (resL a b v :: ((negL c v).drop (q + 1)).flatMap (resT a v)) := by
    conv => lhs; rw [e2]
    rw [List.flatMap_append, List.flatMap_cons]
    unfold resB
    have : resT a v b = [resL a b v] := by unfold resT; rw [if_neg (by rw [h]; simp)]
    rw [this]; rfl
  refine ⟨((negL c v).drop (q + 1)).flatMap (resT a v) ++ ((posL c v).drop (p + 1)).flatMap (fun a => (negL c v).flatMap (resT a v)), ?_⟩
  have e4 : resA (posL c v) (negL c v) v (posL c v).length = (posL c v).flatMap fun a => (negL c v).flatMap (resT a v) := by unfold resA; rw [List.take_length]
  have e5 : ((posL c v).flatMap fun a => (negL c v).flatMap (resT a v)) = ((posL c v).take p).flatMap (fun a => (negL c v).flatMap (resT a v)) ++ ((negL c v).flatMap (resT a v) ++ ((posL c v).drop (p + 1)).flatMap (fun a => (negL c v).flatMap (resT a v))) := by
    conv => lhs; arg 2; rw [e1]
    rw [List.flatMap_append, List.flatMap_cons]
  rw [e4, e5, e3]
  unfold resA
  simp [List.append_assoc]
theorem st_brk (hp : p < (posL c v).length) (hq : q < (negL c v).length) (h : tautL (resL ((posL c v).getD p []) ((negL c v).getD q []) v) = false) (ho : okX c v many p q)
    (hb : ((stX c v p q ++ [resL ((posL c v).getD p []) ((negL c v).getD q []) v]).length : Int) > many) : outX c v many = stX c v p q ++ [resL ((posL c v).getD p []) ((negL c v).getD q []) v] := by
  obtain ⟨t, ht⟩ := resA_split hp hq h
  unfold outX
  rw [show resA (withL (uOf c v) v) (withL (uOf c v) (-v)) v (withL (uOf c v) v).length = _ from ht]
  have e : stX c v p q = xOf c v ++ (resA (posL c v) (negL c v) v p ++ resB ((posL c v).getD p []) (negL c v) v q) := by unfold stX; rw [List.append_assoc]
  unfold okX at ho
  rw [e] at ho hb ⊢
  rw [ok_cut ho, cut_brk hb]
theorem resQ_len (a b : List Int) (v : Int) : (resL a b v).length ≤ a.length + b.length := by
  have hn : ∀ x, (resOn a b x).length ≤ a.length + b.length := fun x => by
    unfold resOn
    refine Nat.le_trans (norm_len _) ?_
    rw [List.length_append]
    exact Nat.add_le_add (List.length_filter_le _ _) (List.length_filter_le _ _)
  unfold resL
  split
  · split
    · exact hn _
    · split
      · exact hn _
      · simp
  · simp
theorem uOf_len : (uOf c v).length ≤ c.length := List.length_filter_le _ _
theorem xOf_len : (xOf c v).length ≤ c.length := List.length_filter_le _ _
theorem pos_mem {l : List Int} (h : l ∈ posL c v) : l ∈ c := (List.mem_filter.1 (List.mem_filter.1 h).1).1
theorem neg_mem {l : List Int} (h : l ∈ negL c v) : l ∈ c := (List.mem_filter.1 (List.mem_filter.1 h).1).1
theorem ok_len (hc : c.length ≤ 10000) (hm : many ≤ 65536) (h : okX c v many p q) : (stX c v p q).length ≤ 75536 := by
  rcases h with h | h
  · rw [h]; have := xOf_len (c := c) (v := v); omega
  · omega
theorem cutX_len : ∀ {acc ls : List (List Int)}, (cutX many acc ls).length ≤ acc.length + 1 ∨ ((cutX many acc ls).length : Int) ≤ many + 1
  | acc, [] => .inl (by rw [cut_nil]; omega)
  | acc, l :: ls => by
    show (if many < ((acc ++ [l]).length : Int) then acc ++ [l] else cutX many (acc ++ [l]) ls).length ≤ _ ∨ ((if many < ((acc ++ [l]).length : Int) then acc ++ [l] else cutX many (acc ++ [l]) ls).length : Int) ≤ _
    split
    · left; simp
    · rename_i hn
      rcases cutX_len (acc := acc ++ [l]) (ls := ls) with h | h
      · right; omega
      · right; exact h
theorem cut_mem : ∀ {acc ls : List (List Int)} {l : List Int}, l ∈ cutX many acc ls → l ∈ acc ∨ l ∈ ls
  | acc, [], l, h => .inl h
  | acc, m :: ls, l, h => by
    have h : l ∈ (if many < ((acc ++ [m]).length : Int) then acc ++ [m] else cutX many (acc ++ [m]) ls) := h
    split at h
    · rcases List.mem_append.1 h with h | h
      · exact .inl h
      · rw [List.mem_singleton] at h; subst h; exact .inr List.mem_cons_self
    · rcases cut_mem h with h | h
      · rcases List.mem_append.1 h with h | h
        · exact .inl h
        · rw [List.mem_singleton] at h; subst h; exact .inr List.mem_cons_self
      · exact .inr (List.mem_cons_of_mem _ h)
theorem out_mem {l : List Int} (h : l ∈ outX c v many) : l ∈ c ∨ ∃ a b, a ∈ posL c v ∧ b ∈ negL c v ∧ tautL (resL a b v) = false ∧ l = resL a b v := by
  rcases cut_mem h with h | h
  · exact .inl (List.mem_filter.1 h).1
  · right
    unfold resA at h
    rw [List.take_length] at h
    obtain ⟨a, ha, h⟩ := List.mem_flatMap.1 h
    obtain ⟨b, hb, h⟩ := List.mem_flatMap.1 h
    unfold resT at h
    split at h
    · cases h
    · rename_i ht
      rw [List.mem_singleton] at h
      exact ⟨a, b, ha, hb, by simpa using ht, h⟩
theorem out_len (hc : c.length ≤ 10000) (hm : many ≤ 65536) : (outX c v many).length ≤ 75537 := by
  have := xOf_len (c := c) (v := v)
  rcases cutX_len (many := many) (acc := xOf c v) (ls := resA (withL (uOf c v) v) (withL (uOf c v) (-v)) v (withL (uOf c v) v).length) with h | h
  · unfold outX; omega
  · unfold outX; omega
theorem out_lens (hl : ∀ m ∈ c, m.length ≤ 1000) : ∀ l ∈ outX c v many, l.length ≤ 2000 := fun l h => by
  rcases out_mem h with h | ⟨a, b, ha, hb, _, rfl⟩
  · have := hl l h; omega
  · have h1 := hl a (pos_mem ha)
    have h2 := hl b (neg_mem hb)
    have := resQ_len a b v
    omega
end
def ouE (N : Int) (L : List (List Int)) (v : Int) : Int := if chkV N L ≠ 0 then chkV N L else if v < 1 ∨ N < v then 140 else if 65536 < ((outX L v 65536).length : Int) then 2 else 0
def ouN (N : Int) (L : List (List Int)) (v : Int) : Int := if ouE N L v = 0 then N else 0
def ouX (N : Int) (L : List (List Int)) (v : Int) : List (List Int) := if ouE N L v = 0 then outX L v 65536 else []
def ouV (N : Int) (L : List (List Int)) (v : Int) : Int := if ouE N L v = 0 then v else 0
def ouU (N : Int) (L : List (List Int)) (v : Int) : List (List Int) := if ouE N L v = 0 then uOf L v else []
theorem ou_no {N : Int} {L : List (List Int)} {v e : Int} (h : ouE N L v = e) (h0 : e ≠ 0) : ouN N L v = 0 ∧ ouX N L v = [] ∧ ouV N L v = 0 ∧ ouU N L v = [] ∧ ouE N L v = e := by
  unfold ouN ouX ouV ouU
  rw [h, if_neg h0, if_neg h0, if_neg h0, if_neg h0]
  exact ⟨rfl, rfl, rfl, rfl, rfl⟩
theorem ou_chk {N : Int} {L : List (List Int)} {v : Int} (h : chkV N L ≠ 0) : ouE N L v = chkV N L := if_pos h
theorem ou_lit {N : Int} {L : List (List Int)} {v : Int} (h : chkV N L = 0) (hv : v < 1 ∨ N < v) : ouE N L v = 140 := by
  unfold ouE; rw [if_neg (fun e => e h), if_pos hv]
theorem ou_big {N : Int} {L : List (List Int)} {v : Int} (h : chkV N L = 0) (hv : ¬ (v < 1 ∨ N < v)) (hb : ¬ (((outX L v 65536).length : Int) ≤ 65536)) : ouE N L v = 2 := by
  unfold ouE; rw [if_neg (fun e => e h), if_neg hv, if_pos (Int.not_le.1 hb)]
theorem ou_ok {N : Int} {L : List (List Int)} {v : Int} (h : chkV N L = 0) (hv : ¬ (v < 1 ∨ N < v)) (hb : ((outX L v 65536).length : Int) ≤ 65536) : ouE N L v = 0 ∧ ouN N L v = N ∧ ouX N L v = outX L v 65536 ∧ ouV N L v = v ∧ ouU N L v = uOf L v := by
  have e : ouE N L v = 0 := by unfold ouE; rw [if_neg (fun e => e h), if_neg hv, if_neg (Int.not_lt.2 hb)]
  unfold ouN ouX ouV ouU
  rw [e]
  exact ⟨rfl, rfl, rfl, rfl, rfl⟩
end Go.Proofs.YtbpbndlgfiammaaGreatDoor.Cn
namespace Go.Proofs.YtbpbndlgfiammaaGreatDoor.Cn
open Go
theorem flw_in {c : List (List Int)} {l : List Int} (h : l ∈ c) : flwV c l = true := flw_t (Rup.conf _ l h (look_conf.2 fun x hx hm => negT_iff.2 ⟨by rw [may_neg]; exact hm, by rw [Int.neg_neg]; exact hx⟩))
theorem flw_res {c : List (List Int)} {a b r : List Int} {x : Int} (ha : a ∈ c) (hb : b ∈ c) (hx : mayP x 65536 = true) (hxa : x ∈ a) (hr : ∀ y, y ∈ r ↔ ((y ∈ a ∧ y ≠ x) ∨ (y ∈ b ∧ y ≠ -x)) ∧ mayP y 65536 = true) : flwV c r = true := by
  refine flw_t ?_
  have hA : ∀ y ∈ a, mayP y 65536 = true → negT r (-y) = true ∨ y = x := fun y hy hm => by
    by_cases e : y = x
    · exact .inr e
    · exact .inl (negT_iff.2 ⟨by rw [may_neg]; exact hm, by rw [Int.neg_neg]; exact (hr y).2 ⟨.inl ⟨hy, e⟩, hm⟩⟩)
  have hB : ∀ y ∈ b, mayP y 65536 = true → negT r (-y) = true ∨ y = -x := fun y hy hm => by
    by_cases e : y = -x
    · exact .inr e
    · exact .inl (negT_iff.2 ⟨by rw [may_neg]; exact hm, by rw [Int.neg_neg]; exact (hr y).2 ⟨.inr ⟨hy, e⟩, hm⟩⟩)
  cases h1 : negT r (-x) with
  | true => exact Rup.conf _ a ha (look_conf.2 fun y hy hm => (hA y hy hm).elim id fun e => by rw [e]; exact h1)
  | false =>
    cases h2 : negT r x with
    | true => exact Rup.conf _ b hb (look_conf.2 fun y hy hm => (hB y hy hm).elim id fun e => by rw [e, Int.neg_neg]; exact h2)
    | false =>
      have hu : UnitV (negT r) a x := ⟨⟨hxa, hx, h1, h2⟩, hA⟩
      refine .unit _ a ha (by rw [unit_look hu]; exact may_ne hx) ?_
      rw [unit_look hu]
      refine Rup.conf _ b hb (look_conf.2 fun y hy hm => ?_)
      unfold addT
      rcases hB y hy hm with h | h
      · rw [h]; rfl
      · rw [h, Int.neg_neg]; simp
theorem on_mem {a b : List Int} {x y : Int} : y ∈ resOn a b x ↔ ((y ∈ a ∧ y ≠ x) ∨ (y ∈ b ∧ y ≠ -x)) ∧ mayP y 65536 = true := by
  unfold resOn
  rw [norm_mem, List.mem_append, List.mem_filter, List.mem_filter]
  simp
theorem flw_resL {c : List (List Int)} {a b : List Int} {v : Int} (ha : a ∈ c) (hb : b ∈ c) (h : resE a b v = 0) : flwV c (resL a b v) = true := by
  unfold resE at h
  unfold resL
  split at h
  · rename_i hv
    rw [if_pos hv]
    have hm : mayP v 65536 = true := mayP_iff.2 ⟨by omega, by omega, by omega⟩
    split at h
    · rename_i ho
      split
      · rename_i h1
        unfold onB at h1
        simp only [Bool.and_eq_true, List.contains_iff_mem] at h1
        exact flw_res ha hb hm h1.1 fun y => on_mem
      · rename_i h1
        have h2 : onB a b (-v) = true := by
          rw [Bool.or_eq_true] at ho
          exact ho.resolve_left h1
        rw [if_pos h2]
        unfold onB at h2
        simp only [Bool.and_eq_true, List.contains_iff_mem] at h2
        exact flw_res ha hb (by rw [may_neg]; exact hm) h2.1 fun y => on_mem
    · cases h
  · cases h
theorem flw_out {c : List (List Int)} {v : Int} {l : List Int} (hv : 1 ≤ v ∧ v ≤ 65536) {many : Int} (h : l ∈ outX c v many) : flwV c l = true := by
  rcases out_mem h with h | ⟨a, b, ha, hb, _, rfl⟩
  · exact flw_in h
  · refine flw_resL (pos_mem ha) (neg_mem hb) ?_
    have h1 := (List.mem_filter.1 ha).2
    have h2 := (List.mem_filter.1 hb).2
    unfold wP at h1 h2
    simp only [Bool.and_eq_true] at h1 h2
    unfold resE
    rw [if_pos hv, if_pos]
    unfold onB
    rw [h1.1, h2.1]; rfl
theorem flw_ou {N : Int} {c : List (List Int)} {v : Int} {i : Nat} (h : i < (ouX N c v).length) : flwV c ((ouX N c v).getD i []) = true := by
  have hm := getD_memL (d := ([] : List Int)) h
  unfold ouX at hm ⊢
  split at hm
  · rename_i h0
    rw [if_pos h0]
    refine flw_out ?_ hm
    unfold ouE at h0
    split at h0
    · rename_i h1; exact absurd h0 h1
    · split at h0
      · cases h0
      · rename_i h1 h2
        have := (chkV_0.1 (by simpa using h1)).1
        omega
  · cases hm
theorem getD_len {L : List (List Int)} {n : Nat} (h : ∀ l ∈ L, l.length ≤ n) (j : Nat) : (L.getD j []).length ≤ n := by
  by_cases hj : j < L.length
  · exact h _ (getD_memL hj)
  · rw [List.getD_eq_getElem?_getD, List.getElem?_eq_none (by omega)]; exact Nat.zero_le _
theorem c_ik {i k n : Int} (h : (((decide (i ≥ 0) && decide (k ≥ 0)) && decide (i < n)) && decide (k < n)) = true) : 0 ≤ i ∧ 0 ≤ k ∧ i < n ∧ k < n := by
  simp only [Bool.and_eq_true, decide_eq_true_eq] at h
  omega
theorem dead_r1 {a b : List Int} {v : Int} (h : ((resE a b v == 0) && !(flwV [a, b] (resL a b v))) = true) : False := by
  rw [Bool.and_eq_true, beq_iff_eq] at h
  rw [flw_resL (c := [a, b]) List.mem_cons_self (List.mem_cons_of_mem _ List.mem_cons_self) h.1] at h
  simp at h
theorem dead_r2 {N : Int} {c : List (List Int)} {v : Int} {i : Nat} (hi : i < (ouX N c v).length) (h : (!(flwV c ((ouX N c v).getD i []))) = true) : False := by
  rw [flw_ou hi] at h
  cases h
theorem ou_len {N : Int} {c : List (List Int)} {v : Int} (hl : ∀ m ∈ c, m.length ≤ 1000) : ∀ l ∈ ouX N c v, l.length ≤ 2000 := fun l h => by
  unfold ouX at h
  split at h
  · exact out_lens hl l h
  · cases h
theorem ou_num {N : Int} {c : List (List Int)} {v : Int} (hc : c.length ≤ 10000) : (ouX N c v).length ≤ 75537 := by
  unfold ouX
  split
  · exact out_len hc (by decide)
  · exact Nat.zero_le _
theorem c_resd {N : Int} {c : List (List Int)} {b : Bool} (h : ((!b || decide (N > 30)) || (chkV N c != 0)) = false) : b = true ∧ N ≤ 30 ∧ chkV N c = 0 := by
  simp only [Bool.or_eq_false_iff, Bool.not_eq_false', decide_eq_false_iff_not, bne_eq_false_iff_eq] at h
  exact ⟨h.1.1, by omega, h.2⟩
theorem ou_bad {N : Int} {c : List (List Int)} {v : Int} (h : ouE N c v ≠ 0) : ouX N c v = [] := by unfold ouX; rw [if_neg h]
end Go.Proofs.YtbpbndlgfiammaaGreatDoor.Cn
