/- Lemmas and contracts for the row. -/
import Derived.WalkKit
import Derived.WalkSpells
import Derived.ArgAppend
import Derived.Deep.Draws
import Derived.Laws.OwnMore
set_option linter.unusedVariables false
set_option linter.unusedSimpArgs false
set_option linter.unnecessarySimpa false
namespace Go.Proofs.YtbpbndlgfiammaaGreatDoor
open Go.RowKit
abbrev I64 (x : Int) : Value := .int .i64 x
theorem add_mk (b o i : Nat) : (⟨b, o, none⟩ : Addr).add i = ⟨b, o + i, none⟩ := by
  unfold Addr.add; split <;> simp_all
structure Kp (M : Nat → Prop) (w w' : World) : Prop where
  os : w'.os = w.os
  tape : w'.tape = w.tape
  output : w'.output = w.output
  size : w.heap.size ≤ w'.heap.size
  block : ∀ k, k < w.heap.size → ¬ M k → w'.heap[k]? = w.heap[k]?
section
variable {M M' : Nat → Prop} {w w' w'' : World}
theorem Kp.refl (M : Nat → Prop) (w : World) : Kp M w w := ⟨rfl, rfl, rfl, Nat.le_refl _, fun _ _ _ => rfl⟩
theorem Kp.mono (h : Kp M w w') (hm : ∀ k, k < w.heap.size → M k → M' k) : Kp M' w w' :=
  ⟨h.os, h.tape, h.output, h.size, fun k hk hn => h.block k hk (fun hq => hn (hm k hk hq))⟩
theorem Kp.drewN (h : Kp M w w') (n : Nat) : Kp M w (w'.drewN n) := ⟨h.os, h.tape, h.output, h.size, h.block⟩
theorem Kp.alloc (h : Kp M w w') (o : Obj) : Kp M w (w'.alloc o) :=
  ⟨h.os, h.tape, h.output, Nat.le_trans h.size (by simp), fun k hk hn => (Below.heap_alloc w' o k (Nat.lt_of_lt_of_le hk h.size)).trans (h.block k hk hn)⟩
theorem Kp.grown {row : Option Nat} (h : Kp M w w') (hg : w'.grownBy w'' row) (hr : ∀ g, row = some g → g < w.heap.size → M g) : Kp M w w'' :=
  ⟨hg.os.trans h.os, hg.tape.trans h.tape, hg.output.trans h.output, Nat.le_trans h.size hg.size,
    fun k hk hn => (hg.block k (Nat.lt_of_lt_of_le hk h.size) (fun e => hn (hr k e.symm hk))).trans (h.block k hk hn)⟩
theorem Kp.below {B : Nat} (h : Kp M w w') (hm : ∀ k, k < B → k < w.heap.size → ¬ M k) (hB : B ≤ w.heap.size) : Below B w w' :=
  ⟨h.os, h.tape, h.output, h.size, fun k hk => h.block k (Nat.lt_of_lt_of_le hk hB) (hm k hk (Nat.lt_of_lt_of_le hk hB))⟩
theorem Kp.none_below (h : Kp (fun _ => False) w w') : Below w.heap.size w w' := h.below (fun _ _ _ h => h) (Nat.le_refl _)
end
def Rd {α : Type} (enc : α → Value) (D : Nat → Prop) (w : World) (A : Option Addr) (xs : List α) : Prop :=
  0 < xs.length → ∃ b off, A = some ⟨b, off, none⟩ ∧ D b ∧ ∀ j (h : j < xs.length), w.cell? ⟨b, off + j, none⟩ = some (enc xs[j])
section
variable {α : Type} {enc : α → Value} {D D' : Nat → Prop} {w w' : World} {A : Option Addr} {xs : List α}
theorem Rd.at_ (h : Rd enc D w A xs) {k : Nat} (hk : k < xs.length) : ∃ b off, A = some ⟨b, off, none⟩ ∧ D b ∧ w.cell? ⟨b, off + k, none⟩ = some (enc xs[k]) := by
  obtain ⟨b, off, e, hb, hc⟩ := h (by omega)
  exact ⟨b, off, e, hb, hc k hk⟩
end
section
variable {D D' : Nat → Prop} {w w' : World} {A : Option Addr} {xss : List (List Int)}
end
def MkOk (e : TypeId) (n : Nat) (mk : Nat × Nat) : Prop := mk = (0, 0) ∨ (e = 5 ∧ n ≤ mk.1)
def RowAt (w : World) (g : Nat) (e : TypeId) (cur : Array Value) : Prop := ∃ mk, w.heap[g]? = some (.cells cur e mk) ∧ MkOk e cur.size mk
section
variable {w w' : World} {g i o : Nat} {e : TypeId} {cur cs : Array Value}
theorem RowAt.mk0 (h : w.heap[g]? = some (.cells cur e (0, 0))) : RowAt w g e cur := ⟨_, h, .inl rfl⟩
theorem RowAt.cell (h : RowAt w g e cur) (i : Nat) : w.cell? ⟨g, i, none⟩ = cur[i]? := by obtain ⟨mk, h, _⟩ := h; exact cell_of_row w g i cur e mk h
theorem RowAt.frozen (h : RowAt w g e cur) (hi : i < cur.size) : w.frozen? ⟨g, i, none⟩ = false := by
  obtain ⟨mk, h, hk⟩ := h
  unfold World.frozen?
  rw [h]
  rcases hk with rfl | ⟨_, h2⟩
  · simp
  · have : ¬ mk.1 ≤ i := by omega
    simp [this]
theorem RowAt.keep (h : RowAt w g e cur) (hk : w'.heap[g]? = w.heap[g]?) : RowAt w' g e cur := by obtain ⟨mk, h, hm⟩ := h; exact ⟨mk, hk.trans h, hm⟩
theorem RowAt.lt (h : RowAt w g e cur) : g < w.heap.size := by obtain ⟨mk, h, _⟩ := h; exact (Array.getElem?_eq_some_iff.1 h).1
theorem RowAt.plain (h : RowAt w g e cur) (he : e ≠ 5) : w.heap[g]? = some (.cells cur e (0, 0)) := by
  obtain ⟨mk, h, hm⟩ := h
  rcases hm with rfl | ⟨h2, _⟩
  · exact h
  · exact absurd h2 he
theorem RowAt.setRow (h : RowAt w g e cur) (hs : cs.size = cur.size) : RowAt (w.setRow g cs) g e cs := by
  obtain ⟨mk, h, hm⟩ := h
  exact ⟨mk, setRow_heap w g cur cs e mk h, by unfold MkOk at hm ⊢; rw [hs]; exact hm⟩
theorem RowAt.setCell (h : RowAt w g e cur) (i : Nat) (u : Value) : RowAt (w.setCell ⟨g, i, none⟩ u) g e (cur.setIfInBounds i u) := by
  have hr := h.setRow (cs := cur.setIfInBounds i u) (by simp)
  obtain ⟨mk, h, hm⟩ := h
  rwa [setCell_eq_setRow w g i cur e mk u h]
theorem RowAt.store : ∀ (vs : List Value) (o : Nat) (cur : Array Value) (w : World), RowAt w g e cur → o + vs.length ≤ cur.size →
    w.setCells g o vs = w.setRow g (cur.toList.take o ++ vs ++ cur.toList.drop (o + vs.length)).toArray
  | [], o, cur, w, h, _ => by
    obtain ⟨mk, h, _⟩ := h
    simp only [World.setCells, List.append_nil, List.length_nil, Nat.add_zero, List.take_append_drop, Array.toArray_toList]
    rw [setRow_self w g cur e mk h]
  | v :: r, o, cur, w, h, hl => by
    have h2 := h.setRow (cs := cur.setIfInBounds o v) (by simp)
    have ih := RowAt.store r (o + 1) _ _ h2 (by simp at hl ⊢; omega)
    obtain ⟨mk, h, _⟩ := h
    rw [World.setCells, setCell_eq_setRow w g o cur e mk v h, ih, setRow_setRow]
    congr 2
    have e := list_seg_step cur.toList o v r (by simp at hl ⊢; omega)
    simpa [Array.toList_setIfInBounds, Nat.add_assoc] using e
end
def Own (w : World) (e : TypeId) (v : Value) (xs : List Value) : Prop :=
  (v = .slice none 0 0 ∧ xs = []) ∨ ∃ g off cap cur, v = .slice (some ⟨g, off, none⟩) xs.length cap ∧ RowAt w g e cur ∧ xs.length ≤ cap ∧ cap ≤ maxLen ∧
    off + cap ≤ cur.size ∧ ∀ j (h : j < xs.length), cur[off + j]? = some xs[j]
section
variable {w w' : World} {e : TypeId} {v : Value} {xs : List Value}
theorem Own.nil (w : World) (e : TypeId) : Own w e (.slice none 0 0) [] := .inl ⟨rfl, rfl⟩
theorem Own.keep (h : Own w e v xs) (hk : ∀ g, v.ownBlock = some g → w'.heap[g]? = w.heap[g]?) : Own w' e v xs := by
  rcases h with h | ⟨g, off, cap, cur, rfl, hg, h1, h2, h3, h4⟩
  · exact .inl h
  · exact .inr ⟨g, off, cap, cur, rfl, hg.keep (hk g (by simp [Value.ownBlock])), h1, h2, h3, h4⟩
theorem Own.lt (h : Own w e v xs) {g : Nat} (hg : v.ownBlock = some g) : g < w.heap.size := by
  rcases h with ⟨rfl, _⟩ | ⟨g', off, cap, cur, rfl, hh, _⟩
  · simp [Value.ownBlock] at hg
  · have : g' = g := by simpa [Value.ownBlock] using hg
    subst this
    exact hh.lt
theorem Own.form (h : Own w e v xs) : ∃ A cap, v = .slice A xs.length cap ∧ xs.length ≤ cap := by
  rcases h with ⟨rfl, rfl⟩ | ⟨g, off, cap, cur, rfl, _, h1, _⟩
  · exact ⟨none, 0, rfl, Nat.le_refl _⟩
  · exact ⟨_, cap, rfl, h1⟩
theorem Own.of_row {base n : Nat} (h : w.ownsRow base e 1 v n xs) : Own w e v xs := by
  obtain ⟨hl, h⟩ := h
  simp only [Nat.mul_one] at hl h
  subst hl
  rcases h with ⟨rfl, h0⟩ | ⟨g, cap, cur, rfl, _, hg, h1, h2, h3, h4⟩
  · exact .inl ⟨rfl, List.eq_nil_of_length_eq_zero h0⟩
  · refine .inr ⟨g, 0, cap, cur, rfl, .mk0 hg, h1, h2, by omega, fun j hj => ?_⟩
    have : xs[j] = (cur.toList.take xs.length)[j]'(by rw [h4]; exact hj) := by simp only [h4]
    rw [this, List.getElem_take, Nat.zero_add]
    simp
end
section
variable {P : Program} (w : World)
theorem run_append_Own (t ty e : TypeId) (i : TypeInfo) (z : Value) (bytes : Nat) (ht : P.underlying t = some (.slice e)) (hi : P.info? e = some i) (hz : i.zero = some z)
    (hsize : i.size = 1) (hby : i.bytes = bytes) (hzs : z.cells.size = 1)
    (v : Value) (xs : List Value) (hown : Own w e v xs)
    (a : Addr) (m c : Nat) (news : List Value) (hl : news.length = m) (hnews : ∀ j u, news[j]? = some u → w.cell? (a.add j) = some u) (h1 : ∀ u ∈ news, u.oneCell' = true)
    (h63 : xs.length + m ≤ maxLen) (hbytes : (xs.length + m) * bytes ≤ 140737488355328) :
    ∃ v' w', (Builtin.append_ #[t, t] ty #[v, .slice (some a) m c]).run P w = .ok v' w' ∧ Own w' e v' (xs ++ news) ∧ w.grownBy w' v.ownBlock ∧
      (v'.ownBlock = v.ownBlock ∨ v'.ownBlock = some w.heap.size) ∧ (v' = .slice none 0 0 ↔ v = .slice none 0 0 ∧ m = 0) := by
  rcases hown with ⟨rfl, rfl⟩ | ⟨g, off, cap, cur, rfl, hg, hnc, hcm, hfit, hcs⟩
  · obtain ⟨v', w', hr, h2, h3, h4⟩ := run_append_own (P := P) w w.heap.size t ty e i z 1 bytes ht hi hz hsize hby hzs (by omega) (.slice none 0 0) 0 [] (World.ownsRow_nil w _ e 1) a m c news (by omega) hnews h1
      (by simpa using h63) (by simpa using hbytes) (Nat.le_refl _)
    refine ⟨v', w', hr, Own.of_row h2, h3, ?_, h4⟩
    rcases h2.2 with ⟨rfl, _⟩ | ⟨g', cap', cur', rfl, hb, hg', _⟩
    · exact .inl rfl
    · by_cases hm : m = 0
      · have := h4.2 ⟨rfl, hm⟩
        simp at this
      · right
        have hsz : ∀ k, w.heap.size + 1 ≤ k → w'.heap[k]? = none := by
          intro k hk
          have hr2 := hr
          have hru := run_append_nil (P := P) w t ty e i z ht hi hz a m c news (by rw [hl, hsize]; omega) hnews (by omega) (by simp only [maxLen] at h63; omega) (by rw [hby]; simp at hbytes; omega)
          rw [hru] at hr2
          injection hr2 with _ hw
          rw [← hw]
          simp
          omega
        have : g' < w.heap.size + 1 := by
          rcases Nat.lt_or_ge g' (w.heap.size + 1) with h | h
          · exact h
          · rw [hsz g' h] at hg'; cases hg'
        simp [Value.ownBlock]
        omega
  · have holds : ∀ j u, xs[j]? = some u → w.cell? ⟨g, off + j, none⟩ = some u := by
      intro j u hu
      obtain ⟨hj, rfl⟩ := List.getElem?_eq_some_iff.1 hu
      rw [hg.cell (off + j)]
      exact hcs j hj
    by_cases hroom : xs.length + m ≤ cap
    · have hcell : ∀ j, j < news.length → (w.cell? ⟨g, off + xs.length * i.size + j, none⟩).isSome = true := fun j hj => by
        rw [hg.cell, hsize, Array.getElem?_eq_getElem (by omega)]; rfl
      have hfz : ∀ j, j < news.length → w.frozen? ⟨g, off + xs.length * i.size + j, none⟩ = false := fun j hj => hg.frozen (by rw [hsize]; omega)
      have hr := run_append_room_cells (P := P) w t ty e i ht hi g off xs.length cap a m c news (by rw [hl, hsize]; omega) hnews h1 hroom hcell hfz
      refine ⟨_, _, hr, ?_, ?_, .inl rfl, by simp⟩
      · refine .inr ⟨g, off, cap, (cur.toList.take (off + xs.length) ++ news ++ cur.toList.drop (off + xs.length + news.length)).toArray, by simp [hl], ?_, by simp [hl]; omega, hcm, by simp; omega, fun j hj => ?_⟩
        · rw [hsize, Nat.mul_one, RowAt.store news (off + xs.length) cur w hg (by omega)]
          exact hg.setRow (by simp; omega)
        · simp only [List.length_append] at hj
          simp only [List.getElem?_toArray]
          rw [List.append_assoc, List.getElem?_append]
          by_cases hjx : j < xs.length
          · rw [if_pos (by simp; omega), List.getElem?_take, if_pos (by omega)]
            rw [List.getElem_append_left hjx, ← hcs j hjx]
            simp
          · rw [if_neg (by simp; omega), List.getElem?_append_left (by simp; omega), List.getElem_append_right (by omega)]
            have : off + j - (cur.toList.take (off + xs.length)).length = j - xs.length := by simp; omega
            rw [this, List.getElem?_eq_getElem (by omega)]
      · rw [hsize, Nat.mul_one, RowAt.store news (off + xs.length) cur w hg (by omega)]
        exact ⟨rfl, rfl, rfl, by simp, fun k _ hk => setRow_other w g k _ (fun e => hk (by simp [Value.ownBlock, e]))⟩
    · obtain ⟨v', w', hr, h2, h3⟩ := run_append_arg_grows (P := P) w t ty e i z 1 bytes ht hi hz hsize hby hzs (by omega) ⟨g, off, none⟩ xs.length cap xs (by omega) (fun j u hu => by rw [add_mk]; exact holds j u hu) a m c news (by omega) hnews (by omega) h63 hbytes
      refine ⟨v', w', hr, Own.of_row h2, ⟨h3.os, h3.tape, h3.output, h3.size, fun k hk _ => h3.block k hk (by simp)⟩, ?_, ?_⟩
      · right
        have hru := run_append_grow (P := P) w t ty e i z ht hi hz ⟨g, off, none⟩ xs.length cap xs (by rw [hsize]; omega) (fun j u hu => by rw [add_mk]; exact holds j u hu) a m c news (by rw [hl, hsize]; omega) hnews (by omega) (by simp only [maxLen] at h63; omega) (growslice_fits (by omega) (by rw [hby]; exact hbytes))
        rw [hru] at hr
        injection hr with hv _
        rw [← hv]
        rfl
      · rcases h2.2 with ⟨rfl, h0⟩ | ⟨g', cap', cur', rfl, _⟩
        · omega
        · simp
end
section
variable {w w' : World} {g : Nat} {t : TypeId} {cs : Array Value}
end
theorem wp_appends {P : Program} (w : World) {o : Oper} {a : Act} {K : Act → World → Prop} {Q : Exit → Act → World → Prop} (s x : Operand) (t : TypeId)
    (ho : o.op = .call { callee := .builtin .append, args := #[s, x], argTypes := #[t, t] })
    (e : TypeId) (i : TypeInfo) (z : Value) (bytes : Nat) (ht : P.underlying t = some (.slice e)) (hi : P.info? e = some i) (hz : i.zero = some z)
    (hsize : i.size = 1) (hby : i.bytes = bytes) (hzs : z.cells.size = 1)
    (v : Value) (xs : List Value) (hs : a.eval s = v) (hown : Own w e v xs)
    (ad : Addr) (c : Nat) (news : List Value) (hx : a.eval x = .slice (some ad) news.length c) (hc : ∀ j u, news[j]? = some u → w.cell? (ad.add j) = some u) (h1 : ∀ u ∈ news, u.oneCell' = true)
    (h63 : xs.length + news.length ≤ maxLen) (hbytes : (xs.length + news.length) * bytes ≤ 140737488355328)
    (h : ∀ A cap w', Own w' e (.slice A (xs.length + news.length) cap) (xs ++ news) → w.grownBy w' v.ownBlock → (∀ g, (Value.slice A (xs.length + news.length) cap).ownBlock = some g → v.ownBlock = some g ∨ g = w.heap.size) →
      K (a.put o.dst (.slice A (xs.length + news.length) cap)) w') : o.wp P a w K Q := by
  obtain ⟨v', w', hr, h2, h3, h4, h5⟩ := run_append_Own (P := P) w t o.type e i z bytes ht hi hz hsize hby hzs v xs hown ad _ c news rfl hc h1 h63 hbytes
  obtain ⟨A, cap, hform, _⟩ := h2.form
  rw [List.length_append] at hform
  subst hform
  unfold Oper.wp execOp
  simp only [ho, resolve, invoke, builtin, Sem.run_bind, Sem.run_pure, Result.andThen_ok, List.map_toArray, List.map_cons, List.map_nil, hs, hx, hr]
  exact h A cap w' h2 h3 (fun g hg => by
    rcases h4 with h4 | h4
    · left; rw [← h4]; exact hg
    · right; rw [hg] at h4; injection h4)
theorem Own.empty (w : World) (e : TypeId) : Own (w.alloc (.cells #[] e)) e (.slice (some ⟨w.heap.size, 0, none⟩) 0 0) [] :=
  .inr ⟨w.heap.size, 0, 0, #[], rfl, .mk0 (heap_alloc_new w _), Nat.le_refl _, Nat.zero_le _, Nat.le_refl _, fun j h => by simp at h⟩
theorem Own.set_ {w : World} {e : TypeId} {g off n c i : Nat} {xs : List Value} (h : Own w e (.slice (some ⟨g, off, none⟩) n c) xs) (hi : i < xs.length) (u : Value) :
    Own (w.setCell ⟨g, off + i, none⟩ u) e (.slice (some ⟨g, off, none⟩) n c) (xs.set i u) := by
  rcases h with ⟨h, _⟩ | ⟨g', off', cap, cur, hv, hg, h1, h2, h3, h4⟩
  · cases h
  · injection hv with ha hn hc
    injection ha with ha
    injection ha with hb ho
    subst hb ho hc
    refine .inr ⟨g, off, c, cur.setIfInBounds (off + i) u, by rw [hn, List.length_set], ?_, by rw [List.length_set]; exact h1, h2, by simpa using h3, fun j hj => ?_⟩
    · exact hg.setCell (off + i) u
    · rw [List.length_set] at hj
      rw [List.getElem_set, Array.getElem?_setIfInBounds]
      by_cases hij : i = j
      · subst hij
        rw [if_pos rfl, if_pos rfl, if_pos (by omega)]
      · rw [if_neg (by omega), if_neg hij]
        exact h4 j hj
theorem Own.at_ {w : World} {e : TypeId} {g off n c i : Nat} {xs : List Value} (h : Own w e (.slice (some ⟨g, off, none⟩) n c) xs) (hi : i < xs.length) :
    w.cell? ⟨g, off + i, none⟩ = some xs[i] ∧ w.frozen? ⟨g, off + i, none⟩ = false := by
  rcases h with ⟨h, _⟩ | ⟨g', off', cap, cur, hv, hg, h1, h2, h3, h4⟩
  · cases h
  · injection hv with ha hn hc
    injection ha with ha
    injection ha with hb ho
    subst hb ho hc
    exact ⟨(hg.cell _).trans (h4 i hi), hg.frozen (by omega)⟩
theorem Own.addr {w : World} {e : TypeId} {A : Option Addr} {n c : Nat} {xs : List Value} (h : Own w e (.slice A n c) xs) (hn : 0 < n) : ∃ g off, A = some ⟨g, off, none⟩ := by
  rcases h with ⟨h, _⟩ | ⟨g', off', cap, cur, hv, _⟩
  · injection h with _ h; omega
  · injection hv with ha
    exact ⟨g', off', ha⟩
end Go.Proofs.YtbpbndlgfiammaaGreatDoor
namespace Go.Proofs.YtbpbndlgfiammaaGreatDoor.Cn
open Go
def mayP (x n : Int) : Bool := x != 0 && decide (-n ≤ x) && decide (x ≤ n)
def litV (a : List Bool) (x : Int) : Bool := mayP x 65536 && ((decide (x.natAbs < a.length) && a.getD x.natAbs false) == decide (0 < x))
def badL (N : Int) (l : List Int) : Bool := l.any fun x => !mayP x N
def chkV (N : Int) (cs : List (List Int)) : Int := if N < 0 ∨ 65536 < N then 1 else if cs.any (badL N) = true then 1 else if 65536 < cs.length then 2 else 0
def idxF {α : Type} (p : α → Bool) : List α → Int
  | [] => -1
  | x :: l => if p x then 0 else if idxF p l < 0 then -1 else idxF p l + 1
section
variable {α : Type} {p : α → Bool}
theorem idxF_no : ∀ {l : List α}, (∀ x ∈ l, p x = false) → idxF p l = -1
  | [], _ => rfl
  | x :: l, h => by
    unfold idxF
    rw [h x List.mem_cons_self, idxF_no (l := l) (fun y hy => h y (List.mem_cons_of_mem _ hy))]
    rfl
theorem idxF_yes {d : α} : ∀ {l : List α} {k : Nat}, k < l.length → (∀ j, j < k → p (l.getD j d) = false) → p (l.getD k d) = true → idxF p l = k
  | [], k, h, _, _ => by simp at h
  | x :: l, 0, _, _, h => by
    simp at h
    unfold idxF
    rw [if_pos h]; rfl
  | x :: l, k + 1, hk, hj, h => by
    have h0 := hj 0 (by omega)
    simp at h0
    have ih := idxF_yes (l := l) (k := k) (d := d) (by simpa using hk) (fun j hjk => by have := hj (j + 1) (by omega); simpa using this) (by simpa using h)
    unfold idxF
    rw [h0, ih]
    simp
    omega
theorem idxF_bd : ∀ (l : List α), -1 ≤ idxF p l ∧ idxF p l < l.length ∨ idxF p l = -1
  | [] => .inr rfl
  | x :: l => by
    unfold idxF
    split
    · left; simp
    · rcases idxF_bd l with h | h
      · split
        · right; rfl
        · left; simp; omega
      · right; rw [if_pos (by omega)]
theorem idxF_any : ∀ (l : List α), decide (0 ≤ idxF p l) = l.any p
  | [] => rfl
  | x :: l => by
    have ih := idxF_any l
    unfold idxF
    rw [List.any_cons]
    cases hx : p x with
    | true => simp
    | false =>
      simp only [Bool.false_or, Bool.false_eq_true, if_false]
      rw [← ih]
      split
      · rename_i h; simp; omega
      · rename_i h; simp; omega
theorem any_no {l : List α} {d : α} (h : ∀ j, j < l.length → p (l.getD j d) = false) : l.any p = false := by
  rw [List.any_eq_false]
  intro x hx
  obtain ⟨j, hj, rfl⟩ := List.mem_iff_getElem.1 hx
  have := h j hj
  rw [List.getD_eq_getElem?_getD, List.getElem?_eq_getElem hj] at this
  simpa using this
theorem all_mem {l : List α} {d : α} (h : ∀ j, j < l.length → p (l.getD j d) = false) : ∀ x ∈ l, p x = false := by
  intro x hx
  obtain ⟨j, hj, rfl⟩ := List.mem_iff_getElem.1 hx
  have := h j hj
  rw [List.getD_eq_getElem?_getD, List.getElem?_eq_getElem hj] at this
  simpa using this
theorem any_yes {l : List α} {d : α} {k : Nat} (hk : k < l.length) (h : p (l.getD k d) = true) : l.any p = true := by
  rw [List.any_eq_true]
  refine ⟨l.getD k d, ?_, h⟩
  rw [List.getD_eq_getElem?_getD, List.getElem?_eq_getElem hk]
  exact List.getElem_mem hk
theorem falseSucc {f : Nat → Bool} {k : Nat} (h : ∀ j, j < k → f j = false) (hk : f k = false) : ∀ j, j < k + 1 → f j = false := fun j hj => by
  rcases Nat.lt_succ_iff_lt_or_eq.1 hj with h1 | rfl
  · exact h j h1
  · exact hk
theorem getD_memL {l : List α} {d : α} {k : Nat} (hk : k < l.length) : l.getD k d ∈ l := by
  rw [List.getD_eq_getElem?_getD, List.getElem?_eq_getElem hk]; exact List.getElem_mem hk
theorem take_sD {l : List α} {d : α} {k : Nat} (hk : k < l.length) : l.take (k + 1) = l.take k ++ [l.getD k d] := by
  rw [List.take_succ_eq_append_getElem hk, List.getD_eq_getElem?_getD, List.getElem?_eq_getElem hk]; rfl
end
theorem mayP_iff {x n : Int} : mayP x n = true ↔ x ≠ 0 ∧ -n ≤ x ∧ x ≤ n := by
  unfold mayP; simp [Bool.and_eq_true, bne_iff_ne, and_assoc]
theorem litV_no {a : List Bool} {x : Int} (h : mayP x 65536 = false) : litV a x = false := by unfold litV; rw [h]; rfl
theorem litV_yes {a : List Bool} {x : Int} (h : mayP x 65536 = true) : litV a x = ((decide ((x.natAbs : Int) < (a.length : Int)) && a.getD ((x.natAbs : Int)).toNat false) == decide (x > 0)) := by
  unfold litV; rw [h]
  simp [Int.ofNat_lt]
theorem chk_arg {N : Int} {cs : List (List Int)} (h : N < 0 ∨ 65536 < N) : chkV N cs = 1 := if_pos h
theorem chk_bad {N : Int} {cs : List (List Int)} (h : ¬ (N < 0 ∨ 65536 < N)) {k : Nat} (hk : k < cs.length) (hb : badL N (cs.getD k []) = true) : chkV N cs = 1 := by
  unfold chkV; rw [if_neg h, if_pos (any_yes hk hb)]
theorem chk_ok {N : Int} {cs : List (List Int)} (h : ¬ (N < 0 ∨ 65536 < N)) (hb : ∀ j, j < cs.length → badL N (cs.getD j []) = false) : chkV N cs = if 65536 < cs.length then 2 else 0 := by
  unfold chkV; rw [if_neg h, if_neg (by rw [any_no hb]; simp)]
theorem chkV_0 {N : Int} {cs : List (List Int)} : chkV N cs = 0 ↔ (0 ≤ N ∧ N ≤ 65536) ∧ (∀ l ∈ cs, ∀ x ∈ l, mayP x N = true) ∧ cs.length ≤ 65536 := by
  unfold chkV
  by_cases h1 : N < 0 ∨ 65536 < N
  · rw [if_pos h1]
    constructor
    · intro h; cases h
    · rintro ⟨h, _⟩; omega
  · rw [if_neg h1]
    by_cases h2 : cs.any (badL N) = true
    · rw [if_pos h2]
      constructor
      · intro h; cases h
      · rintro ⟨_, h, _⟩
        obtain ⟨l, hl, hb⟩ := List.any_eq_true.1 h2
        obtain ⟨x, hx, hn⟩ := List.any_eq_true.1 hb
        rw [h l hl x hx] at hn
        cases hn
    · rw [if_neg h2]
      have hall : ∀ l ∈ cs, ∀ x ∈ l, mayP x N = true := by
        intro l hl x hx
        cases hm : mayP x N with
        | true => rfl
        | false => exact absurd (List.any_eq_true.2 ⟨l, hl, List.any_eq_true.2 ⟨x, hx, by rw [hm]; rfl⟩⟩) h2
      split
      · constructor
        · intro h; cases h
        · rintro ⟨_, _, h⟩; omega
      · exact ⟨fun _ => ⟨by omega, hall, by omega⟩, fun _ => rfl⟩
end Go.Proofs.YtbpbndlgfiammaaGreatDoor.Cn
