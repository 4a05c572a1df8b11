/- Lemmas and contracts for the row. -/
import Derived.WalkKit
import Derived.WalkSpells
import Derived.ArgAppend
import Derived.Deep.Draws
import Derived.Laws.OwnMore
set_option linter.unusedVariables false
set_option linter.unusedSimpArgs false
set_option linter.unnecessarySimpa false
namespace Go.Proofs.YtkkapbnopmmmjaaGreatDoor
open Go.RowKit
abbrev I64 (x : Int) : Value := .int .i64 x
theorem add_mk (b o i : Nat) : (⟨b, o, none⟩ : Addr).add i = ⟨b, o + i, none⟩ := by
  unfold Addr.add; split <;> simp_all
structure Kp (M : Nat → Prop) (w w' : World) : Prop where
  os : w'.os = w.os
  tape : w'.tape = w.tape
  output : w'.output = w.output
  size : w.heap.size ≤ w'.heap.size
  block : ∀ k, k < w.heap.size → ¬ M k → w'.heap[k]? = w.heap[k]?
section
variable {M M' : Nat → Prop} {w w' w'' : World}
theorem Kp.refl (M : Nat → Prop) (w : World) : Kp M w w := ⟨rfl, rfl, rfl, Nat.le_refl _, fun _ _ _ => rfl⟩
theorem Kp.trans (h : Kp M w w') (h' : Kp M' w' w'') (hm : ∀ k, k < w.heap.size → M' k → M k) : Kp M w w'' :=
  ⟨h'.os.trans h.os, h'.tape.trans h.tape, h'.output.trans h.output, Nat.le_trans h.size h'.size,
    fun k hk hn => (h'.block k (Nat.lt_of_lt_of_le hk h.size) (fun hq => hn (hm k hk hq))).trans (h.block k hk hn)⟩
theorem Kp.mono (h : Kp M w w') (hm : ∀ k, k < w.heap.size → M k → M' k) : Kp M' w w' :=
  ⟨h.os, h.tape, h.output, h.size, fun k hk hn => h.block k hk (fun hq => hn (hm k hk hq))⟩
theorem Kp.drewN (h : Kp M w w') (n : Nat) : Kp M w (w'.drewN n) := ⟨h.os, h.tape, h.output, h.size, h.block⟩
theorem Kp.drew (h : Kp M w w') : Kp M w w'.drew := ⟨h.os, h.tape, h.output, h.size, h.block⟩
theorem Kp.alloc (h : Kp M w w') (o : Obj) : Kp M w (w'.alloc o) :=
  ⟨h.os, h.tape, h.output, Nat.le_trans h.size (by simp), fun k hk hn => (Below.heap_alloc w' o k (Nat.lt_of_lt_of_le hk h.size)).trans (h.block k hk hn)⟩
theorem Kp.setCell (h : Kp M w w') {p : Addr} (hp : p.block < w.heap.size → M p.block) (u : Value) : Kp M w (w'.setCell p u) :=
  ⟨h.os, h.tape, h.output, by simpa [World.setCell] using h.size, fun k hk hn => (Below.heap_setCell w' p u k (by
    rintro rfl; exact hn (hp hk))).trans (h.block k hk hn)⟩
theorem Kp.grown {row : Option Nat} (h : Kp M w w') (hg : w'.grownBy w'' row) (hr : ∀ g, row = some g → g < w.heap.size → M g) : Kp M w w'' :=
  ⟨hg.os.trans h.os, hg.tape.trans h.tape, hg.output.trans h.output, Nat.le_trans h.size hg.size,
    fun k hk hn => (hg.block k (Nat.lt_of_lt_of_le hk h.size) (fun e => hn (hr k e.symm hk))).trans (h.block k hk hn)⟩
theorem Kp.below {B : Nat} (h : Kp M w w') (hm : ∀ k, k < B → k < w.heap.size → ¬ M k) (hB : B ≤ w.heap.size) : Below B w w' :=
  ⟨h.os, h.tape, h.output, h.size, fun k hk => h.block k (Nat.lt_of_lt_of_le hk hB) (hm k hk (Nat.lt_of_lt_of_le hk hB))⟩
theorem Kp.of_below {B : Nat} (h : Below B w w') : Kp (fun k => B ≤ k) w w' :=
  ⟨h.os, h.tape, h.output, h.size, fun k _ hn => h.block k (by omega)⟩
theorem Kp.of_grown {row : Option Nat} (h : w.grownBy w' row) : Kp (fun k => some k = row) w w' := ⟨h.os, h.tape, h.output, h.size, fun k hk hn => h.block k hk hn⟩
theorem Kp.cell (h : Kp M w w') {p : Addr} (hp : p.block < w.heap.size) (hn : ¬ M p.block) : w'.cell? p = w.cell? p := World.cell?_of_block (h.block p.block hp hn)
end
def Rd {α : Type} (enc : α → Value) (D : Nat → Prop) (w : World) (A : Option Addr) (xs : List α) : Prop :=
  0 < xs.length → ∃ b off, A = some ⟨b, off, none⟩ ∧ D b ∧ ∀ j (h : j < xs.length), w.cell? ⟨b, off + j, none⟩ = some (enc xs[j])
section
variable {α : Type} {enc : α → Value} {D D' : Nat → Prop} {w w' : World} {A : Option Addr} {xs : List α}
theorem Rd.keep (h : Rd enc D w A xs) (hk : ∀ b, D b → w'.heap[b]? = w.heap[b]?) (hd : ∀ b, D b → D' b) : Rd enc D' w' A xs := fun hn => by
  obtain ⟨b, off, e, hb, hc⟩ := h hn
  exact ⟨b, off, e, hd _ hb, fun j hj => (World.cell?_of_block (hk _ hb)).trans (hc j hj)⟩
theorem Rd.mono (h : Rd enc D w A xs) (hd : ∀ b, D b → D' b) : Rd enc D' w A xs := h.keep (fun _ _ => rfl) hd
theorem Rd.below {B : Nat} (h : Rd enc (· < B) w A xs) (hb : Below B w w') : Rd enc (· < B) w' A xs := h.keep (fun b hlt => hb.block b hlt) (fun _ h => h)
theorem Rd.at_ (h : Rd enc D w A xs) {k : Nat} (hk : k < xs.length) : ∃ b off, A = some ⟨b, off, none⟩ ∧ D b ∧ w.cell? ⟨b, off + k, none⟩ = some (enc xs[k]) := by
  obtain ⟨b, off, e, hb, hc⟩ := h (by omega)
  exact ⟨b, off, e, hb, hc k hk⟩
end
def RdL (D : Nat → Prop) (w : World) (A : Option Addr) (xss : List (List Int)) : Prop :=
  0 < xss.length → ∃ b off, A = some ⟨b, off, none⟩ ∧ D b ∧ ∀ j (h : j < xss.length), ∃ A' c', w.cell? ⟨b, off + j, none⟩ = some (.slice A' xss[j].length c') ∧ xss[j].length ≤ c' ∧ Rd I64 D w A' xss[j]
section
variable {D D' : Nat → Prop} {w w' : World} {A : Option Addr} {xss : List (List Int)}
end
def MkOk (e : TypeId) (n : Nat) (mk : Nat × Nat) : Prop := mk = (0, 0) ∨ (e = 5 ∧ n ≤ mk.1)
def RowAt (w : World) (g : Nat) (e : TypeId) (cur : Array Value) : Prop := ∃ mk, w.heap[g]? = some (.cells cur e mk) ∧ MkOk e cur.size mk
section
variable {w w' : World} {g i o : Nat} {e : TypeId} {cur cs : Array Value}
theorem RowAt.mk0 (h : w.heap[g]? = some (.cells cur e (0, 0))) : RowAt w g e cur := ⟨_, h, .inl rfl⟩
theorem RowAt.cell (h : RowAt w g e cur) (i : Nat) : w.cell? ⟨g, i, none⟩ = cur[i]? := by obtain ⟨mk, h, _⟩ := h; exact cell_of_row w g i cur e mk h
theorem RowAt.frozen (h : RowAt w g e cur) (hi : i < cur.size) : w.frozen? ⟨g, i, none⟩ = false := by
  obtain ⟨mk, h, hk⟩ := h
  unfold World.frozen?
  rw [h]
  rcases hk with rfl | ⟨_, h2⟩
  · simp
  · have : ¬ mk.1 ≤ i := by omega
    simp [this]
theorem RowAt.keep (h : RowAt w g e cur) (hk : w'.heap[g]? = w.heap[g]?) : RowAt w' g e cur := by obtain ⟨mk, h, hm⟩ := h; exact ⟨mk, hk.trans h, hm⟩
theorem RowAt.lt (h : RowAt w g e cur) : g < w.heap.size := by obtain ⟨mk, h, _⟩ := h; exact (Array.getElem?_eq_some_iff.1 h).1
theorem RowAt.plain (h : RowAt w g e cur) (he : e ≠ 5) : w.heap[g]? = some (.cells cur e (0, 0)) := by
  obtain ⟨mk, h, hm⟩ := h
  rcases hm with rfl | ⟨h2, _⟩
  · exact h
  · exact absurd h2 he
theorem RowAt.setRow (h : RowAt w g e cur) (hs : cs.size = cur.size) : RowAt (w.setRow g cs) g e cs := by
  obtain ⟨mk, h, hm⟩ := h
  exact ⟨mk, setRow_heap w g cur cs e mk h, by unfold MkOk at hm ⊢; rw [hs]; exact hm⟩
theorem RowAt.setCell (h : RowAt w g e cur) (i : Nat) (u : Value) : RowAt (w.setCell ⟨g, i, none⟩ u) g e (cur.setIfInBounds i u) := by
  have hr := h.setRow (cs := cur.setIfInBounds i u) (by simp)
  obtain ⟨mk, h, hm⟩ := h
  rwa [setCell_eq_setRow w g i cur e mk u h]
theorem RowAt.store : ∀ (vs : List Value) (o : Nat) (cur : Array Value) (w : World), RowAt w g e cur → o + vs.length ≤ cur.size →
    w.setCells g o vs = w.setRow g (cur.toList.take o ++ vs ++ cur.toList.drop (o + vs.length)).toArray
  | [], o, cur, w, h, _ => by
    obtain ⟨mk, h, _⟩ := h
    simp only [World.setCells, List.append_nil, List.length_nil, Nat.add_zero, List.take_append_drop, Array.toArray_toList]
    rw [setRow_self w g cur e mk h]
  | v :: r, o, cur, w, h, hl => by
    have h2 := h.setRow (cs := cur.setIfInBounds o v) (by simp)
    have ih := RowAt.store r (o + 1) _ _ h2 (by simp at hl ⊢; omega)
    obtain ⟨mk, h, _⟩ := h
    rw [World.setCells, setCell_eq_setRow w g o cur e mk v h, ih, setRow_setRow]
    congr 2
    have e := list_seg_step cur.toList o v r (by simp at hl ⊢; omega)
    simpa [Array.toList_setIfInBounds, Nat.add_assoc] using e
end
def Own (w : World) (e : TypeId) (v : Value) (xs : List Value) : Prop :=
  (v = .slice none 0 0 ∧ xs = []) ∨ ∃ g off cap cur, v = .slice (some ⟨g, off, none⟩) xs.length cap ∧ RowAt w g e cur ∧ xs.length ≤ cap ∧ cap ≤ maxLen ∧
    off + cap ≤ cur.size ∧ ∀ j (h : j < xs.length), cur[off + j]? = some xs[j]
section
variable {w w' : World} {e : TypeId} {v : Value} {xs : List Value}
theorem Own.nil (w : World) (e : TypeId) : Own w e (.slice none 0 0) [] := .inl ⟨rfl, rfl⟩
theorem Own.keep (h : Own w e v xs) (hk : ∀ g, v.ownBlock = some g → w'.heap[g]? = w.heap[g]?) : Own w' e v xs := by
  rcases h with h | ⟨g, off, cap, cur, rfl, hg, h1, h2, h3, h4⟩
  · exact .inl h
  · exact .inr ⟨g, off, cap, cur, rfl, hg.keep (hk g (by simp [Value.ownBlock])), h1, h2, h3, h4⟩
theorem Own.lt (h : Own w e v xs) {g : Nat} (hg : v.ownBlock = some g) : g < w.heap.size := by
  rcases h with ⟨rfl, _⟩ | ⟨g', off, cap, cur, rfl, hh, _⟩
  · simp [Value.ownBlock] at hg
  · have : g' = g := by simpa [Value.ownBlock] using hg
    subst this
    exact hh.lt
theorem Own.type (h : Own w e v xs) {g : Nat} (hg : v.ownBlock = some g) : ∃ cur, RowAt w g e cur := by
  rcases h with ⟨rfl, _⟩ | ⟨g', off, cap, cur, rfl, hh, _⟩
  · simp [Value.ownBlock] at hg
  · have : g' = g := by simpa [Value.ownBlock] using hg
    subst this
    exact ⟨cur, hh⟩
theorem Own.form (h : Own w e v xs) : ∃ A cap, v = .slice A xs.length cap ∧ xs.length ≤ cap := by
  rcases h with ⟨rfl, rfl⟩ | ⟨g, off, cap, cur, rfl, _, h1, _⟩
  · exact ⟨none, 0, rfl, Nat.le_refl _⟩
  · exact ⟨_, cap, rfl, h1⟩
theorem Own.grown (h : Own w e v xs) {row : Option Nat} (hg : w.grownBy w' row) (hne : v.ownBlock = none ∨ v.ownBlock ≠ row) : Own w' e v xs :=
  h.keep fun g hgo => hg.block g (h.lt hgo) (by rw [← hgo]; rcases hne with h | h; · rw [hgo] at h; cases h
                                                · exact h)
theorem Own.alloc (h : Own w e v xs) (o : Obj) : Own (w.alloc o) e v xs := h.keep fun g hg => Below.heap_alloc w o g (h.lt hg)
theorem Own.drew (h : Own w e v xs) : Own w.drew e v xs := h
theorem Own.drewN (h : Own w e v xs) (n : Nat) : Own (w.drewN n) e v xs := h
theorem Own.of_row {base n : Nat} (h : w.ownsRow base e 1 v n xs) : Own w e v xs := by
  obtain ⟨hl, h⟩ := h
  simp only [Nat.mul_one] at hl h
  subst hl
  rcases h with ⟨rfl, h0⟩ | ⟨g, cap, cur, rfl, _, hg, h1, h2, h3, h4⟩
  · exact .inl ⟨rfl, List.eq_nil_of_length_eq_zero h0⟩
  · refine .inr ⟨g, 0, cap, cur, rfl, .mk0 hg, h1, h2, by omega, fun j hj => ?_⟩
    have : xs[j] = (cur.toList.take xs.length)[j]'(by rw [h4]; exact hj) := by simp only [h4]
    rw [this, List.getElem_take, Nat.zero_add]
    simp
theorem Own.cell (h : Own w e v xs) : ∃ A cap, v = .slice A xs.length cap ∧ xs.length ≤ cap ∧ ∀ j (hj : j < xs.length), ∃ b off, A = some ⟨b, off, none⟩ ∧ v.ownBlock = some b ∧ w.cell? ⟨b, off + j, none⟩ = some xs[j] := by
  rcases h with ⟨rfl, rfl⟩ | ⟨g, off, cap, cur, rfl, hg, h1, _, _, h4⟩
  · exact ⟨none, 0, rfl, Nat.le_refl _, fun j hj => by simp at hj⟩
  · refine ⟨_, cap, rfl, h1, fun j hj => ⟨_, _, rfl, rfl, ?_⟩⟩
    rw [hg.cell (off + j)]
    exact h4 j hj
theorem Own.rd {α : Type} {enc : α → Value} {ys : List α} (h : Own w e v (ys.map enc)) : ∃ A cap, v = .slice A ys.length cap ∧ ys.length ≤ cap ∧ Rd enc (fun b => v.ownBlock = some b) w A ys := by
  obtain ⟨A, cap, h1, h2, h3⟩ := h.cell
  simp only [List.length_map] at h1 h2 h3
  refine ⟨A, cap, h1, h2, fun hn => ?_⟩
  obtain ⟨b, off, e1, hb, _⟩ := h3 0 hn
  refine ⟨b, off, e1, hb, fun j hj => ?_⟩
  obtain ⟨b', off', e2, _, hc⟩ := h3 j hj
  rw [e1] at e2
  cases e2
  rw [List.getElem_map] at hc
  exact hc
end
section
variable {P : Program} (w : World)
theorem run_append_Own (t ty e : TypeId) (i : TypeInfo) (z : Value) (bytes : Nat) (ht : P.underlying t = some (.slice e)) (hi : P.info? e = some i) (hz : i.zero = some z)
    (hsize : i.size = 1) (hby : i.bytes = bytes) (hzs : z.cells.size = 1)
    (v : Value) (xs : List Value) (hown : Own w e v xs)
    (a : Addr) (m c : Nat) (news : List Value) (hl : news.length = m) (hnews : ∀ j u, news[j]? = some u → w.cell? (a.add j) = some u) (h1 : ∀ u ∈ news, u.oneCell' = true)
    (h63 : xs.length + m ≤ maxLen) (hbytes : (xs.length + m) * bytes ≤ 140737488355328) :
    ∃ v' w', (Builtin.append_ #[t, t] ty #[v, .slice (some a) m c]).run P w = .ok v' w' ∧ Own w' e v' (xs ++ news) ∧ w.grownBy w' v.ownBlock ∧
      (v'.ownBlock = v.ownBlock ∨ v'.ownBlock = some w.heap.size) ∧ (v' = .slice none 0 0 ↔ v = .slice none 0 0 ∧ m = 0) := by
  rcases hown with ⟨rfl, rfl⟩ | ⟨g, off, cap, cur, rfl, hg, hnc, hcm, hfit, hcs⟩
  · obtain ⟨v', w', hr, h2, h3, h4⟩ := run_append_own (P := P) w w.heap.size t ty e i z 1 bytes ht hi hz hsize hby hzs (by omega) (.slice none 0 0) 0 [] (World.ownsRow_nil w _ e 1) a m c news (by omega) hnews h1
      (by simpa using h63) (by simpa using hbytes) (Nat.le_refl _)
    refine ⟨v', w', hr, Own.of_row h2, h3, ?_, h4⟩
    rcases h2.2 with ⟨rfl, _⟩ | ⟨g', cap', cur', rfl, hb, hg', _⟩
    · exact .inl rfl
    · by_cases hm : m = 0
      · have := h4.2 ⟨rfl, hm⟩
        simp at this
      · right
        have hsz : ∀ k, w.heap.size + 1 ≤ k → w'.heap[k]? = none := by
          intro k hk
          have hr2 := hr
          have hru := run_append_nil (P := P) w t ty e i z ht hi hz a m c news (by rw [hl, hsize]; omega) hnews (by omega) (by simp only [maxLen] at h63; omega) (by rw [hby]; simp at hbytes; omega)
          rw [hru] at hr2
          injection hr2 with _ hw
          rw [← hw]
          simp
          omega
        have : g' < w.heap.size + 1 := by
          rcases Nat.lt_or_ge g' (w.heap.size + 1) with h | h
          · exact h
          · rw [hsz g' h] at hg'; cases hg'
        simp [Value.ownBlock]
        omega
  · have holds : ∀ j u, xs[j]? = some u → w.cell? ⟨g, off + j, none⟩ = some u := by
      intro j u hu
      obtain ⟨hj, rfl⟩ := List.getElem?_eq_some_iff.1 hu
      rw [hg.cell (off + j)]
      exact hcs j hj
    by_cases hroom : xs.length + m ≤ cap
    · have hcell : ∀ j, j < news.length → (w.cell? ⟨g, off + xs.length * i.size + j, none⟩).isSome = true := fun j hj => by
        rw [hg.cell, hsize, Array.getElem?_eq_getElem (by omega)]; rfl
      have hfz : ∀ j, j < news.length → w.frozen? ⟨g, off + xs.length * i.size + j, none⟩ = false := fun j hj => hg.frozen (by rw [hsize]; omega)
      have hr := run_append_room_cells (P := P) w t ty e i ht hi g off xs.length cap a m c news (by rw [hl, hsize]; omega) hnews h1 hroom hcell hfz
      refine ⟨_, _, hr, ?_, ?_, .inl rfl, by simp⟩
      · refine .inr ⟨g, off, cap, (cur.toList.take (off + xs.length) ++ news ++ cur.toList.drop (off + xs.length + news.length)).toArray, by simp [hl], ?_, by simp [hl]; omega, hcm, by simp; omega, fun j hj => ?_⟩
        · rw [hsize, Nat.mul_one, RowAt.store news (off + xs.length) cur w hg (by omega)]
          exact hg.setRow (by simp; omega)
        · simp only [List.length_append] at hj
          simp only [List.getElem?_toArray]
          rw [List.append_assoc, List.getElem?_append]
          by_cases hjx : j < xs.length
          · rw [if_pos (by simp; omega), List.getElem?_take, if_pos (by omega)]
            rw [List.getElem_append_left hjx, ← hcs j hjx]
            simp
          · rw [if_neg (by simp; omega), List.getElem?_append_left (by simp; omega), List.getElem_append_right (by omega)]
            have : off + j - (cur.toList.take (off + xs.length)).length = j - xs.length := by simp; omega
            rw [this, List.getElem?_eq_getElem (by omega)]
      · rw [hsize, Nat.mul_one, RowAt.store news (off + xs.length) cur w hg (by omega)]
        exact ⟨rfl, rfl, rfl, by simp, fun k _ hk => setRow_other w g k _ (fun e => hk (by simp [Value.ownBlock, e]))⟩
    · obtain ⟨v', w', hr, h2, h3⟩ := run_append_arg_grows (P := P) w t ty e i z 1 bytes ht hi hz hsize hby hzs (by omega) ⟨g, off, none⟩ xs.length cap xs (by omega) (fun j u hu => by rw [add_mk]; exact holds j u hu) a m c news (by omega) hnews (by omega) h63 hbytes
      refine ⟨v', w', hr, Own.of_row h2, ⟨h3.os, h3.tape, h3.output, h3.size, fun k hk _ => h3.block k hk (by simp)⟩, ?_, ?_⟩
      · right
        have hru := run_append_grow (P := P) w t ty e i z ht hi hz ⟨g, off, none⟩ xs.length cap xs (by rw [hsize]; omega) (fun j u hu => by rw [add_mk]; exact holds j u hu) a m c news (by rw [hl, hsize]; omega) hnews (by omega) (by simp only [maxLen] at h63; omega) (growslice_fits (by omega) (by rw [hby]; exact hbytes))
        rw [hru] at hr
        injection hr with hv _
        rw [← hv]
        rfl
      · rcases h2.2 with ⟨rfl, h0⟩ | ⟨g', cap', cur', rfl, _⟩
        · omega
        · simp
end
theorem wp_push {P : Program} (w : World) {o : Oper} {a : Act} {K : Act → World → Prop} {Q : Exit → Act → World → Prop} (s x : Operand) (t : TypeId)
    (ho : o.op = .call { callee := .builtin .append, args := #[s, x], argTypes := #[t, t] })
    (e : TypeId) (i : TypeInfo) (z : Value) (bytes : Nat) (ht : P.underlying t = some (.slice e)) (hi : P.info? e = some i) (hz : i.zero = some z)
    (hsize : i.size = 1) (hby : i.bytes = bytes) (hzs : z.cells.size = 1)
    (v : Value) (xs : List Value) (n : Nat) (hlen : xs.length = n) (hs : a.eval s = v) (hown : Own w e v xs)
    (ad : Addr) (c : Nat) (u : Value) (hx : a.eval x = .slice (some ad) 1 c) (hc : w.cell? ad = some u) (h1 : u.oneCell' = true)
    (h63 : n + 1 ≤ maxLen) (hbytes : (n + 1) * bytes ≤ 140737488355328)
    (h : ∀ g off cap w', Own w' e (.slice (some ⟨g, off, none⟩) (n + 1) cap) (xs ++ [u]) → w.grownBy w' v.ownBlock → (v.ownBlock = some g ∨ g = w.heap.size) → K (a.put o.dst (.slice (some ⟨g, off, none⟩) (n + 1) cap)) w') : o.wp P a w K Q := by
  subst hlen
  obtain ⟨v', w', hr, h2, h3, h4, h5⟩ := run_append_Own (P := P) w t o.type e i z bytes ht hi hz hsize hby hzs v xs hown ad 1 c [u] rfl
    (fun j y hy => by
      rcases j with _ | j
      · simp at hy; subst hy; simpa [Addr.add] using hc
      · simp at hy) (by simpa using h1) h63 hbytes
  have hform : ∃ g off cap, v' = .slice (some ⟨g, off, none⟩) (xs.length + 1) cap := by
    rcases h2 with ⟨rfl, h0⟩ | ⟨g, off, cap, cur, rfl, _⟩
    · simp at h0
    · exact ⟨g, off, cap, by simp⟩
  obtain ⟨g, off, cap, rfl⟩ := hform
  unfold Oper.wp execOp
  simp only [ho, resolve, invoke, builtin, Sem.run_bind, Sem.run_pure, Result.andThen_ok, List.map_toArray, List.map_cons, List.map_nil, hs, hx, hr]
  exact h g off cap w' h2 h3 (by
    rcases h4 with h4 | h4
    · left; rw [← h4]; rfl
    · right; simpa [Value.ownBlock] using h4)
theorem wpList_push {P : Program} (w : World) {ops : Array Oper} {rest : List Oper} {o : Oper} {a : Act} {Q : Exit → Act → World → Prop} (hgd : o.guard = none) (s x : Operand) (t : TypeId)
    (ho : o.op = .call { callee := .builtin .append, args := #[s, x], argTypes := #[t, t] })
    (e : TypeId) (i : TypeInfo) (z : Value) (bytes : Nat) (ht : P.underlying t = some (.slice e)) (hi : P.info? e = some i) (hz : i.zero = some z)
    (hsize : i.size = 1) (hby : i.bytes = bytes) (hzs : z.cells.size = 1)
    (v : Value) (xs : List Value) (n : Nat) (hlen : xs.length = n) (hs : a.eval s = v) (hown : Own w e v xs)
    (ad : Addr) (c : Nat) (u : Value) (hx : a.eval x = .slice (some ad) 1 c) (hc : w.cell? ad = some u) (h1 : u.oneCell' = true)
    (h63 : n + 1 ≤ maxLen) (hbytes : (n + 1) * bytes ≤ 140737488355328)
    (h : ∀ g off cap w', Own w' e (.slice (some ⟨g, off, none⟩) (n + 1) cap) (xs ++ [u]) → w.grownBy w' v.ownBlock → (v.ownBlock = some g ∨ g = w.heap.size) → wpList P ops Q rest (a.put o.dst (.slice (some ⟨g, off, none⟩) (n + 1) cap)) w') :
    wpList P ops Q (o :: rest) a w :=
  wpList_plain hgd fun _ hK => wp_push w s x t ho e i z bytes ht hi hz hsize hby hzs v xs n hlen hs hown ad c u hx hc h1 h63 hbytes fun g off cap w' h2 h3 h4 => hK _ _ (h g off cap w' h2 h3 h4)
theorem step_push {P : Program} (w : World) {ops : Array Oper} {o : Oper} {a : Act} {K : Act → World → Prop} {Q : Exit → Act → World → Prop} {E : Prop} (hgd : o.guard = none) (s x : Operand) (t : TypeId)
    (ho : o.op = .call { callee := .builtin .append, args := #[s, x], argTypes := #[t, t] })
    (e : TypeId) (i : TypeInfo) (z : Value) (bytes : Nat) (ht : P.underlying t = some (.slice e)) (hi : P.info? e = some i) (hz : i.zero = some z)
    (hsize : i.size = 1) (hby : i.bytes = bytes) (hzs : z.cells.size = 1)
    (v : Value) (xs : List Value) (n : Nat) (hlen : xs.length = n) (hs : a.eval s = v) (hown : Own w e v xs)
    (ad : Addr) (c : Nat) (u : Value) (hx : a.eval x = .slice (some ad) 1 c) (hc : w.cell? ad = some u) (h1 : u.oneCell' = true)
    (h63 : n + 1 ≤ maxLen) (hbytes : (n + 1) * bytes ≤ 140737488355328)
    (h : ∀ g off cap w', Own w' e (.slice (some ⟨g, off, none⟩) (n + 1) cap) (xs ++ [u]) → w.grownBy w' v.ownBlock → (v.ownBlock = some g ∨ g = w.heap.size) → K (a.put o.dst (.slice (some ⟨g, off, none⟩) (n + 1) cap)) w') :
    if Region.wanted o (yielded ops a.tmps) = true then Oper.wp P o a w K Q else E := by
  rw [if_pos (by simp [Region.wanted, hgd])]
  exact wp_push w s x t ho e i z bytes ht hi hz hsize hby hzs v xs n hlen hs hown ad c u hx hc h1 h63 hbytes h
def Blk (w : World) (g : Nat) (t : TypeId) (cs : Array Value) : Prop := w.heap[g]? = some (.cells cs t (0, 0))
section
variable {w w' : World} {g : Nat} {t : TypeId} {cs : Array Value}
theorem Blk.lt (h : Blk w g t cs) : g < w.heap.size := (Array.getElem?_eq_some_iff.1 h).1
theorem Blk.cell (h : Blk w g t cs) (i : Nat) : w.cell? ⟨g, i, none⟩ = cs[i]? := cell_of_row w g i cs t (0, 0) h
theorem Blk.frozen (h : Blk w g t cs) (i : Nat) : w.frozen? ⟨g, i, none⟩ = false := by unfold Blk at h; simp [World.frozen?, h]
theorem Blk.new (w : World) (t : TypeId) (cs : Array Value) : Blk (w.alloc (.cells cs t)) w.heap.size t cs := heap_alloc_new w _
theorem Blk.drew (h : Blk w g t cs) : Blk w.drew g t cs := h
theorem Blk.drewN (h : Blk w g t cs) (n : Nat) : Blk (w.drewN n) g t cs := h
theorem Blk.alloc (h : Blk w g t cs) (o : Obj) : Blk (w.alloc o) g t cs := (Below.heap_alloc w o g h.lt).trans h
theorem Blk.set_ (h : Blk w g t cs) (i : Nat) (u : Value) : Blk (w.setCell ⟨g, i, none⟩ u) g t (cs.setIfInBounds i u) := by
  unfold Blk at h ⊢
  simp [World.setCell, Array.getElem?_modify, h]
theorem Blk.far (h : Blk w g t cs) {p : Addr} (hp : g ≠ p.block) (u : Value) : Blk (w.setCell p u) g t cs := (Below.heap_setCell w p u g hp).trans h
theorem Blk.kp {M : Nat → Prop} (h : Blk w g t cs) (hk : Kp M w w') (hg : ¬ M g) : Blk w' g t cs := (hk.block g h.lt hg).trans h
theorem Blk.grown {row : Option Nat} (h : Blk w g t cs) (hb : w.grownBy w' row) (hg : some g ≠ row) : Blk w' g t cs := (hb.block g h.lt hg).trans h
theorem Blk.ne_ {g' : Nat} {t' : TypeId} {cs' : Array Value} (h : Blk w g t cs) (h' : Blk w g' t' cs') (hne : t ≠ t') : g ≠ g' := by
  rintro rfl
  unfold Blk at h h'
  rw [h] at h'
  injection h' with h'
  injection h' with _ ht
  exact hne ht
theorem Own.ne_blk {e : TypeId} {v : Value} {xs : List Value} (h : Own w e v xs) (hg : Blk w g t cs) (hne : e ≠ t) : v.ownBlock ≠ some g := fun he => by
  obtain ⟨cur, mk, hc, _⟩ := h.type he
  unfold Blk at hg
  rw [hc] at hg
  injection hg with hg
  injection hg with _ ht
  exact hne ht
end
theorem Own.far {w : World} {e : TypeId} {v : Value} {xs : List Value} (h : Own w e v xs) {p : Addr} (hp : v.ownBlock ≠ some p.block) (u : Value) : Own (w.setCell p u) e v xs :=
  h.keep fun g hg => Below.heap_setCell w p u g (fun he => hp (by rw [hg, he]))
theorem Own.kp {M : Nat → Prop} {w w' : World} {e : TypeId} {v : Value} {xs : List Value} (h : Own w e v xs) (hk : Kp M w w') (hm : ∀ g, v.ownBlock = some g → ¬ M g) : Own w' e v xs :=
  h.keep fun g hg => hk.block g (h.lt hg) (hm g hg)
theorem wp_appends {P : Program} (w : World) {o : Oper} {a : Act} {K : Act → World → Prop} {Q : Exit → Act → World → Prop} (s x : Operand) (t : TypeId)
    (ho : o.op = .call { callee := .builtin .append, args := #[s, x], argTypes := #[t, t] })
    (e : TypeId) (i : TypeInfo) (z : Value) (bytes : Nat) (ht : P.underlying t = some (.slice e)) (hi : P.info? e = some i) (hz : i.zero = some z)
    (hsize : i.size = 1) (hby : i.bytes = bytes) (hzs : z.cells.size = 1)
    (v : Value) (xs : List Value) (hs : a.eval s = v) (hown : Own w e v xs)
    (ad : Addr) (c : Nat) (news : List Value) (hx : a.eval x = .slice (some ad) news.length c) (hc : ∀ j u, news[j]? = some u → w.cell? (ad.add j) = some u) (h1 : ∀ u ∈ news, u.oneCell' = true)
    (h63 : xs.length + news.length ≤ maxLen) (hbytes : (xs.length + news.length) * bytes ≤ 140737488355328)
    (h : ∀ A cap w', Own w' e (.slice A (xs.length + news.length) cap) (xs ++ news) → w.grownBy w' v.ownBlock → (∀ g, (Value.slice A (xs.length + news.length) cap).ownBlock = some g → v.ownBlock = some g ∨ g = w.heap.size) →
      K (a.put o.dst (.slice A (xs.length + news.length) cap)) w') : o.wp P a w K Q := by
  obtain ⟨v', w', hr, h2, h3, h4, h5⟩ := run_append_Own (P := P) w t o.type e i z bytes ht hi hz hsize hby hzs v xs hown ad _ c news rfl hc h1 h63 hbytes
  obtain ⟨A, cap, hform, _⟩ := h2.form
  rw [List.length_append] at hform
  subst hform
  unfold Oper.wp execOp
  simp only [ho, resolve, invoke, builtin, Sem.run_bind, Sem.run_pure, Result.andThen_ok, List.map_toArray, List.map_cons, List.map_nil, hs, hx, hr]
  exact h A cap w' h2 h3 (fun g hg => by
    rcases h4 with h4 | h4
    · left; rw [← h4]; exact hg
    · right; rw [hg] at h4; injection h4)
theorem wpList_appends {P : Program} (w : World) {ops : Array Oper} {rest : List Oper} {o : Oper} {a : Act} {Q : Exit → Act → World → Prop} (hgd : o.guard = none) (s x : Operand) (t : TypeId)
    (ho : o.op = .call { callee := .builtin .append, args := #[s, x], argTypes := #[t, t] })
    (e : TypeId) (i : TypeInfo) (z : Value) (bytes : Nat) (ht : P.underlying t = some (.slice e)) (hi : P.info? e = some i) (hz : i.zero = some z)
    (hsize : i.size = 1) (hby : i.bytes = bytes) (hzs : z.cells.size = 1)
    (v : Value) (xs : List Value) (hs : a.eval s = v) (hown : Own w e v xs)
    (ad : Addr) (c : Nat) (news : List Value) (hx : a.eval x = .slice (some ad) news.length c) (hc : ∀ j u, news[j]? = some u → w.cell? (ad.add j) = some u) (h1 : ∀ u ∈ news, u.oneCell' = true)
    (h63 : xs.length + news.length ≤ maxLen) (hbytes : (xs.length + news.length) * bytes ≤ 140737488355328)
    (h : ∀ A cap w', Own w' e (.slice A (xs.length + news.length) cap) (xs ++ news) → w.grownBy w' v.ownBlock → (∀ g, (Value.slice A (xs.length + news.length) cap).ownBlock = some g → v.ownBlock = some g ∨ g = w.heap.size) →
      wpList P ops Q rest (a.put o.dst (.slice A (xs.length + news.length) cap)) w') : wpList P ops Q (o :: rest) a w :=
  wpList_plain hgd fun _ hK => wp_appends w s x t ho e i z bytes ht hi hz hsize hby hzs v xs hs hown ad c news hx hc h1 h63 hbytes fun A cap w' h2 h3 h4 => hK _ _ (h A cap w' h2 h3 h4)
theorem Own.empty (w : World) (e : TypeId) : Own (w.alloc (.cells #[] e)) e (.slice (some ⟨w.heap.size, 0, none⟩) 0 0) [] :=
  .inr ⟨w.heap.size, 0, 0, #[], rfl, .mk0 (heap_alloc_new w _), Nat.le_refl _, Nat.zero_le _, Nat.le_refl _, fun j h => by simp at h⟩
theorem Own.set_ {w : World} {e : TypeId} {g off n c i : Nat} {xs : List Value} (h : Own w e (.slice (some ⟨g, off, none⟩) n c) xs) (hi : i < xs.length) (u : Value) :
    Own (w.setCell ⟨g, off + i, none⟩ u) e (.slice (some ⟨g, off, none⟩) n c) (xs.set i u) := by
  rcases h with ⟨h, _⟩ | ⟨g', off', cap, cur, hv, hg, h1, h2, h3, h4⟩
  · cases h
  · injection hv with ha hn hc
    injection ha with ha
    injection ha with hb ho
    subst hb ho hc
    refine .inr ⟨g, off, c, cur.setIfInBounds (off + i) u, by rw [hn, List.length_set], ?_, by rw [List.length_set]; exact h1, h2, by simpa using h3, fun j hj => ?_⟩
    · exact hg.setCell (off + i) u
    · rw [List.length_set] at hj
      rw [List.getElem_set, Array.getElem?_setIfInBounds]
      by_cases hij : i = j
      · subst hij
        rw [if_pos rfl, if_pos rfl, if_pos (by omega)]
      · rw [if_neg (by omega), if_neg hij]
        exact h4 j hj
theorem Own.at_ {w : World} {e : TypeId} {g off n c i : Nat} {xs : List Value} (h : Own w e (.slice (some ⟨g, off, none⟩) n c) xs) (hi : i < xs.length) :
    w.cell? ⟨g, off + i, none⟩ = some xs[i] ∧ w.frozen? ⟨g, off + i, none⟩ = false := by
  rcases h with ⟨h, _⟩ | ⟨g', off', cap, cur, hv, hg, h1, h2, h3, h4⟩
  · cases h
  · injection hv with ha hn hc
    injection ha with ha
    injection ha with hb ho
    subst hb ho hc
    exact ⟨(hg.cell _).trans (h4 i hi), hg.frozen (by omega)⟩
theorem Own.addr {w : World} {e : TypeId} {A : Option Addr} {n c : Nat} {xs : List Value} (h : Own w e (.slice A n c) xs) (hn : 0 < n) : ∃ g off, A = some ⟨g, off, none⟩ := by
  rcases h with ⟨h, _⟩ | ⟨g', off', cap, cur, hv, _⟩
  · injection h with _ h; omega
  · injection hv with ha
    exact ⟨g', off', ha⟩
theorem Own.len {w : World} {e : TypeId} {A : Option Addr} {n c : Nat} {xs : List Value} (h : Own w e (.slice A n c) xs) : xs.length = n ∧ n ≤ c := by
  obtain ⟨A', c', hv, hc⟩ := h.form
  injection hv with _ h1 h2
  subst h1 h2
  exact ⟨rfl, hc⟩
end Go.Proofs.YtkkapbnopmmmjaaGreatDoor
namespace Go.Proofs.YtkkapbnopmmmjaaGreatDoor.Cn
open Go
def mayP (x n : Int) : Bool := x != 0 && decide (-n ≤ x) && decide (x ≤ n)
def litV (a : List Bool) (x : Int) : Bool := mayP x 65536 && ((decide (x.natAbs < a.length) && a.getD x.natAbs false) == decide (0 < x))
def holdsV (a : List Bool) (l : List Int) : Bool := l.any (litV a)
section
variable {α : Type} {p : α → Bool}
theorem getD_memL {l : List α} {d : α} {k : Nat} (hk : k < l.length) : l.getD k d ∈ l := by
  rw [List.getD_eq_getElem?_getD, List.getElem?_eq_getElem hk]; exact List.getElem_mem hk
theorem take_sD {l : List α} {d : α} {k : Nat} (hk : k < l.length) : l.take (k + 1) = l.take k ++ [l.getD k d] := by
  rw [List.take_succ_eq_append_getElem hk, List.getD_eq_getElem?_getD, List.getElem?_eq_getElem hk]; rfl
end
end Go.Proofs.YtkkapbnopmmmjaaGreatDoor.Cn
namespace Go.Proofs.YtkkapbnopmmmjaaGreatDoor.Cn
open Go
def valA (a : List Int) (x : Int) : Int := if x > 0 then a.getD x.toNat 0 else (3 - a.getD (-x).toNat 0).tmod 3
def setV (a : List Int) (x : Int) : List Int := if x > 0 then a.set x.toNat 1 else a.set (-x).toNat 2
def OkA (a : List Int) : Prop := ∀ i, 0 ≤ a.getD i 0 ∧ a.getD i 0 ≤ 2
def OkC (n : Nat) (c : List (List Int)) : Prop := ∀ l ∈ c, ∀ x ∈ l, x ≠ 0 ∧ x.natAbs < n
def litF (F : Nat → Bool) (x : Int) : Bool := F x.natAbs == decide (0 < x)
def Ext (a : List Int) (F : Nat → Bool) : Prop := ∀ i, 1 ≤ i → (a.getD i 0 = 1 → F i = true) ∧ (a.getD i 0 = 2 → F i = false)
def Sat (c : List (List Int)) (a : List Int) : Prop := ∃ F, Ext a F ∧ ∀ l ∈ c, l.any (litF F) = true
def zer (a : List Int) : Nat := a.count 0
section
variable {a : List Int} {F : Nat → Bool} {x : Int} {l : List Int} {c : List (List Int)}
theorem valA_bd (h : OkA a) (x : Int) : 0 ≤ valA a x ∧ valA a x ≤ 2 := by
  unfold valA
  split
  · exact h _
  · have := h (-x).toNat
    generalize a.getD (-x).toNat 0 = y at *
    have : y = 0 ∨ y = 1 ∨ y = 2 := by omega
    rcases this with rfl | rfl | rfl <;> decide
theorem valA_cases (h : OkA a) (h0 : x ≠ 0) : (valA a x = 0 ↔ a.getD x.natAbs 0 = 0) ∧ (valA a x = 1 ↔ a.getD x.natAbs 0 = if 0 < x then 1 else 2) ∧ (valA a x = 2 ↔ a.getD x.natAbs 0 = if 0 < x then 2 else 1) := by
  have hy := h x.natAbs
  unfold valA
  by_cases hx : x > 0
  · rw [if_pos hx, if_pos hx, if_pos hx, show x.toNat = x.natAbs by omega]; exact ⟨Iff.rfl, Iff.rfl, Iff.rfl⟩
  · rw [if_neg hx, if_neg hx, if_neg hx, show (-x).toNat = x.natAbs by omega]
    generalize a.getD x.natAbs 0 = y at *
    have : y = 0 ∨ y = 1 ∨ y = 2 := by omega
    rcases this with rfl | rfl | rfl <;> decide
theorem lit_1 (h : OkA a) (h0 : x ≠ 0) (he : Ext a F) (h1 : valA a x = 1) : litF F x = true := by
  have h2 := (valA_cases h h0).2.1.1 h1
  have h3 := he x.natAbs (by omega)
  unfold litF
  by_cases hx : 0 < x
  · rw [if_pos hx] at h2; rw [h3.1 h2, decide_eq_true hx]; rfl
  · rw [if_neg hx] at h2; rw [h3.2 h2, decide_eq_false hx]; rfl
theorem lit_2 (h : OkA a) (h0 : x ≠ 0) (he : Ext a F) (h1 : valA a x = 2) : litF F x = false := by
  have h2 := (valA_cases h h0).2.2.1 h1
  have h3 := he x.natAbs (by omega)
  unfold litF
  by_cases hx : 0 < x
  · rw [if_pos hx] at h2; rw [h3.2 h2, decide_eq_true hx]; rfl
  · rw [if_neg hx] at h2; rw [h3.1 h2, decide_eq_false hx]; rfl
theorem getD_setI {a : List Int} {i j : Nat} {y : Int} (h : i < a.length) : (a.set i y).getD j 0 = if i = j then y else a.getD j 0 := by
  rw [List.getD_eq_getElem?_getD, List.getElem?_set]
  by_cases e : i = j
  · subst e; rw [if_pos rfl, if_pos h, if_pos rfl]; rfl
  · rw [if_neg e, if_neg e, List.getD_eq_getElem?_getD]
theorem ok_set (h : OkA a) {i : Nat} {y : Int} (hi : i < a.length) (hy : 0 ≤ y ∧ y ≤ 2) : OkA (a.set i y) := fun j => by
  rw [getD_setI hi]
  split
  · exact hy
  · exact h j
theorem zer_set {i : Nat} {y : Int} (hi : i < a.length) (h0 : a.getD i 0 = 0) (hy : y ≠ 0) : zer (a.set i y) + 1 = zer a := by
  unfold zer
  have h9 : a[i] = 0 := by rw [List.getD_eq_getElem?_getD, List.getElem?_eq_getElem hi] at h0; exact h0
  rw [List.count_set hi, h9]
  have : 1 ≤ a.count 0 := List.count_pos_iff.2 (h9 ▸ List.getElem_mem hi)
  have e : (y == 0) = false := beq_eq_false_iff_ne.2 hy
  rw [e]
  simp
  omega
theorem setV_eq (h0 : x ≠ 0) : setV a x = a.set x.natAbs (if 0 < x then 1 else 2) := by
  unfold setV
  by_cases hx : x > 0
  · rw [if_pos hx, if_pos hx, show x.toNat = x.natAbs by omega]
  · rw [if_neg hx, if_neg hx, show (-x).toNat = x.natAbs by omega]
theorem setV_len : (setV a x).length = a.length := by unfold setV; split <;> rw [List.length_set]
theorem setV_ok (h : OkA a) (h0 : x ≠ 0) (hb : x.natAbs < a.length) : OkA (setV a x) := by
  rw [setV_eq h0]; exact ok_set h hb (by split <;> omega)
theorem setV_zer (h : OkA a) (h0 : x ≠ 0) (hb : x.natAbs < a.length) (hv : valA a x = 0) : zer (setV a x) + 1 = zer a := by
  rw [setV_eq h0]; exact zer_set hb ((valA_cases h h0).1.1 hv) (by split <;> omega)
theorem ext_set {i : Nat} {y : Int} (hi : i < a.length) (h0 : a.getD i 0 = 0) (he : Ext (a.set i y) F) : Ext a F := fun j hj => by
  have := he j hj
  rw [getD_setI hi] at this
  by_cases e : i = j
  · subst e; rw [h0]; exact ⟨fun h => by omega, fun h => by omega⟩
  · rw [if_neg e] at this; exact this
theorem ext_put {i : Nat} (hi : i < a.length) (he : Ext a F) : Ext (a.set i (if F i = true then 1 else 2)) F := fun j hj => by
  rw [getD_setI hi]
  by_cases e : i = j
  · subst e; rw [if_pos rfl]
    by_cases hF : F i = true
    · rw [if_pos hF]; exact ⟨fun _ => hF, fun h => by omega⟩
    · rw [if_neg hF]; exact ⟨fun h => by omega, fun _ => by simpa using hF⟩
  · rw [if_neg e]; exact he j hj
theorem ext_lit (h0 : x ≠ 0) (hb : x.natAbs < a.length) (he : Ext a F) (hl : litF F x = true) : Ext (setV a x) F := by
  rw [setV_eq h0]
  have : (if 0 < x then (1 : Int) else 2) = if F x.natAbs = true then 1 else 2 := by
    unfold litF at hl
    rw [beq_iff_eq] at hl
    rw [hl]
    by_cases hx : 0 < x
    · rw [if_pos hx, if_pos (decide_eq_true hx)]
    · rw [if_neg hx, if_neg (by rw [decide_eq_false hx]; exact Bool.false_ne_true)]
  rw [this]; exact ext_put hb he
def lkS (a : List Int) (s : Int × Int) (x : Int) : Int × Int := if valA a x = 0 ∧ x ≠ s.1 then (x, (if valA a x = 1 then 3 else s.2) + 1) else (s.1, if valA a x = 1 then 3 else s.2)
def lk (a : List Int) (l : List Int) (k : Nat) : Int × Int := (l.take k).foldl (lkS a) (0, 0)
theorem lk_next {k : Nat} (h : k < l.length) : lk a l (k + 1) = lkS a (lk a l k) (l.getD k 0) := by
  unfold lk; rw [take_sD (d := 0) h, List.foldl_append]; rfl
structure LkI (a l : List Int) (k : Nat) : Prop where
  lo : 0 ≤ (lk a l k).2
  hi : (lk a l k).2 ≤ k + 3
  z : (lk a l k).2 = 0 → (lk a l k).1 = 0 ∧ ∀ x ∈ l.take k, valA a x = 2
  one : (lk a l k).2 = 1 → (lk a l k).1 ∈ l.take k ∧ valA a (lk a l k).1 = 0 ∧ ∀ x ∈ l.take k, x = (lk a l k).1 ∨ valA a x = 2
  all : (∀ x ∈ l.take k, valA a x = 2) → lk a l k = (0, 0)
theorem lkI (h : OkA a) (h0 : ∀ x ∈ l, x ≠ 0) : ∀ k, k ≤ l.length → LkI a l k
  | 0, _ => ⟨Int.le_refl _, by show (0 : Int) ≤ _; omega, fun _ => ⟨rfl, fun x hx => by cases hx⟩, fun h => (by cases h), fun _ => rfl⟩
  | k + 1, hk => by
    obtain ⟨i1, i2, i3, i4, i5⟩ := lkI h h0 k (by omega)
    have hx0 := h0 (l.getD k 0) (getD_memL (by omega))
    have hv := valA_bd h (l.getD k 0)
    have ht := take_sD (d := (0 : Int)) (l := l) (k := k) (by omega)
    have e := lk_next (a := a) (l := l) (k := k) (by omega)
    generalize l.getD k 0 = x at *
    generalize lk a l k = s at *
    obtain ⟨o, m⟩ := s
    simp only at i1 i2 i3 i4 i5
    by_cases hc : valA a x = 0 ∧ x ≠ o
    · have h1 : ¬ valA a x = 1 := by omega
      have e2 : lk a l (k + 1) = (x, m + 1) := by rw [e]; unfold lkS; rw [if_pos hc, if_neg h1]
      refine ⟨by rw [e2]; show 0 ≤ m + 1; omega, by rw [e2]; show m + 1 ≤ _; omega, ?_, ?_, ?_⟩
      · rw [e2]; intro h9; have : m + 1 = 0 := h9; omega
      · rw [e2, ht]; intro h9
        have h9 : m + 1 = 1 := h9
        refine ⟨by simp, hc.1, fun y hy => ?_⟩
        rcases List.mem_append.1 hy with hy | hy
        · exact .inr ((i3 (by omega)).2 y hy)
        · exact .inl (List.mem_singleton.1 hy)
      · rw [ht]; intro h9
        have := h9 x (by simp)
        omega
    · by_cases h1 : valA a x = 1
      · have e2 : lk a l (k + 1) = (o, 3) := by rw [e]; unfold lkS; rw [if_neg hc, if_pos h1]
        refine ⟨by rw [e2]; show (0 : Int) ≤ 3; decide, by rw [e2]; show (3 : Int) ≤ _; omega, ?_, ?_, ?_⟩
        · rw [e2]; intro h9; have : (3 : Int) = 0 := h9; omega
        · rw [e2]; intro h9; have : (3 : Int) = 1 := h9; omega
        · rw [ht]; intro h9
          have := h9 x (by simp)
          omega
      · have e2 : lk a l (k + 1) = (o, m) := by rw [e]; unfold lkS; rw [if_neg hc, if_neg h1]
        have hxo : valA a x = 2 ∨ x = o := by
          by_cases h5 : valA a x = 0
          · right
            apply Decidable.byContradiction
            intro h6; exact hc ⟨h5, h6⟩
          · left; omega
        refine ⟨by rw [e2]; exact i1, by rw [e2]; show m ≤ _; omega, ?_, ?_, ?_⟩
        · rw [e2, ht]; intro h9
          have h9 : m = 0 := h9
          obtain ⟨q1, q2⟩ := i3 h9
          refine ⟨q1, fun y hy => ?_⟩
          rcases List.mem_append.1 hy with hy | hy
          · exact q2 y hy
          · rw [List.mem_singleton.1 hy]
            rcases hxo with h5 | h5
            · exact h5
            · exact absurd (h5.trans q1) hx0
        · rw [e2, ht]; intro h9
          obtain ⟨q1, q2, q3⟩ := i4 h9
          refine ⟨List.mem_append_left _ q1, q2, fun y hy => ?_⟩
          rcases List.mem_append.1 hy with hy | hy
          · exact q3 y hy
          · rw [List.mem_singleton.1 hy]
            rcases hxo with h5 | h5
            · exact .inr h5
            · exact .inl h5
        · rw [ht]; intro h9
          have q := i5 fun y hy => h9 y (List.mem_append_left _ hy)
          rw [e2]; exact q
abbrev lkL (a l : List Int) : Int × Int := lk a l l.length
theorem lk_conf (h : OkA a) (h0 : ∀ x ∈ l, x ≠ 0) (hm : (lkL a l).2 = 0) (he : Ext a F) : l.any (litF F) = false := by
  have := ((lkI h h0 l.length (Nat.le_refl _)).z hm).2
  rw [List.take_length] at this
  rw [List.any_eq_false]
  intro x hx
  rw [lit_2 h (h0 x hx) he (this x hx)]; exact Bool.false_ne_true
theorem lk_unit (h : OkA a) (h0 : ∀ x ∈ l, x ≠ 0) (hm : (lkL a l).2 = 1) : (lkL a l).1 ∈ l ∧ valA a (lkL a l).1 = 0 ∧ (Ext a F → l.any (litF F) = true → litF F (lkL a l).1 = true) := by
  obtain ⟨h1, h2, h3⟩ := (lkI h h0 l.length (Nat.le_refl _)).one hm
  rw [List.take_length] at h1 h3
  refine ⟨h1, h2, fun he ha => ?_⟩
  rw [List.any_eq_true] at ha
  obtain ⟨x, hx, hl⟩ := ha
  rcases h3 x hx with e | e
  · rw [← e]; exact hl
  · rw [lit_2 h (h0 x hx) he e] at hl; cases hl
theorem lk_some (h : OkA a) (h0 : ∀ x ∈ l, x ≠ 0) (hm : (lkL a l).2 ≠ 0) : ∃ x ∈ l, valA a x ≠ 2 := by
  apply Decidable.byContradiction
  intro hno
  have h9 := (lkI h h0 l.length (Nat.le_refl _)).all (fun x hx => by
    rw [List.take_length] at hx
    apply Decidable.byContradiction
    intro h; exact hno ⟨x, hx, h⟩)
  exact hm (by show (lk a l l.length).2 = 0; rw [h9])
def psS (s : List Int × Bool × Bool) (l : List Int) : List Int × Bool × Bool :=
  if s.2.2 = true then s else if (lkL s.1 l).2 = 0 then (s.1, s.2.1, true) else if (lkL s.1 l).2 = 1 then (setV s.1 (lkL s.1 l).1, true, false) else s
def ps (c : List (List Int)) (a : List Int) (i : Nat) : List Int × Bool × Bool := (c.take i).foldl psS (a, false, false)
theorem ps_next {i : Nat} (h : i < c.length) : ps c a (i + 1) = psS (ps c a i) (c.getD i []) := by
  unfold ps; rw [take_sD (d := []) h, List.foldl_append]; rfl
structure PsI (c : List (List Int)) (a : List Int) (i : Nat) : Prop where
  ok : OkA (ps c a i).1
  len : (ps c a i).1.length = a.length
  zle : zer (ps c a i).1 ≤ zer a
  zlt : (ps c a i).2.1 = true → zer (ps c a i).1 < zer a
  same : (ps c a i).2.1 = false → (ps c a i).1 = a
  ext : ∀ F, Ext (ps c a i).1 F → Ext a F
  sat : ∀ F, Ext a F → (∀ l ∈ c, l.any (litF F) = true) → Ext (ps c a i).1 F ∧ (ps c a i).2.2 = false
  nz : (ps c a i).2.2 = false → (ps c a i).2.1 = false → ∀ k, k < i → k < c.length → (lkL a (c.getD k [])).2 ≠ 0
theorem psI (h : OkA a) (hc : OkC a.length c) : ∀ i, i ≤ c.length → PsI c a i
  | 0, _ => ⟨h, rfl, Nat.le_refl _, fun h => (by cases h), fun _ => rfl, fun F h => h, fun F h _ => ⟨h, rfl⟩, fun _ _ k hk => by omega⟩
  | i + 1, hi => by
    obtain ⟨i1, i2, i3, i4, i5, i6, i7, i8⟩ := psI h hc i (by omega)
    have hcm := hc _ (getD_memL (d := ([] : List Int)) (l := c) (k := i) (by omega))
    have hci : c.getD i [] ∈ c := getD_memL (by omega)
    have e := ps_next (a := a) (c := c) (i := i) (by omega)
    generalize hl : c.getD i [] = l at *
    generalize ps c a i = s at *
    obtain ⟨b, ag, cf⟩ := s
    simp only at i1 i2 i3 i4 i5 i6 i7 i8
    have h0 : ∀ x ∈ l, x ≠ 0 := fun x hx => (hcm x hx).1
    unfold psS at e
    simp only at e
    by_cases h1 : cf = true
    · rw [if_pos h1] at e
      rw [h1] at e i7
      refine ⟨by rw [e]; exact i1, by rw [e]; exact i2, by rw [e]; exact i3, by rw [e]; exact i4, by rw [e]; exact i5, by rw [e]; exact i6, by rw [e]; exact i7, by rw [e]; intro h9; cases h9⟩
    · rw [if_neg h1] at e
      by_cases h2 : (lkL b l).2 = 0
      · rw [if_pos h2] at e
        refine ⟨by rw [e]; exact i1, by rw [e]; exact i2, by rw [e]; exact i3, by rw [e]; exact i4, by rw [e]; exact i5, by rw [e]; exact i6, ?_, by rw [e]; intro h9; cases h9⟩
        rw [e]; intro F hF hs
        have := lk_conf i1 h0 h2 (i7 F hF hs).1
        rw [hs l hci] at this; cases this
      · rw [if_neg h2] at e
        by_cases h3 : (lkL b l).2 = 1
        · rw [if_pos h3] at e
          obtain ⟨u1, u2, _⟩ := lk_unit (F := fun _ => true) i1 h0 h3
          obtain ⟨w1, w2⟩ := hcm _ u1
          rw [← i2] at w2
          have hz := setV_zer i1 w1 w2 u2
          refine ⟨by rw [e]; exact setV_ok i1 w1 w2, by rw [e]; show (setV _ _).length = _; rw [setV_len, i2], by rw [e]; show zer (setV _ _) ≤ _; omega, by rw [e]; intro _; show zer (setV _ _) < _; omega, (by rw [e]; intro h9; cases h9), ?_, ?_, by rw [e]; intro _ h9; cases h9⟩
          · rw [e]; intro F hF
            have hF : Ext (setV b (lkL b l).1) F := hF
            rw [setV_eq w1] at hF
            exact i6 F (ext_set w2 ((valA_cases i1 w1).1.1 u2) hF)
          · rw [e]; intro F hF hs
            have hb := (i7 F hF hs).1
            exact ⟨ext_lit w1 w2 hb ((lk_unit i1 h0 h3).2.2 hb (hs l hci)), rfl⟩
        · rw [if_neg h3] at e
          refine ⟨by rw [e]; exact i1, by rw [e]; exact i2, by rw [e]; exact i3, by rw [e]; exact i4, by rw [e]; exact i5, by rw [e]; exact i6, by rw [e]; exact i7, ?_⟩
          rw [e]; intro h8 h9 k hk hkc
          rcases (by omega : k < i ∨ k = i) with h5 | rfl
          · exact i8 h8 h9 k h5 hkc
          · rw [hl, ← i5 h9]; exact h2
theorem ps_stop {i : Nat} (h : (ps c a i).2.2 = true) : ∀ m, i + m ≤ c.length → ps c a (i + m) = ps c a i
  | 0, _ => rfl
  | m + 1, hm => by
    have ih := ps_stop h m (by omega)
    rw [show i + (m + 1) = (i + m) + 1 by omega, ps_next (by omega), ih]
    unfold psS; rw [if_pos h]
theorem ps_conf {i : Nat} (hi : i < c.length) (h : (ps c a i).2.2 = false) (h2 : (lkL (ps c a i).1 (c.getD i [])).2 = 0) : ps c a c.length = ((ps c a i).1, (ps c a i).2.1, true) := by
  have e : ps c a (i + 1) = ((ps c a i).1, (ps c a i).2.1, true) := by
    rw [ps_next hi]; unfold psS; rw [if_neg (by rw [h]; exact Bool.false_ne_true), if_pos h2]
  have := ps_stop (i := i + 1) (by rw [e]) (c.length - (i + 1)) (by omega)
  rw [show i + 1 + (c.length - (i + 1)) = c.length by omega] at this
  rw [this, e]
theorem ps_unit {i : Nat} (hi : i < c.length) (h : (ps c a i).2.2 = false) (h3 : (lkL (ps c a i).1 (c.getD i [])).2 = 1) : ps c a (i + 1) = (setV (ps c a i).1 (lkL (ps c a i).1 (c.getD i [])).1, true, false) := by
  rw [ps_next hi]; unfold psS; rw [if_neg (by rw [h]; exact Bool.false_ne_true), if_neg (by omega), if_pos h3]
theorem ps_skip {i : Nat} (hi : i < c.length) (h : (ps c a i).2.2 = false) (h2 : (lkL (ps c a i).1 (c.getD i [])).2 ≠ 0) (h3 : (lkL (ps c a i).1 (c.getD i [])).2 ≠ 1) : ps c a (i + 1) = ps c a i := by
  rw [ps_next hi]; unfold psS; rw [if_neg (by rw [h]; exact Bool.false_ne_true), if_neg h2, if_neg h3]
def spF (c : List (List Int)) : Nat → List Int → Bool × List Int
  | 0, a => (true, a)
  | f + 1, a => if (ps c a c.length).2.2 = true then (false, (ps c a c.length).1) else if (ps c a c.length).2.1 = true then spF c f (ps c a c.length).1 else (true, (ps c a c.length).1)
def spr (c : List (List Int)) (a : List Int) : Bool × List Int := spF c (zer a + 1) a
def rnd (c : List (List Int)) (a : List Int) : Nat → List Int
  | 0 => a
  | n + 1 => (ps c (rnd c a n) c.length).1
def agn (c : List (List Int)) (a : List Int) : Nat → Bool
  | 0 => true
  | n + 1 => (ps c (rnd c a n) c.length).2.1
structure RunI (c : List (List Int)) (a : List Int) (n : Nat) : Prop where
  ok : OkA (rnd c a n)
  len : (rnd c a n).length = a.length
  hn : n ≤ zer a + 1
  go : agn c a n = true → zer (rnd c a n) + n ≤ zer a ∧ spF c (zer a + 1 - n) (rnd c a n) = spr c a
  fin : agn c a n = false → spr c a = (true, rnd c a n)
theorem run_0 (h : OkA a) : RunI c a 0 := ⟨h, rfl, Nat.zero_le _, fun _ => ⟨Nat.le_refl _, rfl⟩, fun h => by cases h⟩
theorem run_next {n : Nat} (hc : OkC a.length c) (h : RunI c a n) (hg : agn c a n = true) (hf : (ps c (rnd c a n) c.length).2.2 = false) : RunI c a (n + 1) := by
  have p := psI h.ok (by rw [h.len]; exact hc) c.length (Nat.le_refl _)
  obtain ⟨g1, g2⟩ := h.go hg
  have e : spF c (zer a + 1 - n) (rnd c a n) = if (ps c (rnd c a n) c.length).2.1 = true then spF c (zer a + 1 - (n + 1)) (ps c (rnd c a n) c.length).1 else (true, (ps c (rnd c a n) c.length).1) := by
    rw [show zer a + 1 - n = (zer a + 1 - (n + 1)) + 1 by omega, spF, if_neg (by rw [hf]; exact Bool.false_ne_true)]
  refine ⟨p.ok, p.len.trans h.len, by omega, fun h9 => ?_, fun h9 => ?_⟩
  · have h9 : (ps c (rnd c a n) c.length).2.1 = true := h9
    have hz := p.zlt h9
    refine ⟨by show zer (ps c (rnd c a n) c.length).1 + _ ≤ _; omega, ?_⟩
    rw [← g2, e, if_pos h9]; rfl
  · have h9 : (ps c (rnd c a n) c.length).2.1 = false := h9
    rw [← g2, e, if_neg (by rw [h9]; exact Bool.false_ne_true)]; rfl
theorem run_conf {n i : Nat} (h : RunI c a n) (hg : agn c a n = true) (hi : i < c.length) (hf : (ps c (rnd c a n) i).2.2 = false) (h2 : (lkL (ps c (rnd c a n) i).1 (c.getD i [])).2 = 0) : spr c a = (false, (ps c (rnd c a n) i).1) := by
  obtain ⟨g1, g2⟩ := h.go hg
  rw [← g2, show zer a + 1 - n = (zer a + 1 - (n + 1)) + 1 by omega, spF, ps_conf hi hf h2, if_pos rfl]
structure SprI (c : List (List Int)) (a : List Int) (r : Bool × List Int) : Prop where
  ok : OkA r.2
  len : r.2.length = a.length
  zle : zer r.2 ≤ zer a
  ext : ∀ F, Ext r.2 F → Ext a F
  sat : ∀ F, Ext a F → (∀ l ∈ c, l.any (litF F) = true) → Ext r.2 F ∧ r.1 = true
  nz : r.1 = true → ∀ k, k < c.length → (lkL r.2 (c.getD k [])).2 ≠ 0
theorem spFI : ∀ (f : Nat) (a : List Int), OkA a → OkC a.length c → zer a < f → SprI c a (spF c f a)
  | 0, a, _, _, h => by omega
  | f + 1, a, h, hc, hz => by
    have p := psI h hc c.length (Nat.le_refl _)
    rw [spF]
    by_cases h1 : (ps c a c.length).2.2 = true
    · rw [if_pos h1]
      exact ⟨p.ok, p.len, p.zle, p.ext, fun F h5 h6 => (by rw [(p.sat F h5 h6).2] at h1; cases h1), fun h9 => by cases h9⟩
    · rw [if_neg h1]
      have h1 : (ps c a c.length).2.2 = false := by simpa using h1
      by_cases h2 : (ps c a c.length).2.1 = true
      · rw [if_pos h2]
        have := p.zlt h2
        have q := spFI f (ps c a c.length).1 p.ok (by rw [p.len]; exact hc) (by omega)
        exact ⟨q.ok, q.len.trans p.len, Nat.le_trans q.zle p.zle, fun F hF => p.ext F (q.ext F hF), fun F h5 h6 => q.sat F (p.sat F h5 h6).1 h6, q.nz⟩
      · rw [if_neg h2]
        have h2 : (ps c a c.length).2.1 = false := by simpa using h2
        refine ⟨p.ok, p.len, p.zle, p.ext, fun F h5 h6 => ⟨(p.sat F h5 h6).1, rfl⟩, fun _ k hk => ?_⟩
        show (lkL (ps c a c.length).1 _).2 ≠ 0
        rw [p.same h2]
        exact p.nz h1 h2 k hk hk
theorem sprI (h : OkA a) (hc : OkC a.length c) : SprI c a (spr c a) := spFI _ a h hc (by omega)
def vdn (b : List Int) : Nat → Int
  | 0 => 0
  | n + 1 => if b.getD (b.length - 1 - n) 0 = 0 then ((b.length - 1 - n : Nat) : Int) else vdn b n
theorem vdnI (b : List Int) : ∀ n, n + 1 ≤ b.length → (vdn b n = 0 ∧ ∀ j, b.length - 1 - n < j → j < b.length → b.getD j 0 ≠ 0) ∨ (1 ≤ vdn b n ∧ vdn b n < b.length ∧ b.getD (vdn b n).toNat 0 = 0)
  | 0, _ => .inl ⟨rfl, fun j h1 h2 => by omega⟩
  | n + 1, h => by
    rw [vdn]
    by_cases e : b.getD (b.length - 1 - n) 0 = 0
    · rw [if_pos e]; right
      refine ⟨by omega, by omega, ?_⟩
      rw [Int.toNat_natCast]; exact e
    · rw [if_neg e]
      rcases vdnI b n (by omega) with ⟨h1, h2⟩ | h1
      · left
        refine ⟨h1, fun j h3 h4 => ?_⟩
        rcases (by omega : j = b.length - 1 - n ∨ b.length - 1 - n < j) with rfl | h5
        · exact e
        · exact h2 j h5 h4
      · exact .inr h1
def canF (c : List (List Int)) : Nat → List Int → Bool
  | 0, _ => false
  | f + 1, a => (spr c a).1 && (decide (vdn (spr c a).2 ((spr c a).2.length - 1) = 0) || (canF c f ((spr c a).2.set (vdn (spr c a).2 ((spr c a).2.length - 1)).toNat 2) || canF c f ((spr c a).2.set (vdn (spr c a).2 ((spr c a).2.length - 1)).toNat 1)))
def satE (c : List (List Int)) (a : List Int) : Bool := canF c (zer a + 1) a
theorem sat_two {b : List Int} {v : Nat} (hb : v < b.length) (h0 : b.getD v 0 = 0) : Sat c b ↔ Sat c (b.set v 2) ∨ Sat c (b.set v 1) := by
  constructor
  · rintro ⟨F, h1, h2⟩
    have h3 := ext_put hb h1
    by_cases hF : F v = true
    · rw [if_pos hF] at h3; exact .inr ⟨F, h3, h2⟩
    · rw [if_neg hF] at h3; exact .inl ⟨F, h3, h2⟩
  · rintro (⟨F, h1, h2⟩ | ⟨F, h1, h2⟩)
    · exact ⟨F, ext_set hb h0 h1, h2⟩
    · exact ⟨F, ext_set hb h0 h1, h2⟩
theorem sat_same (h : OkA a) (hc : OkC a.length c) : Sat c a ↔ Sat c (spr c a).2 := by
  have p := sprI h hc
  exact ⟨fun ⟨F, h1, h2⟩ => ⟨F, (p.sat F h1 h2).1, h2⟩, fun ⟨F, h1, h2⟩ => ⟨F, p.ext F h1, h2⟩⟩
theorem sat_yes (h : OkA a) (hc : OkC a.length c) (hs : (spr c a).1 = true) (hv : ∀ j, 1 ≤ j → j < (spr c a).2.length → (spr c a).2.getD j 0 ≠ 0) : Sat c a := by
  have p := sprI h hc
  rw [sat_same h hc]
  refine ⟨fun i => (spr c a).2.getD i 0 == 1, fun i hi => ⟨fun h9 => (by show ((spr c a).2.getD i 0 == 1) = true; rw [h9]; rfl), fun h9 => (by show ((spr c a).2.getD i 0 == 1) = false; rw [h9]; rfl)⟩, fun l hl => ?_⟩
  obtain ⟨k, hk, rfl⟩ := List.getElem_of_mem hl
  have e : c.getD k [] = c[k] := by rw [List.getD_eq_getElem?_getD, List.getElem?_eq_getElem hk]; rfl
  have hcm := hc _ hl
  have := p.nz hs k hk
  rw [e] at this
  obtain ⟨x, hx, hx2⟩ := lk_some p.ok (fun x hx => (hcm x hx).1) this
  rw [List.any_eq_true]
  refine ⟨x, hx, lit_1 p.ok (hcm x hx).1 (fun i hi => ⟨fun h9 => (by show ((spr c a).2.getD i 0 == 1) = true; rw [h9]; rfl), fun h9 => (by show ((spr c a).2.getD i 0 == 1) = false; rw [h9]; rfl)⟩) ?_⟩
  have h1 := valA_bd p.ok x
  have h2 := hv x.natAbs (by have := (hcm x hx).1; omega) (by rw [p.len]; exact (hcm x hx).2)
  have h3 : valA (spr c a).2 x ≠ 0 := fun h9 => h2 ((valA_cases p.ok (hcm x hx).1).1.1 h9)
  omega
theorem canF_iff : ∀ (f : Nat) (a : List Int), OkA a → OkC a.length c → zer a < f → (canF c f a = true ↔ Sat c a)
  | 0, a, _, _, h => by omega
  | f + 1, a, h, hc, hz => by
    have p := sprI h hc
    have hcb : OkC (spr c a).2.length c := by rw [p.len]; exact hc
    have hzl := p.zle
    rw [canF]
    cases hs : (spr c a).1 with
    | false =>
      refine ⟨fun h9 => (by cases h9), fun ⟨F, h1, h2⟩ => ?_⟩
      rw [(p.sat F h1 h2).2] at hs; cases hs
    | true =>
      rw [Bool.true_and]
      have hv : (vdn (spr c a).2 ((spr c a).2.length - 1) = 0 ∧ ∀ j, 1 ≤ j → j < (spr c a).2.length → (spr c a).2.getD j 0 ≠ 0) ∨ (1 ≤ vdn (spr c a).2 ((spr c a).2.length - 1) ∧ vdn (spr c a).2 ((spr c a).2.length - 1) < (spr c a).2.length ∧ (spr c a).2.getD (vdn (spr c a).2 ((spr c a).2.length - 1)).toNat 0 = 0) := by
        by_cases hl : (spr c a).2.length = 0
        · left
          rw [hl]; exact ⟨rfl, fun j h1 h2 => by omega⟩
        · rcases vdnI (spr c a).2 ((spr c a).2.length - 1) (by omega) with ⟨h1, h2⟩ | h1
          · exact .inl ⟨h1, fun j q1 q2 => h2 j (by omega) q2⟩
          · exact .inr h1
      rcases hv with ⟨h1, h2⟩ | ⟨h1, h2, h3⟩
      · rw [decide_eq_true h1, Bool.true_or]
        exact ⟨fun _ => sat_yes h hc hs h2, fun _ => rfl⟩
      · rw [decide_eq_false (by omega), Bool.false_or, sat_same h hc, sat_two (by omega) h3, Bool.or_eq_true]
        have hvl : (vdn (spr c a).2 ((spr c a).2.length - 1)).toNat < (spr c a).2.length := by omega
        generalize (vdn (spr c a).2 ((spr c a).2.length - 1)).toNat = v at *
        have z1 := zer_set hvl h3 (y := 2) (by decide)
        have z2 := zer_set hvl h3 (y := 1) (by decide)
        rw [canF_iff f _ (ok_set p.ok hvl (by decide)) (by rw [List.length_set]; exact hcb) (by omega), canF_iff f _ (ok_set p.ok hvl (by decide)) (by rw [List.length_set]; exact hcb) (by omega)]
theorem sat_iff (h : OkA a) (hc : OkC a.length c) : satE c a = true ↔ Sat c a := canF_iff _ a h hc (by omega)
theorem can_no (h : OkA a) (hc : OkC a.length c) (hs : (spr c a).1 = false) : satE c a = false := by
  rw [← Bool.not_eq_true, sat_iff h hc]
  rintro ⟨F, h1, h2⟩
  rw [((sprI h hc).sat F h1 h2).2] at hs; cases hs
theorem can_same (h : OkA a) (hc : OkC a.length c) : satE c a = satE c (spr c a).2 := by
  have p := sprI h hc
  rw [Bool.eq_iff_iff, sat_iff h hc, sat_iff p.ok (by rw [p.len]; exact hc)]
  exact sat_same h hc
theorem can_yes (h : OkA a) (hc : OkC a.length c) (hs : (spr c a).1 = true) (hv : ∀ j, 1 ≤ j → j < (spr c a).2.length → (spr c a).2.getD j 0 ≠ 0) : satE c a = true := (sat_iff h hc).2 (sat_yes h hc hs hv)
theorem can_two {b : List Int} {v : Nat} (h : OkA b) (hc : OkC b.length c) (hb : v < b.length) (h0 : b.getD v 0 = 0) : satE c b = (satE c (b.set v 2) || satE c ((b.set v 2).set v 1)) := by
  rw [List.set_set, Bool.eq_iff_iff, Bool.or_eq_true, sat_iff h hc, sat_iff (ok_set h hb (by decide)) (by rw [List.length_set]; exact hc), sat_iff (ok_set h hb (by decide)) (by rw [List.length_set]; exact hc)]
  exact sat_two hb h0
end
end Go.Proofs.YtkkapbnopmmmjaaGreatDoor.Cn
namespace Go.Proofs.YtkkapbnopmmmjaaGreatDoor.Cn
open Go
section
variable {a l : List Int} {c : List (List Int)} {x m w : Int} {k i n : Nat}
theorem vl_1 (h : x > 0) : a.getD x.toNat 0 = valA a x := by unfold valA; rw [if_pos h]
theorem vl_2 (h : ¬ x > 0) : (3 - a.getD (-x).toNat 0).tmod 3 = valA a x := by unfold valA; rw [if_neg h]
theorem st_1 (h : x > 0) : a.set x.toNat 1 = setV a x := by unfold setV; rw [if_pos h]
theorem st_2 (h : ¬ x > 0) : a.set (-x).toNat 2 = setV a x := by unfold setV; rw [if_neg h]
theorem lk_t1 (h : valA a x = 1) : (if valA a x = 1 then (3 : Int) else m) = 3 := if_pos h
theorem lk_t0 (h : ¬ valA a x = 1) : (if valA a x = 1 then (3 : Int) else m) = m := if_neg h
theorem lk_c1 (hk : k < l.length) (hm : (if valA a (l.getD k 0) = 1 then (3 : Int) else (lk a l k).2) = w) (h : ((valA a (l.getD k 0) == 0) && ((l.getD k 0) != (lk a l k).1)) = true) : lk a l (k + 1) = (l.getD k 0, w + 1) := by
  rw [Bool.and_eq_true, beq_iff_eq, bne_iff_ne] at h
  rw [lk_next hk]; unfold lkS; rw [if_pos h, hm]
theorem lk_c0 (hk : k < l.length) (hm : (if valA a (l.getD k 0) = 1 then (3 : Int) else (lk a l k).2) = w) (h : ((valA a (l.getD k 0) == 0) && ((l.getD k 0) != (lk a l k).1)) = false) : lk a l (k + 1) = ((lk a l k).1, w) := by
  rw [Bool.and_eq_false_iff, beq_eq_false_iff_ne] at h
  rw [lk_next hk]; unfold lkS
  rw [if_neg (fun q => ?_), hm]
  rcases h with h | h
  · exact h q.1
  · exact Bool.noConfusion (h.symm.trans (bne_iff_ne.2 q.2))
theorem bnT {b : Bool} (h : (!b) = true) : b = false := by cases b; rfl; cases h
theorem bnF {b : Bool} (h : (!b) = false) : b = true := by cases b; cases h; rfl
theorem okc_x {N : Nat} (hc : OkC N c) (hi : i < c.length) (hk : k < (c.getD i []).length) : (c.getD i []).getD k 0 ≠ 0 ∧ ((c.getD i []).getD k 0).natAbs < N := hc _ (getD_memL hi) _ (getD_memL hk)
theorem okc_0 {N : Nat} (hc : OkC N c) (hi : i < c.length) : ∀ x ∈ c.getD i [], x ≠ 0 := fun x hx => (hc _ (getD_memL hi) x hx).1
theorem vdn_1 {b : List Int} (h : b.getD (b.length - 1 - n) 0 = 0) : vdn b (n + 1) = ((b.length - 1 - n : Nat) : Int) := by rw [vdn, if_pos h]
theorem vdn_0 {b : List Int} (h : ¬ b.getD (b.length - 1 - n) 0 = 0) : vdn b (n + 1) = vdn b n := by rw [vdn, if_neg h]
theorem vd_all {b : List Int} (hI : n + 1 ≤ b.length ∨ n = 0) (h : ¬ (((b.length : Int) - 1) - n) > 0) : (vdn b n = 0 ∧ ∀ j, 1 ≤ j → j < b.length → b.getD j 0 ≠ 0) ∨ (1 ≤ vdn b n ∧ vdn b n < b.length ∧ b.getD (vdn b n).toNat 0 = 0) := by
  by_cases hb : n + 1 ≤ b.length
  · rcases vdnI b n hb with ⟨h1, h2⟩ | h1
    · exact .inl ⟨h1, fun j q1 q2 => h2 j (by omega) q2⟩
    · exact .inr h1
  · have hn : n = 0 := by omega
    subst hn
    exact .inl ⟨rfl, fun j q1 q2 => by omega⟩
theorem vd_no {b : List Int} (h : (vdn b n = 0 ∧ ∀ j, 1 ≤ j → j < b.length → b.getD j 0 ≠ 0) ∨ (1 ≤ vdn b n ∧ vdn b n < b.length ∧ b.getD (vdn b n).toNat 0 = 0)) (h0 : vdn b n = 0) : ∀ j, 1 ≤ j → j < b.length → b.getD j 0 ≠ 0 := by
  rcases h with h | h
  · exact h.2
  · omega
theorem vd_is {b : List Int} (h : (vdn b n = 0 ∧ ∀ j, 1 ≤ j → j < b.length → b.getD j 0 ≠ 0) ∨ (1 ≤ vdn b n ∧ vdn b n < b.length ∧ b.getD (vdn b n).toNat 0 = 0)) (h0 : ¬ vdn b n = 0) : 1 ≤ vdn b n ∧ vdn b n < b.length ∧ b.getD (vdn b n).toNat 0 = 0 := by
  rcases h with h | h
  · exact absurd h.1 h0
  · exact h
end
end Go.Proofs.YtkkapbnopmmmjaaGreatDoor.Cn
