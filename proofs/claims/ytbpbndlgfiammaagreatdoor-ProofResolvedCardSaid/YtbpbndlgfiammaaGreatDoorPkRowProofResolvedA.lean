/- Lemmas and contracts for the row. -/
import Derived.WalkKit
import Derived.WalkSpells
import Derived.ArgAppend
import Derived.Deep.Draws
import Derived.Laws.OwnMore
import Derived.Lib.TrailingZeros
import Derived.Deep.AppendSrc
import Derived.MapKept
set_option linter.unusedVariables false
set_option linter.unusedSimpArgs false
set_option linter.unnecessarySimpa false
namespace Go.Proofs.YtbpbndlgfiammaaGreatDoor
open Go.RowKit
abbrev I64 (x : Int) : Value := .int .i64 x
theorem add_mk (b o i : Nat) : (⟨b, o, none⟩ : Addr).add i = ⟨b, o + i, none⟩ := by
  unfold Addr.add; split <;> simp_all
structure Kp (M : Nat → Prop) (w w' : World) : Prop where
  os : w'.os = w.os
  tape : w'.tape = w.tape
  output : w'.output = w.output
  size : w.heap.size ≤ w'.heap.size
  block : ∀ k, k < w.heap.size → ¬ M k → w'.heap[k]? = w.heap[k]?
section
variable {M M' : Nat → Prop} {w w' w'' : World}
theorem Kp.refl (M : Nat → Prop) (w : World) : Kp M w w := ⟨rfl, rfl, rfl, Nat.le_refl _, fun _ _ _ => rfl⟩
theorem Kp.trans (h : Kp M w w') (h' : Kp M' w' w'') (hm : ∀ k, k < w.heap.size → M' k → M k) : Kp M w w'' :=
  ⟨h'.os.trans h.os, h'.tape.trans h.tape, h'.output.trans h.output, Nat.le_trans h.size h'.size,
    fun k hk hn => (h'.block k (Nat.lt_of_lt_of_le hk h.size) (fun hq => hn (hm k hk hq))).trans (h.block k hk hn)⟩
theorem Kp.mono (h : Kp M w w') (hm : ∀ k, k < w.heap.size → M k → M' k) : Kp M' w w' :=
  ⟨h.os, h.tape, h.output, h.size, fun k hk hn => h.block k hk (fun hq => hn (hm k hk hq))⟩
theorem Kp.drewN (h : Kp M w w') (n : Nat) : Kp M w (w'.drewN n) := ⟨h.os, h.tape, h.output, h.size, h.block⟩
theorem Kp.drew (h : Kp M w w') : Kp M w w'.drew := ⟨h.os, h.tape, h.output, h.size, h.block⟩
theorem Kp.alloc (h : Kp M w w') (o : Obj) : Kp M w (w'.alloc o) :=
  ⟨h.os, h.tape, h.output, Nat.le_trans h.size (by simp), fun k hk hn => (Below.heap_alloc w' o k (Nat.lt_of_lt_of_le hk h.size)).trans (h.block k hk hn)⟩
theorem Kp.setCell (h : Kp M w w') {p : Addr} (hp : p.block < w.heap.size → M p.block) (u : Value) : Kp M w (w'.setCell p u) :=
  ⟨h.os, h.tape, h.output, by simpa [World.setCell] using h.size, fun k hk hn => (Below.heap_setCell w' p u k (by
    rintro rfl; exact hn (hp hk))).trans (h.block k hk hn)⟩
theorem Kp.grown {row : Option Nat} (h : Kp M w w') (hg : w'.grownBy w'' row) (hr : ∀ g, row = some g → g < w.heap.size → M g) : Kp M w w'' :=
  ⟨hg.os.trans h.os, hg.tape.trans h.tape, hg.output.trans h.output, Nat.le_trans h.size hg.size,
    fun k hk hn => (hg.block k (Nat.lt_of_lt_of_le hk h.size) (fun e => hn (hr k e.symm hk))).trans (h.block k hk hn)⟩
theorem Kp.below {B : Nat} (h : Kp M w w') (hm : ∀ k, k < B → k < w.heap.size → ¬ M k) (hB : B ≤ w.heap.size) : Below B w w' :=
  ⟨h.os, h.tape, h.output, h.size, fun k hk => h.block k (Nat.lt_of_lt_of_le hk hB) (hm k hk (Nat.lt_of_lt_of_le hk hB))⟩
theorem Kp.none_below (h : Kp (fun _ => False) w w') : Below w.heap.size w w' := h.below (fun _ _ _ h => h) (Nat.le_refl _)
theorem Kp.cell (h : Kp M w w') {p : Addr} (hp : p.block < w.heap.size) (hn : ¬ M p.block) : w'.cell? p = w.cell? p := World.cell?_of_block (h.block p.block hp hn)
theorem Kp.frozen (h : Kp M w w') {p : Addr} (hp : p.block < w.heap.size) (hn : ¬ M p.block) : w'.frozen? p = w.frozen? p := World.frozen?_of_block (h.block p.block hp hn)
end
def Rd {α : Type} (enc : α → Value) (D : Nat → Prop) (w : World) (A : Option Addr) (xs : List α) : Prop :=
  0 < xs.length → ∃ b off, A = some ⟨b, off, none⟩ ∧ D b ∧ ∀ j (h : j < xs.length), w.cell? ⟨b, off + j, none⟩ = some (enc xs[j])
section
variable {α : Type} {enc : α → Value} {D D' : Nat → Prop} {w w' : World} {A : Option Addr} {xs : List α}
theorem Rd.nil (A : Option Addr) : Rd enc D w A [] := fun h => by simp at h
theorem Rd.keep (h : Rd enc D w A xs) (hk : ∀ b, D b → w'.heap[b]? = w.heap[b]?) (hd : ∀ b, D b → D' b) : Rd enc D' w' A xs := fun hn => by
  obtain ⟨b, off, e, hb, hc⟩ := h hn
  exact ⟨b, off, e, hd _ hb, fun j hj => (World.cell?_of_block (hk _ hb)).trans (hc j hj)⟩
theorem Rd.mono (h : Rd enc D w A xs) (hd : ∀ b, D b → D' b) : Rd enc D' w A xs := h.keep (fun _ _ => rfl) hd
theorem Rd.drewN (h : Rd enc D w A xs) (n : Nat) : Rd enc D (w.drewN n) A xs := h
theorem Rd.lt (h : Rd enc D w A xs) : Rd enc (fun b => D b ∧ b < w.heap.size) w A xs := fun hn => by
  obtain ⟨b, off, e, hb, hc⟩ := h hn
  exact ⟨b, off, e, ⟨hb, World.block_lt_of_cell? w _ (hc 0 hn)⟩, hc⟩
theorem Rd.below {B : Nat} (h : Rd enc (· < B) w A xs) (hb : Below B w w') : Rd enc (· < B) w' A xs := h.keep (fun b hlt => hb.block b hlt) (fun _ h => h)
theorem Rd.at_ (h : Rd enc D w A xs) {k : Nat} (hk : k < xs.length) : ∃ b off, A = some ⟨b, off, none⟩ ∧ D b ∧ w.cell? ⟨b, off + k, none⟩ = some (enc xs[k]) := by
  obtain ⟨b, off, e, hb, hc⟩ := h (by omega)
  exact ⟨b, off, e, hb, hc k hk⟩
theorem Rd.take (h : Rd enc D w A xs) (k : Nat) : Rd enc D w A (xs.take k) := fun hn => by
  simp only [List.length_take] at hn
  obtain ⟨b, off, e, hb, hc⟩ := h (by omega)
  exact ⟨b, off, e, hb, fun j hj => by simp only [List.length_take] at hj; rw [List.getElem_take]; exact hc j (by omega)⟩
end
def RdL (D : Nat → Prop) (w : World) (A : Option Addr) (xss : List (List Int)) : Prop :=
  0 < xss.length → ∃ b off, A = some ⟨b, off, none⟩ ∧ D b ∧ ∀ j (h : j < xss.length), ∃ A' c', w.cell? ⟨b, off + j, none⟩ = some (.slice A' xss[j].length c') ∧ xss[j].length ≤ c' ∧ Rd I64 D w A' xss[j]
section
variable {D D' : Nat → Prop} {w w' : World} {A : Option Addr} {xss : List (List Int)}
theorem RdL.nil (A : Option Addr) : RdL D w A [] := fun h => by simp at h
theorem RdL.keep (h : RdL D w A xss) (hk : ∀ b, D b → w'.heap[b]? = w.heap[b]?) (hd : ∀ b, D b → D' b) : RdL D' w' A xss := fun hn => by
  obtain ⟨b, off, e, hb, hc⟩ := h hn
  refine ⟨b, off, e, hd _ hb, fun j hj => ?_⟩
  obtain ⟨A', c', h1, h2, h3⟩ := hc j hj
  exact ⟨A', c', (World.cell?_of_block (hk _ hb)).trans h1, h2, h3.keep hk hd⟩
theorem RdL.mono (h : RdL D w A xss) (hd : ∀ b, D b → D' b) : RdL D' w A xss := h.keep (fun _ _ => rfl) hd
theorem RdL.below {B : Nat} (h : RdL (· < B) w A xss) (hb : Below B w w') : RdL (· < B) w' A xss := h.keep (fun b hlt => hb.block b hlt) (fun _ h => h)
end
def MkOk (e : TypeId) (n : Nat) (mk : Nat × Nat) : Prop := mk = (0, 0) ∨ (e = 5 ∧ n ≤ mk.1)
def RowAt (w : World) (g : Nat) (e : TypeId) (cur : Array Value) : Prop := ∃ mk, w.heap[g]? = some (.cells cur e mk) ∧ MkOk e cur.size mk
section
variable {w w' : World} {g i o : Nat} {e : TypeId} {cur cs : Array Value}
theorem RowAt.mk0 (h : w.heap[g]? = some (.cells cur e (0, 0))) : RowAt w g e cur := ⟨_, h, .inl rfl⟩
theorem RowAt.cell (h : RowAt w g e cur) (i : Nat) : w.cell? ⟨g, i, none⟩ = cur[i]? := by obtain ⟨mk, h, _⟩ := h; exact cell_of_row w g i cur e mk h
theorem RowAt.frozen (h : RowAt w g e cur) (hi : i < cur.size) : w.frozen? ⟨g, i, none⟩ = false := by
  obtain ⟨mk, h, hk⟩ := h
  unfold World.frozen?
  rw [h]
  rcases hk with rfl | ⟨_, h2⟩
  · simp
  · have : ¬ mk.1 ≤ i := by omega
    simp [this]
theorem RowAt.keep (h : RowAt w g e cur) (hk : w'.heap[g]? = w.heap[g]?) : RowAt w' g e cur := by obtain ⟨mk, h, hm⟩ := h; exact ⟨mk, hk.trans h, hm⟩
theorem RowAt.lt (h : RowAt w g e cur) : g < w.heap.size := by obtain ⟨mk, h, _⟩ := h; exact (Array.getElem?_eq_some_iff.1 h).1
theorem RowAt.plain (h : RowAt w g e cur) (he : e ≠ 5) : w.heap[g]? = some (.cells cur e (0, 0)) := by
  obtain ⟨mk, h, hm⟩ := h
  rcases hm with rfl | ⟨h2, _⟩
  · exact h
  · exact absurd h2 he
theorem RowAt.setRow (h : RowAt w g e cur) (hs : cs.size = cur.size) : RowAt (w.setRow g cs) g e cs := by
  obtain ⟨mk, h, hm⟩ := h
  exact ⟨mk, setRow_heap w g cur cs e mk h, by unfold MkOk at hm ⊢; rw [hs]; exact hm⟩
theorem RowAt.setCell (h : RowAt w g e cur) (i : Nat) (u : Value) : RowAt (w.setCell ⟨g, i, none⟩ u) g e (cur.setIfInBounds i u) := by
  have hr := h.setRow (cs := cur.setIfInBounds i u) (by simp)
  obtain ⟨mk, h, hm⟩ := h
  rwa [setCell_eq_setRow w g i cur e mk u h]
theorem RowAt.store : ∀ (vs : List Value) (o : Nat) (cur : Array Value) (w : World), RowAt w g e cur → o + vs.length ≤ cur.size →
    w.setCells g o vs = w.setRow g (cur.toList.take o ++ vs ++ cur.toList.drop (o + vs.length)).toArray
  | [], o, cur, w, h, _ => by
    obtain ⟨mk, h, _⟩ := h
    simp only [World.setCells, List.append_nil, List.length_nil, Nat.add_zero, List.take_append_drop, Array.toArray_toList]
    rw [setRow_self w g cur e mk h]
  | v :: r, o, cur, w, h, hl => by
    have h2 := h.setRow (cs := cur.setIfInBounds o v) (by simp)
    have ih := RowAt.store r (o + 1) _ _ h2 (by simp at hl ⊢; omega)
    obtain ⟨mk, h, _⟩ := h
    rw [World.setCells, setCell_eq_setRow w g o cur e mk v h, ih, setRow_setRow]
    congr 2
    have e := list_seg_step cur.toList o v r (by simp at hl ⊢; omega)
    simpa [Array.toList_setIfInBounds, Nat.add_assoc] using e
end
def Own (w : World) (e : TypeId) (v : Value) (xs : List Value) : Prop :=
  (v = .slice none 0 0 ∧ xs = []) ∨ ∃ g off cap cur, v = .slice (some ⟨g, off, none⟩) xs.length cap ∧ RowAt w g e cur ∧ xs.length ≤ cap ∧ cap ≤ maxLen ∧
    off + cap ≤ cur.size ∧ ∀ j (h : j < xs.length), cur[off + j]? = some xs[j]
section
variable {w w' : World} {e : TypeId} {v : Value} {xs : List Value}
theorem Own.nil (w : World) (e : TypeId) : Own w e (.slice none 0 0) [] := .inl ⟨rfl, rfl⟩
theorem Own.keep (h : Own w e v xs) (hk : ∀ g, v.ownBlock = some g → w'.heap[g]? = w.heap[g]?) : Own w' e v xs := by
  rcases h with h | ⟨g, off, cap, cur, rfl, hg, h1, h2, h3, h4⟩
  · exact .inl h
  · exact .inr ⟨g, off, cap, cur, rfl, hg.keep (hk g (by simp [Value.ownBlock])), h1, h2, h3, h4⟩
theorem Own.lt (h : Own w e v xs) {g : Nat} (hg : v.ownBlock = some g) : g < w.heap.size := by
  rcases h with ⟨rfl, _⟩ | ⟨g', off, cap, cur, rfl, hh, _⟩
  · simp [Value.ownBlock] at hg
  · have : g' = g := by simpa [Value.ownBlock] using hg
    subst this
    exact hh.lt
theorem Own.type (h : Own w e v xs) {g : Nat} (hg : v.ownBlock = some g) : ∃ cur, RowAt w g e cur := by
  rcases h with ⟨rfl, _⟩ | ⟨g', off, cap, cur, rfl, hh, _⟩
  · simp [Value.ownBlock] at hg
  · have : g' = g := by simpa [Value.ownBlock] using hg
    subst this
    exact ⟨cur, hh⟩
theorem Own.form (h : Own w e v xs) : ∃ A cap, v = .slice A xs.length cap ∧ xs.length ≤ cap := by
  rcases h with ⟨rfl, rfl⟩ | ⟨g, off, cap, cur, rfl, _, h1, _⟩
  · exact ⟨none, 0, rfl, Nat.le_refl _⟩
  · exact ⟨_, cap, rfl, h1⟩
theorem Own.grown (h : Own w e v xs) {row : Option Nat} (hg : w.grownBy w' row) (hne : v.ownBlock = none ∨ v.ownBlock ≠ row) : Own w' e v xs :=
  h.keep fun g hgo => hg.block g (h.lt hgo) (by rw [← hgo]; rcases hne with h | h; · rw [hgo] at h; cases h
                                                · exact h)
theorem Own.alloc (h : Own w e v xs) (o : Obj) : Own (w.alloc o) e v xs := h.keep fun g hg => Below.heap_alloc w o g (h.lt hg)
theorem Own.drew (h : Own w e v xs) : Own w.drew e v xs := h
theorem Own.drewN (h : Own w e v xs) (n : Nat) : Own (w.drewN n) e v xs := h
theorem Own.of_row {base n : Nat} (h : w.ownsRow base e 1 v n xs) : Own w e v xs := by
  obtain ⟨hl, h⟩ := h
  simp only [Nat.mul_one] at hl h
  subst hl
  rcases h with ⟨rfl, h0⟩ | ⟨g, cap, cur, rfl, _, hg, h1, h2, h3, h4⟩
  · exact .inl ⟨rfl, List.eq_nil_of_length_eq_zero h0⟩
  · refine .inr ⟨g, 0, cap, cur, rfl, .mk0 hg, h1, h2, by omega, fun j hj => ?_⟩
    have : xs[j] = (cur.toList.take xs.length)[j]'(by rw [h4]; exact hj) := by simp only [h4]
    rw [this, List.getElem_take, Nat.zero_add]
    simp
theorem Own.cell (h : Own w e v xs) : ∃ A cap, v = .slice A xs.length cap ∧ xs.length ≤ cap ∧ ∀ j (hj : j < xs.length), ∃ b off, A = some ⟨b, off, none⟩ ∧ v.ownBlock = some b ∧ w.cell? ⟨b, off + j, none⟩ = some xs[j] := by
  rcases h with ⟨rfl, rfl⟩ | ⟨g, off, cap, cur, rfl, hg, h1, _, _, h4⟩
  · exact ⟨none, 0, rfl, Nat.le_refl _, fun j hj => by simp at hj⟩
  · refine ⟨_, cap, rfl, h1, fun j hj => ⟨_, _, rfl, rfl, ?_⟩⟩
    rw [hg.cell (off + j)]
    exact h4 j hj
theorem Own.rd {α : Type} {enc : α → Value} {ys : List α} (h : Own w e v (ys.map enc)) : ∃ A cap, v = .slice A ys.length cap ∧ ys.length ≤ cap ∧ Rd enc (fun b => v.ownBlock = some b) w A ys := by
  obtain ⟨A, cap, h1, h2, h3⟩ := h.cell
  simp only [List.length_map] at h1 h2 h3
  refine ⟨A, cap, h1, h2, fun hn => ?_⟩
  obtain ⟨b, off, e1, hb, _⟩ := h3 0 hn
  refine ⟨b, off, e1, hb, fun j hj => ?_⟩
  obtain ⟨b', off', e2, _, hc⟩ := h3 j hj
  rw [e1] at e2
  cases e2
  rw [List.getElem_map] at hc
  exact hc
end
section
variable {P : Program} (w : World)
theorem run_append_Own (t ty e : TypeId) (i : TypeInfo) (z : Value) (bytes : Nat) (ht : P.underlying t = some (.slice e)) (hi : P.info? e = some i) (hz : i.zero = some z)
    (hsize : i.size = 1) (hby : i.bytes = bytes) (hzs : z.cells.size = 1)
    (v : Value) (xs : List Value) (hown : Own w e v xs)
    (a : Addr) (m c : Nat) (news : List Value) (hl : news.length = m) (hnews : ∀ j u, news[j]? = some u → w.cell? (a.add j) = some u) (h1 : ∀ u ∈ news, u.oneCell' = true)
    (h63 : xs.length + m ≤ maxLen) (hbytes : (xs.length + m) * bytes ≤ 140737488355328) :
    ∃ v' w', (Builtin.append_ #[t, t] ty #[v, .slice (some a) m c]).run P w = .ok v' w' ∧ Own w' e v' (xs ++ news) ∧ w.grownBy w' v.ownBlock ∧
      (v'.ownBlock = v.ownBlock ∨ v'.ownBlock = some w.heap.size) ∧ (v' = .slice none 0 0 ↔ v = .slice none 0 0 ∧ m = 0) := by
  rcases hown with ⟨rfl, rfl⟩ | ⟨g, off, cap, cur, rfl, hg, hnc, hcm, hfit, hcs⟩
  · obtain ⟨v', w', hr, h2, h3, h4⟩ := run_append_own (P := P) w w.heap.size t ty e i z 1 bytes ht hi hz hsize hby hzs (by omega) (.slice none 0 0) 0 [] (World.ownsRow_nil w _ e 1) a m c news (by omega) hnews h1
      (by simpa using h63) (by simpa using hbytes) (Nat.le_refl _)
    refine ⟨v', w', hr, Own.of_row h2, h3, ?_, h4⟩
    rcases h2.2 with ⟨rfl, _⟩ | ⟨g', cap', cur', rfl, hb, hg', _⟩
    · exact .inl rfl
    · by_cases hm : m = 0
      · have := h4.2 ⟨rfl, hm⟩
        simp at this
      · right
        have hsz : ∀ k, w.heap.size + 1 ≤ k → w'.heap[k]? = none := by
          intro k hk
          have hr2 := hr
          have hru := run_append_nil (P := P) w t ty e i z ht hi hz a m c news (by rw [hl, hsize]; omega) hnews (by omega) (by simp only [maxLen] at h63; omega) (by rw [hby]; simp at hbytes; omega)
          rw [hru] at hr2
          injection hr2 with _ hw
          rw [← hw]
          simp
          omega
        have : g' < w.heap.size + 1 := by
          rcases Nat.lt_or_ge g' (w.heap.size + 1) with h | h
          · exact h
          · rw [hsz g' h] at hg'; cases hg'
        simp [Value.ownBlock]
        omega
  · have holds : ∀ j u, xs[j]? = some u → w.cell? ⟨g, off + j, none⟩ = some u := by
      intro j u hu
      obtain ⟨hj, rfl⟩ := List.getElem?_eq_some_iff.1 hu
      rw [hg.cell (off + j)]
      exact hcs j hj
    by_cases hroom : xs.length + m ≤ cap
    · have hcell : ∀ j, j < news.length → (w.cell? ⟨g, off + xs.length * i.size + j, none⟩).isSome = true := fun j hj => by
        rw [hg.cell, hsize, Array.getElem?_eq_getElem (by omega)]; rfl
      have hfz : ∀ j, j < news.length → w.frozen? ⟨g, off + xs.length * i.size + j, none⟩ = false := fun j hj => hg.frozen (by rw [hsize]; omega)
      have hr := run_append_room_cells (P := P) w t ty e i ht hi g off xs.length cap a m c news (by rw [hl, hsize]; omega) hnews h1 hroom hcell hfz
      refine ⟨_, _, hr, ?_, ?_, .inl rfl, by simp⟩
      · refine .inr ⟨g, off, cap, (cur.toList.take (off + xs.length) ++ news ++ cur.toList.drop (off + xs.length + news.length)).toArray, by simp [hl], ?_, by simp [hl]; omega, hcm, by simp; omega, fun j hj => ?_⟩
        · rw [hsize, Nat.mul_one, RowAt.store news (off + xs.length) cur w hg (by omega)]
          exact hg.setRow (by simp; omega)
        · simp only [List.length_append] at hj
          simp only [List.getElem?_toArray]
          rw [List.append_assoc, List.getElem?_append]
          by_cases hjx : j < xs.length
          · rw [if_pos (by simp; omega), List.getElem?_take, if_pos (by omega)]
            rw [List.getElem_append_left hjx, ← hcs j hjx]
            simp
          · rw [if_neg (by simp; omega), List.getElem?_append_left (by simp; omega), List.getElem_append_right (by omega)]
            have : off + j - (cur.toList.take (off + xs.length)).length = j - xs.length := by simp; omega
            rw [this, List.getElem?_eq_getElem (by omega)]
      · rw [hsize, Nat.mul_one, RowAt.store news (off + xs.length) cur w hg (by omega)]
        exact ⟨rfl, rfl, rfl, by simp, fun k _ hk => setRow_other w g k _ (fun e => hk (by simp [Value.ownBlock, e]))⟩
    · obtain ⟨v', w', hr, h2, h3⟩ := run_append_arg_grows (P := P) w t ty e i z 1 bytes ht hi hz hsize hby hzs (by omega) ⟨g, off, none⟩ xs.length cap xs (by omega) (fun j u hu => by rw [add_mk]; exact holds j u hu) a m c news (by omega) hnews (by omega) h63 hbytes
      refine ⟨v', w', hr, Own.of_row h2, ⟨h3.os, h3.tape, h3.output, h3.size, fun k hk _ => h3.block k hk (by simp)⟩, ?_, ?_⟩
      · right
        have hru := run_append_grow (P := P) w t ty e i z ht hi hz ⟨g, off, none⟩ xs.length cap xs (by rw [hsize]; omega) (fun j u hu => by rw [add_mk]; exact holds j u hu) a m c news (by rw [hl, hsize]; omega) hnews (by omega) (by simp only [maxLen] at h63; omega) (growslice_fits (by omega) (by rw [hby]; exact hbytes))
        rw [hru] at hr
        injection hr with hv _
        rw [← hv]
        rfl
      · rcases h2.2 with ⟨rfl, h0⟩ | ⟨g', cap', cur', rfl, _⟩
        · omega
        · simp
end
def Blk (w : World) (g : Nat) (t : TypeId) (cs : Array Value) : Prop := w.heap[g]? = some (.cells cs t (0, 0))
section
variable {w w' : World} {g : Nat} {t : TypeId} {cs : Array Value}
theorem Blk.lt (h : Blk w g t cs) : g < w.heap.size := (Array.getElem?_eq_some_iff.1 h).1
theorem Blk.cell (h : Blk w g t cs) (i : Nat) : w.cell? ⟨g, i, none⟩ = cs[i]? := cell_of_row w g i cs t (0, 0) h
theorem Blk.frozen (h : Blk w g t cs) (i : Nat) : w.frozen? ⟨g, i, none⟩ = false := by unfold Blk at h; simp [World.frozen?, h]
theorem Blk.drew (h : Blk w g t cs) : Blk w.drew g t cs := h
theorem Blk.drewN (h : Blk w g t cs) (n : Nat) : Blk (w.drewN n) g t cs := h
theorem Blk.alloc (h : Blk w g t cs) (o : Obj) : Blk (w.alloc o) g t cs := (Below.heap_alloc w o g h.lt).trans h
theorem Blk.set_ (h : Blk w g t cs) (i : Nat) (u : Value) : Blk (w.setCell ⟨g, i, none⟩ u) g t (cs.setIfInBounds i u) := by
  unfold Blk at h ⊢
  simp [World.setCell, Array.getElem?_modify, h]
theorem Blk.far (h : Blk w g t cs) {p : Addr} (hp : g ≠ p.block) (u : Value) : Blk (w.setCell p u) g t cs := (Below.heap_setCell w p u g hp).trans h
theorem Blk.kp {M : Nat → Prop} (h : Blk w g t cs) (hk : Kp M w w') (hg : ¬ M g) : Blk w' g t cs := (hk.block g h.lt hg).trans h
theorem Blk.grown {row : Option Nat} (h : Blk w g t cs) (hb : w.grownBy w' row) (hg : some g ≠ row) : Blk w' g t cs := (hb.block g h.lt hg).trans h
end
theorem Own.far {w : World} {e : TypeId} {v : Value} {xs : List Value} (h : Own w e v xs) {p : Addr} (hp : v.ownBlock ≠ some p.block) (u : Value) : Own (w.setCell p u) e v xs :=
  h.keep fun g hg => Below.heap_setCell w p u g (fun he => hp (by rw [hg, he]))
theorem Own.kp {M : Nat → Prop} {w w' : World} {e : TypeId} {v : Value} {xs : List Value} (h : Own w e v xs) (hk : Kp M w w') (hm : ∀ g, v.ownBlock = some g → ¬ M g) : Own w' e v xs :=
  h.keep fun g hg => hk.block g (h.lt hg) (hm g hg)
theorem wp_appends {P : Program} (w : World) {o : Oper} {a : Act} {K : Act → World → Prop} {Q : Exit → Act → World → Prop} (s x : Operand) (t : TypeId)
    (ho : o.op = .call { callee := .builtin .append, args := #[s, x], argTypes := #[t, t] })
    (e : TypeId) (i : TypeInfo) (z : Value) (bytes : Nat) (ht : P.underlying t = some (.slice e)) (hi : P.info? e = some i) (hz : i.zero = some z)
    (hsize : i.size = 1) (hby : i.bytes = bytes) (hzs : z.cells.size = 1)
    (v : Value) (xs : List Value) (hs : a.eval s = v) (hown : Own w e v xs)
    (ad : Addr) (c : Nat) (news : List Value) (hx : a.eval x = .slice (some ad) news.length c) (hc : ∀ j u, news[j]? = some u → w.cell? (ad.add j) = some u) (h1 : ∀ u ∈ news, u.oneCell' = true)
    (h63 : xs.length + news.length ≤ maxLen) (hbytes : (xs.length + news.length) * bytes ≤ 140737488355328)
    (h : ∀ A cap w', Own w' e (.slice A (xs.length + news.length) cap) (xs ++ news) → w.grownBy w' v.ownBlock → (∀ g, (Value.slice A (xs.length + news.length) cap).ownBlock = some g → v.ownBlock = some g ∨ g = w.heap.size) →
      K (a.put o.dst (.slice A (xs.length + news.length) cap)) w') : o.wp P a w K Q := by
  obtain ⟨v', w', hr, h2, h3, h4, h5⟩ := run_append_Own (P := P) w t o.type e i z bytes ht hi hz hsize hby hzs v xs hown ad _ c news rfl hc h1 h63 hbytes
  obtain ⟨A, cap, hform, _⟩ := h2.form
  rw [List.length_append] at hform
  subst hform
  unfold Oper.wp execOp
  simp only [ho, resolve, invoke, builtin, Sem.run_bind, Sem.run_pure, Result.andThen_ok, List.map_toArray, List.map_cons, List.map_nil, hs, hx, hr]
  exact h A cap w' h2 h3 (fun g hg => by
    rcases h4 with h4 | h4
    · left; rw [← h4]; exact hg
    · right; rw [hg] at h4; injection h4)
theorem Own.empty (w : World) (e : TypeId) : Own (w.alloc (.cells #[] e)) e (.slice (some ⟨w.heap.size, 0, none⟩) 0 0) [] :=
  .inr ⟨w.heap.size, 0, 0, #[], rfl, .mk0 (heap_alloc_new w _), Nat.le_refl _, Nat.zero_le _, Nat.le_refl _, fun j h => by simp at h⟩
theorem Own.set_ {w : World} {e : TypeId} {g off n c i : Nat} {xs : List Value} (h : Own w e (.slice (some ⟨g, off, none⟩) n c) xs) (hi : i < xs.length) (u : Value) :
    Own (w.setCell ⟨g, off + i, none⟩ u) e (.slice (some ⟨g, off, none⟩) n c) (xs.set i u) := by
  rcases h with ⟨h, _⟩ | ⟨g', off', cap, cur, hv, hg, h1, h2, h3, h4⟩
  · cases h
  · injection hv with ha hn hc
    injection ha with ha
    injection ha with hb ho
    subst hb ho hc
    refine .inr ⟨g, off, c, cur.setIfInBounds (off + i) u, by rw [hn, List.length_set], ?_, by rw [List.length_set]; exact h1, h2, by simpa using h3, fun j hj => ?_⟩
    · exact hg.setCell (off + i) u
    · rw [List.length_set] at hj
      rw [List.getElem_set, Array.getElem?_setIfInBounds]
      by_cases hij : i = j
      · subst hij
        rw [if_pos rfl, if_pos rfl, if_pos (by omega)]
      · rw [if_neg (by omega), if_neg hij]
        exact h4 j hj
theorem Own.at_ {w : World} {e : TypeId} {g off n c i : Nat} {xs : List Value} (h : Own w e (.slice (some ⟨g, off, none⟩) n c) xs) (hi : i < xs.length) :
    w.cell? ⟨g, off + i, none⟩ = some xs[i] ∧ w.frozen? ⟨g, off + i, none⟩ = false := by
  rcases h with ⟨h, _⟩ | ⟨g', off', cap, cur, hv, hg, h1, h2, h3, h4⟩
  · cases h
  · injection hv with ha hn hc
    injection ha with ha
    injection ha with hb ho
    subst hb ho hc
    exact ⟨(hg.cell _).trans (h4 i hi), hg.frozen (by omega)⟩
theorem Own.addr {w : World} {e : TypeId} {A : Option Addr} {n c : Nat} {xs : List Value} (h : Own w e (.slice A n c) xs) (hn : 0 < n) : ∃ g off, A = some ⟨g, off, none⟩ := by
  rcases h with ⟨h, _⟩ | ⟨g', off', cap, cur, hv, _⟩
  · injection h with _ h; omega
  · injection hv with ha
    exact ⟨g', off', ha⟩
theorem Own.len {w : World} {e : TypeId} {A : Option Addr} {n c : Nat} {xs : List Value} (h : Own w e (.slice A n c) xs) : xs.length = n ∧ n ≤ c := by
  obtain ⟨A', c', hv, hc⟩ := h.form
  injection hv with _ h1 h2
  subst h1 h2
  exact ⟨rfl, hc⟩
end Go.Proofs.YtbpbndlgfiammaaGreatDoor
namespace Go.Proofs.YtbpbndlgfiammaaGreatDoor.En
open Go
def g_pow10 : List Int := [1, 10, 100, 1000, 10000, 100000, 1000000, 10000000, 100000000, 1000000000, 10000000000, 100000000000, 1000000000000, 10000000000000, 100000000000000, 1000000000000000, 10000000000000000, 100000000000000000, 1000000000000000000, 10000000000000000000]
def g_first : List Int := [240, 240, 240, 240, 240, 240, 240, 240, 240, 240, 240, 240, 240, 240, 240, 240, 240, 240, 240, 240, 240, 240, 240, 240, 240, 240, 240, 240, 240, 240, 240, 240, 240, 240, 240, 240, 240, 240, 240, 240, 240, 240, 240, 240, 240, 240, 240, 240, 240, 240, 240, 240, 240, 240, 240, 240, 240, 240, 240, 240, 240, 240, 240, 240, 240, 240, 240, 240, 240, 240, 240, 240, 240, 240, 240, 240, 240, 240, 240, 240, 240, 240, 240, 240, 240, 240, 240, 240, 240, 240, 240, 240, 240, 240, 240, 240, 240, 240, 240, 240, 240, 240, 240, 240, 240, 240, 240, 240, 240, 240, 240, 240, 240, 240, 240, 240, 240, 240, 240, 240, 240, 240, 240, 240, 240, 240, 240, 240, 241, 241, 241, 241, 241, 241, 241, 241, 241, 241, 241, 241, 241, 241, 241, 241, 241, 241, 241, 241, 241, 241, 241, 241, 241, 241, 241, 241, 241, 241, 241, 241, 241, 241, 241, 241, 241, 241, 241, 241, 241, 241, 241, 241, 241, 241, 241, 241, 241, 241, 241, 241, 241, 241, 241, 241, 241, 241, 241, 241, 241, 241, 241, 241, 241, 241, 2, 2, 2, 2, 2, 2, 2, 2, 2, 2, 2, 2, 2, 2, 2, 2, 2, 2, 2, 2, 2, 2, 2, 2, 2, 2, 2, 2, 2, 2, 19, 3, 3, 3, 3, 3, 3, 3, 3, 3, 3, 3, 3, 35, 3, 3, 52, 4, 4, 4, 68, 241, 241, 241, 241, 241, 241, 241, 241, 241, 241, 241]
def g_accept : List Int := [128, 191, 160, 191, 128, 159, 144, 191, 128, 143, 0, 0, 0, 0, 0, 0, 0, 0, 0, 0, 0, 0, 0, 0, 0, 0, 0, 0, 0, 0, 0, 0]
def glb : List (Nat × List Value) := [(1, g_pow10.map (Value.int .u64)), (6, g_first.map (Value.int .u8)), (7, g_accept.map (Value.int .u8)), (0, []), (2, []), (3, [])]
def glwL : List (Nat × Nat) := [(0, 1), (2, 2), (3, 2)]
end Go.Proofs.YtbpbndlgfiammaaGreatDoor.En
namespace Go.Proofs.YtbpbndlgfiammaaGreatDoor
open Go
def SrcAt (w : World) (A : Option Addr) (news : List Value) : Prop := (news = [] ∧ A = none) ∨ ∃ ad, A = some ad ∧ ∀ j u, news[j]? = some u → w.cell? (ad.add j) = some u
section
variable {P : Program} (w : World)
theorem run_append_none (t ty e : TypeId) (i : TypeInfo) (ht : P.underlying t = some (.slice e)) (hi : P.info? e = some i) (v : Value) (xs : List Value) (hown : Own w e v xs) (c : Nat) :
    (Builtin.append_ #[t, t] ty #[v, .slice none 0 c]).run P w = .ok v w := by
  rcases hown with ⟨rfl, rfl⟩ | ⟨g, off, cap, cur, rfl, hg, hnc, hcm, hfit, hcs⟩
  · simp [Builtin.append_, run_underlying ht, sizeOf, typeInfo, hi, (Src.ofNil (P := P) w (size := i.size) ht c).len, (Src.ofNil (P := P) w (size := i.size) ht c).cells]
  · have := run_append_room_src (P := P) w t t ty e i ht hi g off xs.length cap (.slice none 0 c) 0 [] (Src.ofNil w ht c) (by omega) (by simp) (by simp)
    rw [this]
    rfl
theorem wp_appendR {o : Oper} {a : Act} {K : Act → World → Prop} {Q : Exit → Act → World → Prop} (s x : Operand) (t : TypeId)
    (ho : o.op = .call { callee := .builtin .append, args := #[s, x], argTypes := #[t, t] })
    (e : TypeId) (i : TypeInfo) (z : Value) (bytes : Nat) (ht : P.underlying t = some (.slice e)) (hi : P.info? e = some i) (hz : i.zero = some z)
    (hsize : i.size = 1) (hby : i.bytes = bytes) (hzs : z.cells.size = 1)
    (v : Value) (xs : List Value) (n : Nat) (hlen : xs.length = n) (hs : a.eval s = v) (hown : Own w e v xs)
    (A : Option Addr) (c : Nat) (news : List Value) (m : Nat) (hm : news.length = m) (hx : a.eval x = .slice A m c) (hc : SrcAt w A news) (h1 : ∀ u ∈ news, u.oneCell' = true)
    (h63 : n + m ≤ maxLen) (hbytes : (n + m) * bytes ≤ 140737488355328)
    (h : ∀ A' cap w', Own w' e (.slice A' (n + m) cap) (xs ++ news) → w.grownBy w' v.ownBlock → (∀ g, (Value.slice A' (n + m) cap).ownBlock = some g → v.ownBlock = some g ∨ g = w.heap.size) →
      K (a.put o.dst (.slice A' (n + m) cap)) w') : o.wp P a w K Q := by
  subst hlen hm
  rcases hc with ⟨rfl, rfl⟩ | ⟨ad, rfl, hc⟩
  · obtain ⟨A', cap, rfl, _⟩ := hown.form
    have hr := run_append_none (P := P) w t o.type e i ht hi _ xs hown c
    unfold Oper.wp execOp
    simp only [ho, resolve, invoke, builtin, Sem.run_bind, Sem.run_pure, Result.andThen_ok, List.map_toArray, List.map_cons, List.map_nil, hs, hx, List.length_nil, hr]
    exact h A' cap w (by simpa using hown) ⟨rfl, rfl, rfl, Nat.le_refl _, fun _ _ _ => rfl⟩ (fun g hg => .inl hg)
  · exact wp_appends w s x t ho e i z bytes ht hi hz hsize hby hzs v xs hs hown ad c news hx hc h1 h63 hbytes h
theorem wpList_appendR {ops : Array Oper} {rest : List Oper} {o : Oper} {a : Act} {Q : Exit → Act → World → Prop} (hgd : o.guard = none) (s x : Operand) (t : TypeId)
    (ho : o.op = .call { callee := .builtin .append, args := #[s, x], argTypes := #[t, t] })
    (e : TypeId) (i : TypeInfo) (z : Value) (bytes : Nat) (ht : P.underlying t = some (.slice e)) (hi : P.info? e = some i) (hz : i.zero = some z)
    (hsize : i.size = 1) (hby : i.bytes = bytes) (hzs : z.cells.size = 1)
    (v : Value) (xs : List Value) (n : Nat) (hlen : xs.length = n) (hs : a.eval s = v) (hown : Own w e v xs)
    (A : Option Addr) (c : Nat) (news : List Value) (m : Nat) (hm : news.length = m) (hx : a.eval x = .slice A m c) (hc : SrcAt w A news) (h1 : ∀ u ∈ news, u.oneCell' = true)
    (h63 : n + m ≤ maxLen) (hbytes : (n + m) * bytes ≤ 140737488355328)
    (h : ∀ A' cap w', Own w' e (.slice A' (n + m) cap) (xs ++ news) → w.grownBy w' v.ownBlock → (∀ g, (Value.slice A' (n + m) cap).ownBlock = some g → v.ownBlock = some g ∨ g = w.heap.size) →
      wpList P ops Q rest (a.put o.dst (.slice A' (n + m) cap)) w') : wpList P ops Q (o :: rest) a w :=
  wpList_plain hgd fun _ hK => wp_appendR w s x t ho e i z bytes ht hi hz hsize hby hzs v xs n hlen hs hown A c news m hm hx hc h1 h63 hbytes fun A' cap w' h2 h3 h4 => hK _ _ (h A' cap w' h2 h3 h4)
end
end Go.Proofs.YtbpbndlgfiammaaGreatDoor
namespace Go.Proofs.YtbpbndlgfiammaaGreatDoor
open Go.RowKit
def keyIs (k : Int) (e : MapEntry) : Bool := match e.key with | .int .i64 a => a == k | _ => false
def lookM (es : List MapEntry) (k : Int) : Option Value := (es.find? (keyIs k)).map (·.val)
def intKeys (es : List MapEntry) : Prop := ∀ e ∈ es, ∃ a, e.key = .int .i64 a
def MapI (w : World) (m : Nat) (f : Int → Option Value) : Prop := ∃ es clock, w.heap[m]? = some (.map es clock) ∧ intKeys es.toList ∧ ∀ k, lookM es.toList k = f k
def upd (f : Int → Option Value) (k : Int) (v : Value) : Int → Option Value := fun j => if j = k then some v else f j
theorem findNow_spec (k : Int) (q : IntKind) : ∀ (es : List MapEntry) (i0 : Nat), intKeys es →
    (∃ j, ∃ h : j < es.length, es[j].key = .int .i64 k ∧ (∀ j' (h' : j' < j), keyIs k (es[j']'(by omega)) = false) ∧ Instr.findNow (.int q) (.int .i64 k) es i0 = some (some (i0 + j, es[j].val)) ∧ lookM es k = some es[j].val) ∨
    (Instr.findNow (.int q) (.int .i64 k) es i0 = some none ∧ (∀ e ∈ es, keyIs k e = false) ∧ lookM es k = none)
  | [], _, _ => .inr ⟨rfl, by simp, rfl⟩
  | e :: es, i0, hk => by
    obtain ⟨a, ha⟩ := hk e (by simp)
    by_cases hak : a = k
    · subst hak
      refine .inl ⟨0, by simp, ha, fun j' h' => by omega, ?_, ?_⟩
      · simp [Instr.findNow, ha, Instr.sameNow]
      · simp [lookM, keyIs, ha]
    · have hf : keyIs k e = false := by simp [keyIs, ha, hak]
      have hs : Instr.sameNow (.int q) (.int .i64 k) e.key = some false := by
        simp only [ha, Instr.sameNow, if_true]
        congr 1
        simp
        exact fun h => hak h.symm
      rcases findNow_spec k q es (i0 + 1) (fun e he => hk e (by simp [he])) with ⟨j, h, h1, h2, h3, h4⟩ | ⟨h3, h2, h4⟩
      · refine .inl ⟨j + 1, by simpa using h, by simpa using h1, fun j' h' => ?_, ?_, ?_⟩
        · rcases j' with _ | j'
          · simpa using hf
          · simpa using h2 j' (by omega)
        · simp only [Instr.findNow, hs, h3, List.getElem_cons_succ]
          congr 3
          omega
        · simp only [lookM, List.find?_cons, hf] at h4 ⊢
          simpa using h4
      · refine .inr ⟨?_, fun e' he' => ?_, ?_⟩
        · simp only [Instr.findNow, hs, h3]
        · rcases List.mem_cons.1 he' with rfl | he'
          · exact hf
          · exact h2 e' he'
        · simp only [lookM, List.find?_cons, hf] at h4 ⊢
          simpa using h4
section
variable {P : Program} {w : World} {m : Nat} {f : Int → Option Value}
theorem run_key (kt : TypeId) (hkt : P.underlying kt = some (.int .i64)) (em : Bool) (n : Nat) (k : Int) : (Instr.checkKey em (n + 1) kt (.int .i64 k)).run P w = .ok () w := by simp [Instr.checkKey, run_underlying hkt]
theorem run_look (t kt et : TypeId) (z : Value) (ht : P.underlying t = some (.map kt et)) (hkt : P.underlying kt = some (.int .i64)) (hz : ∀ w : World, (zeroValue et).run P w = .ok z w) (h : MapI w m f) (k : Int) :
    (Instr.lookup t (.map (some m)) (.int .i64 k) false).run P w = .ok ((f k).getD z) w := by
  obtain ⟨es, clock, hb, hk, hf⟩ := h
  have hc := fun em : Bool => run_key (P := P) (w := w) kt hkt em 9999 k
  have hg : (getObj m).run P w = .ok (.map es clock) w := by simp [getObj, Sem.run, hb]
  rcases findNow_spec k .i64 es.toList 0 hk with ⟨j, hj, h1, h2, h3, h4⟩ | ⟨h3, h2, h4⟩
  · rw [← hf k, h4]
    simp [Instr.lookup, run_underlying ht, hg, hc, Instr.findKey, run_underlying hkt, h3]
  · rw [← hf k, h4]
    simp [Instr.lookup, run_underlying ht, hg, hc, Instr.findKey, run_underlying hkt, h3, hz]
theorem MapI.made (w : World) : MapI (w.alloc (.map #[] 0)) w.heap.size (fun _ => none) := ⟨#[], 0, heap_alloc_new w _, by intro e he; simp at he, fun k => rfl⟩
theorem MapI.lt (h : MapI w m f) : m < w.heap.size := by
  obtain ⟨es, clock, hb, _⟩ := h
  exact (Array.getElem?_eq_some_iff.1 hb).1
theorem MapI.kp {M : Nat → Prop} {w' : World} (h : MapI w m f) (hk : Kp M w w') (hm : ¬ M m) : MapI w' m f := by
  have hlt := h.lt
  obtain ⟨es, clock, hb, h2⟩ := h
  exact ⟨es, clock, (hk.block m hlt hm).trans hb, h2⟩
end
end Go.Proofs.YtbpbndlgfiammaaGreatDoor
namespace Go.Proofs.YtbpbndlgfiammaaGreatDoor
open Go.RowKit
def pairV (e : MapEntry) : Value × Value := (e.key, e.val)
def pv (p : Int × Value) : Value × Value := (.int .i64 p.1, p.2)
def MapV (w : World) (m : Nat) (kvs : List (Int × Value)) : Prop := ∃ es clock, w.heap[m]? = some (.map es clock) ∧ es.toList.map pairV = kvs.map pv ∧ (kvs.map (·.1)).Nodup
def findV (kvs : List (Int × Value)) (k : Int) : Option Value := (kvs.find? fun p => p.1 == k).map (·.2)
theorem pairs_keysV : ∀ {es : List MapEntry} {kvs : List (Int × Value)}, es.map pairV = kvs.map pv → intKeys es
  | [], _, _ => fun e he => by cases he
  | e :: es, [], h => by simp at h
  | e :: es, p :: kvs, h => by
    simp only [List.map_cons, List.cons.injEq] at h
    intro x hx
    rcases List.mem_cons.1 hx with rfl | hx
    · exact ⟨p.1, congrArg Prod.fst h.1⟩
    · exact pairs_keysV h.2 x hx
theorem pairs_lookV : ∀ {es : List MapEntry} {kvs : List (Int × Value)}, es.map pairV = kvs.map pv → ∀ k, lookM es k = findV kvs k
  | [], [], _, k => rfl
  | [], p :: kvs, h, k => by simp at h
  | e :: es, [], h, k => by simp at h
  | e :: es, p :: kvs, h, k => by
    simp only [List.map_cons, List.cons.injEq] at h
    have h1 : e.key = .int .i64 p.1 := congrArg Prod.fst h.1
    have h2 : e.val = p.2 := congrArg Prod.snd h.1
    have ih := pairs_lookV h.2 k
    unfold lookM findV at ih ⊢
    rw [List.find?_cons, List.find?_cons]
    have h3 : keyIs k e = (p.1 == k) := by simp [keyIs, h1]
    rw [h3]
    cases p.1 == k with
    | true => simp [h2]
    | false => exact ih
section
variable {P : Program} {w w' : World} {m : Nat} {kvs : List (Int × Value)}
theorem MapV.mapI (h : MapV w m kvs) : MapI w m (findV kvs) := by
  obtain ⟨es, clock, hb, hp, _⟩ := h
  exact ⟨es, clock, hb, pairs_keysV hp, fun k => pairs_lookV hp k⟩
theorem MapV.lt (h : MapV w m kvs) : m < w.heap.size := by
  obtain ⟨es, clock, hb, _⟩ := h
  exact (Array.getElem?_eq_some_iff.1 hb).1
theorem MapV.keep (h : MapV w m kvs) (hk : w'.heap[m]? = w.heap[m]?) : MapV w' m kvs := by
  obtain ⟨es, clock, hb, h2⟩ := h
  exact ⟨es, clock, hk.trans hb, h2⟩
theorem MapV.made (w : World) : MapV (w.alloc (.map #[] 0)) w.heap.size [] := ⟨#[], 0, heap_alloc_new w _, rfl, List.nodup_nil⟩
theorem MapV.cnt (h : MapV w m kvs) : ∃ es clock, w.heap[m]? = some (.map es clock) ∧ es.size = kvs.length := by
  obtain ⟨es, clock, hb, hp, _⟩ := h
  exact ⟨es, clock, hb, by have := congrArg List.length hp; simpa using this⟩
theorem lookT (t kt et : TypeId) (z : Value) (ht : P.underlying t = some (.map kt et)) (hkt : P.underlying kt = some (.int .i64)) (hz : ∀ w : World, (zeroValue et).run P w = .ok z w) {f : Int → Option Value} (h : MapI w m f) (k : Int) :
    (Instr.lookup t (.map (some m)) (.int .i64 k) true).run P w = .ok (.tuple #[(f k).getD z, .bool (f k).isSome]) w := by
  obtain ⟨es, clock, hb, hk, hf⟩ := h
  have hc := fun em : Bool => run_key (P := P) (w := w) kt hkt em 9999 k
  have hg : (getObj m).run P w = .ok (.map es clock) w := by simp [getObj, Sem.run, hb]
  rcases findNow_spec k .i64 es.toList 0 hk with ⟨j, hj, h1, h2, h3, h4⟩ | ⟨h3, h2, h4⟩
  · rw [← hf k, h4]
    simp [Instr.lookup, run_underlying ht, hg, hc, Instr.findKey, run_underlying hkt, h3]
  · rw [← hf k, h4]
    simp [Instr.lookup, run_underlying ht, hg, hc, Instr.findKey, run_underlying hkt, h3, hz]
theorem run_updV (t kt et : TypeId) (ht : P.underlying t = some (.map kt et)) (hkt : P.underlying kt = some (.int .i64)) (h : MapV w m kvs) (k : Int) (v : Value) (hv : findV kvs k = none ∨ findV kvs k = some v) :
    ∃ o : Obj, (Instr.mapUpdate t (.map (some m)) (.int .i64 k) v).run P w = .ok () { w with heap := w.heap.setIfInBounds m o } ∧ MapV { w with heap := w.heap.setIfInBounds m o } m (if findV kvs k = none then kvs ++ [(k, v)] else kvs) := by
  obtain ⟨es, clock, hb, hp, hnd⟩ := h
  have hk := pairs_keysV hp
  have hc := fun em : Bool => run_key (P := P) (w := w) kt hkt em 9999 k
  have hg : (getObj m).run P w = .ok (.map es clock) w := by simp [getObj, Sem.run, hb]
  have hs : ∀ o : Obj, (setObj m o).run P w = .ok () { w with heap := w.heap.setIfInBounds m o } := fun o => by simp [setObj, Sem.run, hb]
  have hlt : m < w.heap.size := (Array.getElem?_eq_some_iff.1 hb).1
  have hlook := pairs_lookV hp k
  rcases findNow_spec k .i64 es.toList 0 hk with ⟨j, hj, h1, h2, h3, h4⟩ | ⟨h3, h2, h4⟩
  · have hj' : j < es.size := by simpa using hj
    have hkey : ((es[j]?).map (·.key)).getD (.int .i64 k) = .int .i64 k := by
      rw [Array.getElem?_eq_getElem hj']
      simpa using h1
    have hfv : findV kvs k = some es.toList[j].val := hlook.symm.trans h4
    have hval : es.toList[j].val = v := by
      rcases hv with hv | hv
      · rw [hv] at hfv; cases hfv
      · rw [hv] at hfv; exact (Option.some.inj hfv).symm
    refine ⟨.map (es.modify j fun e => { e with key := .int .i64 k, val := v }) clock, ?_, ?_⟩
    · simp [Instr.mapUpdate, run_underlying ht, hg, hc, Instr.findKey, run_underlying hkt, h3, hkey, Instr.keyThatStays, Instr.sameBits, hs]
    · rw [if_neg (by rw [hfv]; exact Option.some_ne_none _)]
      refine ⟨es.modify j fun e => { e with key := .int .i64 k, val := v }, clock, by simp [hlt], ?_, hnd⟩
      rw [← hp, Array.toList_modify]
      apply List.ext_getElem
      · simp
      · intro i a b
        rw [List.getElem_map, List.getElem_map, List.getElem_modify]
        split
        · rename_i hji
          subst hji
          unfold pairV
          rw [h1, hval]
        · rfl
  · have hfv : findV kvs k = none := hlook.symm.trans h4
    refine ⟨.map (es.push { key := .int .i64 k, val := v, born := clock }) (clock + 1), ?_, ?_⟩
    · simp [Instr.mapUpdate, run_underlying ht, hg, hc, Instr.findKey, run_underlying hkt, h3, hs]
    · rw [if_pos hfv]
      refine ⟨es.push { key := .int .i64 k, val := v, born := clock }, clock + 1, by simp [hlt], ?_, ?_⟩
      · rw [Array.toList_push, List.map_append, List.map_append, hp]
        rfl
      · rw [List.map_append, List.nodup_append]
        refine ⟨hnd, by simp, fun x hx y hy => ?_⟩
        rw [List.map_singleton, List.mem_singleton] at hy
        subst hy
        rintro rfl
        obtain ⟨p, hp1, hp2⟩ := List.mem_map.1 hx
        unfold findV at hfv
        rw [Option.map_eq_none_iff, List.find?_eq_none] at hfv
        exact hfv p hp1 (by simpa using hp2)
def setV (ks : List Int) : List (Int × Value) := ks.map fun k => (k, .bool true)
def addK (ks : List Int) (k : Int) : List Int := bif ks.contains k then ks else ks ++ [k]
theorem findV_set : ∀ (ks : List Int) (k : Int), findV (setV ks) k = if ks.contains k then some (.bool true) else none
  | [], k => rfl
  | a :: ks, k => by
    have ih := findV_set ks k
    unfold findV setV at ih ⊢
    rw [List.map_cons, List.find?_cons]
    by_cases h : a = k
    · subst h; simp
    · have h1 : (a == k) = false := by simpa using h
      have h2 : (k == a) = false := by simpa using fun e : k = a => h e.symm
      simp only [h1, List.contains_cons, h2, Bool.false_or]
      exact ih
theorem addK_mem {ks : List Int} {k x : Int} : x ∈ addK ks k ↔ x ∈ ks ∨ x = k := by
  unfold addK
  cases h : ks.contains k with
  | true =>
    have hk : k ∈ ks := List.contains_iff_mem.1 h
    exact ⟨fun h => .inl h, fun h => h.elim id (fun e => e ▸ hk)⟩
  | false => simp
theorem addK_contains (ks : List Int) (k x : Int) : (addK ks k).contains x = (ks.contains x || x == k) := by
  rw [Bool.eq_iff_iff, List.contains_iff_mem, addK_mem, Bool.or_eq_true, List.contains_iff_mem, beq_iff_eq]
theorem addK_len (ks : List Int) (k : Int) : (addK ks k).length ≤ ks.length + 1 := by
  unfold addK
  cases ks.contains k <;> simp
theorem run_updS (t kt et : TypeId) (ht : P.underlying t = some (.map kt et)) (hkt : P.underlying kt = some (.int .i64)) {ks : List Int} (h : MapV w m (setV ks)) (k : Int) :
    ∃ o : Obj, (Instr.mapUpdate t (.map (some m)) (.int .i64 k) (.bool true)).run P w = .ok () { w with heap := w.heap.setIfInBounds m o } ∧ MapV { w with heap := w.heap.setIfInBounds m o } m (setV (addK ks k)) := by
  have hf := findV_set ks k
  obtain ⟨o, h1, h2⟩ := run_updV t kt et ht hkt h k (.bool true) (by rw [hf]; cases ks.contains k <;> simp)
  refine ⟨o, h1, ?_⟩
  unfold addK
  cases hc : ks.contains k with
  | true => rw [hc] at hf; rw [if_neg (by rw [hf]; simp)] at h2; exact h2
  | false =>
    rw [hc] at hf
    rw [if_pos (by rw [hf]; simp)] at h2
    have e : setV ks ++ [(k, Value.bool true)] = setV (ks ++ [k]) := by simp [setV]
    rw [e] at h2
    exact h2
theorem findV_not {ks : List Int} {vs : List Value} {k : Int} (h : k ∉ ks) : findV (ks.zip vs) k = none := by
  unfold findV
  rw [Option.map_eq_none_iff, List.find?_eq_none]
  intro p hp
  have := (List.of_mem_zip hp).1
  simpa using fun e : p.1 = k => h (e ▸ this)
end
end Go.Proofs.YtbpbndlgfiammaaGreatDoor
