/- Lemmas and contracts for the row. -/
import Derived.WalkKit
import Derived.WalkSpells
import Derived.ArgAppend
import Derived.Deep.Draws
import Derived.Laws.OwnMore
set_option linter.unusedVariables false
set_option linter.unusedSimpArgs false
set_option linter.unnecessarySimpa false
namespace Go.Proofs.YtkkapbnopmmmjaaGreatDoor
open Go.RowKit
abbrev I64 (x : Int) : Value := .int .i64 x
theorem q4n (b o i : Nat) : (⟨b, o, none⟩ : Addr).add i = ⟨b, o + i, none⟩ := by
 unfold Addr.add; split <;> simp_all
structure Kp (M : Nat → Prop) (w w' : World) : Prop where
 os : w'.os = w.os
 tape : w'.tape = w.tape
 output : w'.output = w.output
 size : w.heap.size ≤ w'.heap.size
 block : ∀ k, k < w.heap.size → ¬ M k → w'.heap[k]? = w.heap[k]?
section
variable {M M' : Nat → Prop} {w w' w'' : World}
theorem Kp.refl (M : Nat → Prop) (w : World) : Kp M w w := ⟨rfl, rfl, rfl, Nat.le_refl _, fun _ _ _ => rfl⟩
theorem Kp.trans (h : Kp M w w') (h' : Kp M' w' w'') (hm : ∀ k, k < w.heap.size → M' k → M k) : Kp M w w'' :=
 ⟨h'.os.trans h.os, h'.tape.trans h.tape, h'.output.trans h.output, Nat.le_trans h.size h'.size,
  fun k hk hn => (h'.block k (Nat.lt_of_lt_of_le hk h.size) (fun hq => hn (hm k hk hq))).trans (h.block k hk hn)⟩
theorem Kp.mono (h : Kp M w w') (hm : ∀ k, k < w.heap.size → M k → M' k) : Kp M' w w' :=
 ⟨h.os, h.tape, h.output, h.size, fun k hk hn => h.block k hk (fun hq => hn (hm k hk hq))⟩
theorem Kp.drewN (h : Kp M w w') (n : Nat) : Kp M w (w'.drewN n) := ⟨h.os, h.tape, h.output, h.size, h.block⟩
theorem Kp.drew (h : Kp M w w') : Kp M w w'.drew := ⟨h.os, h.tape, h.output, h.size, h.block⟩
theorem Kp.alloc (h : Kp M w w') (o : Obj) : Kp M w (w'.alloc o) :=
 ⟨h.os, h.tape, h.output, Nat.le_trans h.size (by simp), fun k hk hn => (Below.heap_alloc w' o k (Nat.lt_of_lt_of_le hk h.size)).trans (h.block k hk hn)⟩
theorem Kp.setCell (h : Kp M w w') {p : Addr} (hp : p.block < w.heap.size → M p.block) (u : Value) : Kp M w (w'.setCell p u) :=
 ⟨h.os, h.tape, h.output, by simpa [World.setCell] using h.size, fun k hk hn => (Below.heap_setCell w' p u k (by
  rintro rfl; exact hn (hp hk))).trans (h.block k hk hn)⟩
theorem Kp.grown {row : Option Nat} (h : Kp M w w') (hg : w'.grownBy w'' row) (hr : ∀ g, row = some g → g < w.heap.size → M g) : Kp M w w'' :=
 ⟨hg.os.trans h.os, hg.tape.trans h.tape, hg.output.trans h.output, Nat.le_trans h.size hg.size,
  fun k hk hn => (hg.block k (Nat.lt_of_lt_of_le hk h.size) (fun e => hn (hr k e.symm hk))).trans (h.block k hk hn)⟩
theorem Kp.below {B : Nat} (h : Kp M w w') (hm : ∀ k, k < B → k < w.heap.size → ¬ M k) (hB : B ≤ w.heap.size) : Below B w w' :=
 ⟨h.os, h.tape, h.output, h.size, fun k hk => h.block k (Nat.lt_of_lt_of_le hk hB) (hm k hk (Nat.lt_of_lt_of_le hk hB))⟩
theorem Kp.of_below {B : Nat} (h : Below B w w') : Kp (fun k => B ≤ k) w w' :=
 ⟨h.os, h.tape, h.output, h.size, fun k _ hn => h.block k (by omega)⟩
theorem Kp.of_grown {row : Option Nat} (h : w.grownBy w' row) : Kp (fun k => some k = row) w w' := ⟨h.os, h.tape, h.output, h.size, fun k hk hn => h.block k hk hn⟩
theorem Kp.cell (h : Kp M w w') {p : Addr} (hp : p.block < w.heap.size) (hn : ¬ M p.block) : w'.cell? p = w.cell? p := World.cell?_of_block (h.block p.block hp hn)
end
def Rd {α : Type} (enc : α → Value) (D : Nat → Prop) (w : World) (A : Option Addr) (xs : List α) : Prop :=
 0 < xs.length → ∃ b off, A = some ⟨b, off, none⟩ ∧ D b ∧ ∀ j (h : j < xs.length), w.cell? ⟨b, off + j, none⟩ = some (enc xs[j])
section
variable {α : Type} {enc : α → Value} {D D' : Nat → Prop} {w w' : World} {A : Option Addr} {xs : List α}
theorem Rd.keep (h : Rd enc D w A xs) (hk : ∀ b, D b → w'.heap[b]? = w.heap[b]?) (hd : ∀ b, D b → D' b) : Rd enc D' w' A xs := fun hn => by
 obtain ⟨b, off, e, hb, hc⟩ := h hn
 exact ⟨b, off, e, hd _ hb, fun j hj => (World.cell?_of_block (hk _ hb)).trans (hc j hj)⟩
theorem Rd.mono (h : Rd enc D w A xs) (hd : ∀ b, D b → D' b) : Rd enc D' w A xs := h.keep (fun _ _ => rfl) hd
theorem Rd.below {B : Nat} (h : Rd enc (· < B) w A xs) (hb : Below B w w') : Rd enc (· < B) w' A xs := h.keep (fun b hlt => hb.block b hlt) (fun _ h => h)
theorem Rd.at_ (h : Rd enc D w A xs) {k : Nat} (hk : k < xs.length) : ∃ b off, A = some ⟨b, off, none⟩ ∧ D b ∧ w.cell? ⟨b, off + k, none⟩ = some (enc xs[k]) := by
 obtain ⟨b, off, e, hb, hc⟩ := h (by omega)
 exact ⟨b, off, e, hb, hc k hk⟩
end
def RdL (D : Nat → Prop) (w : World) (A : Option Addr) (xss : List (List Int)) : Prop :=
 0 < xss.length → ∃ b off, A = some ⟨b, off, none⟩ ∧ D b ∧ ∀ j (h : j < xss.length), ∃ A' c', w.cell? ⟨b, off + j, none⟩ = some (.slice A' xss[j].length c') ∧ xss[j].length ≤ c' ∧ Rd I64 D w A' xss[j]
section
variable {D D' : Nat → Prop} {w w' : World} {A : Option Addr} {xss : List (List Int)}
end
def k8s (e : TypeId) (n : Nat) (mk : Nat × Nat) : Prop := mk = (0, 0) ∨ (e = 5 ∧ n ≤ mk.1)
def q3o (w : World) (g : Nat) (e : TypeId) (cur : Array Value) : Prop := ∃ mk, w.heap[g]? = some (.cells cur e mk) ∧ k8s e cur.size mk
section
variable {w w' : World} {g i o : Nat} {e : TypeId} {cur cs : Array Value}
theorem q3o.mk0 (h : w.heap[g]? = some (.cells cur e (0, 0))) : q3o w g e cur := ⟨_, h, .inl rfl⟩
theorem q3o.cell (h : q3o w g e cur) (i : Nat) : w.cell? ⟨g, i, none⟩ = cur[i]? := by obtain ⟨mk, h, _⟩ := h; exact cell_of_row w g i cur e mk h
theorem q3o.frozen (h : q3o w g e cur) (hi : i < cur.size) : w.frozen? ⟨g, i, none⟩ = false := by
 obtain ⟨mk, h, hk⟩ := h
 unfold World.frozen?
 rw [h]
 rcases hk with rfl | ⟨_, h2⟩
 · simp
 · have : ¬ mk.1 ≤ i := by omega
   simp [this]
theorem q3o.keep (h : q3o w g e cur) (hk : w'.heap[g]? = w.heap[g]?) : q3o w' g e cur := by obtain ⟨mk, h, hm⟩ := h; exact ⟨mk, hk.trans h, hm⟩
theorem q3o.lt (h : q3o w g e cur) : g < w.heap.size := by obtain ⟨mk, h, _⟩ := h; exact (Array.getElem?_eq_some_iff.1 h).1
theorem q3o.plain (h : q3o w g e cur) (he : e ≠ 5) : w.heap[g]? = some (.cells cur e (0, 0)) := by
 obtain ⟨mk, h, hm⟩ := h
 rcases hm with rfl | ⟨h2, _⟩
 · exact h
 · exact absurd h2 he
theorem q3o.setRow (h : q3o w g e cur) (hs : cs.size = cur.size) : q3o (w.setRow g cs) g e cs := by
 obtain ⟨mk, h, hm⟩ := h
 exact ⟨mk, setRow_heap w g cur cs e mk h, by unfold k8s at hm ⊢; rw [hs]; exact hm⟩
theorem q3o.setCell (h : q3o w g e cur) (i : Nat) (u : Value) : q3o (w.setCell ⟨g, i, none⟩ u) g e (cur.setIfInBounds i u) := by
 have hr := h.setRow (cs := cur.setIfInBounds i u) (by simp)
 obtain ⟨mk, h, hm⟩ := h
 rwa [setCell_eq_setRow w g i cur e mk u h]
theorem q3o.store : ∀ (vs : List Value) (o : Nat) (cur : Array Value) (w : World), q3o w g e cur → o + vs.length ≤ cur.size →
 w.setCells g o vs = w.setRow g (cur.toList.take o ++ vs ++ cur.toList.drop (o + vs.length)).toArray
 | [], o, cur, w, h, _ => by
  obtain ⟨mk, h, _⟩ := h
  simp only [World.setCells, List.append_nil, List.length_nil, Nat.add_zero, List.take_append_drop, Array.toArray_toList]
  rw [setRow_self w g cur e mk h]
 | v :: r, o, cur, w, h, hl => by
  have h2 := h.setRow (cs := cur.setIfInBounds o v) (by simp)
  have ih := q3o.store r (o + 1) _ _ h2 (by simp at hl ⊢; omega)
  obtain ⟨mk, h, _⟩ := h
  rw [World.setCells, setCell_eq_setRow w g o cur e mk v h, ih, setRow_setRow]
  congr 2
  have e := list_seg_step cur.toList o v r (by simp at hl ⊢; omega)
  simpa [Array.toList_setIfInBounds, Nat.add_assoc] using e
end
def Own (w : World) (e : TypeId) (v : Value) (xs : List Value) : Prop :=
 (v = .slice none 0 0 ∧ xs = []) ∨ ∃ g off cap cur, v = .slice (some ⟨g, off, none⟩) xs.length cap ∧ q3o w g e cur ∧ xs.length ≤ cap ∧ cap ≤ maxLen ∧
  off + cap ≤ cur.size ∧ ∀ j (h : j < xs.length), cur[off + j]? = some xs[j]
section
variable {w w' : World} {e : TypeId} {v : Value} {xs : List Value}
theorem Own.nil (w : World) (e : TypeId) : Own w e (.slice none 0 0) [] := .inl ⟨rfl, rfl⟩
theorem Own.keep (h : Own w e v xs) (hk : ∀ g, v.ownBlock = some g → w'.heap[g]? = w.heap[g]?) : Own w' e v xs := by
 rcases h with h | ⟨g, off, cap, cur, rfl, hg, h1, h2, h3, h4⟩
 · exact .inl h
 · exact .inr ⟨g, off, cap, cur, rfl, hg.keep (hk g (by simp [Value.ownBlock])), h1, h2, h3, h4⟩
theorem Own.lt (h : Own w e v xs) {g : Nat} (hg : v.ownBlock = some g) : g < w.heap.size := by
 rcases h with ⟨rfl, _⟩ | ⟨g', off, cap, cur, rfl, hh, _⟩
 · simp [Value.ownBlock] at hg
 · have : g' = g := by simpa [Value.ownBlock] using hg
   subst this
   exact hh.lt
theorem Own.type (h : Own w e v xs) {g : Nat} (hg : v.ownBlock = some g) : ∃ cur, q3o w g e cur := by
 rcases h with ⟨rfl, _⟩ | ⟨g', off, cap, cur, rfl, hh, _⟩
 · simp [Value.ownBlock] at hg
 · have : g' = g := by simpa [Value.ownBlock] using hg
   subst this
   exact ⟨cur, hh⟩
theorem Own.form (h : Own w e v xs) : ∃ A cap, v = .slice A xs.length cap ∧ xs.length ≤ cap := by
 rcases h with ⟨rfl, rfl⟩ | ⟨g, off, cap, cur, rfl, _, h1, _⟩
 · exact ⟨none, 0, rfl, Nat.le_refl _⟩
 · exact ⟨_, cap, rfl, h1⟩
theorem Own.grown (h : Own w e v xs) {row : Option Nat} (hg : w.grownBy w' row) (hne : v.ownBlock = none ∨ v.ownBlock ≠ row) : Own w' e v xs :=
  h.keep fun g hgo => hg.block g (h.lt hgo) (by rw [← hgo]; rcases hne with h | h; · rw [hgo] at h; cases h
                                                · exact h)
theorem Own.alloc (h : Own w e v xs) (o : Obj) : Own (w.alloc o) e v xs := h.keep fun g hg => Below.heap_alloc w o g (h.lt hg)
theorem Own.drew (h : Own w e v xs) : Own w.drew e v xs := h
theorem Own.drewN (h : Own w e v xs) (n : Nat) : Own (w.drewN n) e v xs := h
theorem Own.of_row {base n : Nat} (h : w.ownsRow base e 1 v n xs) : Own w e v xs := by
 obtain ⟨hl, h⟩ := h
 simp only [Nat.mul_one] at hl h
 subst hl
 rcases h with ⟨rfl, h0⟩ | ⟨g, cap, cur, rfl, _, hg, h1, h2, h3, h4⟩
 · exact .inl ⟨rfl, List.eq_nil_of_length_eq_zero h0⟩
 · refine .inr ⟨g, 0, cap, cur, rfl, .mk0 hg, h1, h2, by omega, fun j hj => ?_⟩
   have : xs[j] = (cur.toList.take xs.length)[j]'(by rw [h4]; exact hj) := by simp only [h4]
   rw [this, List.getElem_take, Nat.zero_add]
   simp
theorem Own.cell (h : Own w e v xs) : ∃ A cap, v = .slice A xs.length cap ∧ xs.length ≤ cap ∧ ∀ j (hj : j < xs.length), ∃ b off, A = some ⟨b, off, none⟩ ∧ v.ownBlock = some b ∧ w.cell? ⟨b, off + j, none⟩ = some xs[j] := by
 rcases h with ⟨rfl, rfl⟩ | ⟨g, off, cap, cur, rfl, hg, h1, _, _, h4⟩
 · exact ⟨none, 0, rfl, Nat.le_refl _, fun j hj => by simp at hj⟩
 · refine ⟨_, cap, rfl, h1, fun j hj => ⟨_, _, rfl, rfl, ?_⟩⟩
   rw [hg.cell (off + j)]
   exact h4 j hj
theorem Own.rd {α : Type} {enc : α → Value} {ys : List α} (h : Own w e v (ys.map enc)) : ∃ A cap, v = .slice A ys.length cap ∧ ys.length ≤ cap ∧ Rd enc (fun b => v.ownBlock = some b) w A ys := by
 obtain ⟨A, cap, h1, h2, h3⟩ := h.cell
 simp only [List.length_map] at h1 h2 h3
 refine ⟨A, cap, h1, h2, fun hn => ?_⟩
 obtain ⟨b, off, e1, hb, _⟩ := h3 0 hn
 refine ⟨b, off, e1, hb, fun j hj => ?_⟩
 obtain ⟨b', off', e2, _, hc⟩ := h3 j hj
 rw [e1] at e2
 cases e2
 rw [List.getElem_map] at hc
 exact hc
end
section
variable {P : Program} (w : World)
theorem q4r (t ty e : TypeId) (i : TypeInfo) (z : Value) (bytes : Nat) (ht : P.underlying t = some (.slice e)) (hi : P.info? e = some i) (hz : i.zero = some z)
 (hsize : i.size = 1) (hby : i.bytes = bytes) (hzs : z.cells.size = 1)
 (v : Value) (xs : List Value) (hown : Own w e v xs)
 (a : Addr) (m c : Nat) (news : List Value) (hl : news.length = m) (hnews : ∀ j u, news[j]? = some u → w.cell? (a.add j) = some u) (h1 : ∀ u ∈ news, u.oneCell' = true)
 (h63 : xs.length + m ≤ maxLen) (hbytes : (xs.length + m) * bytes ≤ 140737488355328) :
 ∃ v' w', (Builtin.append_ #[t, t] ty #[v, .slice (some a) m c]).run P w = .ok v' w' ∧ Own w' e v' (xs ++ news) ∧ w.grownBy w' v.ownBlock ∧
  (v'.ownBlock = v.ownBlock ∨ v'.ownBlock = some w.heap.size) ∧ (v' = .slice none 0 0 ↔ v = .slice none 0 0 ∧ m = 0) := by
 rcases hown with ⟨rfl, rfl⟩ | ⟨g, off, cap, cur, rfl, hg, hnc, hcm, hfit, hcs⟩
 · obtain ⟨v', w', hr, h2, h3, h4⟩ := run_append_own (P := P) w w.heap.size t ty e i z 1 bytes ht hi hz hsize hby hzs (by omega) (.slice none 0 0) 0 [] (World.ownsRow_nil w _ e 1) a m c news (by omega) hnews h1
    (by simpa using h63) (by simpa using hbytes) (Nat.le_refl _)
   refine ⟨v', w', hr, Own.of_row h2, h3, ?_, h4⟩
   rcases h2.2 with ⟨rfl, _⟩ | ⟨g', cap', cur', rfl, hb, hg', _⟩
   · exact .inl rfl
   · by_cases hm : m = 0
     · have := h4.2 ⟨rfl, hm⟩
       simp at this
     · right
       have hsz : ∀ k, w.heap.size + 1 ≤ k → w'.heap[k]? = none := by
        intro k hk
        have hr2 := hr
        have hru := run_append_nil (P := P) w t ty e i z ht hi hz a m c news (by rw [hl, hsize]; omega) hnews (by omega) (by simp only [maxLen] at h63; omega) (by rw [hby]; simp at hbytes; omega)
        rw [hru] at hr2
        injection hr2 with _ hw
        rw [← hw]
        simp
        omega
       have : g' < w.heap.size + 1 := by
        rcases Nat.lt_or_ge g' (w.heap.size + 1) with h | h
        · exact h
        · rw [hsz g' h] at hg'; cases hg'
       simp [Value.ownBlock]
       omega
 · have holds : ∀ j u, xs[j]? = some u → w.cell? ⟨g, off + j, none⟩ = some u := by
    intro j u hu
    obtain ⟨hj, rfl⟩ := List.getElem?_eq_some_iff.1 hu
    rw [hg.cell (off + j)]
    exact hcs j hj
   by_cases hroom : xs.length + m ≤ cap
   · have hcell : ∀ j, j < news.length → (w.cell? ⟨g, off + xs.length * i.size + j, none⟩).isSome = true := fun j hj => by
      rw [hg.cell, hsize, Array.getElem?_eq_getElem (by omega)]; rfl
     have hfz : ∀ j, j < news.length → w.frozen? ⟨g, off + xs.length * i.size + j, none⟩ = false := fun j hj => hg.frozen (by rw [hsize]; omega)
     have hr := run_append_room_cells (P := P) w t ty e i ht hi g off xs.length cap a m c news (by rw [hl, hsize]; omega) hnews h1 hroom hcell hfz
     refine ⟨_, _, hr, ?_, ?_, .inl rfl, by simp⟩
     · refine .inr ⟨g, off, cap, (cur.toList.take (off + xs.length) ++ news ++ cur.toList.drop (off + xs.length + news.length)).toArray, by simp [hl], ?_, by simp [hl]; omega, hcm, by simp; omega, fun j hj => ?_⟩
       · rw [hsize, Nat.mul_one, q3o.store news (off + xs.length) cur w hg (by omega)]
         exact hg.setRow (by simp; omega)
       · simp only [List.length_append] at hj
         simp only [List.getElem?_toArray]
         rw [List.append_assoc, List.getElem?_append]
         by_cases hjx : j < xs.length
         · rw [if_pos (by simp; omega), List.getElem?_take, if_pos (by omega)]
           rw [List.getElem_append_left hjx, ← hcs j hjx]
           simp
         · rw [if_neg (by simp; omega), List.getElem?_append_left (by simp; omega), List.getElem_append_right (by omega)]
           have : off + j - (cur.toList.take (off + xs.length)).length = j - xs.length := by simp; omega
           rw [this, List.getElem?_eq_getElem (by omega)]
     · rw [hsize, Nat.mul_one, q3o.store news (off + xs.length) cur w hg (by omega)]
       exact ⟨rfl, rfl, rfl, by simp, fun k _ hk => setRow_other w g k _ (fun e => hk (by simp [Value.ownBlock, e]))⟩
   · obtain ⟨v', w', hr, h2, h3⟩ := run_append_arg_grows (P := P) w t ty e i z 1 bytes ht hi hz hsize hby hzs (by omega) ⟨g, off, none⟩ xs.length cap xs (by omega) (fun j u hu => by rw [q4n]; exact holds j u hu) a m c news (by omega) hnews (by omega) h63 hbytes
     refine ⟨v', w', hr, Own.of_row h2, ⟨h3.os, h3.tape, h3.output, h3.size, fun k hk _ => h3.block k hk (by simp)⟩, ?_, ?_⟩
     · right
       have hru := run_append_grow (P := P) w t ty e i z ht hi hz ⟨g, off, none⟩ xs.length cap xs (by rw [hsize]; omega) (fun j u hu => by rw [q4n]; exact holds j u hu) a m c news (by rw [hl, hsize]; omega) hnews (by omega) (by simp only [maxLen] at h63; omega) (growslice_fits (by omega) (by rw [hby]; exact hbytes))
       rw [hru] at hr
       injection hr with hv _
       rw [← hv]
       rfl
     · rcases h2.2 with ⟨rfl, h0⟩ | ⟨g', cap', cur', rfl, _⟩
       · omega
       · simp
end
theorem y9p {P : Program} (w : World) {o : Oper} {a : Act} {K : Act → World → Prop} {Q : Exit → Act → World → Prop} (s x : Operand) (t : TypeId)
 (ho : o.op = .call { callee := .builtin .append, args := #[s, x], argTypes := #[t, t] })
 (e : TypeId) (i : TypeInfo) (z : Value) (bytes : Nat) (ht : P.underlying t = some (.slice e)) (hi : P.info? e = some i) (hz : i.zero = some z)
 (hsize : i.size = 1) (hby : i.bytes = bytes) (hzs : z.cells.size = 1)
 (v : Value) (xs : List Value) (n : Nat) (hlen : xs.length = n) (hs : a.eval s = v) (hown : Own w e v xs)
 (ad : Addr) (c : Nat) (u : Value) (hx : a.eval x = .slice (some ad) 1 c) (hc : w.cell? ad = some u) (h1 : u.oneCell' = true)
 (h63 : n + 1 ≤ maxLen) (hbytes : (n + 1) * bytes ≤ 140737488355328)
 (h : ∀ g off cap w', Own w' e (.slice (some ⟨g, off, none⟩) (n + 1) cap) (xs ++ [u]) → w.grownBy w' v.ownBlock → (v.ownBlock = some g ∨ g = w.heap.size) → K (a.put o.dst (.slice (some ⟨g, off, none⟩) (n + 1) cap)) w') : o.wp P a w K Q := by
 subst hlen
 obtain ⟨v', w', hr, h2, h3, h4, h5⟩ := q4r (P := P) w t o.type e i z bytes ht hi hz hsize hby hzs v xs hown ad 1 c [u] rfl
  (fun j y hy => by
   rcases j with _ | j
   · simp at hy; subst hy; simpa [Addr.add] using hc
   · simp at hy) (by simpa using h1) h63 hbytes
 have hform : ∃ g off cap, v' = .slice (some ⟨g, off, none⟩) (xs.length + 1) cap := by
  rcases h2 with ⟨rfl, h0⟩ | ⟨g, off, cap, cur, rfl, _⟩
  · simp at h0
  · exact ⟨g, off, cap, by simp⟩
 obtain ⟨g, off, cap, rfl⟩ := hform
 unfold Oper.wp execOp
 simp only [ho, resolve, invoke, builtin, Sem.run_bind, Sem.run_pure, Result.andThen_ok, List.map_toArray, List.map_cons, List.map_nil, hs, hx, hr]
 exact h g off cap w' h2 h3 (by
  rcases h4 with h4 | h4
  · left; rw [← h4]; rfl
  · right; simpa [Value.ownBlock] using h4)
theorem q3i {P : Program} (w : World) {ops : Array Oper} {rest : List Oper} {o : Oper} {a : Act} {Q : Exit → Act → World → Prop} (hgd : o.guard = none) (s x : Operand) (t : TypeId)
 (ho : o.op = .call { callee := .builtin .append, args := #[s, x], argTypes := #[t, t] })
 (e : TypeId) (i : TypeInfo) (z : Value) (bytes : Nat) (ht : P.underlying t = some (.slice e)) (hi : P.info? e = some i) (hz : i.zero = some z)
 (hsize : i.size = 1) (hby : i.bytes = bytes) (hzs : z.cells.size = 1)
 (v : Value) (xs : List Value) (n : Nat) (hlen : xs.length = n) (hs : a.eval s = v) (hown : Own w e v xs)
 (ad : Addr) (c : Nat) (u : Value) (hx : a.eval x = .slice (some ad) 1 c) (hc : w.cell? ad = some u) (h1 : u.oneCell' = true)
 (h63 : n + 1 ≤ maxLen) (hbytes : (n + 1) * bytes ≤ 140737488355328)
 (h : ∀ g off cap w', Own w' e (.slice (some ⟨g, off, none⟩) (n + 1) cap) (xs ++ [u]) → w.grownBy w' v.ownBlock → (v.ownBlock = some g ∨ g = w.heap.size) → wpList P ops Q rest (a.put o.dst (.slice (some ⟨g, off, none⟩) (n + 1) cap)) w') :
 wpList P ops Q (o :: rest) a w :=
 wpList_plain hgd fun _ hK => y9p w s x t ho e i z bytes ht hi hz hsize hby hzs v xs n hlen hs hown ad c u hx hc h1 h63 hbytes fun g off cap w' h2 h3 h4 => hK _ _ (h g off cap w' h2 h3 h4)
theorem q3b {P : Program} (w : World) {ops : Array Oper} {o : Oper} {a : Act} {K : Act → World → Prop} {Q : Exit → Act → World → Prop} {E : Prop} (hgd : o.guard = none) (s x : Operand) (t : TypeId)
 (ho : o.op = .call { callee := .builtin .append, args := #[s, x], argTypes := #[t, t] })
 (e : TypeId) (i : TypeInfo) (z : Value) (bytes : Nat) (ht : P.underlying t = some (.slice e)) (hi : P.info? e = some i) (hz : i.zero = some z)
 (hsize : i.size = 1) (hby : i.bytes = bytes) (hzs : z.cells.size = 1)
 (v : Value) (xs : List Value) (n : Nat) (hlen : xs.length = n) (hs : a.eval s = v) (hown : Own w e v xs)
 (ad : Addr) (c : Nat) (u : Value) (hx : a.eval x = .slice (some ad) 1 c) (hc : w.cell? ad = some u) (h1 : u.oneCell' = true)
 (h63 : n + 1 ≤ maxLen) (hbytes : (n + 1) * bytes ≤ 140737488355328)
 (h : ∀ g off cap w', Own w' e (.slice (some ⟨g, off, none⟩) (n + 1) cap) (xs ++ [u]) → w.grownBy w' v.ownBlock → (v.ownBlock = some g ∨ g = w.heap.size) → K (a.put o.dst (.slice (some ⟨g, off, none⟩) (n + 1) cap)) w') :
 if Region.wanted o (yielded ops a.tmps) = true then Oper.wp P o a w K Q else E := by
 rw [if_pos (by simp [Region.wanted, hgd])]
 exact y9p w s x t ho e i z bytes ht hi hz hsize hby hzs v xs n hlen hs hown ad c u hx hc h1 h63 hbytes h
def Blk (w : World) (g : Nat) (t : TypeId) (cs : Array Value) : Prop := w.heap[g]? = some (.cells cs t (0, 0))
section
variable {w w' : World} {g : Nat} {t : TypeId} {cs : Array Value}
theorem Blk.lt (h : Blk w g t cs) : g < w.heap.size := (Array.getElem?_eq_some_iff.1 h).1
theorem Blk.cell (h : Blk w g t cs) (i : Nat) : w.cell? ⟨g, i, none⟩ = cs[i]? := cell_of_row w g i cs t (0, 0) h
theorem Blk.frozen (h : Blk w g t cs) (i : Nat) : w.frozen? ⟨g, i, none⟩ = false := by unfold Blk at h; simp [World.frozen?, h]
theorem Blk.new (w : World) (t : TypeId) (cs : Array Value) : Blk (w.alloc (.cells cs t)) w.heap.size t cs := heap_alloc_new w _
theorem Blk.drew (h : Blk w g t cs) : Blk w.drew g t cs := h
theorem Blk.drewN (h : Blk w g t cs) (n : Nat) : Blk (w.drewN n) g t cs := h
theorem Blk.alloc (h : Blk w g t cs) (o : Obj) : Blk (w.alloc o) g t cs := (Below.heap_alloc w o g h.lt).trans h
theorem Blk.set_ (h : Blk w g t cs) (i : Nat) (u : Value) : Blk (w.setCell ⟨g, i, none⟩ u) g t (cs.setIfInBounds i u) := by
 unfold Blk at h ⊢
 simp [World.setCell, Array.getElem?_modify, h]
theorem Blk.far (h : Blk w g t cs) {p : Addr} (hp : g ≠ p.block) (u : Value) : Blk (w.setCell p u) g t cs := (Below.heap_setCell w p u g hp).trans h
theorem Blk.kp {M : Nat → Prop} (h : Blk w g t cs) (hk : Kp M w w') (hg : ¬ M g) : Blk w' g t cs := (hk.block g h.lt hg).trans h
theorem Blk.grown {row : Option Nat} (h : Blk w g t cs) (hb : w.grownBy w' row) (hg : some g ≠ row) : Blk w' g t cs := (hb.block g h.lt hg).trans h
theorem Blk.ne_ {g' : Nat} {t' : TypeId} {cs' : Array Value} (h : Blk w g t cs) (h' : Blk w g' t' cs') (hne : t ≠ t') : g ≠ g' := by
 rintro rfl
 unfold Blk at h h'
 rw [h] at h'
 injection h' with h'
 injection h' with _ ht
 exact hne ht
theorem Own.ne_blk {e : TypeId} {v : Value} {xs : List Value} (h : Own w e v xs) (hg : Blk w g t cs) (hne : e ≠ t) : v.ownBlock ≠ some g := fun he => by
 obtain ⟨cur, mk, hc, _⟩ := h.type he
 unfold Blk at hg
 rw [hc] at hg
 injection hg with hg
 injection hg with _ ht
 exact hne ht
end
theorem Own.far {w : World} {e : TypeId} {v : Value} {xs : List Value} (h : Own w e v xs) {p : Addr} (hp : v.ownBlock ≠ some p.block) (u : Value) : Own (w.setCell p u) e v xs :=
 h.keep fun g hg => Below.heap_setCell w p u g (fun he => hp (by rw [hg, he]))
theorem Own.kp {M : Nat → Prop} {w w' : World} {e : TypeId} {v : Value} {xs : List Value} (h : Own w e v xs) (hk : Kp M w w') (hm : ∀ g, v.ownBlock = some g → ¬ M g) : Own w' e v xs :=
 h.keep fun g hg => hk.block g (h.lt hg) (hm g hg)
theorem y2m {P : Program} (w : World) {o : Oper} {a : Act} {K : Act → World → Prop} {Q : Exit → Act → World → Prop} (s x : Operand) (t : TypeId)
 (ho : o.op = .call { callee := .builtin .append, args := #[s, x], argTypes := #[t, t] })
 (e : TypeId) (i : TypeInfo) (z : Value) (bytes : Nat) (ht : P.underlying t = some (.slice e)) (hi : P.info? e = some i) (hz : i.zero = some z)
 (hsize : i.size = 1) (hby : i.bytes = bytes) (hzs : z.cells.size = 1)
 (v : Value) (xs : List Value) (hs : a.eval s = v) (hown : Own w e v xs)
 (ad : Addr) (c : Nat) (news : List Value) (hx : a.eval x = .slice (some ad) news.length c) (hc : ∀ j u, news[j]? = some u → w.cell? (ad.add j) = some u) (h1 : ∀ u ∈ news, u.oneCell' = true)
 (h63 : xs.length + news.length ≤ maxLen) (hbytes : (xs.length + news.length) * bytes ≤ 140737488355328)
 (h : ∀ A cap w', Own w' e (.slice A (xs.length + news.length) cap) (xs ++ news) → w.grownBy w' v.ownBlock → (∀ g, (Value.slice A (xs.length + news.length) cap).ownBlock = some g → v.ownBlock = some g ∨ g = w.heap.size) →
  K (a.put o.dst (.slice A (xs.length + news.length) cap)) w') : o.wp P a w K Q := by
 obtain ⟨v', w', hr, h2, h3, h4, h5⟩ := q4r (P := P) w t o.type e i z bytes ht hi hz hsize hby hzs v xs hown ad _ c news rfl hc h1 h63 hbytes
 obtain ⟨A, cap, hform, _⟩ := h2.form
 rw [List.length_append] at hform
 subst hform
 unfold Oper.wp execOp
 simp only [ho, resolve, invoke, builtin, Sem.run_bind, Sem.run_pure, Result.andThen_ok, List.map_toArray, List.map_cons, List.map_nil, hs, hx, hr]
 exact h A cap w' h2 h3 (fun g hg => by
  rcases h4 with h4 | h4
  · left; rw [← h4]; exact hg
  · right; rw [hg] at h4; injection h4)
theorem z6e {P : Program} (w : World) {ops : Array Oper} {rest : List Oper} {o : Oper} {a : Act} {Q : Exit → Act → World → Prop} (hgd : o.guard = none) (s x : Operand) (t : TypeId)
 (ho : o.op = .call { callee := .builtin .append, args := #[s, x], argTypes := #[t, t] })
 (e : TypeId) (i : TypeInfo) (z : Value) (bytes : Nat) (ht : P.underlying t = some (.slice e)) (hi : P.info? e = some i) (hz : i.zero = some z)
 (hsize : i.size = 1) (hby : i.bytes = bytes) (hzs : z.cells.size = 1)
 (v : Value) (xs : List Value) (hs : a.eval s = v) (hown : Own w e v xs)
 (ad : Addr) (c : Nat) (news : List Value) (hx : a.eval x = .slice (some ad) news.length c) (hc : ∀ j u, news[j]? = some u → w.cell? (ad.add j) = some u) (h1 : ∀ u ∈ news, u.oneCell' = true)
 (h63 : xs.length + news.length ≤ maxLen) (hbytes : (xs.length + news.length) * bytes ≤ 140737488355328)
 (h : ∀ A cap w', Own w' e (.slice A (xs.length + news.length) cap) (xs ++ news) → w.grownBy w' v.ownBlock → (∀ g, (Value.slice A (xs.length + news.length) cap).ownBlock = some g → v.ownBlock = some g ∨ g = w.heap.size) →
  wpList P ops Q rest (a.put o.dst (.slice A (xs.length + news.length) cap)) w') : wpList P ops Q (o :: rest) a w :=
 wpList_plain hgd fun _ hK => y2m w s x t ho e i z bytes ht hi hz hsize hby hzs v xs hs hown ad c news hx hc h1 h63 hbytes fun A cap w' h2 h3 h4 => hK _ _ (h A cap w' h2 h3 h4)
theorem Own.empty (w : World) (e : TypeId) : Own (w.alloc (.cells #[] e)) e (.slice (some ⟨w.heap.size, 0, none⟩) 0 0) [] :=
 .inr ⟨w.heap.size, 0, 0, #[], rfl, .mk0 (heap_alloc_new w _), Nat.le_refl _, Nat.zero_le _, Nat.le_refl _, fun j h => by simp at h⟩
theorem Own.set_ {w : World} {e : TypeId} {g off n c i : Nat} {xs : List Value} (h : Own w e (.slice (some ⟨g, off, none⟩) n c) xs) (hi : i < xs.length) (u : Value) :
 Own (w.setCell ⟨g, off + i, none⟩ u) e (.slice (some ⟨g, off, none⟩) n c) (xs.set i u) := by
 rcases h with ⟨h, _⟩ | ⟨g', off', cap, cur, hv, hg, h1, h2, h3, h4⟩
 · cases h
 · injection hv with ha hn hc
   injection ha with ha
   injection ha with hb ho
   subst hb ho hc
   refine .inr ⟨g, off, c, cur.setIfInBounds (off + i) u, by rw [hn, List.length_set], ?_, by rw [List.length_set]; exact h1, h2, by simpa using h3, fun j hj => ?_⟩
   · exact hg.setCell (off + i) u
   · rw [List.length_set] at hj
     rw [List.getElem_set, Array.getElem?_setIfInBounds]
     by_cases hij : i = j
     · subst hij
       rw [if_pos rfl, if_pos rfl, if_pos (by omega)]
     · rw [if_neg (by omega), if_neg hij]
       exact h4 j hj
theorem Own.at_ {w : World} {e : TypeId} {g off n c i : Nat} {xs : List Value} (h : Own w e (.slice (some ⟨g, off, none⟩) n c) xs) (hi : i < xs.length) :
 w.cell? ⟨g, off + i, none⟩ = some xs[i] ∧ w.frozen? ⟨g, off + i, none⟩ = false := by
 rcases h with ⟨h, _⟩ | ⟨g', off', cap, cur, hv, hg, h1, h2, h3, h4⟩
 · cases h
 · injection hv with ha hn hc
   injection ha with ha
   injection ha with hb ho
   subst hb ho hc
   exact ⟨(hg.cell _).trans (h4 i hi), hg.frozen (by omega)⟩
theorem Own.addr {w : World} {e : TypeId} {A : Option Addr} {n c : Nat} {xs : List Value} (h : Own w e (.slice A n c) xs) (hn : 0 < n) : ∃ g off, A = some ⟨g, off, none⟩ := by
 rcases h with ⟨h, _⟩ | ⟨g', off', cap, cur, hv, _⟩
 · injection h with _ h; omega
 · injection hv with ha
   exact ⟨g', off', ha⟩
theorem Own.len {w : World} {e : TypeId} {A : Option Addr} {n c : Nat} {xs : List Value} (h : Own w e (.slice A n c) xs) : xs.length = n ∧ n ≤ c := by
 obtain ⟨A', c', hv, hc⟩ := h.form
 injection hv with _ h1 h2
 subst h1 h2
 exact ⟨rfl, hc⟩
end Go.Proofs.YtkkapbnopmmmjaaGreatDoor
namespace Go.Proofs.YtkkapbnopmmmjaaGreatDoor.Cn
open Go
def k9g (x n : Int) : Bool := x != 0 && decide (-n ≤ x) && decide (x ≤ n)
section
variable {α : Type} {p : α → Bool}
theorem q0u {l : List α} {d : α} {k : Nat} (hk : k < l.length) : l.getD k d ∈ l := by
 rw [List.getD_eq_getElem?_getD, List.getElem?_eq_getElem hk]; exact List.getElem_mem hk
theorem z1j {l : List α} {d : α} {k : Nat} (hk : k < l.length) : l.take (k + 1) = l.take k ++ [l.getD k d] := by
 rw [List.take_succ_eq_append_getElem hk, List.getD_eq_getElem?_getD, List.getElem?_eq_getElem hk]; rfl
end
end Go.Proofs.YtkkapbnopmmmjaaGreatDoor.Cn
