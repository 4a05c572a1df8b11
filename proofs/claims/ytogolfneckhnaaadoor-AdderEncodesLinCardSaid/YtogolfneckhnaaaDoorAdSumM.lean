/- Memory lemmas of the main loop of the adder's Sum. -/
import Derived.Test.YtogolfneckhnaaaDoorAdSumA
import Derived.Test.YtogolfneckhnaaaDoorAdPlain2
import Derived.Deep.LoopGhost
namespace Go.Proofs.YtogolfneckhnaaaDoor
open Go.RowKit Go.Shelf

theorem Own.cut_off {w : World} {e : TypeId} {g off n c k : Nat} {xs : List Value} (h : Own w e (.slice (some ⟨g, off, none⟩) n c) xs) (hk : k ≤ n) : Own w e (.slice (some ⟨g, off + k, none⟩) (n - k) (c - k)) (xs.drop k) := by
  rcases h with ⟨h, _⟩ | ⟨g', off', cap, cur, hv, hg, h1, h2, h3, h4⟩
  · cases h
  · injection hv with ha hn hc
    injection ha with ha
    injection ha with hb ho
    subst hb ho hc
    refine .inr ⟨g, off + k, c - k, cur, by rw [List.length_drop, hn], hg, by rw [List.length_drop]; omega, by omega, by omega, fun j hj => ?_⟩
    rw [List.length_drop] at hj
    rw [List.getElem_drop, show off + k + j = off + (k + j) by omega]
    exact h4 (k + j) (by omega)
theorem Own.cut_full {w : World} {e : TypeId} {g off n : Nat} {xs : List Value} (h : Own w e (.slice (some ⟨g, off, none⟩) n n) xs) : Own w e (.slice (some ⟨g, off, none⟩) 0 0) (xs.drop n) := by
  have hl := h.len.1
  rcases h with ⟨h, _⟩ | ⟨g', off', cap, cur, hv, hg, h1, h2, h3, h4⟩
  · cases h
  · injection hv with ha hn hc
    injection ha with ha
    injection ha with hb ho
    subst hb ho
    exact .inr ⟨g, off, 0, cur, by rw [List.length_drop, hl, Nat.sub_self], hg, by rw [List.length_drop]; omega, by omega, by omega, fun j hj => by rw [List.length_drop] at hj; omega⟩
theorem own_cl_take {w : World} {g off n c k : Nat} {ys : List Int} (h : Own w 3 (.slice (some ⟨g, off, none⟩) n c) (ys.map I64)) (hk : k ≤ n) : Cl (fun _ => True) w (.slice (some ⟨g, off, none⟩) k k) (ys.take k) := by
  have hl := h.len.1
  rw [List.length_map] at hl
  refine ⟨_, k, by rw [List.length_take, Nat.min_eq_left (by omega)], by rw [List.length_take]; omega, fun _ => ⟨g, off, rfl, ⟨h.type rfl, trivial⟩, fun j hj => ?_⟩⟩
  rw [List.length_take] at hj
  have := (h.at_ (i := j) (by rw [List.length_map]; omega)).1
  rw [this, List.getElem_map, List.getElem_take]
theorem st_rdl {E : Nat → Prop} {w : World} {p : Nat} {mv cv : Value} {nx : Int} {cs : List (List Int)} (h : St E w p mv nx cv cs) : ∃ C cC, cv = .slice C cs.length cC ∧ cs.length ≤ cC ∧ RdL (· < w.heap.size) w C cs := by
  obtain ⟨vs, h1, h2, h3, h4⟩ := h
  have h2' := h2
  obtain ⟨C, cC, e, hc, hcell⟩ := h2.cell
  rw [h3] at e hc
  refine ⟨C, cC, e, hc, fun hn => ?_⟩
  obtain ⟨b, off, e1, hb, _⟩ := hcell 0 (by omega)
  refine ⟨b, off, e1, h2'.lt hb, fun j hj => ?_⟩
  obtain ⟨b', off', e2, _, hc'⟩ := hcell j (by omega)
  rw [e1] at e2
  cases e2
  obtain ⟨A', c', e3, h5, h6⟩ := h4 j (vs[j]'(by omega)) cs[j] (List.getElem?_eq_getElem (by omega)) (List.getElem?_eq_getElem hj)
  exact ⟨A', c', by rw [hc', e3], h5, h6.mono (fun b hb => hb.lt)⟩

section
variable {B : Nat} {w w' : World} {p m bw bt : Nat} {f : Int → Option Value} {g : Int → Value} {rows : Int → List Int} {cs cs' : List (List Int)} {nx nx' : Int} {cv cv' : Value} {top : Int} {k : Int}
theorem Sm.added (h : Sm B w p m bw bt g rows cs nx cv top) (ht : Stp p w cv w' cv') (hs : St (EB g bt) w' p (.map (some m)) nx' cv' cs') : Sm B w' p m bw bt g rows cs' nx' cv' top := by
  obtain ⟨vs, h1, h2, h3, h4⟩ := h.st
  have hne : ∀ {b : Nat}, T3 (fun _ => True) w b → ¬ (b = p ∨ cv.ownBlock = some b) := fun hb hm => by
    rcases hm with hm | hm
    · exact hb.ne_blk h1 (by decide) hm
    · exact hb.ne_own h2 (by decide) hm
  refine ⟨fun j => (h.row j).kp ht.1 (fun b hb => hne ⟨(h.row j).type hb, trivial⟩), h.dist, h.far, hs, h.hbw.kp ht.1 (fun hm => ?_), h.hbt.kp ht.1 (hne ⟨⟨_, h.hbt⟩, trivial⟩), h.lp, h.lt, h.lr, fun b hb => ?_⟩
  · rcases hm with hm | hm
    · exact h.hbw.ne_ h1 (by decide) hm
    · exact h2.ne_blk h.hbw (by decide) hm
  · rcases ht.2 b hb with e | e
    · exact h.lc b e
    · exact Nat.le_trans h.size e
theorem SumSt.added (h : SumSt B w p m bw bt f g rows cs nx cv top) (ht : Stp p w cv w' cv') (hs : St (EB g bt) w' p (.map (some m)) nx' cv' cs') : SumSt B w' p m bw bt f g rows cs' nx' cv' top ∧ Below B w w' := by
  obtain ⟨vs, h1, h2, h3, h4⟩ := h.sm.st
  refine ⟨⟨h.sm.added ht hs, h.map.kp ht.1 (fun hm => ?_), h.gf, h.lm⟩, ht.1.below (fun b hb _ hm => ?_) h.sm.size⟩
  · rcases hm with hm | hm
    · exact h.map.ne_blk h1 hm
    · obtain ⟨cur, hc⟩ := h2.type hm
      exact h.map.ne_blk hc rfl
  · rcases hm with hm | hm
    · have := h.sm.lp; omega
    · have := h.sm.lc b hm; omega
theorem SumSt.fresh (h : SumSt B w p m bw bt f g rows cs nx cv top) : ∀ b, w.heap.size ≤ b → EB g bt b := fun b hb =>
  ⟨fun k e => by have := (h.sm.row k).lt e; omega, fun e => by have := h.sm.hbt.lt; omega⟩
/-- the map's row k is cut -/
theorem SumSt.cut {gg off off' n n' c c' : Nat} {zs : List Int} {w6 : World} (h : SumSt B w p m bw bt f g rows cs nx cv top) (hg : g k = .slice (some ⟨gg, off, none⟩) n c) (hown : Own w 3 (.slice (some ⟨gg, off', none⟩) n' c') (zs.map I64))
    (hm6 : MapI w6 m (upd f k (.slice (some ⟨gg, off', none⟩) n' c'))) (hg6 : w.grownBy w6 (some m)) :
    SumSt B w6 p m bw bt (upd f k (.slice (some ⟨gg, off', none⟩) n' c')) (fun j => if j = k then .slice (some ⟨gg, off', none⟩) n' c' else g j) (fun j => if j = k then zs else rows j) cs nx cv top ∧ Below B w w6 := by
  have hk6 : Kp (fun b => b = m) w w6 := (Kp.of_grown hg6).mono (fun b _ e => by injection e)
  have s5 := h.sm.grow (k := k) (Kp.refl _ w) (.inl (by rw [hg]; rfl)) hown
  refine ⟨⟨s5.mapset h.map hk6, hm6, fun j hj => ?_, h.lm⟩, hk6.below (fun b hb _ hm => by have := h.lm; omega) h.sm.size⟩
  rw [rowOf_upd]
  by_cases hjk : j = k
  · simp [hjk]
  · simp only [hjk, if_false]
    exact h.gf j hj
/-- the result's slice has grown -/
theorem SumSt.push {gg off n cap : Nat} {zs : List Int} {o : Obj} {w5 : World} (h : SumSt B w p m bw bt f g rows cs nx cv top) (hg : (w.alloc o).grownBy w5 (g (-1)).ownBlock) (hat : (g (-1)).ownBlock = some gg ∨ gg = (w.alloc o).heap.size)
    (hown : Own w5 3 (.slice (some ⟨gg, off, none⟩) n cap) (zs.map I64)) :
    SumSt B w5 p m bw bt f (fun j => if j = -1 then .slice (some ⟨gg, off, none⟩) n cap else g j) (fun j => if j = -1 then zs else rows j) cs nx cv top ∧ Below B w w5 := by
  have hk5 : Kp (fun b => (g (-1)).ownBlock = some b) w w5 := ((Kp.refl (fun b => (g (-1)).ownBlock = some b) w).alloc o).grown hg (fun _ e _ => e)
  refine ⟨⟨h.sm.grow hk5 (hat.imp id (fun e => by simp at e; omega)) hown, h.map.kp hk5 (fun e => h.row_ne e), fun j hj => ?_, h.lm⟩, hk5.below (fun b hb _ hm => by have := h.sm.lr (-1) b hm; omega) h.sm.size⟩
  rw [if_neg (by omega)]
  exact h.gf j hj
theorem SumSt.drewN (h : SumSt B w p m bw bt f g rows cs nx cv top) (n : Nat) : SumSt B (w.drewN n) p m bw bt f g rows cs nx cv top :=
  ⟨⟨fun k => (h.sm.row k).drewN n, h.sm.dist, h.sm.far, h.sm.st.drewN n, h.sm.hbw.drewN n, h.sm.hbt.drewN n, h.sm.lp, h.sm.lt, h.sm.lr, h.sm.lc⟩, h.map.kp ((Kp.refl (fun _ => False) w).drewN n) (fun h => h), h.gf, h.lm⟩
theorem SumSt.look (h : SumSt B w p m bw bt f g rows cs nx cv top) (hk : 0 ≤ k) : (Instr.lookup 55 (.map (some m)) (.int .i64 k) false).run Tryd.prog w = .ok (g k) w := by
  rw [← h.gf k hk]; exact run_look 55 3 22 (.slice none 0 0) Tryd.underlying55 Tryd.underlying3 zero_ints h.map k
end

theorem add_at {E F : Nat → Prop} (p : Nat) (mv cv : Value) (nx : Int) (A : Option Addr) (n c : Nat) (l : List Int) (cs : List (List Int)) (w : World) (hln : l.length = n)
    (h : St E w p mv nx cv cs) (hE : ∀ b, w.heap.size ≤ b → E b) (hn : cs.length < 900000000) (hl : n = 2 ∨ n = 3)
    (hr : Cl F w (.slice A n c) l) (hbd : ∀ x ∈ l, -1000000000 ≤ x ∧ x ≤ 1000000000) (h0 : 0 ≤ nx) (h1 : nx ≤ 1000000) :
    Calls Tryd.prog 32 #[.pointer (some ⟨p, 0, none⟩), .slice A n c] w fun e w' => e = .returned (.tuple #[I64 nx, I64 (nx + 1)]) ∧
      ∃ cv', St E w' p mv (nx + 2) cv' (cs ++ addC l nx (nx + 1)) ∧ Stp p w cv w' cv' := by
  subst hln
  exact add_any p mv cv nx A c l cs w h hE hn hl hr hbd h0 h1
end Go.Proofs.YtogolfneckhnaaaDoor
