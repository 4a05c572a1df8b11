/- AdderEncodesLin's walk: at every input the law's Go text returns true, and writes nothing that was there. -/
import Derived.Test.YtogolfneckhnaaaDoorAdSumC
import Derived.Test.YtogolfneckhnaaaDoorAdLeastC
import Derived.Test.YtogolfneckhnaaaDoorLin6
import Derived.Test.YtogolfneckhnaaaDoorAppN
import Derived.Test.YtogolfneckhnaaaDoorEncLinP
import Derived.Deep.RegionWith
set_option linter.unusedSimpArgs false
set_option linter.unusedVariables false
set_option linter.unnecessarySimpa false
namespace Go.Proofs.YtogolfneckhnaaaDoor
open Go.RowKit Go.Shelf

abbrev linBox (A L : Option Addr) (cA cL : Nat) (l : LinV) : Obj := .cells #[.slice A l.C.length cA, .slice L l.L.length cL, I64 l.B] 49
structure BoxV where
  g : Nat
  A : Option Addr
  L : Option Addr
  cA : Nat
  cL : Nat
  l : LinV
theorem Blk.up {W W' : World} {g : Nat} {t : TypeId} {cs : Array Value} (h : Blk W g t cs) (hb : Below W.heap.size W W') : Blk W' g t cs := (hb.block g h.lt).trans h
structure BoxAt (W : World) (b : BoxV) : Prop where
  blk : Blk W b.g 49 #[.slice b.A b.l.C.length b.cA, .slice b.L b.l.L.length b.cL, I64 b.l.B]
  at_ : LinAt W b.A b.L b.l
theorem BoxAt.up {W W' : World} {b : BoxV} (h : BoxAt W b) (hb : Below W.heap.size W W') : BoxAt W' b := ⟨h.blk.up hb, h.at_.up hb⟩
theorem BoxAt.new (w : World) {A L : Option Addr} {cA cL : Nat} {l : LinV} (h : LinAt w A L l) : BoxAt (w.alloc (linBox A L cA cL l)) ⟨w.heap.size, A, L, cA, cL, l⟩ := ⟨Blk.new w _ _, h.up (below1 w _)⟩
theorem BoxAt.c0 {W : World} {b : BoxV} (h : BoxAt W b) : W.cell? ⟨b.g, 0, none⟩ = some (.slice b.A b.l.C.length b.cA) := h.blk.cell 0
theorem BoxAt.c1 {W : World} {b : BoxV} (h : BoxAt W b) : W.cell? ⟨b.g, 1, none⟩ = some (.slice b.L b.l.L.length b.cL) := h.blk.cell 1
theorem BoxAt.c2 {W : World} {b : BoxV} (h : BoxAt W b) : W.cell? ⟨b.g, 2, none⟩ = some (I64 b.l.B) := h.blk.cell 2
theorem below_drew0 (w : World) : Below w.heap.size w w.drew := ⟨rfl, rfl, rfl, Nat.le_refl _, fun _ _ => rfl⟩
structure St1 (w : World) (a : BoxV) (W : World) : Prop where
  bel : Below w.heap.size w W
  tab : TabAt W
  a : BoxAt W a
theorem St1.up {w W W' : World} {a : BoxV} (h : St1 w a W) (hb : Below W.heap.size W W') : St1 w a W' := ⟨below_up h.bel hb, h.tab.below hb, h.a.up hb⟩

/-- a list of slices as the values of its cells -/
theorem rdl_src {W : World} {C : Option Addr} {cs : List (List Int)} (h : RdL (· < W.heap.size) W C cs) : ∃ vs : List Value, vs.length = cs.length ∧ SrcAt W C vs ∧ (∀ u ∈ vs, u.oneCell' = true) ∧
    ∀ j (hj : j < cs.length), ∃ A c, vs.getD j undef = .slice A (cs[j]).length c ∧ cs[j].length ≤ c ∧ Rd I64 (· < W.heap.size) W A cs[j] := by
  by_cases h0 : 0 < cs.length
  · obtain ⟨b, off, rfl, _, hc⟩ := h h0
    refine ⟨(List.range cs.length).map fun j => (W.cell? ⟨b, off + j, none⟩).getD undef, by simp, .inr ⟨_, rfl, fun j u hu => ?_⟩, ?_, fun j hj => ?_⟩
    · rw [List.getElem?_map] at hu
      cases hr : (List.range cs.length)[j]? with
      | none => rw [hr] at hu; cases hu
      | some i =>
        obtain ⟨hj, hi⟩ := List.getElem?_eq_some_iff.1 hr
        simp at hj hi
        subst hi
        rw [hr] at hu
        obtain ⟨A, c, h1, _, _⟩ := hc j hj
        rw [add_mk, h1]
        simp [h1] at hu
        rw [hu]
    · intro u hu
      obtain ⟨j, hj, rfl⟩ := List.mem_map.1 hu
      obtain ⟨A, c, h1, _, _⟩ := hc j (List.mem_range.1 hj)
      rw [h1]; rfl
    · obtain ⟨A, c, h1, h3, h2⟩ := hc j hj
      refine ⟨A, c, ?_, h3, h2⟩
      rw [List.getD_eq_getElem?_getD, List.getElem?_map, List.getElem?_range hj]
      simp [h1]
  · have : cs = [] := List.eq_nil_of_length_eq_zero (by omega)
    subst this
    refine ⟨[], rfl, ?_, fun u hu => (by cases hu), fun j hj => absurd hj (by simp)⟩
    cases C with
    | none => exact .inl ⟨rfl, rfl⟩
    | some ad => exact .inr ⟨ad, rfl, fun j u hu => by simp at hu⟩
theorem rdl_own {W : World} {A : Option Addr} {cap n : Nat} {vs : List Value} {cs : List (List Int)} (h : Own W 22 (.slice A n cap) vs) (hlen : vs.length = cs.length)
    (he : ∀ j (hj : j < cs.length), ∃ B c, vs.getD j undef = .slice B (cs[j]).length c ∧ cs[j].length ≤ c ∧ Rd I64 (· < W.heap.size) W B cs[j]) : RdL (· < W.heap.size) W A cs := by
  intro h0
  have hlt := fun g hg => h.lt (g := g) hg
  obtain ⟨A', cap', e, _, hc⟩ := h.cell
  injection e with e
  subst e
  obtain ⟨b, off, hA, hb, _⟩ := hc 0 (by omega)
  refine ⟨b, off, hA, hlt b hb, fun j hj => ?_⟩
  obtain ⟨b', off', hA', _, hcell⟩ := hc j (by omega)
  rw [hA] at hA'
  injection hA' with hA'
  injection hA' with e1 e2
  subst e1 e2
  obtain ⟨B, c, h1, h2, h3⟩ := he j hj
  refine ⟨B, c, ?_, h2, h3⟩
  rw [hcell, ← h1, List.getD_eq_getElem?_getD, List.getElem?_eq_getElem (by omega)]
  rfl
theorem src_up {W W' : World} {A : Option Addr} {vs : List Value} (h : SrcAt W A vs) (hb : Below W.heap.size W W') : SrcAt W' A vs := by
  rcases h with h | ⟨ad, e, hc⟩
  · exact .inl h
  · exact .inr ⟨ad, e, fun j u hu => (hb.cell (World.block_lt_of_cell? W _ (hc j u hu))).trans (hc j u hu)⟩
/-- two lists of slices joined in a row of the call's own -/
theorem rdl_join {W W' : World} {A : Option Addr} {cap : Nat} {n : Nat} {vs us : List Value} {cs ds : List (List Int)} (h : Own W' 22 (.slice A n cap) (vs ++ us)) (hb : Below W.heap.size W W') (h1 : vs.length = cs.length) (h2 : us.length = ds.length)
    (he : ∀ j (hj : j < cs.length), ∃ B c, vs.getD j undef = .slice B (cs[j]).length c ∧ cs[j].length ≤ c ∧ Rd I64 (· < W.heap.size) W B cs[j])
    (hf : ∀ j (hj : j < ds.length), ∃ B c, us.getD j undef = .slice B (ds[j]).length c ∧ ds[j].length ≤ c ∧ Rd I64 (· < W.heap.size) W B ds[j]) : RdL (· < W'.heap.size) W' A (cs ++ ds) := by
  refine rdl_own h (by simp [h1, h2]) fun j hj => ?_
  rw [List.length_append] at hj
  by_cases hlt : j < cs.length
  · obtain ⟨B, c, e1, e2, e3⟩ := he j hlt
    refine ⟨B, c, ?_, ?_, ?_⟩
    · rw [List.getElem_append_left hlt, ← e1, List.getD_eq_getElem?_getD, List.getD_eq_getElem?_getD, List.getElem?_append_left (by omega)]
    · rw [List.getElem_append_left hlt]; exact e2
    · rw [List.getElem_append_left hlt]; exact e3.up hb
  · obtain ⟨B, c, e1, e2, e3⟩ := hf (j - cs.length) (by omega)
    refine ⟨B, c, ?_, ?_, ?_⟩
    · rw [List.getElem_append_right (by omega), ← e1, List.getD_eq_getElem?_getD, List.getD_eq_getElem?_getD, List.getElem?_append_right (by omega), h1]
    · rw [List.getElem_append_right (by omega)]; exact e2
    · rw [List.getElem_append_right (by omega)]; exact e3.up hb
theorem check_ok {N : Int} {cs : List (List Int)} (h0 : 0 ≤ N) (h1 : N ≤ 65536) (hl : cs.length ≤ 65536) (h : ∀ c ∈ cs, ∀ y ∈ c, y ≠ 0 ∧ -N ≤ y ∧ y ≤ N) : checkP N cs = 0 := by
  unfold checkP
  rw [if_neg (by omega), if_neg, if_neg (by omega)]
  intro hb
  obtain ⟨c, hc, hb⟩ := List.any_eq_true.1 hb
  obtain ⟨y, hy, hb⟩ := List.any_eq_true.1 hb
  obtain ⟨a1, a2, a3⟩ := h c hc y hy
  simp [mayB, a1, a2, a3] at hb
end Go.Proofs.YtogolfneckhnaaaDoor
