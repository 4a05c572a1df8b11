/- The state of a law of layer 12: boxes that hold constraints, kept by every call that writes new blocks alone. -/
import Derived.Test.YtibfgeoiemmjoaaLaw12b
import Derived.Deep.RegionWith
namespace Go.Proofs.Ytibfgeoiemmjoaa
open Go.RowKit Go.Shelf

abbrev linBox (A L : Option Addr) (cA cL : Nat) (l : LinV) : Obj := .cells #[.slice A l.C.length cA, .slice L l.L.length cL, I64 l.B] 24
structure BoxV where
  g : Nat
  A : Option Addr
  L : Option Addr
  cA : Nat
  cL : Nat
  l : LinV
structure BoxAt (W : World) (b : BoxV) : Prop where
  blk : Blk W b.g 24 #[.slice b.A b.l.C.length b.cA, .slice b.L b.l.L.length b.cL, I64 b.l.B]
  at_ : LinAt W b.A b.L b.l
theorem BoxAt.up {W W' : World} {b : BoxV} (h : BoxAt W b) (hb : Below W.heap.size W W') : BoxAt W' b := ⟨h.blk.up hb, h.at_.up hb⟩
theorem BoxAt.new (w : World) {A L : Option Addr} {cA cL : Nat} {l : LinV} (h : LinAt w A L l) : BoxAt (w.alloc (linBox A L cA cL l)) ⟨w.heap.size, A, L, cA, cL, l⟩ := ⟨Blk.new w _ _, h.up (below1 w _)⟩
theorem BoxAt.c0 {W : World} {b : BoxV} (h : BoxAt W b) : W.cell? ⟨b.g, 0, none⟩ = some (.slice b.A b.l.C.length b.cA) := h.blk.cell 0
theorem BoxAt.c1 {W : World} {b : BoxV} (h : BoxAt W b) : W.cell? ⟨b.g, 1, none⟩ = some (.slice b.L b.l.L.length b.cL) := h.blk.cell 1
theorem BoxAt.c2 {W : World} {b : BoxV} (h : BoxAt W b) : W.cell? ⟨b.g, 2, none⟩ = some (I64 b.l.B) := h.blk.cell 2
theorem below_drew0 (w : World) : Below w.heap.size w w.drew := ⟨rfl, rfl, rfl, Nat.le_refl _, fun _ _ => rfl⟩
/-- two constraints in boxes -/
structure St2 (w : World) (a b : BoxV) (W : World) : Prop where
  bel : Below w.heap.size w W
  a : BoxAt W a
  b : BoxAt W b
theorem St2.up {w W W' : World} {a b : BoxV} (h : St2 w a b W) (hb : Below W.heap.size W W') : St2 w a b W' := ⟨below_up h.bel hb, h.a.up hb, h.b.up hb⟩
theorem St2.drew {w W : World} {a b : BoxV} (h : St2 w a b W) : St2 w a b W.drew := h.up (below_drew0 W)
structure St1 (w : World) (a : BoxV) (W : World) : Prop where
  bel : Below w.heap.size w W
  a : BoxAt W a
theorem St1.up {w W W' : World} {a : BoxV} (h : St1 w a W) (hb : Below W.heap.size W W') : St1 w a W' := ⟨below_up h.bel hb, h.a.up hb⟩
theorem St1.drew {w W : World} {a : BoxV} (h : St1 w a W) : St1 w a W.drew := h.up (below_drew0 W)
theorem lcheck_vals' {l : LinV} {n : Int} (h : ¬ lcheck l n = 0) : lcheck l n = 1 ∨ lcheck l n = 2 := by
  unfold lcheck at *
  split
  · exact .inl rfl
  · split
    · exact .inl rfl
    · split
      · exact .inr rfl
      · rename_i h1 h2 h3; rw [if_neg h1, if_neg h2, if_neg h3] at h; exact absurd rfl h
theorem trL_len8 (p : Int) : (trL p 8).length = 9 := by simp [trL]
end Go.Proofs.Ytibfgeoiemmjoaa
