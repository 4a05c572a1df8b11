/- How a constraint that came in reads. -/
import Derived.Test.YtibfgeoiemmjoaaRowL
import Derived.Test.YtibfgeoiemmjoaaLaw12b
namespace Go.Proofs.Ytibfgeoiemmjoaa
open Go.ChangeShapes Go.WideShapes Go.ChangeAt Go.RowKit Go.Joins Go.Deep
structure LinBd (l : LinV) : Prop where
  hc : ∀ x ∈ l.C, InI64 x
  hl : ∀ x ∈ l.L, InI64 x
  hb : InI64 l.B
theorem lin_open {H : Type} {enc : TypeId × Value → H} {w : World} {r : Reach} {b0 : Nat} {v : Value} {d : DataW H} {p : List MemPlace} (hv : Value.okWide Try.prog w r b0 24 v) (h : DataW.Trod enc Try.prog w 0 (fun _ => true) true 24 v d p) :
    ∃ A L cA cL l, v = linV A L cA cL l ∧ LinAt w A L l ∧ LinBd l := by
  obtain ⟨v0, v1, v2, y0, y1, y2, n, rfl, rfl, rfl, h0, h1, h2⟩ := open_agg3 Try.underlying24 (by kernel_rfl) (by kernel_rfl) hv h
  obtain ⟨A, cA, cs, e0, r0, m0, b0⟩ := ints_open Try.underlying22 Try.underlying3 (by kernel_rfl) h0
  obtain ⟨L, cL, ls, e1, r1, m1, b1⟩ := ints_open Try.underlying22 Try.underlying3 (by kernel_rfl) h1
  obtain ⟨B, e2, _, wB⟩ := DataW.trod_int Try.underlying3 h2
  simp at e0 e1 e2
  subst e0 e1 e2
  exact ⟨A, L, cA, cL, ⟨cs, ls, B⟩, rfl, ⟨r0, r1, m0, m1⟩, ⟨b0, b1, i64_of_wf wB⟩⟩
end Go.Proofs.Ytibfgeoiemmjoaa
