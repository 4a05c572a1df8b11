/- The library's IndexFunc and ContainsFunc at ints, for whatever predicate that only reads; small words on worlds. -/
import Derived.Test.YtogolfneckhnaaaDoorProg
import Derived.Test.YtogolfneckhnaaaDoorMem
import Derived.Test.YtogolfneckhnaaaDoorTold
import Derived.Test.YtogolfneckhnaaaDoorCnfVal
import Derived.Deep.QuietTactic
import Derived.BigQuiet
import Derived.Lib.Hide
import Derived.Outline
import Derived.Shelf.Abstract
namespace Go.Proofs.YtogolfneckhnaaaDoor
open Go.RowKit Go.Shelf

/-- a slice of the call's own has grown by one element -/
theorem own_push {wo wr w5 : World} {cvv : Value} {o : Obj} {g2 o2 n cp2 : Nat} (hg : ∀ g, cvv.ownBlock = some g → wo.heap.size ≤ g) (hb : Below wo.heap.size wo wr) (hg5 : (wr.alloc o).grownBy w5 cvv.ownBlock) (hat : cvv.ownBlock = some g2 ∨ g2 = wr.heap.size + 1) :
    (∀ g, (Value.slice (some ⟨g2, o2, none⟩) n cp2).ownBlock = some g → wo.heap.size ≤ g) ∧ Below wo.heap.size wo w5 := by
  refine ⟨fun g e => ?_, ?_⟩
  · have e : g2 = g := by simpa [Value.ownBlock] using e
    subst e
    rcases hat with e | e
    · exact hg _ e
    · have := hb.size
      omega
  · exact (hb.alloc hb.size o).grown hg5 (Nat.le_trans hb.size (by simp)) (fun g e => hg g e)

end Go.Proofs.YtogolfneckhnaaaDoor
