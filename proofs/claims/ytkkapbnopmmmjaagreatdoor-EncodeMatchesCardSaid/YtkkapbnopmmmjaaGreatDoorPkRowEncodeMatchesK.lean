/- Lemmas and contracts for the row. -/
import Derived.Test.YtkkapbnopmmmjaaGreatDoorPkRowEncodeMatchesB
import Derived.Deep.AppendSrc
set_option linter.unusedVariables false
set_option linter.unusedSimpArgs false
set_option linter.unnecessarySimpa false
namespace Go.Proofs.YtkkapbnopmmmjaaGreatDoor
open Go
def k4v (w : World) (A : Option Addr) (news : List Value) : Prop := (news = [] ∧ A = none) ∨ ∃ ad, A = some ad ∧ ∀ j u, news[j]? = some u → w.cell? (ad.add j) = some u
section
variable {P : Program} (w : World)
theorem z4t (t ty e : TypeId) (i : TypeInfo) (ht : P.underlying t = some (.slice e)) (hi : P.info? e = some i) (v : Value) (xs : List Value) (hown : Own w e v xs) (c : Nat) :
 (Builtin.append_ #[t, t] ty #[v, .slice none 0 c]).run P w = .ok v w := by
 rcases hown with ⟨rfl, rfl⟩ | ⟨g, off, cap, cur, rfl, hg, hnc, hcm, hfit, hcs⟩
 · simp [Builtin.append_, run_underlying ht, sizeOf, typeInfo, hi, (Src.ofNil (P := P) w (size := i.size) ht c).len, (Src.ofNil (P := P) w (size := i.size) ht c).cells]
 · have := run_append_room_src (P := P) w t t ty e i ht hi g off xs.length cap (.slice none 0 c) 0 [] (Src.ofNil w ht c) (by omega) (by simp) (by simp)
   rw [this]
   rfl
end
end Go.Proofs.YtkkapbnopmmmjaaGreatDoor
