/- Bytes into lines and fields: places, as state machines. Plain lemmas; no condition beyond their own hypotheses. -/
import Derived.Lib.DecodeNEq
set_option linter.unusedSimpArgs false
set_option linter.unusedVariables false
set_option linter.unnecessarySimpa false
namespace Go.Proofs.YtbpbndlgfiammaaGreatDoor.Cn

/-- a piece -/
def cut (xs : List Int) (q : Nat × Nat) : List Int := (xs.take q.2).drop q.1
def isBytes (xs : List Int) : Prop := ∀ x ∈ xs, 0 ≤ x ∧ x < 256
end Go.Proofs.YtbpbndlgfiammaaGreatDoor.Cn
