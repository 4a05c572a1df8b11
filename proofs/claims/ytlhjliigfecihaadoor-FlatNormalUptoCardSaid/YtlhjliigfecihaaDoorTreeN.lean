/- Check and Simple of a tree. Plain. -/
import Derived.Test.YtlhjliigfecihaaDoorTreeM
set_option linter.unusedSimpArgs false
set_option linter.unusedVariables false
namespace Go.Proofs.YtlhjliigfecihaaDoor.Fl
open Go En
variable {n q v k : Int} {l : List Tree}
def chkN (n q v k : Int) (l : List Tree) : Int := bif ((decide (n < 0) || decide (n > 65536)) || !(mayN n q v k l)) then 1 else bif decide (((1 + sizeL l : Nat) : Int) > 65536) then 2 else 0
def simN (q v k : Int) (l : List Tree) : Tree := bif chkN 65536 q v k l != 0 then tree0 else simpT (.node q v k l)
theorem chk_0 (h : chkN n q v k l = 0) : mayN n q v k l = true ∧ 1 + sizeL l ≤ 65536 := by
  unfold chkN at h
  cases h1 : ((decide (n < 0) || decide (n > 65536)) || !(mayN n q v k l)) with
  | true => rw [h1] at h; cases h
  | false =>
    rw [h1] at h
    cases h2 : decide (((1 + sizeL l : Nat) : Int) > 65536) with
    | true => rw [h2] at h; cases h
    | false =>
      rw [Bool.or_eq_false_iff] at h1
      exact ⟨by simpa using h1.2, by have := of_decide_eq_false h2; omega⟩
end Go.Proofs.YtlhjliigfecihaaDoor.Fl
