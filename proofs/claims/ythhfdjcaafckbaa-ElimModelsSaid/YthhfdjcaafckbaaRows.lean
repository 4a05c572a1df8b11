/-
  No cell of these rows narrows 'for every input' (looked for: loops, veiled, ifaces, maps, wideKeys, modest, calm, conditions, laid).
  DERIVED. THE GIVEN ROWS OF THIS SEAT. 7 by the template 'for every input the law returns true; each argument reads behind the call as it read before'; 0 by the template 'total and deterministic' (their statements: YthhfdjcaafckbaaTotals.lean).
  GIVEN WITH THE SEED: the statements are not yours to turn. If you find one false, say at which input.
  Laid BY PROGRAM, IN A SANDBOX (cutbox-rows.mjs): the forced cells as the released guide's own fill.sh prints them over the translation c6f140ec581e1b53… (all of the seat's roots in one cut). By AI agents, Wed Nov 11 2026. No macro, syntax, notation, axiom, sorry.
-/
import Derived.Test.YthhfdjcaafckbaaChecked
import GoSem.Claim
import GoSem.ClaimJoined
import GoSem.ClaimMapViews
import Derived.JoinedTies
import Derived.KernelRfl
namespace Go.Proofs.Ythhfdjcaafckbaa
/- THE CELL 'sum', in the pinned program and in every row, IS THE sha256 OF THE DUMP (.gsa) THAT YthhfdjcaafckbaaProg.lean LOADS. Nothing in Lean hashes anything: it is a label: what it is worth is what the hold of that sum in a sandbox is worth. -/
noncomputable def Try.pinned : Pinned := { name := "ythhfdjcaafckbaa", sum := "c6f140ec581e1b53547b8e7bcec091e141e09c87f9df87652af68652432a863b", checked := Try.checked }
namespace Rows
def none {H : Type} : Left H := { results := [], args := [] }

/-- 'chalklinelaw23.ElimOuts': WHATEVER THE INPUT: true; the input reads as it did. -/
def elimOutsSpec : ChangeSpec := { name := "elimOuts", fn := fun _ => fun
  | [d1, d2] => { results := [.lit (.bool true)], args := [d1, d2] }
  | _ => none }
def elimOutsRow : OpenClaim := { program := "ythhfdjcaafckbaa", sum := "c6f140ec581e1b53547b8e7bcec091e141e09c87f9df87652af68652432a863b", func := "chalkline/chalklinelaw23.ElimOuts", spec := "elimOuts", unfollowed := true, recurses := true, apart := false }
def ElimOutsSaid : Prop := elimOutsRow.holds Try.pinned (OpenSpec.ofChange elimOutsSpec)

/-- ITS FALSE NEIGHBOUR: 'it returns false'. Refute it at one input. -/
def elimOutsWrong : ChangeSpec := { name := "elimOuts", fn := fun _ => fun
  | [d1, d2] => { results := [.lit (.bool false)], args := [d1, d2] }
  | _ => none }
def ElimOutsWrongFalsely : Prop := elimOutsRow.holds Try.pinned (OpenSpec.ofChange elimOutsWrong)

/-- 'chalklinelaw23.ElimBacks': WHATEVER THE INPUT: true; the input reads as it did. -/
def elimBacksSpec : ChangeSpec := { name := "elimBacks", fn := fun _ => fun
  | [d1, d2] => { results := [.lit (.bool true)], args := [d1, d2] }
  | _ => none }
def elimBacksRow : OpenClaim := { program := "ythhfdjcaafckbaa", sum := "c6f140ec581e1b53547b8e7bcec091e141e09c87f9df87652af68652432a863b", func := "chalkline/chalklinelaw23.ElimBacks", spec := "elimBacks", unfollowed := true, recurses := true, apart := false }
def ElimBacksSaid : Prop := elimBacksRow.holds Try.pinned (OpenSpec.ofChange elimBacksSpec)

/-- ITS FALSE NEIGHBOUR: 'it returns false'. Refute it at one input. -/
def elimBacksWrong : ChangeSpec := { name := "elimBacks", fn := fun _ => fun
  | [d1, d2] => { results := [.lit (.bool false)], args := [d1, d2] }
  | _ => none }
def ElimBacksWrongFalsely : Prop := elimBacksRow.holds Try.pinned (OpenSpec.ofChange elimBacksWrong)

/-- 'chalklinelaw23.ElimSame': WHATEVER THE INPUT: true; the input reads as it did. -/
def elimSameSpec : ChangeSpec := { name := "elimSame", fn := fun _ => fun
  | [d1, d2] => { results := [.lit (.bool true)], args := [d1, d2] }
  | _ => none }
def elimSameRow : OpenClaim := { program := "ythhfdjcaafckbaa", sum := "c6f140ec581e1b53547b8e7bcec091e141e09c87f9df87652af68652432a863b", func := "chalkline/chalklinelaw23.ElimSame", spec := "elimSame", unfollowed := true, recurses := true, apart := false }
def ElimSameSaid : Prop := elimSameRow.holds Try.pinned (OpenSpec.ofChange elimSameSpec)

/-- ITS FALSE NEIGHBOUR: 'it returns false'. Refute it at one input. -/
def elimSameWrong : ChangeSpec := { name := "elimSame", fn := fun _ => fun
  | [d1, d2] => { results := [.lit (.bool false)], args := [d1, d2] }
  | _ => none }
def ElimSameWrongFalsely : Prop := elimSameRow.holds Try.pinned (OpenSpec.ofChange elimSameWrong)

/-- 'chalklinelaw23.ElimAll': WHATEVER THE INPUT: true; the input reads as it did. -/
def elimAllSpec : ChangeSpec := { name := "elimAll", fn := fun _ => fun
  | [d1, d2, d3] => { results := [.lit (.bool true)], args := [d1, d2, d3] }
  | _ => none }
def elimAllRow : OpenClaim := { program := "ythhfdjcaafckbaa", sum := "c6f140ec581e1b53547b8e7bcec091e141e09c87f9df87652af68652432a863b", func := "chalkline/chalklinelaw23.ElimAll", spec := "elimAll", unfollowed := true, recurses := true, apart := false }
def ElimAllSaid : Prop := elimAllRow.holds Try.pinned (OpenSpec.ofChange elimAllSpec)

/-- ITS FALSE NEIGHBOUR: 'it returns false'. Refute it at one input. -/
def elimAllWrong : ChangeSpec := { name := "elimAll", fn := fun _ => fun
  | [d1, d2, d3] => { results := [.lit (.bool false)], args := [d1, d2, d3] }
  | _ => none }
def ElimAllWrongFalsely : Prop := elimAllRow.holds Try.pinned (OpenSpec.ofChange elimAllWrong)

/-- 'chalklinelaw23.ElimGone': WHATEVER THE INPUT: true; the input reads as it did. -/
def elimGoneSpec : ChangeSpec := { name := "elimGone", fn := fun _ => fun
  | [d1, d2, d3] => { results := [.lit (.bool true)], args := [d1, d2, d3] }
  | _ => none }
def elimGoneRow : OpenClaim := { program := "ythhfdjcaafckbaa", sum := "c6f140ec581e1b53547b8e7bcec091e141e09c87f9df87652af68652432a863b", func := "chalkline/chalklinelaw23.ElimGone", spec := "elimGone", unfollowed := true, recurses := true, apart := false }
def ElimGoneSaid : Prop := elimGoneRow.holds Try.pinned (OpenSpec.ofChange elimGoneSpec)

/-- ITS FALSE NEIGHBOUR: 'it returns false'. Refute it at one input. -/
def elimGoneWrong : ChangeSpec := { name := "elimGone", fn := fun _ => fun
  | [d1, d2, d3] => { results := [.lit (.bool false)], args := [d1, d2, d3] }
  | _ => none }
def ElimGoneWrongFalsely : Prop := elimGoneRow.holds Try.pinned (OpenSpec.ofChange elimGoneWrong)

/-- 'chalklinelaw23.ElimSteps': WHATEVER THE INPUT: true; the input reads as it did. -/
def elimStepsSpec : ChangeSpec := { name := "elimSteps", fn := fun _ => fun
  | [d1, d2, d3] => { results := [.lit (.bool true)], args := [d1, d2, d3] }
  | _ => none }
def elimStepsRow : OpenClaim := { program := "ythhfdjcaafckbaa", sum := "c6f140ec581e1b53547b8e7bcec091e141e09c87f9df87652af68652432a863b", func := "chalkline/chalklinelaw23.ElimSteps", spec := "elimSteps", unfollowed := true, recurses := true, apart := false }
def ElimStepsSaid : Prop := elimStepsRow.holds Try.pinned (OpenSpec.ofChange elimStepsSpec)

/-- ITS FALSE NEIGHBOUR: 'it returns false'. Refute it at one input. -/
def elimStepsWrong : ChangeSpec := { name := "elimSteps", fn := fun _ => fun
  | [d1, d2, d3] => { results := [.lit (.bool false)], args := [d1, d2, d3] }
  | _ => none }
def ElimStepsWrongFalsely : Prop := elimStepsRow.holds Try.pinned (OpenSpec.ofChange elimStepsWrong)

/-- 'chalklinelaw23.ElimModels': WHATEVER THE INPUT: true; the input reads as it did. -/
def elimModelsSpec : ChangeSpec := { name := "elimModels", fn := fun _ => fun
  | [d1, d2, d3] => { results := [.lit (.bool true)], args := [d1, d2, d3] }
  | _ => none }
def elimModelsRow : OpenClaim := { program := "ythhfdjcaafckbaa", sum := "c6f140ec581e1b53547b8e7bcec091e141e09c87f9df87652af68652432a863b", func := "chalkline/chalklinelaw23.ElimModels", spec := "elimModels", unfollowed := true, recurses := true, apart := false }
def ElimModelsSaid : Prop := elimModelsRow.holds Try.pinned (OpenSpec.ofChange elimModelsSpec)

/-- ITS FALSE NEIGHBOUR: 'it returns false'. Refute it at one input. -/
def elimModelsWrong : ChangeSpec := { name := "elimModels", fn := fun _ => fun
  | [d1, d2, d3] => { results := [.lit (.bool false)], args := [d1, d2, d3] }
  | _ => none }
def ElimModelsWrongFalsely : Prop := elimModelsRow.holds Try.pinned (OpenSpec.ofChange elimModelsWrong)

/- THE SECOND FORM. 'bulk': how many values and letters a reading holds, each counted each time it is reached (what is shared counts as often as it is met; a slice's spare places count too). A statement '..UptoSaid' is the law's where the arguments, and the package variables that the reading takes, are together of bulk at most 1048576: NARROWER than '..Said'. Prove '..Said' where nothing that the law and all that it calls make is longer than what came in: it says more and counts as full. Else prove '..UptoSaid'. A law counts once. -/
mutual
def uptoBulk {H : Type} : DataW H → Nat
  | .lit (.string bytes) => bytes.length + 1
  | .lit _ => 1
  | .nil => 1
  | .ptr d => uptoBulk d + 1
  | .slice elems spare => uptoBulkAll elems + uptoBulkAll spare + 1
  | .agg parts => uptoBulkAll parts + 1
  | .iface _ d => uptoBulk d + 1
  | .map entries => uptoBulkEntries entries + 1
  | .held _ => 1
def uptoBulkAll {H : Type} : List (DataW H) → Nat
  | [] => 0
  | d :: r => uptoBulk d + uptoBulkAll r
def uptoBulkEntries {H : Type} : List (Lit × DataW H) → Nat
  | [] => 0
  | x :: r => uptoBulkEntry x + uptoBulkEntries r
def uptoBulkEntry {H : Type} : Lit × DataW H → Nat
  | (.string bytes, d) => bytes.length + uptoBulk d + 1
  | (_, d) => uptoBulk d + 1
 end
def uptoSmall : (H : Type) → List (DataW H) → Bool := fun _ ds => decide (uptoBulkAll ds ≤ 1048576)
def OpenSpec.upto (s : _root_.Go.ChangeSpec) : _root_.Go.OpenSpec := { _root_.Go.OpenSpec.ofChange s with cond := some uptoSmall }

/-- 'chalklinelaw23.ElimOuts', WHERE WHAT IT READS IS OF BULK AT MOST 1048576: true; the input reads as it did. -/
def elimOutsUptoRow : OpenClaim := { program := "ythhfdjcaafckbaa", sum := "c6f140ec581e1b53547b8e7bcec091e141e09c87f9df87652af68652432a863b", func := "chalkline/chalklinelaw23.ElimOuts", spec := "elimOuts", unfollowed := true, recurses := true, apart := false, narrowed := true }
def ElimOutsUptoSaid : Prop := elimOutsUptoRow.holds Try.pinned (OpenSpec.upto elimOutsSpec)

/-- 'chalklinelaw23.ElimBacks', WHERE WHAT IT READS IS OF BULK AT MOST 1048576: true; the input reads as it did. -/
def elimBacksUptoRow : OpenClaim := { program := "ythhfdjcaafckbaa", sum := "c6f140ec581e1b53547b8e7bcec091e141e09c87f9df87652af68652432a863b", func := "chalkline/chalklinelaw23.ElimBacks", spec := "elimBacks", unfollowed := true, recurses := true, apart := false, narrowed := true }
def ElimBacksUptoSaid : Prop := elimBacksUptoRow.holds Try.pinned (OpenSpec.upto elimBacksSpec)

/-- 'chalklinelaw23.ElimSame', WHERE WHAT IT READS IS OF BULK AT MOST 1048576: true; the input reads as it did. -/
def elimSameUptoRow : OpenClaim := { program := "ythhfdjcaafckbaa", sum := "c6f140ec581e1b53547b8e7bcec091e141e09c87f9df87652af68652432a863b", func := "chalkline/chalklinelaw23.ElimSame", spec := "elimSame", unfollowed := true, recurses := true, apart := false, narrowed := true }
def ElimSameUptoSaid : Prop := elimSameUptoRow.holds Try.pinned (OpenSpec.upto elimSameSpec)

/-- 'chalklinelaw23.ElimAll', WHERE WHAT IT READS IS OF BULK AT MOST 1048576: true; the input reads as it did. -/
def elimAllUptoRow : OpenClaim := { program := "ythhfdjcaafckbaa", sum := "c6f140ec581e1b53547b8e7bcec091e141e09c87f9df87652af68652432a863b", func := "chalkline/chalklinelaw23.ElimAll", spec := "elimAll", unfollowed := true, recurses := true, apart := false, narrowed := true }
def ElimAllUptoSaid : Prop := elimAllUptoRow.holds Try.pinned (OpenSpec.upto elimAllSpec)

/-- 'chalklinelaw23.ElimGone', WHERE WHAT IT READS IS OF BULK AT MOST 1048576: true; the input reads as it did. -/
def elimGoneUptoRow : OpenClaim := { program := "ythhfdjcaafckbaa", sum := "c6f140ec581e1b53547b8e7bcec091e141e09c87f9df87652af68652432a863b", func := "chalkline/chalklinelaw23.ElimGone", spec := "elimGone", unfollowed := true, recurses := true, apart := false, narrowed := true }
def ElimGoneUptoSaid : Prop := elimGoneUptoRow.holds Try.pinned (OpenSpec.upto elimGoneSpec)

/-- 'chalklinelaw23.ElimSteps', WHERE WHAT IT READS IS OF BULK AT MOST 1048576: true; the input reads as it did. -/
def elimStepsUptoRow : OpenClaim := { program := "ythhfdjcaafckbaa", sum := "c6f140ec581e1b53547b8e7bcec091e141e09c87f9df87652af68652432a863b", func := "chalkline/chalklinelaw23.ElimSteps", spec := "elimSteps", unfollowed := true, recurses := true, apart := false, narrowed := true }
def ElimStepsUptoSaid : Prop := elimStepsUptoRow.holds Try.pinned (OpenSpec.upto elimStepsSpec)

/-- 'chalklinelaw23.ElimModels', WHERE WHAT IT READS IS OF BULK AT MOST 1048576: true; the input reads as it did. -/
def elimModelsUptoRow : OpenClaim := { program := "ythhfdjcaafckbaa", sum := "c6f140ec581e1b53547b8e7bcec091e141e09c87f9df87652af68652432a863b", func := "chalkline/chalklinelaw23.ElimModels", spec := "elimModels", unfollowed := true, recurses := true, apart := false, narrowed := true }
def ElimModelsUptoSaid : Prop := elimModelsUptoRow.holds Try.pinned (OpenSpec.upto elimModelsSpec)

end Rows
end Go.Proofs.Ythhfdjcaafckbaa
