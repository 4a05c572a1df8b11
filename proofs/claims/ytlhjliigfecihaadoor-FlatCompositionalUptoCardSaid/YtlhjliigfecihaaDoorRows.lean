/-
  NARROWER THAN 'FOR EVERY INPUT', by the rows' own cells (each row's printed sentence says how): FlatValues: loops, laid · FlatSimplifies: loops, laid · FlatPreserves: loops, laid · FlatNormal: loops, laid · FlatDuality: loops, laid · FlatSubstitutes: loops, laid · FlatCompositional: loops, laid.
  DERIVED. THE GIVEN ROWS OF THIS SEAT. 7 by the template 'for every input the law returns true; each argument reads behind the call as it read before'; 0 by the template 'total and deterministic' (their statements: YtlhjliigfecihaaDoorTotals.lean).
  GIVEN WITH THE SEED: the statements are not yours to turn. If you find one false, say at which input.
  Laid BY PROGRAM, IN A SANDBOX (cutbox-rows.mjs): the forced cells as the released guide's own fill.sh prints them over the translation 8e78e6e7cb7562a3… (all of the seat's roots in one cut). By AI agents, Wed Nov 11 2026. No macro, syntax, notation, axiom, sorry.
-/
import Derived.Test.YtlhjliigfecihaaDoorChecked
import GoSem.Claim
import GoSem.ClaimJoined
import GoSem.ClaimMapViews
import Derived.JoinedTies
import Derived.KernelRfl
namespace Go.Proofs.YtlhjliigfecihaaDoor
/- THE CELL 'sum', in the pinned program and in every row, IS THE sha256 OF THE DUMP (.gsa) THAT YtlhjliigfecihaaDoorProg.lean LOADS. Nothing in Lean hashes anything: it is a label: what it is worth is what the hold of that sum in a sandbox is worth. -/
noncomputable def Tryd.pinned : Pinned := { name := "ytlhjliigfecihaadoor", sum := "8e78e6e7cb7562a31aeb7ed44607618a8d505335cb15a8ae7cba665cbde5ab4b", checked := Tryd.checked }
namespace Rows
def none {H : Type} : Left H := { results := [], args := [] }

/- WHAT THE LISTED PACKAGE-LEVEL VARIABLES READ AS WHEN THE CALL BEGINS. Each datum BY PROGRAM (the guide's laid-datum.mjs) off the statement by which the dump's own 'gosem.cut.vars' lays the variable. In a bare row this is a premise. The card (YtlhjliigfecihaaDoorCards.lean) ties it to the program's text. -/
def laid_chalkline_flat_idle {H : Type} : DataW H := .agg [.lit (.int .i64 0), .lit (.int .i64 0), .lit (.int .i64 0), .lit (.int .i64 0), .lit (.int .i64 1), .lit (.int .i64 0)]

/-- 'chalklinelaw11.FlatValues': WHATEVER THE INPUT: true; the input reads as it did. -/
def flatValuesSpec : ChangeSpec := { name := "flatValues", fn := fun _ => fun
  | [d1, d2] => { results := [.lit (.bool true)], args := [d1, d2] }
  | _ => none }
def flatValuesRow : OpenClaim := { program := "ytlhjliigfecihaadoor", sum := "8e78e6e7cb7562a31aeb7ed44607618a8d505335cb15a8ae7cba665cbde5ab4b", func := "chalkline/chalklinelaw11.FlatValues", spec := "flatValues", unfollowed := true, recurses := true, named := ["chalkline/flat.idle"], loops := true, apart := false, laid := [("chalkline/flat.idle", laid_chalkline_flat_idle)] }
def FlatValuesSaid : Prop := flatValuesRow.holds Tryd.pinned (OpenSpec.ofChange flatValuesSpec)

/-- ITS FALSE NEIGHBOUR: 'it returns false'. Refute it at one input. -/
def flatValuesWrong : ChangeSpec := { name := "flatValues", fn := fun _ => fun
  | [d1, d2] => { results := [.lit (.bool false)], args := [d1, d2] }
  | _ => none }
def FlatValuesWrongFalsely : Prop := flatValuesRow.holds Tryd.pinned (OpenSpec.ofChange flatValuesWrong)

/-- 'chalklinelaw11.FlatSimplifies': WHATEVER THE INPUT: true; the input reads as it did. -/
def flatSimplifiesSpec : ChangeSpec := { name := "flatSimplifies", fn := fun _ => fun
  | [d] => { results := [.lit (.bool true)], args := [d] }
  | _ => none }
def flatSimplifiesRow : OpenClaim := { program := "ytlhjliigfecihaadoor", sum := "8e78e6e7cb7562a31aeb7ed44607618a8d505335cb15a8ae7cba665cbde5ab4b", func := "chalkline/chalklinelaw11.FlatSimplifies", spec := "flatSimplifies", unfollowed := true, recurses := true, named := ["chalkline/flat.idle"], loops := true, apart := false, laid := [("chalkline/flat.idle", laid_chalkline_flat_idle)] }
def FlatSimplifiesSaid : Prop := flatSimplifiesRow.holds Tryd.pinned (OpenSpec.ofChange flatSimplifiesSpec)

/-- ITS FALSE NEIGHBOUR: 'it returns false'. Refute it at one input. -/
def flatSimplifiesWrong : ChangeSpec := { name := "flatSimplifies", fn := fun _ => fun
  | [d] => { results := [.lit (.bool false)], args := [d] }
  | _ => none }
def FlatSimplifiesWrongFalsely : Prop := flatSimplifiesRow.holds Tryd.pinned (OpenSpec.ofChange flatSimplifiesWrong)

/-- 'chalklinelaw11.FlatPreserves': WHATEVER THE INPUT: true; the input reads as it did. -/
def flatPreservesSpec : ChangeSpec := { name := "flatPreserves", fn := fun _ => fun
  | [d1, d2] => { results := [.lit (.bool true)], args := [d1, d2] }
  | _ => none }
def flatPreservesRow : OpenClaim := { program := "ytlhjliigfecihaadoor", sum := "8e78e6e7cb7562a31aeb7ed44607618a8d505335cb15a8ae7cba665cbde5ab4b", func := "chalkline/chalklinelaw11.FlatPreserves", spec := "flatPreserves", unfollowed := true, recurses := true, named := ["chalkline/flat.idle"], loops := true, apart := false, laid := [("chalkline/flat.idle", laid_chalkline_flat_idle)] }
def FlatPreservesSaid : Prop := flatPreservesRow.holds Tryd.pinned (OpenSpec.ofChange flatPreservesSpec)

/-- ITS FALSE NEIGHBOUR: 'it returns false'. Refute it at one input. -/
def flatPreservesWrong : ChangeSpec := { name := "flatPreserves", fn := fun _ => fun
  | [d1, d2] => { results := [.lit (.bool false)], args := [d1, d2] }
  | _ => none }
def FlatPreservesWrongFalsely : Prop := flatPreservesRow.holds Tryd.pinned (OpenSpec.ofChange flatPreservesWrong)

/-- 'chalklinelaw11.FlatNormal': WHATEVER THE INPUT: true; the input reads as it did. -/
def flatNormalSpec : ChangeSpec := { name := "flatNormal", fn := fun _ => fun
  | [d] => { results := [.lit (.bool true)], args := [d] }
  | _ => none }
def flatNormalRow : OpenClaim := { program := "ytlhjliigfecihaadoor", sum := "8e78e6e7cb7562a31aeb7ed44607618a8d505335cb15a8ae7cba665cbde5ab4b", func := "chalkline/chalklinelaw11.FlatNormal", spec := "flatNormal", unfollowed := true, recurses := true, named := ["chalkline/flat.idle"], loops := true, apart := false, laid := [("chalkline/flat.idle", laid_chalkline_flat_idle)] }
def FlatNormalSaid : Prop := flatNormalRow.holds Tryd.pinned (OpenSpec.ofChange flatNormalSpec)

/-- ITS FALSE NEIGHBOUR: 'it returns false'. Refute it at one input. -/
def flatNormalWrong : ChangeSpec := { name := "flatNormal", fn := fun _ => fun
  | [d] => { results := [.lit (.bool false)], args := [d] }
  | _ => none }
def FlatNormalWrongFalsely : Prop := flatNormalRow.holds Tryd.pinned (OpenSpec.ofChange flatNormalWrong)

/-- 'chalklinelaw11.FlatDuality': WHATEVER THE INPUT: true; the input reads as it did. -/
def flatDualitySpec : ChangeSpec := { name := "flatDuality", fn := fun _ => fun
  | [d1, d2, d3] => { results := [.lit (.bool true)], args := [d1, d2, d3] }
  | _ => none }
def flatDualityRow : OpenClaim := { program := "ytlhjliigfecihaadoor", sum := "8e78e6e7cb7562a31aeb7ed44607618a8d505335cb15a8ae7cba665cbde5ab4b", func := "chalkline/chalklinelaw11.FlatDuality", spec := "flatDuality", unfollowed := true, recurses := true, named := ["chalkline/flat.idle"], loops := true, apart := false, laid := [("chalkline/flat.idle", laid_chalkline_flat_idle)] }
def FlatDualitySaid : Prop := flatDualityRow.holds Tryd.pinned (OpenSpec.ofChange flatDualitySpec)

/-- ITS FALSE NEIGHBOUR: 'it returns false'. Refute it at one input. -/
def flatDualityWrong : ChangeSpec := { name := "flatDuality", fn := fun _ => fun
  | [d1, d2, d3] => { results := [.lit (.bool false)], args := [d1, d2, d3] }
  | _ => none }
def FlatDualityWrongFalsely : Prop := flatDualityRow.holds Tryd.pinned (OpenSpec.ofChange flatDualityWrong)

/-- 'chalklinelaw11.FlatSubstitutes': WHATEVER THE INPUT: true; the input reads as it did. -/
def flatSubstitutesSpec : ChangeSpec := { name := "flatSubstitutes", fn := fun _ => fun
  | [d1, d2, d3, d4] => { results := [.lit (.bool true)], args := [d1, d2, d3, d4] }
  | _ => none }
def flatSubstitutesRow : OpenClaim := { program := "ytlhjliigfecihaadoor", sum := "8e78e6e7cb7562a31aeb7ed44607618a8d505335cb15a8ae7cba665cbde5ab4b", func := "chalkline/chalklinelaw11.FlatSubstitutes", spec := "flatSubstitutes", unfollowed := true, recurses := true, named := ["chalkline/flat.idle"], loops := true, apart := false, laid := [("chalkline/flat.idle", laid_chalkline_flat_idle)] }
def FlatSubstitutesSaid : Prop := flatSubstitutesRow.holds Tryd.pinned (OpenSpec.ofChange flatSubstitutesSpec)

/-- ITS FALSE NEIGHBOUR: 'it returns false'. Refute it at one input. -/
def flatSubstitutesWrong : ChangeSpec := { name := "flatSubstitutes", fn := fun _ => fun
  | [d1, d2, d3, d4] => { results := [.lit (.bool false)], args := [d1, d2, d3, d4] }
  | _ => none }
def FlatSubstitutesWrongFalsely : Prop := flatSubstitutesRow.holds Tryd.pinned (OpenSpec.ofChange flatSubstitutesWrong)

/-- 'chalklinelaw11.FlatCompositional': WHATEVER THE INPUT: true; the input reads as it did. -/
def flatCompositionalSpec : ChangeSpec := { name := "flatCompositional", fn := fun _ => fun
  | [d1, d2] => { results := [.lit (.bool true)], args := [d1, d2] }
  | _ => none }
def flatCompositionalRow : OpenClaim := { program := "ytlhjliigfecihaadoor", sum := "8e78e6e7cb7562a31aeb7ed44607618a8d505335cb15a8ae7cba665cbde5ab4b", func := "chalkline/chalklinelaw11.FlatCompositional", spec := "flatCompositional", unfollowed := true, recurses := true, named := ["chalkline/flat.idle"], loops := true, apart := false, laid := [("chalkline/flat.idle", laid_chalkline_flat_idle)] }
def FlatCompositionalSaid : Prop := flatCompositionalRow.holds Tryd.pinned (OpenSpec.ofChange flatCompositionalSpec)

/-- ITS FALSE NEIGHBOUR: 'it returns false'. Refute it at one input. -/
def flatCompositionalWrong : ChangeSpec := { name := "flatCompositional", fn := fun _ => fun
  | [d1, d2] => { results := [.lit (.bool false)], args := [d1, d2] }
  | _ => none }
def FlatCompositionalWrongFalsely : Prop := flatCompositionalRow.holds Tryd.pinned (OpenSpec.ofChange flatCompositionalWrong)

/- THE SECOND FORM. 'bulk': how many values and letters a reading holds, each counted each time it is reached (what is shared counts as often as it is met; a slice's spare places count too). A statement '..UptoSaid' is the law's where the arguments, and the package variables that the reading takes, are together of bulk at most 1048576: NARROWER than '..Said'. Prove '..Said' where nothing that the law and all that it calls make is longer than what came in: it says more and counts as full. Else prove '..UptoSaid'. A law counts once. -/
mutual
def uptoBulk {H : Type} : DataW H → Nat
  | .lit (.string bytes) => bytes.length + 1
  | .lit _ => 1
  | .nil => 1
  | .ptr d => uptoBulk d + 1
  | .slice elems spare => uptoBulkAll elems + uptoBulkAll spare + 1
  | .agg parts => uptoBulkAll parts + 1
  | .iface _ d => uptoBulk d + 1
  | .map entries => uptoBulkEntries entries + 1
  | .held _ => 1
def uptoBulkAll {H : Type} : List (DataW H) → Nat
  | [] => 0
  | d :: r => uptoBulk d + uptoBulkAll r
def uptoBulkEntries {H : Type} : List (Lit × DataW H) → Nat
  | [] => 0
  | x :: r => uptoBulkEntry x + uptoBulkEntries r
def uptoBulkEntry {H : Type} : Lit × DataW H → Nat
  | (.string bytes, d) => bytes.length + uptoBulk d + 1
  | (_, d) => uptoBulk d + 1
 end
def uptoSmall : (H : Type) → List (DataW H) → Bool := fun _ ds => decide (uptoBulkAll ds ≤ 1048576)
def OpenSpec.upto (s : _root_.Go.ChangeSpec) : _root_.Go.OpenSpec := { _root_.Go.OpenSpec.ofChange s with cond := some uptoSmall }

/-- 'chalklinelaw11.FlatValues', WHERE WHAT IT READS IS OF BULK AT MOST 1048576: true; the input reads as it did. -/
def flatValuesUptoRow : OpenClaim := { program := "ytlhjliigfecihaadoor", sum := "8e78e6e7cb7562a31aeb7ed44607618a8d505335cb15a8ae7cba665cbde5ab4b", func := "chalkline/chalklinelaw11.FlatValues", spec := "flatValues", unfollowed := true, recurses := true, named := ["chalkline/flat.idle"], loops := true, apart := false, laid := [("chalkline/flat.idle", laid_chalkline_flat_idle)], narrowed := true }
def FlatValuesUptoSaid : Prop := flatValuesUptoRow.holds Tryd.pinned (OpenSpec.upto flatValuesSpec)

/-- 'chalklinelaw11.FlatSimplifies', WHERE WHAT IT READS IS OF BULK AT MOST 1048576: true; the input reads as it did. -/
def flatSimplifiesUptoRow : OpenClaim := { program := "ytlhjliigfecihaadoor", sum := "8e78e6e7cb7562a31aeb7ed44607618a8d505335cb15a8ae7cba665cbde5ab4b", func := "chalkline/chalklinelaw11.FlatSimplifies", spec := "flatSimplifies", unfollowed := true, recurses := true, named := ["chalkline/flat.idle"], loops := true, apart := false, laid := [("chalkline/flat.idle", laid_chalkline_flat_idle)], narrowed := true }
def FlatSimplifiesUptoSaid : Prop := flatSimplifiesUptoRow.holds Tryd.pinned (OpenSpec.upto flatSimplifiesSpec)

/-- 'chalklinelaw11.FlatPreserves', WHERE WHAT IT READS IS OF BULK AT MOST 1048576: true; the input reads as it did. -/
def flatPreservesUptoRow : OpenClaim := { program := "ytlhjliigfecihaadoor", sum := "8e78e6e7cb7562a31aeb7ed44607618a8d505335cb15a8ae7cba665cbde5ab4b", func := "chalkline/chalklinelaw11.FlatPreserves", spec := "flatPreserves", unfollowed := true, recurses := true, named := ["chalkline/flat.idle"], loops := true, apart := false, laid := [("chalkline/flat.idle", laid_chalkline_flat_idle)], narrowed := true }
def FlatPreservesUptoSaid : Prop := flatPreservesUptoRow.holds Tryd.pinned (OpenSpec.upto flatPreservesSpec)

/-- 'chalklinelaw11.FlatNormal', WHERE WHAT IT READS IS OF BULK AT MOST 1048576: true; the input reads as it did. -/
def flatNormalUptoRow : OpenClaim := { program := "ytlhjliigfecihaadoor", sum := "8e78e6e7cb7562a31aeb7ed44607618a8d505335cb15a8ae7cba665cbde5ab4b", func := "chalkline/chalklinelaw11.FlatNormal", spec := "flatNormal", unfollowed := true, recurses := true, named := ["chalkline/flat.idle"], loops := true, apart := false, laid := [("chalkline/flat.idle", laid_chalkline_flat_idle)], narrowed := true }
def FlatNormalUptoSaid : Prop := flatNormalUptoRow.holds Tryd.pinned (OpenSpec.upto flatNormalSpec)

/-- 'chalklinelaw11.FlatDuality', WHERE WHAT IT READS IS OF BULK AT MOST 1048576: true; the input reads as it did. -/
def flatDualityUptoRow : OpenClaim := { program := "ytlhjliigfecihaadoor", sum := "8e78e6e7cb7562a31aeb7ed44607618a8d505335cb15a8ae7cba665cbde5ab4b", func := "chalkline/chalklinelaw11.FlatDuality", spec := "flatDuality", unfollowed := true, recurses := true, named := ["chalkline/flat.idle"], loops := true, apart := false, laid := [("chalkline/flat.idle", laid_chalkline_flat_idle)], narrowed := true }
def FlatDualityUptoSaid : Prop := flatDualityUptoRow.holds Tryd.pinned (OpenSpec.upto flatDualitySpec)

/-- 'chalklinelaw11.FlatSubstitutes', WHERE WHAT IT READS IS OF BULK AT MOST 1048576: true; the input reads as it did. -/
def flatSubstitutesUptoRow : OpenClaim := { program := "ytlhjliigfecihaadoor", sum := "8e78e6e7cb7562a31aeb7ed44607618a8d505335cb15a8ae7cba665cbde5ab4b", func := "chalkline/chalklinelaw11.FlatSubstitutes", spec := "flatSubstitutes", unfollowed := true, recurses := true, named := ["chalkline/flat.idle"], loops := true, apart := false, laid := [("chalkline/flat.idle", laid_chalkline_flat_idle)], narrowed := true }
def FlatSubstitutesUptoSaid : Prop := flatSubstitutesUptoRow.holds Tryd.pinned (OpenSpec.upto flatSubstitutesSpec)

/-- 'chalklinelaw11.FlatCompositional', WHERE WHAT IT READS IS OF BULK AT MOST 1048576: true; the input reads as it did. -/
def flatCompositionalUptoRow : OpenClaim := { program := "ytlhjliigfecihaadoor", sum := "8e78e6e7cb7562a31aeb7ed44607618a8d505335cb15a8ae7cba665cbde5ab4b", func := "chalkline/chalklinelaw11.FlatCompositional", spec := "flatCompositional", unfollowed := true, recurses := true, named := ["chalkline/flat.idle"], loops := true, apart := false, laid := [("chalkline/flat.idle", laid_chalkline_flat_idle)], narrowed := true }
def FlatCompositionalUptoSaid : Prop := flatCompositionalUptoRow.holds Tryd.pinned (OpenSpec.upto flatCompositionalSpec)

end Rows
end Go.Proofs.YtlhjliigfecihaaDoor
