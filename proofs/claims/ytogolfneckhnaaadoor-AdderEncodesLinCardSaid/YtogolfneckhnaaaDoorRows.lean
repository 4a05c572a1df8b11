/-
  NARROWER THAN 'FOR EVERY INPUT', by the rows' own cells (each row's printed sentence says how): AdderSumSpec: laid · AdderLeastSpec: laid · AdderShift: laid · AdderSize: laid · AdderLeastCorrect: laid · AdderOrder: laid · AdderSumCorrect: laid · AdderLeastMonotone: laid · AdderEncodesLin: laid.
  DERIVED. THE GIVEN ROWS OF THIS SEAT. 9 by the template 'for every input the law returns true; each argument reads behind the call as it read before'; 0 by the template 'total and deterministic' (their statements: YtogolfneckhnaaaDoorTotals.lean).
  GIVEN WITH THE SEED: the statements are not yours to turn. If you find one false, say at which input.
  Laid BY PROGRAM, IN A SANDBOX (cutbox-rows.mjs): the forced cells as the released guide's own fill.sh prints them over the translation 5c0c0aa43556e68d… (all of the seat's roots in one cut). By AI agents, Wed Nov 11 2026. No macro, syntax, notation, axiom, sorry.
-/
import Derived.Test.YtogolfneckhnaaaDoorChecked
import GoSem.Claim
import GoSem.ClaimJoined
import GoSem.ClaimMapViews
import Derived.JoinedTies
import Derived.KernelRfl
namespace Go.Proofs.YtogolfneckhnaaaDoor
/- THE CELL 'sum', in the pinned program and in every row, IS THE sha256 OF THE DUMP (.gsa) THAT YtogolfneckhnaaaDoorProg.lean LOADS. Nothing in Lean hashes anything: it is a label: what it is worth is what the hold of that sum in a sandbox is worth. -/
noncomputable def Tryd.pinned : Pinned := { name := "ytogolfneckhnaaadoor", sum := "5c0c0aa43556e68dbd020597d7ba52747c578fda7a4cc1343133b34bbe405db4", checked := Tryd.checked }
namespace Rows
def none {H : Type} : Left H := { results := [], args := [] }

/- WHAT THE LISTED PACKAGE-LEVEL VARIABLES READ AS WHEN THE CALL BEGINS. Each datum BY PROGRAM (the guide's laid-datum.mjs) off the statement by which the dump's own 'gosem.cut.vars' lays the variable. In a bare row this is a premise. The card (YtogolfneckhnaaaDoorCards.lean) ties it to the program's text. -/
def laid_math_bits_deBruijn32tab {H : Type} : DataW H := .agg [.lit (.int .u8 0), .lit (.int .u8 1), .lit (.int .u8 28), .lit (.int .u8 2), .lit (.int .u8 29), .lit (.int .u8 14), .lit (.int .u8 24), .lit (.int .u8 3), .lit (.int .u8 30), .lit (.int .u8 22), .lit (.int .u8 20), .lit (.int .u8 15), .lit (.int .u8 25), .lit (.int .u8 17), .lit (.int .u8 4), .lit (.int .u8 8), .lit (.int .u8 31), .lit (.int .u8 27), .lit (.int .u8 13), .lit (.int .u8 23), .lit (.int .u8 21), .lit (.int .u8 19), .lit (.int .u8 16), .lit (.int .u8 7), .lit (.int .u8 26), .lit (.int .u8 12), .lit (.int .u8 18), .lit (.int .u8 6), .lit (.int .u8 11), .lit (.int .u8 5), .lit (.int .u8 10), .lit (.int .u8 9)]
def laid_math_bits_deBruijn64tab {H : Type} : DataW H := .agg [.lit (.int .u8 0), .lit (.int .u8 1), .lit (.int .u8 56), .lit (.int .u8 2), .lit (.int .u8 57), .lit (.int .u8 49), .lit (.int .u8 28), .lit (.int .u8 3), .lit (.int .u8 61), .lit (.int .u8 58), .lit (.int .u8 42), .lit (.int .u8 50), .lit (.int .u8 38), .lit (.int .u8 29), .lit (.int .u8 17), .lit (.int .u8 4), .lit (.int .u8 62), .lit (.int .u8 47), .lit (.int .u8 59), .lit (.int .u8 36), .lit (.int .u8 45), .lit (.int .u8 43), .lit (.int .u8 51), .lit (.int .u8 22), .lit (.int .u8 53), .lit (.int .u8 39), .lit (.int .u8 33), .lit (.int .u8 30), .lit (.int .u8 24), .lit (.int .u8 18), .lit (.int .u8 12), .lit (.int .u8 5), .lit (.int .u8 63), .lit (.int .u8 55), .lit (.int .u8 48), .lit (.int .u8 27), .lit (.int .u8 60), .lit (.int .u8 41), .lit (.int .u8 37), .lit (.int .u8 16), .lit (.int .u8 46), .lit (.int .u8 35), .lit (.int .u8 44), .lit (.int .u8 21), .lit (.int .u8 52), .lit (.int .u8 32), .lit (.int .u8 23), .lit (.int .u8 11), .lit (.int .u8 54), .lit (.int .u8 26), .lit (.int .u8 40), .lit (.int .u8 15), .lit (.int .u8 34), .lit (.int .u8 20), .lit (.int .u8 31), .lit (.int .u8 10), .lit (.int .u8 25), .lit (.int .u8 14), .lit (.int .u8 19), .lit (.int .u8 9), .lit (.int .u8 13), .lit (.int .u8 8), .lit (.int .u8 7), .lit (.int .u8 6)]

/-- 'chalklinelaw17.AdderSumSpec': WHATEVER THE INPUT: true; the input reads as it did. -/
def adderSumSpecSpec : ChangeSpec := { name := "adderSumSpec", fn := fun _ => fun
  | [d1, d2, d3] => { results := [.lit (.bool true)], args := [d1, d2, d3] }
  | _ => none }
def adderSumSpecRow : OpenClaim := { program := "ytogolfneckhnaaadoor", sum := "5c0c0aa43556e68dbd020597d7ba52747c578fda7a4cc1343133b34bbe405db4", func := "chalkline/chalklinelaw17.AdderSumSpec", spec := "adderSumSpec", unfollowed := true, recurses := true, named := ["math/bits.deBruijn32tab", "math/bits.deBruijn64tab"], apart := false, laid := [("math/bits.deBruijn32tab", laid_math_bits_deBruijn32tab), ("math/bits.deBruijn64tab", laid_math_bits_deBruijn64tab)] }
def AdderSumSpecSaid : Prop := adderSumSpecRow.holds Tryd.pinned (OpenSpec.ofChange adderSumSpecSpec)

/-- ITS FALSE NEIGHBOUR: 'it returns false'. Refute it at one input. -/
def adderSumSpecWrong : ChangeSpec := { name := "adderSumSpec", fn := fun _ => fun
  | [d1, d2, d3] => { results := [.lit (.bool false)], args := [d1, d2, d3] }
  | _ => none }
def AdderSumSpecWrongFalsely : Prop := adderSumSpecRow.holds Tryd.pinned (OpenSpec.ofChange adderSumSpecWrong)

/-- 'chalklinelaw17.AdderLeastSpec': WHATEVER THE INPUT: true; the input reads as it did. -/
def adderLeastSpecSpec : ChangeSpec := { name := "adderLeastSpec", fn := fun _ => fun
  | [d1, d2] => { results := [.lit (.bool true)], args := [d1, d2] }
  | _ => none }
def adderLeastSpecRow : OpenClaim := { program := "ytogolfneckhnaaadoor", sum := "5c0c0aa43556e68dbd020597d7ba52747c578fda7a4cc1343133b34bbe405db4", func := "chalkline/chalklinelaw17.AdderLeastSpec", spec := "adderLeastSpec", unfollowed := true, recurses := true, named := ["math/bits.deBruijn32tab", "math/bits.deBruijn64tab"], apart := false, laid := [("math/bits.deBruijn32tab", laid_math_bits_deBruijn32tab), ("math/bits.deBruijn64tab", laid_math_bits_deBruijn64tab)] }
def AdderLeastSpecSaid : Prop := adderLeastSpecRow.holds Tryd.pinned (OpenSpec.ofChange adderLeastSpecSpec)

/-- ITS FALSE NEIGHBOUR: 'it returns false'. Refute it at one input. -/
def adderLeastSpecWrong : ChangeSpec := { name := "adderLeastSpec", fn := fun _ => fun
  | [d1, d2] => { results := [.lit (.bool false)], args := [d1, d2] }
  | _ => none }
def AdderLeastSpecWrongFalsely : Prop := adderLeastSpecRow.holds Tryd.pinned (OpenSpec.ofChange adderLeastSpecWrong)

/-- 'chalklinelaw17.AdderShift': WHATEVER THE INPUT: true; the input reads as it did. -/
def adderShiftSpec : ChangeSpec := { name := "adderShift", fn := fun _ => fun
  | [d1, d2, d3] => { results := [.lit (.bool true)], args := [d1, d2, d3] }
  | _ => none }
def adderShiftRow : OpenClaim := { program := "ytogolfneckhnaaadoor", sum := "5c0c0aa43556e68dbd020597d7ba52747c578fda7a4cc1343133b34bbe405db4", func := "chalkline/chalklinelaw17.AdderShift", spec := "adderShift", unfollowed := true, recurses := true, named := ["math/bits.deBruijn32tab", "math/bits.deBruijn64tab"], apart := false, laid := [("math/bits.deBruijn32tab", laid_math_bits_deBruijn32tab), ("math/bits.deBruijn64tab", laid_math_bits_deBruijn64tab)] }
def AdderShiftSaid : Prop := adderShiftRow.holds Tryd.pinned (OpenSpec.ofChange adderShiftSpec)

/-- ITS FALSE NEIGHBOUR: 'it returns false'. Refute it at one input. -/
def adderShiftWrong : ChangeSpec := { name := "adderShift", fn := fun _ => fun
  | [d1, d2, d3] => { results := [.lit (.bool false)], args := [d1, d2, d3] }
  | _ => none }
def AdderShiftWrongFalsely : Prop := adderShiftRow.holds Tryd.pinned (OpenSpec.ofChange adderShiftWrong)

/-- 'chalklinelaw17.AdderSize': WHATEVER THE INPUT: true; the input reads as it did. -/
def adderSizeSpec : ChangeSpec := { name := "adderSize", fn := fun _ => fun
  | [d1, d2, d3] => { results := [.lit (.bool true)], args := [d1, d2, d3] }
  | _ => none }
def adderSizeRow : OpenClaim := { program := "ytogolfneckhnaaadoor", sum := "5c0c0aa43556e68dbd020597d7ba52747c578fda7a4cc1343133b34bbe405db4", func := "chalkline/chalklinelaw17.AdderSize", spec := "adderSize", unfollowed := true, recurses := true, named := ["math/bits.deBruijn32tab", "math/bits.deBruijn64tab"], apart := false, laid := [("math/bits.deBruijn32tab", laid_math_bits_deBruijn32tab), ("math/bits.deBruijn64tab", laid_math_bits_deBruijn64tab)] }
def AdderSizeSaid : Prop := adderSizeRow.holds Tryd.pinned (OpenSpec.ofChange adderSizeSpec)

/-- ITS FALSE NEIGHBOUR: 'it returns false'. Refute it at one input. -/
def adderSizeWrong : ChangeSpec := { name := "adderSize", fn := fun _ => fun
  | [d1, d2, d3] => { results := [.lit (.bool false)], args := [d1, d2, d3] }
  | _ => none }
def AdderSizeWrongFalsely : Prop := adderSizeRow.holds Tryd.pinned (OpenSpec.ofChange adderSizeWrong)

/-- 'chalklinelaw17.AdderLeastCorrect': WHATEVER THE INPUT: true; the input reads as it did. -/
def adderLeastCorrectSpec : ChangeSpec := { name := "adderLeastCorrect", fn := fun _ => fun
  | [d1, d2, d3] => { results := [.lit (.bool true)], args := [d1, d2, d3] }
  | _ => none }
def adderLeastCorrectRow : OpenClaim := { program := "ytogolfneckhnaaadoor", sum := "5c0c0aa43556e68dbd020597d7ba52747c578fda7a4cc1343133b34bbe405db4", func := "chalkline/chalklinelaw17.AdderLeastCorrect", spec := "adderLeastCorrect", unfollowed := true, recurses := true, named := ["math/bits.deBruijn32tab", "math/bits.deBruijn64tab"], apart := false, laid := [("math/bits.deBruijn32tab", laid_math_bits_deBruijn32tab), ("math/bits.deBruijn64tab", laid_math_bits_deBruijn64tab)] }
def AdderLeastCorrectSaid : Prop := adderLeastCorrectRow.holds Tryd.pinned (OpenSpec.ofChange adderLeastCorrectSpec)

/-- ITS FALSE NEIGHBOUR: 'it returns false'. Refute it at one input. -/
def adderLeastCorrectWrong : ChangeSpec := { name := "adderLeastCorrect", fn := fun _ => fun
  | [d1, d2, d3] => { results := [.lit (.bool false)], args := [d1, d2, d3] }
  | _ => none }
def AdderLeastCorrectWrongFalsely : Prop := adderLeastCorrectRow.holds Tryd.pinned (OpenSpec.ofChange adderLeastCorrectWrong)

/-- 'chalklinelaw17.AdderOrder': WHATEVER THE INPUT: true; the input reads as it did. -/
def adderOrderSpec : ChangeSpec := { name := "adderOrder", fn := fun _ => fun
  | [d1, d2, d3, d4] => { results := [.lit (.bool true)], args := [d1, d2, d3, d4] }
  | _ => none }
def adderOrderRow : OpenClaim := { program := "ytogolfneckhnaaadoor", sum := "5c0c0aa43556e68dbd020597d7ba52747c578fda7a4cc1343133b34bbe405db4", func := "chalkline/chalklinelaw17.AdderOrder", spec := "adderOrder", unfollowed := true, recurses := true, named := ["math/bits.deBruijn32tab", "math/bits.deBruijn64tab"], apart := false, laid := [("math/bits.deBruijn32tab", laid_math_bits_deBruijn32tab), ("math/bits.deBruijn64tab", laid_math_bits_deBruijn64tab)] }
def AdderOrderSaid : Prop := adderOrderRow.holds Tryd.pinned (OpenSpec.ofChange adderOrderSpec)

/-- ITS FALSE NEIGHBOUR: 'it returns false'. Refute it at one input. -/
def adderOrderWrong : ChangeSpec := { name := "adderOrder", fn := fun _ => fun
  | [d1, d2, d3, d4] => { results := [.lit (.bool false)], args := [d1, d2, d3, d4] }
  | _ => none }
def AdderOrderWrongFalsely : Prop := adderOrderRow.holds Tryd.pinned (OpenSpec.ofChange adderOrderWrong)

/-- 'chalklinelaw17.AdderSumCorrect': WHATEVER THE INPUT: true; the input reads as it did. -/
def adderSumCorrectSpec : ChangeSpec := { name := "adderSumCorrect", fn := fun _ => fun
  | [d1, d2, d3, d4] => { results := [.lit (.bool true)], args := [d1, d2, d3, d4] }
  | _ => none }
def adderSumCorrectRow : OpenClaim := { program := "ytogolfneckhnaaadoor", sum := "5c0c0aa43556e68dbd020597d7ba52747c578fda7a4cc1343133b34bbe405db4", func := "chalkline/chalklinelaw17.AdderSumCorrect", spec := "adderSumCorrect", unfollowed := true, recurses := true, named := ["math/bits.deBruijn32tab", "math/bits.deBruijn64tab"], apart := false, laid := [("math/bits.deBruijn32tab", laid_math_bits_deBruijn32tab), ("math/bits.deBruijn64tab", laid_math_bits_deBruijn64tab)] }
def AdderSumCorrectSaid : Prop := adderSumCorrectRow.holds Tryd.pinned (OpenSpec.ofChange adderSumCorrectSpec)

/-- ITS FALSE NEIGHBOUR: 'it returns false'. Refute it at one input. -/
def adderSumCorrectWrong : ChangeSpec := { name := "adderSumCorrect", fn := fun _ => fun
  | [d1, d2, d3, d4] => { results := [.lit (.bool false)], args := [d1, d2, d3, d4] }
  | _ => none }
def AdderSumCorrectWrongFalsely : Prop := adderSumCorrectRow.holds Tryd.pinned (OpenSpec.ofChange adderSumCorrectWrong)

/-- 'chalklinelaw17.AdderLeastMonotone': WHATEVER THE INPUT: true; the input reads as it did. -/
def adderLeastMonotoneSpec : ChangeSpec := { name := "adderLeastMonotone", fn := fun _ => fun
  | [d1, d2, d3, d4] => { results := [.lit (.bool true)], args := [d1, d2, d3, d4] }
  | _ => none }
def adderLeastMonotoneRow : OpenClaim := { program := "ytogolfneckhnaaadoor", sum := "5c0c0aa43556e68dbd020597d7ba52747c578fda7a4cc1343133b34bbe405db4", func := "chalkline/chalklinelaw17.AdderLeastMonotone", spec := "adderLeastMonotone", unfollowed := true, recurses := true, named := ["math/bits.deBruijn32tab", "math/bits.deBruijn64tab"], apart := false, laid := [("math/bits.deBruijn32tab", laid_math_bits_deBruijn32tab), ("math/bits.deBruijn64tab", laid_math_bits_deBruijn64tab)] }
def AdderLeastMonotoneSaid : Prop := adderLeastMonotoneRow.holds Tryd.pinned (OpenSpec.ofChange adderLeastMonotoneSpec)

/-- ITS FALSE NEIGHBOUR: 'it returns false'. Refute it at one input. -/
def adderLeastMonotoneWrong : ChangeSpec := { name := "adderLeastMonotone", fn := fun _ => fun
  | [d1, d2, d3, d4] => { results := [.lit (.bool false)], args := [d1, d2, d3, d4] }
  | _ => none }
def AdderLeastMonotoneWrongFalsely : Prop := adderLeastMonotoneRow.holds Tryd.pinned (OpenSpec.ofChange adderLeastMonotoneWrong)

/-- 'chalklinelaw17.AdderEncodesLin': WHATEVER THE INPUT: true; the input reads as it did. -/
def adderEncodesLinSpec : ChangeSpec := { name := "adderEncodesLin", fn := fun _ => fun
  | [d1, d2, d3] => { results := [.lit (.bool true)], args := [d1, d2, d3] }
  | _ => none }
def adderEncodesLinRow : OpenClaim := { program := "ytogolfneckhnaaadoor", sum := "5c0c0aa43556e68dbd020597d7ba52747c578fda7a4cc1343133b34bbe405db4", func := "chalkline/chalklinelaw17.AdderEncodesLin", spec := "adderEncodesLin", unfollowed := true, recurses := true, named := ["math/bits.deBruijn32tab", "math/bits.deBruijn64tab"], apart := false, laid := [("math/bits.deBruijn32tab", laid_math_bits_deBruijn32tab), ("math/bits.deBruijn64tab", laid_math_bits_deBruijn64tab)] }
def AdderEncodesLinSaid : Prop := adderEncodesLinRow.holds Tryd.pinned (OpenSpec.ofChange adderEncodesLinSpec)

/-- ITS FALSE NEIGHBOUR: 'it returns false'. Refute it at one input. -/
def adderEncodesLinWrong : ChangeSpec := { name := "adderEncodesLin", fn := fun _ => fun
  | [d1, d2, d3] => { results := [.lit (.bool false)], args := [d1, d2, d3] }
  | _ => none }
def AdderEncodesLinWrongFalsely : Prop := adderEncodesLinRow.holds Tryd.pinned (OpenSpec.ofChange adderEncodesLinWrong)

/- THE SECOND FORM. 'bulk': how many values and letters a reading holds, each counted each time it is reached (what is shared counts as often as it is met; a slice's spare places count too). A statement '..UptoSaid' is the law's where the arguments, and the package variables that the reading takes, are together of bulk at most 1048576: NARROWER than '..Said'. Prove '..Said' where nothing that the law and all that it calls make is longer than what came in: it says more and counts as full. Else prove '..UptoSaid'. A law counts once. -/
mutual
def uptoBulk {H : Type} : DataW H → Nat
  | .lit (.string bytes) => bytes.length + 1
  | .lit _ => 1
  | .nil => 1
  | .ptr d => uptoBulk d + 1
  | .slice elems spare => uptoBulkAll elems + uptoBulkAll spare + 1
  | .agg parts => uptoBulkAll parts + 1
  | .iface _ d => uptoBulk d + 1
  | .map entries => uptoBulkEntries entries + 1
  | .held _ => 1
def uptoBulkAll {H : Type} : List (DataW H) → Nat
  | [] => 0
  | d :: r => uptoBulk d + uptoBulkAll r
def uptoBulkEntries {H : Type} : List (Lit × DataW H) → Nat
  | [] => 0
  | x :: r => uptoBulkEntry x + uptoBulkEntries r
def uptoBulkEntry {H : Type} : Lit × DataW H → Nat
  | (.string bytes, d) => bytes.length + uptoBulk d + 1
  | (_, d) => uptoBulk d + 1
 end
def uptoSmall : (H : Type) → List (DataW H) → Bool := fun _ ds => decide (uptoBulkAll ds ≤ 1048576)
def OpenSpec.upto (s : _root_.Go.ChangeSpec) : _root_.Go.OpenSpec := { _root_.Go.OpenSpec.ofChange s with cond := some uptoSmall }

/-- 'chalklinelaw17.AdderSumSpec', WHERE WHAT IT READS IS OF BULK AT MOST 1048576: true; the input reads as it did. -/
def adderSumSpecUptoRow : OpenClaim := { program := "ytogolfneckhnaaadoor", sum := "5c0c0aa43556e68dbd020597d7ba52747c578fda7a4cc1343133b34bbe405db4", func := "chalkline/chalklinelaw17.AdderSumSpec", spec := "adderSumSpec", unfollowed := true, recurses := true, named := ["math/bits.deBruijn32tab", "math/bits.deBruijn64tab"], apart := false, laid := [("math/bits.deBruijn32tab", laid_math_bits_deBruijn32tab), ("math/bits.deBruijn64tab", laid_math_bits_deBruijn64tab)], narrowed := true }
def AdderSumSpecUptoSaid : Prop := adderSumSpecUptoRow.holds Tryd.pinned (OpenSpec.upto adderSumSpecSpec)

/-- 'chalklinelaw17.AdderLeastSpec', WHERE WHAT IT READS IS OF BULK AT MOST 1048576: true; the input reads as it did. -/
def adderLeastSpecUptoRow : OpenClaim := { program := "ytogolfneckhnaaadoor", sum := "5c0c0aa43556e68dbd020597d7ba52747c578fda7a4cc1343133b34bbe405db4", func := "chalkline/chalklinelaw17.AdderLeastSpec", spec := "adderLeastSpec", unfollowed := true, recurses := true, named := ["math/bits.deBruijn32tab", "math/bits.deBruijn64tab"], apart := false, laid := [("math/bits.deBruijn32tab", laid_math_bits_deBruijn32tab), ("math/bits.deBruijn64tab", laid_math_bits_deBruijn64tab)], narrowed := true }
def AdderLeastSpecUptoSaid : Prop := adderLeastSpecUptoRow.holds Tryd.pinned (OpenSpec.upto adderLeastSpecSpec)

/-- 'chalklinelaw17.AdderShift', WHERE WHAT IT READS IS OF BULK AT MOST 1048576: true; the input reads as it did. -/
def adderShiftUptoRow : OpenClaim := { program := "ytogolfneckhnaaadoor", sum := "5c0c0aa43556e68dbd020597d7ba52747c578fda7a4cc1343133b34bbe405db4", func := "chalkline/chalklinelaw17.AdderShift", spec := "adderShift", unfollowed := true, recurses := true, named := ["math/bits.deBruijn32tab", "math/bits.deBruijn64tab"], apart := false, laid := [("math/bits.deBruijn32tab", laid_math_bits_deBruijn32tab), ("math/bits.deBruijn64tab", laid_math_bits_deBruijn64tab)], narrowed := true }
def AdderShiftUptoSaid : Prop := adderShiftUptoRow.holds Tryd.pinned (OpenSpec.upto adderShiftSpec)

/-- 'chalklinelaw17.AdderSize', WHERE WHAT IT READS IS OF BULK AT MOST 1048576: true; the input reads as it did. -/
def adderSizeUptoRow : OpenClaim := { program := "ytogolfneckhnaaadoor", sum := "5c0c0aa43556e68dbd020597d7ba52747c578fda7a4cc1343133b34bbe405db4", func := "chalkline/chalklinelaw17.AdderSize", spec := "adderSize", unfollowed := true, recurses := true, named := ["math/bits.deBruijn32tab", "math/bits.deBruijn64tab"], apart := false, laid := [("math/bits.deBruijn32tab", laid_math_bits_deBruijn32tab), ("math/bits.deBruijn64tab", laid_math_bits_deBruijn64tab)], narrowed := true }
def AdderSizeUptoSaid : Prop := adderSizeUptoRow.holds Tryd.pinned (OpenSpec.upto adderSizeSpec)

/-- 'chalklinelaw17.AdderLeastCorrect', WHERE WHAT IT READS IS OF BULK AT MOST 1048576: true; the input reads as it did. -/
def adderLeastCorrectUptoRow : OpenClaim := { program := "ytogolfneckhnaaadoor", sum := "5c0c0aa43556e68dbd020597d7ba52747c578fda7a4cc1343133b34bbe405db4", func := "chalkline/chalklinelaw17.AdderLeastCorrect", spec := "adderLeastCorrect", unfollowed := true, recurses := true, named := ["math/bits.deBruijn32tab", "math/bits.deBruijn64tab"], apart := false, laid := [("math/bits.deBruijn32tab", laid_math_bits_deBruijn32tab), ("math/bits.deBruijn64tab", laid_math_bits_deBruijn64tab)], narrowed := true }
def AdderLeastCorrectUptoSaid : Prop := adderLeastCorrectUptoRow.holds Tryd.pinned (OpenSpec.upto adderLeastCorrectSpec)

/-- 'chalklinelaw17.AdderOrder', WHERE WHAT IT READS IS OF BULK AT MOST 1048576: true; the input reads as it did. -/
def adderOrderUptoRow : OpenClaim := { program := "ytogolfneckhnaaadoor", sum := "5c0c0aa43556e68dbd020597d7ba52747c578fda7a4cc1343133b34bbe405db4", func := "chalkline/chalklinelaw17.AdderOrder", spec := "adderOrder", unfollowed := true, recurses := true, named := ["math/bits.deBruijn32tab", "math/bits.deBruijn64tab"], apart := false, laid := [("math/bits.deBruijn32tab", laid_math_bits_deBruijn32tab), ("math/bits.deBruijn64tab", laid_math_bits_deBruijn64tab)], narrowed := true }
def AdderOrderUptoSaid : Prop := adderOrderUptoRow.holds Tryd.pinned (OpenSpec.upto adderOrderSpec)

/-- 'chalklinelaw17.AdderSumCorrect', WHERE WHAT IT READS IS OF BULK AT MOST 1048576: true; the input reads as it did. -/
def adderSumCorrectUptoRow : OpenClaim := { program := "ytogolfneckhnaaadoor", sum := "5c0c0aa43556e68dbd020597d7ba52747c578fda7a4cc1343133b34bbe405db4", func := "chalkline/chalklinelaw17.AdderSumCorrect", spec := "adderSumCorrect", unfollowed := true, recurses := true, named := ["math/bits.deBruijn32tab", "math/bits.deBruijn64tab"], apart := false, laid := [("math/bits.deBruijn32tab", laid_math_bits_deBruijn32tab), ("math/bits.deBruijn64tab", laid_math_bits_deBruijn64tab)], narrowed := true }
def AdderSumCorrectUptoSaid : Prop := adderSumCorrectUptoRow.holds Tryd.pinned (OpenSpec.upto adderSumCorrectSpec)

/-- 'chalklinelaw17.AdderLeastMonotone', WHERE WHAT IT READS IS OF BULK AT MOST 1048576: true; the input reads as it did. -/
def adderLeastMonotoneUptoRow : OpenClaim := { program := "ytogolfneckhnaaadoor", sum := "5c0c0aa43556e68dbd020597d7ba52747c578fda7a4cc1343133b34bbe405db4", func := "chalkline/chalklinelaw17.AdderLeastMonotone", spec := "adderLeastMonotone", unfollowed := true, recurses := true, named := ["math/bits.deBruijn32tab", "math/bits.deBruijn64tab"], apart := false, laid := [("math/bits.deBruijn32tab", laid_math_bits_deBruijn32tab), ("math/bits.deBruijn64tab", laid_math_bits_deBruijn64tab)], narrowed := true }
def AdderLeastMonotoneUptoSaid : Prop := adderLeastMonotoneUptoRow.holds Tryd.pinned (OpenSpec.upto adderLeastMonotoneSpec)

/-- 'chalklinelaw17.AdderEncodesLin', WHERE WHAT IT READS IS OF BULK AT MOST 1048576: true; the input reads as it did. -/
def adderEncodesLinUptoRow : OpenClaim := { program := "ytogolfneckhnaaadoor", sum := "5c0c0aa43556e68dbd020597d7ba52747c578fda7a4cc1343133b34bbe405db4", func := "chalkline/chalklinelaw17.AdderEncodesLin", spec := "adderEncodesLin", unfollowed := true, recurses := true, named := ["math/bits.deBruijn32tab", "math/bits.deBruijn64tab"], apart := false, laid := [("math/bits.deBruijn32tab", laid_math_bits_deBruijn32tab), ("math/bits.deBruijn64tab", laid_math_bits_deBruijn64tab)], narrowed := true }
def AdderEncodesLinUptoSaid : Prop := adderEncodesLinUptoRow.holds Tryd.pinned (OpenSpec.upto adderEncodesLinSpec)

end Rows
end Go.Proofs.YtogolfneckhnaaaDoor
