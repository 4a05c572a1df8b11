/-
  NARROWER THAN 'FOR EVERY INPUT', by the rows' own cells (each row's printed sentence says how): CnfBasicsSpec: laid · CnfResolveSpec: laid · CnfDimacsSpec: laid · CnfResolveSound: laid · CnfSubsumesSound: laid · CnfNormEquivalent: laid · CnfDimacsRoundTrip: laid · CnfDimacsReadable: laid · CnfConjunction: laid.
  DERIVED. THE GIVEN ROWS OF THIS SEAT. 9 by the template 'for every input the law returns true; each argument reads behind the call as it read before'; 0 by the template 'total and deterministic' (their statements: YtiokflebeojokaaGreatDoorTotals.lean).
  GIVEN WITH THE SEED: the statements are not yours to turn. If you find one false, say at which input.
  Laid BY PROGRAM, IN A SANDBOX (cutbox-rows.mjs): the forced cells as the released guide's own fill.sh prints them over the translation e41607b64b43a989… (all of the seat's roots in one cut). By AI agents, Wed Nov 11 2026. No macro, syntax, notation, axiom, sorry.
-/
import Derived.Test.YtiokflebeojokaaGreatDoorChecked
import GoSem.PinnedTables
import GoSem.Claim
import GoSem.ClaimJoined
import GoSem.ClaimMapViews
import Derived.JoinedTies
import Derived.KernelRfl
namespace Go.Proofs.YtiokflebeojokaaGreatDoor
/- THE CELL 'sum', in the pinned program and in every row, IS THE sha256 OF THE DUMP (.gsa) THAT YtiokflebeojokaaGreatDoorProg.lean LOADS. Nothing in Lean hashes anything: it is a label: what it is worth is what the hold of that sum in a sandbox is worth. -/
noncomputable def Tryz.pinned : Pinned := { name := "ytiokflebeojokaagreatdoor", sum := "e41607b64b43a9893719ab4539dde979eaffd2fcbef6bf154ee2d6659e1da3a5", checked := Tryz.checked }
namespace Rows
def none {H : Type} : Left H := { results := [], args := [] }

/- WHAT THE LISTED PACKAGE-LEVEL VARIABLES READ AS WHEN THE CALL BEGINS. Each datum BY PROGRAM (the guide's laid-datum.mjs) off the statement by which the dump's own 'gosem.cut.vars' lays the variable. In a bare row this is a premise. The card (YtiokflebeojokaaGreatDoorCards.lean) ties it to the program's text. -/
def laid_math_bits_deBruijn32tab {H : Type} : DataW H := .agg [.lit (.int .u8 0), .lit (.int .u8 1), .lit (.int .u8 28), .lit (.int .u8 2), .lit (.int .u8 29), .lit (.int .u8 14), .lit (.int .u8 24), .lit (.int .u8 3), .lit (.int .u8 30), .lit (.int .u8 22), .lit (.int .u8 20), .lit (.int .u8 15), .lit (.int .u8 25), .lit (.int .u8 17), .lit (.int .u8 4), .lit (.int .u8 8), .lit (.int .u8 31), .lit (.int .u8 27), .lit (.int .u8 13), .lit (.int .u8 23), .lit (.int .u8 21), .lit (.int .u8 19), .lit (.int .u8 16), .lit (.int .u8 7), .lit (.int .u8 26), .lit (.int .u8 12), .lit (.int .u8 18), .lit (.int .u8 6), .lit (.int .u8 11), .lit (.int .u8 5), .lit (.int .u8 10), .lit (.int .u8 9)]
def laid_math_bits_deBruijn64tab {H : Type} : DataW H := .agg [.lit (.int .u8 0), .lit (.int .u8 1), .lit (.int .u8 56), .lit (.int .u8 2), .lit (.int .u8 57), .lit (.int .u8 49), .lit (.int .u8 28), .lit (.int .u8 3), .lit (.int .u8 61), .lit (.int .u8 58), .lit (.int .u8 42), .lit (.int .u8 50), .lit (.int .u8 38), .lit (.int .u8 29), .lit (.int .u8 17), .lit (.int .u8 4), .lit (.int .u8 62), .lit (.int .u8 47), .lit (.int .u8 59), .lit (.int .u8 36), .lit (.int .u8 45), .lit (.int .u8 43), .lit (.int .u8 51), .lit (.int .u8 22), .lit (.int .u8 53), .lit (.int .u8 39), .lit (.int .u8 33), .lit (.int .u8 30), .lit (.int .u8 24), .lit (.int .u8 18), .lit (.int .u8 12), .lit (.int .u8 5), .lit (.int .u8 63), .lit (.int .u8 55), .lit (.int .u8 48), .lit (.int .u8 27), .lit (.int .u8 60), .lit (.int .u8 41), .lit (.int .u8 37), .lit (.int .u8 16), .lit (.int .u8 46), .lit (.int .u8 35), .lit (.int .u8 44), .lit (.int .u8 21), .lit (.int .u8 52), .lit (.int .u8 32), .lit (.int .u8 23), .lit (.int .u8 11), .lit (.int .u8 54), .lit (.int .u8 26), .lit (.int .u8 40), .lit (.int .u8 15), .lit (.int .u8 34), .lit (.int .u8 20), .lit (.int .u8 31), .lit (.int .u8 10), .lit (.int .u8 25), .lit (.int .u8 14), .lit (.int .u8 19), .lit (.int .u8 9), .lit (.int .u8 13), .lit (.int .u8 8), .lit (.int .u8 7), .lit (.int .u8 6)]
def laid_internal_strconv_uint64pow10 {H : Type} : DataW H := .agg [.lit (.int .u64 1), .lit (.int .u64 10), .lit (.int .u64 100), .lit (.int .u64 1000), .lit (.int .u64 10000), .lit (.int .u64 100000), .lit (.int .u64 1000000), .lit (.int .u64 10000000), .lit (.int .u64 100000000), .lit (.int .u64 1000000000), .lit (.int .u64 10000000000), .lit (.int .u64 100000000000), .lit (.int .u64 1000000000000), .lit (.int .u64 10000000000000), .lit (.int .u64 100000000000000), .lit (.int .u64 1000000000000000), .lit (.int .u64 10000000000000000), .lit (.int .u64 100000000000000000), .lit (.int .u64 1000000000000000000), .lit (.int .u64 10000000000000000000)]
def laid_unicode_utf8_acceptRanges {H : Type} : DataW H := .agg [.agg [.lit (.int .u8 128), .lit (.int .u8 191)], .agg [.lit (.int .u8 160), .lit (.int .u8 191)], .agg [.lit (.int .u8 128), .lit (.int .u8 159)], .agg [.lit (.int .u8 144), .lit (.int .u8 191)], .agg [.lit (.int .u8 128), .lit (.int .u8 143)], .agg [.lit (.int .u8 0), .lit (.int .u8 0)], .agg [.lit (.int .u8 0), .lit (.int .u8 0)], .agg [.lit (.int .u8 0), .lit (.int .u8 0)], .agg [.lit (.int .u8 0), .lit (.int .u8 0)], .agg [.lit (.int .u8 0), .lit (.int .u8 0)], .agg [.lit (.int .u8 0), .lit (.int .u8 0)], .agg [.lit (.int .u8 0), .lit (.int .u8 0)], .agg [.lit (.int .u8 0), .lit (.int .u8 0)], .agg [.lit (.int .u8 0), .lit (.int .u8 0)], .agg [.lit (.int .u8 0), .lit (.int .u8 0)], .agg [.lit (.int .u8 0), .lit (.int .u8 0)]]
def laid_bytes_ErrTooLarge {H : Type} : DataW H := .iface "*errors.errorString" (.ptr (.agg [.lit (.string [98, 121, 116, 101, 115, 46, 66, 117, 102, 102, 101, 114, 58, 32, 116, 111, 111, 32, 108, 97, 114, 103, 101])]))
/-- One of Go's own tables, pinned by name: the form's constant. -/
def laid_unicode_utf8_first : DataW Unit := Go.Pinned.utf8First

/-- 'chalklinelaw14.CnfBasicsSpec': WHATEVER THE INPUT: true; the input reads as it did. -/
def cnfBasicsSpecSpec : ChangeSpec := { name := "cnfBasicsSpec", fn := fun _ => fun
  | [d1, d2, d3, d4, d5] => { results := [.lit (.bool true)], args := [d1, d2, d3, d4, d5] }
  | _ => none }
def cnfBasicsSpecRow : OpenClaim := { program := "ytiokflebeojokaagreatdoor", sum := "e41607b64b43a9893719ab4539dde979eaffd2fcbef6bf154ee2d6659e1da3a5", func := "chalkline/chalklinelaw14.CnfBasicsSpec", spec := "cnfBasicsSpec", inPlace := ["internal/bytealg.IndexByte", "internal/bytealg.Index"], unfollowed := true, recurses := true, named := ["internal/strconv.uint64pow10", "math/bits.deBruijn32tab", "math/bits.deBruijn64tab", "bytes.ErrTooLarge", "unicode/utf8.first", "unicode/utf8.acceptRanges", "internal/bytealg.MaxLen"], apart := false, laid := [("math/bits.deBruijn32tab", laid_math_bits_deBruijn32tab), ("math/bits.deBruijn64tab", laid_math_bits_deBruijn64tab), ("internal/strconv.uint64pow10", laid_internal_strconv_uint64pow10), ("unicode/utf8.acceptRanges", laid_unicode_utf8_acceptRanges), ("bytes.ErrTooLarge", laid_bytes_ErrTooLarge), ("unicode/utf8.first", laid_unicode_utf8_first)] }
def CnfBasicsSpecSaid : Prop := cnfBasicsSpecRow.holds Tryz.pinned (OpenSpec.ofChange cnfBasicsSpecSpec)

/-- ITS FALSE NEIGHBOUR: 'it returns false'. Refute it at one input. -/
def cnfBasicsSpecWrong : ChangeSpec := { name := "cnfBasicsSpec", fn := fun _ => fun
  | [d1, d2, d3, d4, d5] => { results := [.lit (.bool false)], args := [d1, d2, d3, d4, d5] }
  | _ => none }
def CnfBasicsSpecWrongFalsely : Prop := cnfBasicsSpecRow.holds Tryz.pinned (OpenSpec.ofChange cnfBasicsSpecWrong)

/-- 'chalklinelaw14.CnfResolveSpec': WHATEVER THE INPUT: true; the input reads as it did. -/
def cnfResolveSpecSpec : ChangeSpec := { name := "cnfResolveSpec", fn := fun _ => fun
  | [d1, d2, d3] => { results := [.lit (.bool true)], args := [d1, d2, d3] }
  | _ => none }
def cnfResolveSpecRow : OpenClaim := { program := "ytiokflebeojokaagreatdoor", sum := "e41607b64b43a9893719ab4539dde979eaffd2fcbef6bf154ee2d6659e1da3a5", func := "chalkline/chalklinelaw14.CnfResolveSpec", spec := "cnfResolveSpec", inPlace := ["internal/bytealg.IndexByte", "internal/bytealg.Index"], unfollowed := true, recurses := true, named := ["internal/strconv.uint64pow10", "math/bits.deBruijn32tab", "math/bits.deBruijn64tab", "bytes.ErrTooLarge", "unicode/utf8.first", "unicode/utf8.acceptRanges", "internal/bytealg.MaxLen"], apart := false, laid := [("math/bits.deBruijn32tab", laid_math_bits_deBruijn32tab), ("math/bits.deBruijn64tab", laid_math_bits_deBruijn64tab), ("internal/strconv.uint64pow10", laid_internal_strconv_uint64pow10), ("unicode/utf8.acceptRanges", laid_unicode_utf8_acceptRanges), ("bytes.ErrTooLarge", laid_bytes_ErrTooLarge), ("unicode/utf8.first", laid_unicode_utf8_first)] }
def CnfResolveSpecSaid : Prop := cnfResolveSpecRow.holds Tryz.pinned (OpenSpec.ofChange cnfResolveSpecSpec)

/-- ITS FALSE NEIGHBOUR: 'it returns false'. Refute it at one input. -/
def cnfResolveSpecWrong : ChangeSpec := { name := "cnfResolveSpec", fn := fun _ => fun
  | [d1, d2, d3] => { results := [.lit (.bool false)], args := [d1, d2, d3] }
  | _ => none }
def CnfResolveSpecWrongFalsely : Prop := cnfResolveSpecRow.holds Tryz.pinned (OpenSpec.ofChange cnfResolveSpecWrong)

/-- 'chalklinelaw14.CnfDimacsSpec': WHATEVER THE INPUT: true; the input reads as it did. -/
def cnfDimacsSpecSpec : ChangeSpec := { name := "cnfDimacsSpec", fn := fun _ => fun
  | [d1, d2] => { results := [.lit (.bool true)], args := [d1, d2] }
  | _ => none }
def cnfDimacsSpecRow : OpenClaim := { program := "ytiokflebeojokaagreatdoor", sum := "e41607b64b43a9893719ab4539dde979eaffd2fcbef6bf154ee2d6659e1da3a5", func := "chalkline/chalklinelaw14.CnfDimacsSpec", spec := "cnfDimacsSpec", inPlace := ["internal/bytealg.IndexByte", "internal/bytealg.Index"], unfollowed := true, recurses := true, named := ["internal/strconv.uint64pow10", "math/bits.deBruijn32tab", "math/bits.deBruijn64tab", "bytes.ErrTooLarge", "unicode/utf8.first", "unicode/utf8.acceptRanges", "internal/bytealg.MaxLen"], apart := false, laid := [("math/bits.deBruijn32tab", laid_math_bits_deBruijn32tab), ("math/bits.deBruijn64tab", laid_math_bits_deBruijn64tab), ("internal/strconv.uint64pow10", laid_internal_strconv_uint64pow10), ("unicode/utf8.acceptRanges", laid_unicode_utf8_acceptRanges), ("bytes.ErrTooLarge", laid_bytes_ErrTooLarge), ("unicode/utf8.first", laid_unicode_utf8_first)] }
def CnfDimacsSpecSaid : Prop := cnfDimacsSpecRow.holds Tryz.pinned (OpenSpec.ofChange cnfDimacsSpecSpec)

/-- ITS FALSE NEIGHBOUR: 'it returns false'. Refute it at one input. -/
def cnfDimacsSpecWrong : ChangeSpec := { name := "cnfDimacsSpec", fn := fun _ => fun
  | [d1, d2] => { results := [.lit (.bool false)], args := [d1, d2] }
  | _ => none }
def CnfDimacsSpecWrongFalsely : Prop := cnfDimacsSpecRow.holds Tryz.pinned (OpenSpec.ofChange cnfDimacsSpecWrong)

/-- 'chalklinelaw14.CnfResolveSound': WHATEVER THE INPUT: true; the input reads as it did. -/
def cnfResolveSoundSpec : ChangeSpec := { name := "cnfResolveSound", fn := fun _ => fun
  | [d1, d2, d3, d4] => { results := [.lit (.bool true)], args := [d1, d2, d3, d4] }
  | _ => none }
def cnfResolveSoundRow : OpenClaim := { program := "ytiokflebeojokaagreatdoor", sum := "e41607b64b43a9893719ab4539dde979eaffd2fcbef6bf154ee2d6659e1da3a5", func := "chalkline/chalklinelaw14.CnfResolveSound", spec := "cnfResolveSound", inPlace := ["internal/bytealg.IndexByte", "internal/bytealg.Index"], unfollowed := true, recurses := true, named := ["internal/strconv.uint64pow10", "math/bits.deBruijn32tab", "math/bits.deBruijn64tab", "bytes.ErrTooLarge", "unicode/utf8.first", "unicode/utf8.acceptRanges", "internal/bytealg.MaxLen"], apart := false, laid := [("math/bits.deBruijn32tab", laid_math_bits_deBruijn32tab), ("math/bits.deBruijn64tab", laid_math_bits_deBruijn64tab), ("internal/strconv.uint64pow10", laid_internal_strconv_uint64pow10), ("unicode/utf8.acceptRanges", laid_unicode_utf8_acceptRanges), ("bytes.ErrTooLarge", laid_bytes_ErrTooLarge), ("unicode/utf8.first", laid_unicode_utf8_first)] }
def CnfResolveSoundSaid : Prop := cnfResolveSoundRow.holds Tryz.pinned (OpenSpec.ofChange cnfResolveSoundSpec)

/-- ITS FALSE NEIGHBOUR: 'it returns false'. Refute it at one input. -/
def cnfResolveSoundWrong : ChangeSpec := { name := "cnfResolveSound", fn := fun _ => fun
  | [d1, d2, d3, d4] => { results := [.lit (.bool false)], args := [d1, d2, d3, d4] }
  | _ => none }
def CnfResolveSoundWrongFalsely : Prop := cnfResolveSoundRow.holds Tryz.pinned (OpenSpec.ofChange cnfResolveSoundWrong)

/-- 'chalklinelaw14.CnfSubsumesSound': WHATEVER THE INPUT: true; the input reads as it did. -/
def cnfSubsumesSoundSpec : ChangeSpec := { name := "cnfSubsumesSound", fn := fun _ => fun
  | [d1, d2, d3] => { results := [.lit (.bool true)], args := [d1, d2, d3] }
  | _ => none }
def cnfSubsumesSoundRow : OpenClaim := { program := "ytiokflebeojokaagreatdoor", sum := "e41607b64b43a9893719ab4539dde979eaffd2fcbef6bf154ee2d6659e1da3a5", func := "chalkline/chalklinelaw14.CnfSubsumesSound", spec := "cnfSubsumesSound", inPlace := ["internal/bytealg.IndexByte", "internal/bytealg.Index"], unfollowed := true, recurses := true, named := ["internal/strconv.uint64pow10", "math/bits.deBruijn32tab", "math/bits.deBruijn64tab", "bytes.ErrTooLarge", "unicode/utf8.first", "unicode/utf8.acceptRanges", "internal/bytealg.MaxLen"], apart := false, laid := [("math/bits.deBruijn32tab", laid_math_bits_deBruijn32tab), ("math/bits.deBruijn64tab", laid_math_bits_deBruijn64tab), ("internal/strconv.uint64pow10", laid_internal_strconv_uint64pow10), ("unicode/utf8.acceptRanges", laid_unicode_utf8_acceptRanges), ("bytes.ErrTooLarge", laid_bytes_ErrTooLarge), ("unicode/utf8.first", laid_unicode_utf8_first)] }
def CnfSubsumesSoundSaid : Prop := cnfSubsumesSoundRow.holds Tryz.pinned (OpenSpec.ofChange cnfSubsumesSoundSpec)

/-- ITS FALSE NEIGHBOUR: 'it returns false'. Refute it at one input. -/
def cnfSubsumesSoundWrong : ChangeSpec := { name := "cnfSubsumesSound", fn := fun _ => fun
  | [d1, d2, d3] => { results := [.lit (.bool false)], args := [d1, d2, d3] }
  | _ => none }
def CnfSubsumesSoundWrongFalsely : Prop := cnfSubsumesSoundRow.holds Tryz.pinned (OpenSpec.ofChange cnfSubsumesSoundWrong)

/-- 'chalklinelaw14.CnfNormEquivalent': WHATEVER THE INPUT: true; the input reads as it did. -/
def cnfNormEquivalentSpec : ChangeSpec := { name := "cnfNormEquivalent", fn := fun _ => fun
  | [d1, d2] => { results := [.lit (.bool true)], args := [d1, d2] }
  | _ => none }
def cnfNormEquivalentRow : OpenClaim := { program := "ytiokflebeojokaagreatdoor", sum := "e41607b64b43a9893719ab4539dde979eaffd2fcbef6bf154ee2d6659e1da3a5", func := "chalkline/chalklinelaw14.CnfNormEquivalent", spec := "cnfNormEquivalent", inPlace := ["internal/bytealg.IndexByte", "internal/bytealg.Index"], unfollowed := true, recurses := true, named := ["internal/strconv.uint64pow10", "math/bits.deBruijn32tab", "math/bits.deBruijn64tab", "bytes.ErrTooLarge", "unicode/utf8.first", "unicode/utf8.acceptRanges", "internal/bytealg.MaxLen"], apart := false, laid := [("math/bits.deBruijn32tab", laid_math_bits_deBruijn32tab), ("math/bits.deBruijn64tab", laid_math_bits_deBruijn64tab), ("internal/strconv.uint64pow10", laid_internal_strconv_uint64pow10), ("unicode/utf8.acceptRanges", laid_unicode_utf8_acceptRanges), ("bytes.ErrTooLarge", laid_bytes_ErrTooLarge), ("unicode/utf8.first", laid_unicode_utf8_first)] }
def CnfNormEquivalentSaid : Prop := cnfNormEquivalentRow.holds Tryz.pinned (OpenSpec.ofChange cnfNormEquivalentSpec)

/-- ITS FALSE NEIGHBOUR: 'it returns false'. Refute it at one input. -/
def cnfNormEquivalentWrong : ChangeSpec := { name := "cnfNormEquivalent", fn := fun _ => fun
  | [d1, d2] => { results := [.lit (.bool false)], args := [d1, d2] }
  | _ => none }
def CnfNormEquivalentWrongFalsely : Prop := cnfNormEquivalentRow.holds Tryz.pinned (OpenSpec.ofChange cnfNormEquivalentWrong)

/-- 'chalklinelaw14.CnfDimacsRoundTrip': WHATEVER THE INPUT: true; the input reads as it did. -/
def cnfDimacsRoundTripSpec : ChangeSpec := { name := "cnfDimacsRoundTrip", fn := fun _ => fun
  | [d1, d2] => { results := [.lit (.bool true)], args := [d1, d2] }
  | _ => none }
def cnfDimacsRoundTripRow : OpenClaim := { program := "ytiokflebeojokaagreatdoor", sum := "e41607b64b43a9893719ab4539dde979eaffd2fcbef6bf154ee2d6659e1da3a5", func := "chalkline/chalklinelaw14.CnfDimacsRoundTrip", spec := "cnfDimacsRoundTrip", inPlace := ["internal/bytealg.IndexByte", "internal/bytealg.Index"], unfollowed := true, recurses := true, named := ["internal/strconv.uint64pow10", "math/bits.deBruijn32tab", "math/bits.deBruijn64tab", "bytes.ErrTooLarge", "unicode/utf8.first", "unicode/utf8.acceptRanges", "internal/bytealg.MaxLen"], apart := false, laid := [("math/bits.deBruijn32tab", laid_math_bits_deBruijn32tab), ("math/bits.deBruijn64tab", laid_math_bits_deBruijn64tab), ("internal/strconv.uint64pow10", laid_internal_strconv_uint64pow10), ("unicode/utf8.acceptRanges", laid_unicode_utf8_acceptRanges), ("bytes.ErrTooLarge", laid_bytes_ErrTooLarge), ("unicode/utf8.first", laid_unicode_utf8_first)] }
def CnfDimacsRoundTripSaid : Prop := cnfDimacsRoundTripRow.holds Tryz.pinned (OpenSpec.ofChange cnfDimacsRoundTripSpec)

/-- ITS FALSE NEIGHBOUR: 'it returns false'. Refute it at one input. -/
def cnfDimacsRoundTripWrong : ChangeSpec := { name := "cnfDimacsRoundTrip", fn := fun _ => fun
  | [d1, d2] => { results := [.lit (.bool false)], args := [d1, d2] }
  | _ => none }
def CnfDimacsRoundTripWrongFalsely : Prop := cnfDimacsRoundTripRow.holds Tryz.pinned (OpenSpec.ofChange cnfDimacsRoundTripWrong)

/-- 'chalklinelaw14.CnfDimacsReadable': WHATEVER THE INPUT: true; the input reads as it did. -/
def cnfDimacsReadableSpec : ChangeSpec := { name := "cnfDimacsReadable", fn := fun _ => fun
  | [d] => { results := [.lit (.bool true)], args := [d] }
  | _ => none }
def cnfDimacsReadableRow : OpenClaim := { program := "ytiokflebeojokaagreatdoor", sum := "e41607b64b43a9893719ab4539dde979eaffd2fcbef6bf154ee2d6659e1da3a5", func := "chalkline/chalklinelaw14.CnfDimacsReadable", spec := "cnfDimacsReadable", inPlace := ["internal/bytealg.IndexByte", "internal/bytealg.Index"], unfollowed := true, recurses := true, named := ["internal/strconv.uint64pow10", "math/bits.deBruijn32tab", "math/bits.deBruijn64tab", "bytes.ErrTooLarge", "unicode/utf8.first", "unicode/utf8.acceptRanges", "internal/bytealg.MaxLen"], apart := false, laid := [("math/bits.deBruijn32tab", laid_math_bits_deBruijn32tab), ("math/bits.deBruijn64tab", laid_math_bits_deBruijn64tab), ("internal/strconv.uint64pow10", laid_internal_strconv_uint64pow10), ("unicode/utf8.acceptRanges", laid_unicode_utf8_acceptRanges), ("bytes.ErrTooLarge", laid_bytes_ErrTooLarge), ("unicode/utf8.first", laid_unicode_utf8_first)] }
def CnfDimacsReadableSaid : Prop := cnfDimacsReadableRow.holds Tryz.pinned (OpenSpec.ofChange cnfDimacsReadableSpec)

/-- ITS FALSE NEIGHBOUR: 'it returns false'. Refute it at one input. -/
def cnfDimacsReadableWrong : ChangeSpec := { name := "cnfDimacsReadable", fn := fun _ => fun
  | [d] => { results := [.lit (.bool false)], args := [d] }
  | _ => none }
def CnfDimacsReadableWrongFalsely : Prop := cnfDimacsReadableRow.holds Tryz.pinned (OpenSpec.ofChange cnfDimacsReadableWrong)

/-- 'chalklinelaw14.CnfConjunction': WHATEVER THE INPUT: true; the input reads as it did. -/
def cnfConjunctionSpec : ChangeSpec := { name := "cnfConjunction", fn := fun _ => fun
  | [d1, d2, d3, d4] => { results := [.lit (.bool true)], args := [d1, d2, d3, d4] }
  | _ => none }
def cnfConjunctionRow : OpenClaim := { program := "ytiokflebeojokaagreatdoor", sum := "e41607b64b43a9893719ab4539dde979eaffd2fcbef6bf154ee2d6659e1da3a5", func := "chalkline/chalklinelaw14.CnfConjunction", spec := "cnfConjunction", inPlace := ["internal/bytealg.IndexByte", "internal/bytealg.Index"], unfollowed := true, recurses := true, named := ["internal/strconv.uint64pow10", "math/bits.deBruijn32tab", "math/bits.deBruijn64tab", "bytes.ErrTooLarge", "unicode/utf8.first", "unicode/utf8.acceptRanges", "internal/bytealg.MaxLen"], apart := false, laid := [("math/bits.deBruijn32tab", laid_math_bits_deBruijn32tab), ("math/bits.deBruijn64tab", laid_math_bits_deBruijn64tab), ("internal/strconv.uint64pow10", laid_internal_strconv_uint64pow10), ("unicode/utf8.acceptRanges", laid_unicode_utf8_acceptRanges), ("bytes.ErrTooLarge", laid_bytes_ErrTooLarge), ("unicode/utf8.first", laid_unicode_utf8_first)] }
def CnfConjunctionSaid : Prop := cnfConjunctionRow.holds Tryz.pinned (OpenSpec.ofChange cnfConjunctionSpec)

/-- ITS FALSE NEIGHBOUR: 'it returns false'. Refute it at one input. -/
def cnfConjunctionWrong : ChangeSpec := { name := "cnfConjunction", fn := fun _ => fun
  | [d1, d2, d3, d4] => { results := [.lit (.bool false)], args := [d1, d2, d3, d4] }
  | _ => none }
def CnfConjunctionWrongFalsely : Prop := cnfConjunctionRow.holds Tryz.pinned (OpenSpec.ofChange cnfConjunctionWrong)

/- THE SECOND FORM. 'bulk': how many values and letters a reading holds, each counted each time it is reached (what is shared counts as often as it is met; a slice's spare places count too). A statement '..UptoSaid' is the law's where the arguments, and the package variables that the reading takes, are together of bulk at most 1048576: NARROWER than '..Said'. Prove '..Said' where nothing that the law and all that it calls make is longer than what came in: it says more and counts as full. Else prove '..UptoSaid'. A law counts once. -/
mutual
def uptoBulk {H : Type} : DataW H → Nat
  | .lit (.string bytes) => bytes.length + 1
  | .lit _ => 1
  | .nil => 1
  | .ptr d => uptoBulk d + 1
  | .slice elems spare => uptoBulkAll elems + uptoBulkAll spare + 1
  | .agg parts => uptoBulkAll parts + 1
  | .iface _ d => uptoBulk d + 1
  | .map entries => uptoBulkEntries entries + 1
  | .held _ => 1
def uptoBulkAll {H : Type} : List (DataW H) → Nat
  | [] => 0
  | d :: r => uptoBulk d + uptoBulkAll r
def uptoBulkEntries {H : Type} : List (Lit × DataW H) → Nat
  | [] => 0
  | x :: r => uptoBulkEntry x + uptoBulkEntries r
def uptoBulkEntry {H : Type} : Lit × DataW H → Nat
  | (.string bytes, d) => bytes.length + uptoBulk d + 1
  | (_, d) => uptoBulk d + 1
 end
def uptoSmall : (H : Type) → List (DataW H) → Bool := fun _ ds => decide (uptoBulkAll ds ≤ 1048576)
def OpenSpec.upto (s : _root_.Go.ChangeSpec) : _root_.Go.OpenSpec := { _root_.Go.OpenSpec.ofChange s with cond := some uptoSmall }

/-- 'chalklinelaw14.CnfBasicsSpec', WHERE WHAT IT READS IS OF BULK AT MOST 1048576: true; the input reads as it did. -/
def cnfBasicsSpecUptoRow : OpenClaim := { program := "ytiokflebeojokaagreatdoor", sum := "e41607b64b43a9893719ab4539dde979eaffd2fcbef6bf154ee2d6659e1da3a5", func := "chalkline/chalklinelaw14.CnfBasicsSpec", spec := "cnfBasicsSpec", inPlace := ["internal/bytealg.IndexByte", "internal/bytealg.Index"], unfollowed := true, recurses := true, named := ["internal/strconv.uint64pow10", "math/bits.deBruijn32tab", "math/bits.deBruijn64tab", "bytes.ErrTooLarge", "unicode/utf8.first", "unicode/utf8.acceptRanges", "internal/bytealg.MaxLen"], apart := false, laid := [("math/bits.deBruijn32tab", laid_math_bits_deBruijn32tab), ("math/bits.deBruijn64tab", laid_math_bits_deBruijn64tab), ("internal/strconv.uint64pow10", laid_internal_strconv_uint64pow10), ("unicode/utf8.acceptRanges", laid_unicode_utf8_acceptRanges), ("bytes.ErrTooLarge", laid_bytes_ErrTooLarge), ("unicode/utf8.first", laid_unicode_utf8_first)], narrowed := true }
def CnfBasicsSpecUptoSaid : Prop := cnfBasicsSpecUptoRow.holds Tryz.pinned (OpenSpec.upto cnfBasicsSpecSpec)

/-- 'chalklinelaw14.CnfResolveSpec', WHERE WHAT IT READS IS OF BULK AT MOST 1048576: true; the input reads as it did. -/
def cnfResolveSpecUptoRow : OpenClaim := { program := "ytiokflebeojokaagreatdoor", sum := "e41607b64b43a9893719ab4539dde979eaffd2fcbef6bf154ee2d6659e1da3a5", func := "chalkline/chalklinelaw14.CnfResolveSpec", spec := "cnfResolveSpec", inPlace := ["internal/bytealg.IndexByte", "internal/bytealg.Index"], unfollowed := true, recurses := true, named := ["internal/strconv.uint64pow10", "math/bits.deBruijn32tab", "math/bits.deBruijn64tab", "bytes.ErrTooLarge", "unicode/utf8.first", "unicode/utf8.acceptRanges", "internal/bytealg.MaxLen"], apart := false, laid := [("math/bits.deBruijn32tab", laid_math_bits_deBruijn32tab), ("math/bits.deBruijn64tab", laid_math_bits_deBruijn64tab), ("internal/strconv.uint64pow10", laid_internal_strconv_uint64pow10), ("unicode/utf8.acceptRanges", laid_unicode_utf8_acceptRanges), ("bytes.ErrTooLarge", laid_bytes_ErrTooLarge), ("unicode/utf8.first", laid_unicode_utf8_first)], narrowed := true }
def CnfResolveSpecUptoSaid : Prop := cnfResolveSpecUptoRow.holds Tryz.pinned (OpenSpec.upto cnfResolveSpecSpec)

/-- 'chalklinelaw14.CnfDimacsSpec', WHERE WHAT IT READS IS OF BULK AT MOST 1048576: true; the input reads as it did. -/
def cnfDimacsSpecUptoRow : OpenClaim := { program := "ytiokflebeojokaagreatdoor", sum := "e41607b64b43a9893719ab4539dde979eaffd2fcbef6bf154ee2d6659e1da3a5", func := "chalkline/chalklinelaw14.CnfDimacsSpec", spec := "cnfDimacsSpec", inPlace := ["internal/bytealg.IndexByte", "internal/bytealg.Index"], unfollowed := true, recurses := true, named := ["internal/strconv.uint64pow10", "math/bits.deBruijn32tab", "math/bits.deBruijn64tab", "bytes.ErrTooLarge", "unicode/utf8.first", "unicode/utf8.acceptRanges", "internal/bytealg.MaxLen"], apart := false, laid := [("math/bits.deBruijn32tab", laid_math_bits_deBruijn32tab), ("math/bits.deBruijn64tab", laid_math_bits_deBruijn64tab), ("internal/strconv.uint64pow10", laid_internal_strconv_uint64pow10), ("unicode/utf8.acceptRanges", laid_unicode_utf8_acceptRanges), ("bytes.ErrTooLarge", laid_bytes_ErrTooLarge), ("unicode/utf8.first", laid_unicode_utf8_first)], narrowed := true }
def CnfDimacsSpecUptoSaid : Prop := cnfDimacsSpecUptoRow.holds Tryz.pinned (OpenSpec.upto cnfDimacsSpecSpec)

/-- 'chalklinelaw14.CnfResolveSound', WHERE WHAT IT READS IS OF BULK AT MOST 1048576: true; the input reads as it did. -/
def cnfResolveSoundUptoRow : OpenClaim := { program := "ytiokflebeojokaagreatdoor", sum := "e41607b64b43a9893719ab4539dde979eaffd2fcbef6bf154ee2d6659e1da3a5", func := "chalkline/chalklinelaw14.CnfResolveSound", spec := "cnfResolveSound", inPlace := ["internal/bytealg.IndexByte", "internal/bytealg.Index"], unfollowed := true, recurses := true, named := ["internal/strconv.uint64pow10", "math/bits.deBruijn32tab", "math/bits.deBruijn64tab", "bytes.ErrTooLarge", "unicode/utf8.first", "unicode/utf8.acceptRanges", "internal/bytealg.MaxLen"], apart := false, laid := [("math/bits.deBruijn32tab", laid_math_bits_deBruijn32tab), ("math/bits.deBruijn64tab", laid_math_bits_deBruijn64tab), ("internal/strconv.uint64pow10", laid_internal_strconv_uint64pow10), ("unicode/utf8.acceptRanges", laid_unicode_utf8_acceptRanges), ("bytes.ErrTooLarge", laid_bytes_ErrTooLarge), ("unicode/utf8.first", laid_unicode_utf8_first)], narrowed := true }
def CnfResolveSoundUptoSaid : Prop := cnfResolveSoundUptoRow.holds Tryz.pinned (OpenSpec.upto cnfResolveSoundSpec)

/-- 'chalklinelaw14.CnfSubsumesSound', WHERE WHAT IT READS IS OF BULK AT MOST 1048576: true; the input reads as it did. -/
def cnfSubsumesSoundUptoRow : OpenClaim := { program := "ytiokflebeojokaagreatdoor", sum := "e41607b64b43a9893719ab4539dde979eaffd2fcbef6bf154ee2d6659e1da3a5", func := "chalkline/chalklinelaw14.CnfSubsumesSound", spec := "cnfSubsumesSound", inPlace := ["internal/bytealg.IndexByte", "internal/bytealg.Index"], unfollowed := true, recurses := true, named := ["internal/strconv.uint64pow10", "math/bits.deBruijn32tab", "math/bits.deBruijn64tab", "bytes.ErrTooLarge", "unicode/utf8.first", "unicode/utf8.acceptRanges", "internal/bytealg.MaxLen"], apart := false, laid := [("math/bits.deBruijn32tab", laid_math_bits_deBruijn32tab), ("math/bits.deBruijn64tab", laid_math_bits_deBruijn64tab), ("internal/strconv.uint64pow10", laid_internal_strconv_uint64pow10), ("unicode/utf8.acceptRanges", laid_unicode_utf8_acceptRanges), ("bytes.ErrTooLarge", laid_bytes_ErrTooLarge), ("unicode/utf8.first", laid_unicode_utf8_first)], narrowed := true }
def CnfSubsumesSoundUptoSaid : Prop := cnfSubsumesSoundUptoRow.holds Tryz.pinned (OpenSpec.upto cnfSubsumesSoundSpec)

/-- 'chalklinelaw14.CnfNormEquivalent', WHERE WHAT IT READS IS OF BULK AT MOST 1048576: true; the input reads as it did. -/
def cnfNormEquivalentUptoRow : OpenClaim := { program := "ytiokflebeojokaagreatdoor", sum := "e41607b64b43a9893719ab4539dde979eaffd2fcbef6bf154ee2d6659e1da3a5", func := "chalkline/chalklinelaw14.CnfNormEquivalent", spec := "cnfNormEquivalent", inPlace := ["internal/bytealg.IndexByte", "internal/bytealg.Index"], unfollowed := true, recurses := true, named := ["internal/strconv.uint64pow10", "math/bits.deBruijn32tab", "math/bits.deBruijn64tab", "bytes.ErrTooLarge", "unicode/utf8.first", "unicode/utf8.acceptRanges", "internal/bytealg.MaxLen"], apart := false, laid := [("math/bits.deBruijn32tab", laid_math_bits_deBruijn32tab), ("math/bits.deBruijn64tab", laid_math_bits_deBruijn64tab), ("internal/strconv.uint64pow10", laid_internal_strconv_uint64pow10), ("unicode/utf8.acceptRanges", laid_unicode_utf8_acceptRanges), ("bytes.ErrTooLarge", laid_bytes_ErrTooLarge), ("unicode/utf8.first", laid_unicode_utf8_first)], narrowed := true }
def CnfNormEquivalentUptoSaid : Prop := cnfNormEquivalentUptoRow.holds Tryz.pinned (OpenSpec.upto cnfNormEquivalentSpec)

/-- 'chalklinelaw14.CnfDimacsRoundTrip', WHERE WHAT IT READS IS OF BULK AT MOST 1048576: true; the input reads as it did. -/
def cnfDimacsRoundTripUptoRow : OpenClaim := { program := "ytiokflebeojokaagreatdoor", sum := "e41607b64b43a9893719ab4539dde979eaffd2fcbef6bf154ee2d6659e1da3a5", func := "chalkline/chalklinelaw14.CnfDimacsRoundTrip", spec := "cnfDimacsRoundTrip", inPlace := ["internal/bytealg.IndexByte", "internal/bytealg.Index"], unfollowed := true, recurses := true, named := ["internal/strconv.uint64pow10", "math/bits.deBruijn32tab", "math/bits.deBruijn64tab", "bytes.ErrTooLarge", "unicode/utf8.first", "unicode/utf8.acceptRanges", "internal/bytealg.MaxLen"], apart := false, laid := [("math/bits.deBruijn32tab", laid_math_bits_deBruijn32tab), ("math/bits.deBruijn64tab", laid_math_bits_deBruijn64tab), ("internal/strconv.uint64pow10", laid_internal_strconv_uint64pow10), ("unicode/utf8.acceptRanges", laid_unicode_utf8_acceptRanges), ("bytes.ErrTooLarge", laid_bytes_ErrTooLarge), ("unicode/utf8.first", laid_unicode_utf8_first)], narrowed := true }
def CnfDimacsRoundTripUptoSaid : Prop := cnfDimacsRoundTripUptoRow.holds Tryz.pinned (OpenSpec.upto cnfDimacsRoundTripSpec)

/-- 'chalklinelaw14.CnfDimacsReadable', WHERE WHAT IT READS IS OF BULK AT MOST 1048576: true; the input reads as it did. -/
def cnfDimacsReadableUptoRow : OpenClaim := { program := "ytiokflebeojokaagreatdoor", sum := "e41607b64b43a9893719ab4539dde979eaffd2fcbef6bf154ee2d6659e1da3a5", func := "chalkline/chalklinelaw14.CnfDimacsReadable", spec := "cnfDimacsReadable", inPlace := ["internal/bytealg.IndexByte", "internal/bytealg.Index"], unfollowed := true, recurses := true, named := ["internal/strconv.uint64pow10", "math/bits.deBruijn32tab", "math/bits.deBruijn64tab", "bytes.ErrTooLarge", "unicode/utf8.first", "unicode/utf8.acceptRanges", "internal/bytealg.MaxLen"], apart := false, laid := [("math/bits.deBruijn32tab", laid_math_bits_deBruijn32tab), ("math/bits.deBruijn64tab", laid_math_bits_deBruijn64tab), ("internal/strconv.uint64pow10", laid_internal_strconv_uint64pow10), ("unicode/utf8.acceptRanges", laid_unicode_utf8_acceptRanges), ("bytes.ErrTooLarge", laid_bytes_ErrTooLarge), ("unicode/utf8.first", laid_unicode_utf8_first)], narrowed := true }
def CnfDimacsReadableUptoSaid : Prop := cnfDimacsReadableUptoRow.holds Tryz.pinned (OpenSpec.upto cnfDimacsReadableSpec)

/-- 'chalklinelaw14.CnfConjunction', WHERE WHAT IT READS IS OF BULK AT MOST 1048576: true; the input reads as it did. -/
def cnfConjunctionUptoRow : OpenClaim := { program := "ytiokflebeojokaagreatdoor", sum := "e41607b64b43a9893719ab4539dde979eaffd2fcbef6bf154ee2d6659e1da3a5", func := "chalkline/chalklinelaw14.CnfConjunction", spec := "cnfConjunction", inPlace := ["internal/bytealg.IndexByte", "internal/bytealg.Index"], unfollowed := true, recurses := true, named := ["internal/strconv.uint64pow10", "math/bits.deBruijn32tab", "math/bits.deBruijn64tab", "bytes.ErrTooLarge", "unicode/utf8.first", "unicode/utf8.acceptRanges", "internal/bytealg.MaxLen"], apart := false, laid := [("math/bits.deBruijn32tab", laid_math_bits_deBruijn32tab), ("math/bits.deBruijn64tab", laid_math_bits_deBruijn64tab), ("internal/strconv.uint64pow10", laid_internal_strconv_uint64pow10), ("unicode/utf8.acceptRanges", laid_unicode_utf8_acceptRanges), ("bytes.ErrTooLarge", laid_bytes_ErrTooLarge), ("unicode/utf8.first", laid_unicode_utf8_first)], narrowed := true }
def CnfConjunctionUptoSaid : Prop := cnfConjunctionUptoRow.holds Tryz.pinned (OpenSpec.upto cnfConjunctionSpec)

end Rows
end Go.Proofs.YtiokflebeojokaaGreatDoor
