/-
  No cell of these rows narrows 'for every input' (looked for: loops, veiled, ifaces, maps, wideKeys, modest, calm, conditions, laid).
  DERIVED. THE GIVEN ROWS OF THIS SEAT. 9 by the template 'for every input the law returns true; each argument reads behind the call as it read before'; 0 by the template 'total and deterministic' (their statements: YtibfgeoiemmjoaaTotals.lean).
  GIVEN WITH THE SEED: the statements are not yours to turn. If you find one false, say at which input.
  Laid BY PROGRAM, IN A SANDBOX (cutbox-rows.mjs): the forced cells as the released guide's own fill.sh prints them over the translation 81e77638ce467350… (all of the seat's roots in one cut). By AI agents, Wed Nov 11 2026. No macro, syntax, notation, axiom, sorry.
-/
import Derived.Test.YtibfgeoiemmjoaaChecked
import GoSem.Claim
import GoSem.ClaimJoined
import GoSem.ClaimMapViews
import Derived.JoinedTies
import Derived.KernelRfl
namespace Go.Proofs.Ytibfgeoiemmjoaa
/- THE CELL 'sum', in the pinned program and in every row, IS THE sha256 OF THE DUMP (.gsa) THAT YtibfgeoiemmjoaaProg.lean LOADS. Nothing in Lean hashes anything: it is a label: what it is worth is what the hold of that sum in a sandbox is worth. -/
noncomputable def Try.pinned : Pinned := { name := "ytibfgeoiemmjoaa", sum := "81e77638ce46735094ca868057f0ac8bca4ee13e1817f20c5673e102096cd5ff", checked := Try.checked }
namespace Rows
def none {H : Type} : Left H := { results := [], args := [] }

/-- 'chalklinelaw12.LinNormSpec': WHATEVER THE INPUT: true; the input reads as it did. -/
def linNormSpecSpec : ChangeSpec := { name := "linNormSpec", fn := fun _ => fun
  | [d1, d2, d3] => { results := [.lit (.bool true)], args := [d1, d2, d3] }
  | _ => none }
def linNormSpecRow : OpenClaim := { program := "ytibfgeoiemmjoaa", sum := "81e77638ce46735094ca868057f0ac8bca4ee13e1817f20c5673e102096cd5ff", func := "chalkline/chalklinelaw12.LinNormSpec", spec := "linNormSpec", unfollowed := true, recurses := true, apart := false }
def LinNormSpecSaid : Prop := linNormSpecRow.holds Try.pinned (OpenSpec.ofChange linNormSpecSpec)

/-- ITS FALSE NEIGHBOUR: 'it returns false'. Refute it at one input. -/
def linNormSpecWrong : ChangeSpec := { name := "linNormSpec", fn := fun _ => fun
  | [d1, d2, d3] => { results := [.lit (.bool false)], args := [d1, d2, d3] }
  | _ => none }
def LinNormSpecWrongFalsely : Prop := linNormSpecRow.holds Try.pinned (OpenSpec.ofChange linNormSpecWrong)

/-- 'chalklinelaw12.LinForceSpec': WHATEVER THE INPUT: true; the input reads as it did. -/
def linForceSpecSpec : ChangeSpec := { name := "linForceSpec", fn := fun _ => fun
  | [d1, d2, d3] => { results := [.lit (.bool true)], args := [d1, d2, d3] }
  | _ => none }
def linForceSpecRow : OpenClaim := { program := "ytibfgeoiemmjoaa", sum := "81e77638ce46735094ca868057f0ac8bca4ee13e1817f20c5673e102096cd5ff", func := "chalkline/chalklinelaw12.LinForceSpec", spec := "linForceSpec", unfollowed := true, recurses := true, apart := false }
def LinForceSpecSaid : Prop := linForceSpecRow.holds Try.pinned (OpenSpec.ofChange linForceSpecSpec)

/-- ITS FALSE NEIGHBOUR: 'it returns false'. Refute it at one input. -/
def linForceSpecWrong : ChangeSpec := { name := "linForceSpec", fn := fun _ => fun
  | [d1, d2, d3] => { results := [.lit (.bool false)], args := [d1, d2, d3] }
  | _ => none }
def LinForceSpecWrongFalsely : Prop := linForceSpecRow.holds Try.pinned (OpenSpec.ofChange linForceSpecWrong)

/-- 'chalklinelaw12.LinAddCutSpec': WHATEVER THE INPUT: true; the input reads as it did. -/
def linAddCutSpecSpec : ChangeSpec := { name := "linAddCutSpec", fn := fun _ => fun
  | [d1, d2, d3] => { results := [.lit (.bool true)], args := [d1, d2, d3] }
  | _ => none }
def linAddCutSpecRow : OpenClaim := { program := "ytibfgeoiemmjoaa", sum := "81e77638ce46735094ca868057f0ac8bca4ee13e1817f20c5673e102096cd5ff", func := "chalkline/chalklinelaw12.LinAddCutSpec", spec := "linAddCutSpec", unfollowed := true, recurses := true, apart := false }
def LinAddCutSpecSaid : Prop := linAddCutSpecRow.holds Try.pinned (OpenSpec.ofChange linAddCutSpecSpec)

/-- ITS FALSE NEIGHBOUR: 'it returns false'. Refute it at one input. -/
def linAddCutSpecWrong : ChangeSpec := { name := "linAddCutSpec", fn := fun _ => fun
  | [d1, d2, d3] => { results := [.lit (.bool false)], args := [d1, d2, d3] }
  | _ => none }
def LinAddCutSpecWrongFalsely : Prop := linAddCutSpecRow.holds Try.pinned (OpenSpec.ofChange linAddCutSpecWrong)

/-- 'chalklinelaw12.LinNormEquivalent': WHATEVER THE INPUT: true; the input reads as it did. -/
def linNormEquivalentSpec : ChangeSpec := { name := "linNormEquivalent", fn := fun _ => fun
  | [d] => { results := [.lit (.bool true)], args := [d] }
  | _ => none }
def linNormEquivalentRow : OpenClaim := { program := "ytibfgeoiemmjoaa", sum := "81e77638ce46735094ca868057f0ac8bca4ee13e1817f20c5673e102096cd5ff", func := "chalkline/chalklinelaw12.LinNormEquivalent", spec := "linNormEquivalent", unfollowed := true, recurses := true, apart := false }
def LinNormEquivalentSaid : Prop := linNormEquivalentRow.holds Try.pinned (OpenSpec.ofChange linNormEquivalentSpec)

/-- ITS FALSE NEIGHBOUR: 'it returns false'. Refute it at one input. -/
def linNormEquivalentWrong : ChangeSpec := { name := "linNormEquivalent", fn := fun _ => fun
  | [d] => { results := [.lit (.bool false)], args := [d] }
  | _ => none }
def LinNormEquivalentWrongFalsely : Prop := linNormEquivalentRow.holds Try.pinned (OpenSpec.ofChange linNormEquivalentWrong)

/-- 'chalklinelaw12.LinNormCanonical': WHATEVER THE INPUT: true; the input reads as it did. -/
def linNormCanonicalSpec : ChangeSpec := { name := "linNormCanonical", fn := fun _ => fun
  | [d] => { results := [.lit (.bool true)], args := [d] }
  | _ => none }
def linNormCanonicalRow : OpenClaim := { program := "ytibfgeoiemmjoaa", sum := "81e77638ce46735094ca868057f0ac8bca4ee13e1817f20c5673e102096cd5ff", func := "chalkline/chalklinelaw12.LinNormCanonical", spec := "linNormCanonical", unfollowed := true, recurses := true, apart := false }
def LinNormCanonicalSaid : Prop := linNormCanonicalRow.holds Try.pinned (OpenSpec.ofChange linNormCanonicalSpec)

/-- ITS FALSE NEIGHBOUR: 'it returns false'. Refute it at one input. -/
def linNormCanonicalWrong : ChangeSpec := { name := "linNormCanonical", fn := fun _ => fun
  | [d] => { results := [.lit (.bool false)], args := [d] }
  | _ => none }
def LinNormCanonicalWrongFalsely : Prop := linNormCanonicalRow.holds Try.pinned (OpenSpec.ofChange linNormCanonicalWrong)

/-- 'chalklinelaw12.LinForceComplete': WHATEVER THE INPUT: true; the input reads as it did. -/
def linForceCompleteSpec : ChangeSpec := { name := "linForceComplete", fn := fun _ => fun
  | [d1, d2] => { results := [.lit (.bool true)], args := [d1, d2] }
  | _ => none }
def linForceCompleteRow : OpenClaim := { program := "ytibfgeoiemmjoaa", sum := "81e77638ce46735094ca868057f0ac8bca4ee13e1817f20c5673e102096cd5ff", func := "chalkline/chalklinelaw12.LinForceComplete", spec := "linForceComplete", unfollowed := true, recurses := true, apart := false }
def LinForceCompleteSaid : Prop := linForceCompleteRow.holds Try.pinned (OpenSpec.ofChange linForceCompleteSpec)

/-- ITS FALSE NEIGHBOUR: 'it returns false'. Refute it at one input. -/
def linForceCompleteWrong : ChangeSpec := { name := "linForceComplete", fn := fun _ => fun
  | [d1, d2] => { results := [.lit (.bool false)], args := [d1, d2] }
  | _ => none }
def LinForceCompleteWrongFalsely : Prop := linForceCompleteRow.holds Try.pinned (OpenSpec.ofChange linForceCompleteWrong)

/-- 'chalklinelaw12.LinAddSound': WHATEVER THE INPUT: true; the input reads as it did. -/
def linAddSoundSpec : ChangeSpec := { name := "linAddSound", fn := fun _ => fun
  | [d1, d2] => { results := [.lit (.bool true)], args := [d1, d2] }
  | _ => none }
def linAddSoundRow : OpenClaim := { program := "ytibfgeoiemmjoaa", sum := "81e77638ce46735094ca868057f0ac8bca4ee13e1817f20c5673e102096cd5ff", func := "chalkline/chalklinelaw12.LinAddSound", spec := "linAddSound", unfollowed := true, recurses := true, apart := false }
def LinAddSoundSaid : Prop := linAddSoundRow.holds Try.pinned (OpenSpec.ofChange linAddSoundSpec)

/-- ITS FALSE NEIGHBOUR: 'it returns false'. Refute it at one input. -/
def linAddSoundWrong : ChangeSpec := { name := "linAddSound", fn := fun _ => fun
  | [d1, d2] => { results := [.lit (.bool false)], args := [d1, d2] }
  | _ => none }
def LinAddSoundWrongFalsely : Prop := linAddSoundRow.holds Try.pinned (OpenSpec.ofChange linAddSoundWrong)

/-- 'chalklinelaw12.LinCutSound': WHATEVER THE INPUT: true; the input reads as it did. -/
def linCutSoundSpec : ChangeSpec := { name := "linCutSound", fn := fun _ => fun
  | [d1, d2] => { results := [.lit (.bool true)], args := [d1, d2] }
  | _ => none }
def linCutSoundRow : OpenClaim := { program := "ytibfgeoiemmjoaa", sum := "81e77638ce46735094ca868057f0ac8bca4ee13e1817f20c5673e102096cd5ff", func := "chalkline/chalklinelaw12.LinCutSound", spec := "linCutSound", unfollowed := true, recurses := true, apart := false }
def LinCutSoundSaid : Prop := linCutSoundRow.holds Try.pinned (OpenSpec.ofChange linCutSoundSpec)

/-- ITS FALSE NEIGHBOUR: 'it returns false'. Refute it at one input. -/
def linCutSoundWrong : ChangeSpec := { name := "linCutSound", fn := fun _ => fun
  | [d1, d2] => { results := [.lit (.bool false)], args := [d1, d2] }
  | _ => none }
def LinCutSoundWrongFalsely : Prop := linCutSoundRow.holds Try.pinned (OpenSpec.ofChange linCutSoundWrong)

/-- 'chalklinelaw12.LinNegation': WHATEVER THE INPUT: true; the input reads as it did. -/
def linNegationSpec : ChangeSpec := { name := "linNegation", fn := fun _ => fun
  | [d1, d2] => { results := [.lit (.bool true)], args := [d1, d2] }
  | _ => none }
def linNegationRow : OpenClaim := { program := "ytibfgeoiemmjoaa", sum := "81e77638ce46735094ca868057f0ac8bca4ee13e1817f20c5673e102096cd5ff", func := "chalkline/chalklinelaw12.LinNegation", spec := "linNegation", unfollowed := true, recurses := true, apart := false }
def LinNegationSaid : Prop := linNegationRow.holds Try.pinned (OpenSpec.ofChange linNegationSpec)

/-- ITS FALSE NEIGHBOUR: 'it returns false'. Refute it at one input. -/
def linNegationWrong : ChangeSpec := { name := "linNegation", fn := fun _ => fun
  | [d1, d2] => { results := [.lit (.bool false)], args := [d1, d2] }
  | _ => none }
def LinNegationWrongFalsely : Prop := linNegationRow.holds Try.pinned (OpenSpec.ofChange linNegationWrong)

/- THE SECOND FORM. 'bulk': how many values and letters a reading holds, each counted each time it is reached (what is shared counts as often as it is met; a slice's spare places count too). A statement '..UptoSaid' is the law's where the arguments, and the package variables that the reading takes, are together of bulk at most 1048576: NARROWER than '..Said'. Prove '..Said' where nothing that the law and all that it calls make is longer than what came in: it says more and counts as full. Else prove '..UptoSaid'. A law counts once. -/
mutual
def uptoBulk {H : Type} : DataW H → Nat
  | .lit (.string bytes) => bytes.length + 1
  | .lit _ => 1
  | .nil => 1
  | .ptr d => uptoBulk d + 1
  | .slice elems spare => uptoBulkAll elems + uptoBulkAll spare + 1
  | .agg parts => uptoBulkAll parts + 1
  | .iface _ d => uptoBulk d + 1
  | .map entries => uptoBulkEntries entries + 1
  | .held _ => 1
def uptoBulkAll {H : Type} : List (DataW H) → Nat
  | [] => 0
  | d :: r => uptoBulk d + uptoBulkAll r
def uptoBulkEntries {H : Type} : List (Lit × DataW H) → Nat
  | [] => 0
  | x :: r => uptoBulkEntry x + uptoBulkEntries r
def uptoBulkEntry {H : Type} : Lit × DataW H → Nat
  | (.string bytes, d) => bytes.length + uptoBulk d + 1
  | (_, d) => uptoBulk d + 1
 end
def uptoSmall : (H : Type) → List (DataW H) → Bool := fun _ ds => decide (uptoBulkAll ds ≤ 1048576)
def OpenSpec.upto (s : _root_.Go.ChangeSpec) : _root_.Go.OpenSpec := { _root_.Go.OpenSpec.ofChange s with cond := some uptoSmall }

/-- 'chalklinelaw12.LinNormSpec', WHERE WHAT IT READS IS OF BULK AT MOST 1048576: true; the input reads as it did. -/
def linNormSpecUptoRow : OpenClaim := { program := "ytibfgeoiemmjoaa", sum := "81e77638ce46735094ca868057f0ac8bca4ee13e1817f20c5673e102096cd5ff", func := "chalkline/chalklinelaw12.LinNormSpec", spec := "linNormSpec", unfollowed := true, recurses := true, apart := false, narrowed := true }
def LinNormSpecUptoSaid : Prop := linNormSpecUptoRow.holds Try.pinned (OpenSpec.upto linNormSpecSpec)

/-- 'chalklinelaw12.LinForceSpec', WHERE WHAT IT READS IS OF BULK AT MOST 1048576: true; the input reads as it did. -/
def linForceSpecUptoRow : OpenClaim := { program := "ytibfgeoiemmjoaa", sum := "81e77638ce46735094ca868057f0ac8bca4ee13e1817f20c5673e102096cd5ff", func := "chalkline/chalklinelaw12.LinForceSpec", spec := "linForceSpec", unfollowed := true, recurses := true, apart := false, narrowed := true }
def LinForceSpecUptoSaid : Prop := linForceSpecUptoRow.holds Try.pinned (OpenSpec.upto linForceSpecSpec)

/-- 'chalklinelaw12.LinAddCutSpec', WHERE WHAT IT READS IS OF BULK AT MOST 1048576: true; the input reads as it did. -/
def linAddCutSpecUptoRow : OpenClaim := { program := "ytibfgeoiemmjoaa", sum := "81e77638ce46735094ca868057f0ac8bca4ee13e1817f20c5673e102096cd5ff", func := "chalkline/chalklinelaw12.LinAddCutSpec", spec := "linAddCutSpec", unfollowed := true, recurses := true, apart := false, narrowed := true }
def LinAddCutSpecUptoSaid : Prop := linAddCutSpecUptoRow.holds Try.pinned (OpenSpec.upto linAddCutSpecSpec)

/-- 'chalklinelaw12.LinNormEquivalent', WHERE WHAT IT READS IS OF BULK AT MOST 1048576: true; the input reads as it did. -/
def linNormEquivalentUptoRow : OpenClaim := { program := "ytibfgeoiemmjoaa", sum := "81e77638ce46735094ca868057f0ac8bca4ee13e1817f20c5673e102096cd5ff", func := "chalkline/chalklinelaw12.LinNormEquivalent", spec := "linNormEquivalent", unfollowed := true, recurses := true, apart := false, narrowed := true }
def LinNormEquivalentUptoSaid : Prop := linNormEquivalentUptoRow.holds Try.pinned (OpenSpec.upto linNormEquivalentSpec)

/-- 'chalklinelaw12.LinNormCanonical', WHERE WHAT IT READS IS OF BULK AT MOST 1048576: true; the input reads as it did. -/
def linNormCanonicalUptoRow : OpenClaim := { program := "ytibfgeoiemmjoaa", sum := "81e77638ce46735094ca868057f0ac8bca4ee13e1817f20c5673e102096cd5ff", func := "chalkline/chalklinelaw12.LinNormCanonical", spec := "linNormCanonical", unfollowed := true, recurses := true, apart := false, narrowed := true }
def LinNormCanonicalUptoSaid : Prop := linNormCanonicalUptoRow.holds Try.pinned (OpenSpec.upto linNormCanonicalSpec)

/-- 'chalklinelaw12.LinForceComplete', WHERE WHAT IT READS IS OF BULK AT MOST 1048576: true; the input reads as it did. -/
def linForceCompleteUptoRow : OpenClaim := { program := "ytibfgeoiemmjoaa", sum := "81e77638ce46735094ca868057f0ac8bca4ee13e1817f20c5673e102096cd5ff", func := "chalkline/chalklinelaw12.LinForceComplete", spec := "linForceComplete", unfollowed := true, recurses := true, apart := false, narrowed := true }
def LinForceCompleteUptoSaid : Prop := linForceCompleteUptoRow.holds Try.pinned (OpenSpec.upto linForceCompleteSpec)

/-- 'chalklinelaw12.LinAddSound', WHERE WHAT IT READS IS OF BULK AT MOST 1048576: true; the input reads as it did. -/
def linAddSoundUptoRow : OpenClaim := { program := "ytibfgeoiemmjoaa", sum := "81e77638ce46735094ca868057f0ac8bca4ee13e1817f20c5673e102096cd5ff", func := "chalkline/chalklinelaw12.LinAddSound", spec := "linAddSound", unfollowed := true, recurses := true, apart := false, narrowed := true }
def LinAddSoundUptoSaid : Prop := linAddSoundUptoRow.holds Try.pinned (OpenSpec.upto linAddSoundSpec)

/-- 'chalklinelaw12.LinCutSound', WHERE WHAT IT READS IS OF BULK AT MOST 1048576: true; the input reads as it did. -/
def linCutSoundUptoRow : OpenClaim := { program := "ytibfgeoiemmjoaa", sum := "81e77638ce46735094ca868057f0ac8bca4ee13e1817f20c5673e102096cd5ff", func := "chalkline/chalklinelaw12.LinCutSound", spec := "linCutSound", unfollowed := true, recurses := true, apart := false, narrowed := true }
def LinCutSoundUptoSaid : Prop := linCutSoundUptoRow.holds Try.pinned (OpenSpec.upto linCutSoundSpec)

/-- 'chalklinelaw12.LinNegation', WHERE WHAT IT READS IS OF BULK AT MOST 1048576: true; the input reads as it did. -/
def linNegationUptoRow : OpenClaim := { program := "ytibfgeoiemmjoaa", sum := "81e77638ce46735094ca868057f0ac8bca4ee13e1817f20c5673e102096cd5ff", func := "chalkline/chalklinelaw12.LinNegation", spec := "linNegation", unfollowed := true, recurses := true, apart := false, narrowed := true }
def LinNegationUptoSaid : Prop := linNegationUptoRow.holds Try.pinned (OpenSpec.upto linNegationSpec)

end Rows
end Go.Proofs.Ytibfgeoiemmjoaa
