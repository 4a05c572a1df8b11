/-
  DERIVED. GIVEN WITH THE SEED: THE CARDS: each row of YtkkapbnopmmmjaaDoorRows.lean that lists a variable, with what it lists TIED to the program's text (the seventh form; the later family's looks); each row that meets fmt, with fmt's text TOLD by the authors' own Lean function (tested against real Go, not proved from fmt's source: count such statements apart). THE CARD IS WHAT COUNTS. Prove the row's statement (the work); the ties are given (YtkkapbnopmmmjaaDoorTie.lean); close each card by the builder's one call (the guide's Derived/Test/ToyasCard.lean, 'card_holds'). Laid BY PROGRAM, IN A SANDBOX (cutbox-door.mjs). By AI agents, Wed Nov 11 2026. No macro, syntax, notation, axiom, sorry.
-/
import Derived.Test.YtkkapbnopmmmjaaDoorRows
import GoSem.ClaimSeven
namespace Go.Proofs.YtkkapbnopmmmjaaDoor
namespace Rows

/-- THE TIED CARD OF 'chalklinelaw18.EncodeConcatenates'. -/
def encodeConcatenatesCard : Claim7 := { stood := { row := encodeConcatenatesRow, standIns := [], harness := (true, "893e1adadfaebaa62000bb7191a2239624113829dd5aba5ee34f39626d952588"), looks := false }, kinds := [], alts := [], laidByText := true, laidKinds := [.data, .data], laidTests := true, laidLooks := .later }
def EncodeConcatenatesCardSaid : Prop := Claim7.holds Tryd.pinned (.plain (OpenSpec.ofChange encodeConcatenatesSpec)) encodeConcatenatesCard

/-- THE TIED CARD OF 'chalklinelaw18.EncodeNormalized'. -/
def encodeNormalizedCard : Claim7 := { stood := { row := encodeNormalizedRow, standIns := [], harness := (true, "893e1adadfaebaa62000bb7191a2239624113829dd5aba5ee34f39626d952588"), looks := false }, kinds := [], alts := [], laidByText := true, laidKinds := [.data, .data], laidTests := true, laidLooks := .later }
def EncodeNormalizedCardSaid : Prop := Claim7.holds Tryd.pinned (.plain (OpenSpec.ofChange encodeNormalizedSpec)) encodeNormalizedCard

/-- THE SECOND FORM's CARD OF 'chalklinelaw18.EncodeConcatenates'. -/
def encodeConcatenatesUptoCard : Claim7 := { stood := { row := encodeConcatenatesUptoRow, standIns := [], harness := (true, "893e1adadfaebaa62000bb7191a2239624113829dd5aba5ee34f39626d952588"), looks := false }, kinds := [], alts := [], laidByText := true, laidKinds := [.data, .data], laidTests := true, laidLooks := .later }
def EncodeConcatenatesUptoCardSaid : Prop := Claim7.holds Tryd.pinned (.plain (OpenSpec.upto encodeConcatenatesSpec)) encodeConcatenatesUptoCard

/-- THE SECOND FORM's CARD OF 'chalklinelaw18.EncodeNormalized'. -/
def encodeNormalizedUptoCard : Claim7 := { stood := { row := encodeNormalizedUptoRow, standIns := [], harness := (true, "893e1adadfaebaa62000bb7191a2239624113829dd5aba5ee34f39626d952588"), looks := false }, kinds := [], alts := [], laidByText := true, laidKinds := [.data, .data], laidTests := true, laidLooks := .later }
def EncodeNormalizedUptoCardSaid : Prop := Claim7.holds Tryd.pinned (.plain (OpenSpec.upto encodeNormalizedSpec)) encodeNormalizedUptoCard
end Rows
end Go.Proofs.YtkkapbnopmmmjaaDoor
