/-
  DERIVED. GIVEN WITH THE SEED: THE CARDS: each row of YtkkapbnopmmmjaaGreatDoorRows.lean that lists a variable, with what it lists TIED to the program's text (the seventh form; the later family's looks); each row that meets fmt, with fmt's text TOLD by the authors' own Lean function (tested against real Go, not proved from fmt's source: count such statements apart). THE CARD IS WHAT COUNTS. Prove the row's statement (the work); the ties are given (YtkkapbnopmmmjaaGreatDoorTie.lean); close each card by the builder's one call (the guide's Derived/Test/ToyasCard.lean, 'card_holds'). Laid BY PROGRAM, IN A SANDBOX (cutbox-door.mjs). By AI agents, Wed Nov 11 2026. No macro, syntax, notation, axiom, sorry.
-/
import Derived.Test.YtkkapbnopmmmjaaGreatDoorRows
import GoSem.ClaimSeven
namespace Go.Proofs.YtkkapbnopmmmjaaGreatDoor
namespace Rows

/-- THE TIED CARD OF 'chalklinelaw18.EncodeHow'. -/
def encodeHowCard : Claim7 := { stood := { row := encodeHowRow, standIns := [], harness := (true, "438b71b0154435dd96c7b77d1949cf5419c5c6649171972564af2ec7c2234eb7"), looks := true }, kinds := [], alts := [], laidByText := true, laidKinds := [.data, .data], laidTests := true, laidLooks := .later }
def EncodeHowCardSaid : Prop := Claim7.holds Tryz.pinned (.plain (OpenSpec.ofChange encodeHowSpec)) encodeHowCard

/-- THE TIED CARD OF 'chalklinelaw18.EncodeMatches'. -/
def encodeMatchesCard : Claim7 := { stood := { row := encodeMatchesRow, standIns := [], harness := (true, "438b71b0154435dd96c7b77d1949cf5419c5c6649171972564af2ec7c2234eb7"), looks := true }, kinds := [], alts := [], laidByText := true, laidKinds := [.data, .data], laidTests := true, laidLooks := .later }
def EncodeMatchesCardSaid : Prop := Claim7.holds Tryz.pinned (.plain (OpenSpec.ofChange encodeMatchesSpec)) encodeMatchesCard

/-- THE TIED CARD OF 'chalklinelaw18.EncodeExtends'. -/
def encodeExtendsCard : Claim7 := { stood := { row := encodeExtendsRow, standIns := [], harness := (true, "438b71b0154435dd96c7b77d1949cf5419c5c6649171972564af2ec7c2234eb7"), looks := true }, kinds := [], alts := [], laidByText := true, laidKinds := [.data, .data], laidTests := true, laidLooks := .later }
def EncodeExtendsCardSaid : Prop := Claim7.holds Tryz.pinned (.plain (OpenSpec.ofChange encodeExtendsSpec)) encodeExtendsCard

/-- THE TIED CARD OF 'chalklinelaw18.EncodeAll'. -/
def encodeAllCard : Claim7 := { stood := { row := encodeAllRow, standIns := [], harness := (true, "438b71b0154435dd96c7b77d1949cf5419c5c6649171972564af2ec7c2234eb7"), looks := true }, kinds := [], alts := [], laidByText := true, laidKinds := [.data, .data], laidTests := true, laidLooks := .later }
def EncodeAllCardSaid : Prop := Claim7.holds Tryz.pinned (.plain (OpenSpec.ofChange encodeAllSpec)) encodeAllCard

/-- THE TIED CARD OF 'chalklinelaw18.EncodeSound'. -/
def encodeSoundCard : Claim7 := { stood := { row := encodeSoundRow, standIns := [], harness := (true, "438b71b0154435dd96c7b77d1949cf5419c5c6649171972564af2ec7c2234eb7"), looks := true }, kinds := [], alts := [], laidByText := true, laidKinds := [.data, .data], laidTests := true, laidLooks := .later }
def EncodeSoundCardSaid : Prop := Claim7.holds Tryz.pinned (.plain (OpenSpec.ofChange encodeSoundSpec)) encodeSoundCard

/-- THE TIED CARD OF 'chalklinelaw23.ElimGates'. -/
def elimGatesCard : Claim7 := { stood := { row := elimGatesRow, standIns := [], harness := (true, "438b71b0154435dd96c7b77d1949cf5419c5c6649171972564af2ec7c2234eb7"), looks := true }, kinds := [], alts := [], laidByText := true, laidKinds := [.data, .data], laidTests := true, laidLooks := .later }
def ElimGatesCardSaid : Prop := Claim7.holds Tryz.pinned (.plain (OpenSpec.ofChange elimGatesSpec)) elimGatesCard

/-- THE SECOND FORM's CARD OF 'chalklinelaw18.EncodeHow'. -/
def encodeHowUptoCard : Claim7 := { stood := { row := encodeHowUptoRow, standIns := [], harness := (true, "438b71b0154435dd96c7b77d1949cf5419c5c6649171972564af2ec7c2234eb7"), looks := true }, kinds := [], alts := [], laidByText := true, laidKinds := [.data, .data], laidTests := true, laidLooks := .later }
def EncodeHowUptoCardSaid : Prop := Claim7.holds Tryz.pinned (.plain (OpenSpec.upto encodeHowSpec)) encodeHowUptoCard

/-- THE SECOND FORM's CARD OF 'chalklinelaw18.EncodeMatches'. -/
def encodeMatchesUptoCard : Claim7 := { stood := { row := encodeMatchesUptoRow, standIns := [], harness := (true, "438b71b0154435dd96c7b77d1949cf5419c5c6649171972564af2ec7c2234eb7"), looks := true }, kinds := [], alts := [], laidByText := true, laidKinds := [.data, .data], laidTests := true, laidLooks := .later }
def EncodeMatchesUptoCardSaid : Prop := Claim7.holds Tryz.pinned (.plain (OpenSpec.upto encodeMatchesSpec)) encodeMatchesUptoCard

/-- THE SECOND FORM's CARD OF 'chalklinelaw18.EncodeExtends'. -/
def encodeExtendsUptoCard : Claim7 := { stood := { row := encodeExtendsUptoRow, standIns := [], harness := (true, "438b71b0154435dd96c7b77d1949cf5419c5c6649171972564af2ec7c2234eb7"), looks := true }, kinds := [], alts := [], laidByText := true, laidKinds := [.data, .data], laidTests := true, laidLooks := .later }
def EncodeExtendsUptoCardSaid : Prop := Claim7.holds Tryz.pinned (.plain (OpenSpec.upto encodeExtendsSpec)) encodeExtendsUptoCard

/-- THE SECOND FORM's CARD OF 'chalklinelaw18.EncodeAll'. -/
def encodeAllUptoCard : Claim7 := { stood := { row := encodeAllUptoRow, standIns := [], harness := (true, "438b71b0154435dd96c7b77d1949cf5419c5c6649171972564af2ec7c2234eb7"), looks := true }, kinds := [], alts := [], laidByText := true, laidKinds := [.data, .data], laidTests := true, laidLooks := .later }
def EncodeAllUptoCardSaid : Prop := Claim7.holds Tryz.pinned (.plain (OpenSpec.upto encodeAllSpec)) encodeAllUptoCard

/-- THE SECOND FORM's CARD OF 'chalklinelaw18.EncodeSound'. -/
def encodeSoundUptoCard : Claim7 := { stood := { row := encodeSoundUptoRow, standIns := [], harness := (true, "438b71b0154435dd96c7b77d1949cf5419c5c6649171972564af2ec7c2234eb7"), looks := true }, kinds := [], alts := [], laidByText := true, laidKinds := [.data, .data], laidTests := true, laidLooks := .later }
def EncodeSoundUptoCardSaid : Prop := Claim7.holds Tryz.pinned (.plain (OpenSpec.upto encodeSoundSpec)) encodeSoundUptoCard

/-- THE SECOND FORM's CARD OF 'chalklinelaw23.ElimGates'. -/
def elimGatesUptoCard : Claim7 := { stood := { row := elimGatesUptoRow, standIns := [], harness := (true, "438b71b0154435dd96c7b77d1949cf5419c5c6649171972564af2ec7c2234eb7"), looks := true }, kinds := [], alts := [], laidByText := true, laidKinds := [.data, .data], laidTests := true, laidLooks := .later }
def ElimGatesUptoCardSaid : Prop := Claim7.holds Tryz.pinned (.plain (OpenSpec.upto elimGatesSpec)) elimGatesUptoCard
end Rows
end Go.Proofs.YtkkapbnopmmmjaaGreatDoor
