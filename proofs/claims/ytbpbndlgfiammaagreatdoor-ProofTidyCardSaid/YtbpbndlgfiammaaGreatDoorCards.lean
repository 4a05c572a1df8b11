/-
  DERIVED. GIVEN WITH THE SEED: THE CARDS: each row of YtbpbndlgfiammaaGreatDoorRows.lean that lists a variable, with what it lists TIED to the program's text (the seventh form; the later family's looks); each row that meets fmt, with fmt's text TOLD by the authors' own Lean function (tested against real Go, not proved from fmt's source: count such statements apart). THE CARD IS WHAT COUNTS. Prove the row's statement (the work); the ties are given (YtbpbndlgfiammaaGreatDoorTie.lean); close each card by the builder's one call (the guide's Derived/Test/ToyasCard.lean, 'card_holds'). Laid BY PROGRAM, IN A SANDBOX (cutbox-door.mjs). By AI agents, Wed Nov 11 2026. No macro, syntax, notation, axiom, sorry.
-/
import Derived.Test.YtbpbndlgfiammaaGreatDoorRows
import GoSem.ClaimSeven
namespace Go.Proofs.YtbpbndlgfiammaaGreatDoor
namespace Rows

/-- THE TIED CARD OF 'chalklinelaw24.ProofFollows'. -/
def proofFollowsCard : Claim7 := { stood := { row := proofFollowsRow, standIns := [], harness := (true, "a4b6363b1986d793123d37117f95c4a1fec0bc1bd5ddf83200c3bf7ca9f9c4dd"), looks := true }, kinds := [], alts := [], laidByText := true, laidKinds := [.data, .data, .data, .data, .sentinel, .sentinel, .pinned], laidTests := true, laidLooks := .later }
def ProofFollowsCardSaid : Prop := Claim7.holds Tryz.pinned (.plain (OpenSpec.ofChange proofFollowsSpec)) proofFollowsCard

/-- THE TIED CARD OF 'chalklinelaw24.ProofChecks'. -/
def proofChecksCard : Claim7 := { stood := { row := proofChecksRow, standIns := [], harness := (true, "a4b6363b1986d793123d37117f95c4a1fec0bc1bd5ddf83200c3bf7ca9f9c4dd"), looks := true }, kinds := [], alts := [], laidByText := true, laidKinds := [.data, .data, .data, .data, .sentinel, .sentinel, .pinned], laidTests := true, laidLooks := .later }
def ProofChecksCardSaid : Prop := Claim7.holds Tryz.pinned (.plain (OpenSpec.ofChange proofChecksSpec)) proofChecksCard

/-- THE TIED CARD OF 'chalklinelaw24.ProofTexts'. -/
def proofTextsCard : Claim7 := { stood := { row := proofTextsRow, standIns := [], harness := (true, "a4b6363b1986d793123d37117f95c4a1fec0bc1bd5ddf83200c3bf7ca9f9c4dd"), looks := true }, kinds := [], alts := [], laidByText := true, laidKinds := [.data, .data, .data, .data, .sentinel, .sentinel, .pinned], laidTests := true, laidLooks := .later }
def ProofTextsCardSaid : Prop := Claim7.holds Tryz.pinned (.plain (OpenSpec.ofChange proofTextsSpec)) proofTextsCard

/-- THE TIED CARD OF 'chalklinelaw24.ProofBack'. -/
def proofBackCard : Claim7 := { stood := { row := proofBackRow, standIns := [], harness := (true, "a4b6363b1986d793123d37117f95c4a1fec0bc1bd5ddf83200c3bf7ca9f9c4dd"), looks := true }, kinds := [], alts := [], laidByText := true, laidKinds := [.data, .data, .data, .data, .sentinel, .sentinel, .pinned], laidTests := true, laidLooks := .later }
def ProofBackCardSaid : Prop := Claim7.holds Tryz.pinned (.plain (OpenSpec.ofChange proofBackSpec)) proofBackCard

/-- THE TIED CARD OF 'chalklinelaw24.ProofOrder'. -/
def proofOrderCard : Claim7 := { stood := { row := proofOrderRow, standIns := [], harness := (true, "a4b6363b1986d793123d37117f95c4a1fec0bc1bd5ddf83200c3bf7ca9f9c4dd"), looks := true }, kinds := [], alts := [], laidByText := true, laidKinds := [.data, .data, .data, .data, .sentinel, .sentinel, .pinned], laidTests := true, laidLooks := .later }
def ProofOrderCardSaid : Prop := Claim7.holds Tryz.pinned (.plain (OpenSpec.ofChange proofOrderSpec)) proofOrderCard

/-- THE TIED CARD OF 'chalklinelaw24.ProofSound'. -/
def proofSoundCard : Claim7 := { stood := { row := proofSoundRow, standIns := [], harness := (true, "a4b6363b1986d793123d37117f95c4a1fec0bc1bd5ddf83200c3bf7ca9f9c4dd"), looks := true }, kinds := [], alts := [], laidByText := true, laidKinds := [.data, .data, .data, .data, .sentinel, .sentinel, .pinned], laidTests := true, laidLooks := .later }
def ProofSoundCardSaid : Prop := Claim7.holds Tryz.pinned (.plain (OpenSpec.ofChange proofSoundSpec)) proofSoundCard

/-- THE TIED CARD OF 'chalklinelaw24.ProofImplied'. -/
def proofImpliedCard : Claim7 := { stood := { row := proofImpliedRow, standIns := [], harness := (true, "a4b6363b1986d793123d37117f95c4a1fec0bc1bd5ddf83200c3bf7ca9f9c4dd"), looks := true }, kinds := [], alts := [], laidByText := true, laidKinds := [.data, .data, .data, .data, .sentinel, .sentinel, .pinned], laidTests := true, laidLooks := .later }
def ProofImpliedCardSaid : Prop := Claim7.holds Tryz.pinned (.plain (OpenSpec.ofChange proofImpliedSpec)) proofImpliedCard

/-- THE TIED CARD OF 'chalklinelaw24.ProofTidy'. -/
def proofTidyCard : Claim7 := { stood := { row := proofTidyRow, standIns := [], harness := (true, "a4b6363b1986d793123d37117f95c4a1fec0bc1bd5ddf83200c3bf7ca9f9c4dd"), looks := true }, kinds := [], alts := [], laidByText := true, laidKinds := [.data, .data, .data, .data, .sentinel, .sentinel, .pinned], laidTests := true, laidLooks := .later }
def ProofTidyCardSaid : Prop := Claim7.holds Tryz.pinned (.plain (OpenSpec.ofChange proofTidySpec)) proofTidyCard

/-- THE TIED CARD OF 'chalklinelaw24.ProofResolved'. -/
def proofResolvedCard : Claim7 := { stood := { row := proofResolvedRow, standIns := [], harness := (true, "a4b6363b1986d793123d37117f95c4a1fec0bc1bd5ddf83200c3bf7ca9f9c4dd"), looks := true }, kinds := [], alts := [], laidByText := true, laidKinds := [.data, .data, .data, .data, .sentinel, .sentinel, .pinned], laidTests := true, laidLooks := .later }
def ProofResolvedCardSaid : Prop := Claim7.holds Tryz.pinned (.plain (OpenSpec.ofChange proofResolvedSpec)) proofResolvedCard

/-- THE SECOND FORM's CARD OF 'chalklinelaw24.ProofFollows'. -/
def proofFollowsUptoCard : Claim7 := { stood := { row := proofFollowsUptoRow, standIns := [], harness := (true, "a4b6363b1986d793123d37117f95c4a1fec0bc1bd5ddf83200c3bf7ca9f9c4dd"), looks := true }, kinds := [], alts := [], laidByText := true, laidKinds := [.data, .data, .data, .data, .sentinel, .sentinel, .pinned], laidTests := true, laidLooks := .later }
def ProofFollowsUptoCardSaid : Prop := Claim7.holds Tryz.pinned (.plain (OpenSpec.upto proofFollowsSpec)) proofFollowsUptoCard

/-- THE SECOND FORM's CARD OF 'chalklinelaw24.ProofChecks'. -/
def proofChecksUptoCard : Claim7 := { stood := { row := proofChecksUptoRow, standIns := [], harness := (true, "a4b6363b1986d793123d37117f95c4a1fec0bc1bd5ddf83200c3bf7ca9f9c4dd"), looks := true }, kinds := [], alts := [], laidByText := true, laidKinds := [.data, .data, .data, .data, .sentinel, .sentinel, .pinned], laidTests := true, laidLooks := .later }
def ProofChecksUptoCardSaid : Prop := Claim7.holds Tryz.pinned (.plain (OpenSpec.upto proofChecksSpec)) proofChecksUptoCard

/-- THE SECOND FORM's CARD OF 'chalklinelaw24.ProofTexts'. -/
def proofTextsUptoCard : Claim7 := { stood := { row := proofTextsUptoRow, standIns := [], harness := (true, "a4b6363b1986d793123d37117f95c4a1fec0bc1bd5ddf83200c3bf7ca9f9c4dd"), looks := true }, kinds := [], alts := [], laidByText := true, laidKinds := [.data, .data, .data, .data, .sentinel, .sentinel, .pinned], laidTests := true, laidLooks := .later }
def ProofTextsUptoCardSaid : Prop := Claim7.holds Tryz.pinned (.plain (OpenSpec.upto proofTextsSpec)) proofTextsUptoCard

/-- THE SECOND FORM's CARD OF 'chalklinelaw24.ProofBack'. -/
def proofBackUptoCard : Claim7 := { stood := { row := proofBackUptoRow, standIns := [], harness := (true, "a4b6363b1986d793123d37117f95c4a1fec0bc1bd5ddf83200c3bf7ca9f9c4dd"), looks := true }, kinds := [], alts := [], laidByText := true, laidKinds := [.data, .data, .data, .data, .sentinel, .sentinel, .pinned], laidTests := true, laidLooks := .later }
def ProofBackUptoCardSaid : Prop := Claim7.holds Tryz.pinned (.plain (OpenSpec.upto proofBackSpec)) proofBackUptoCard

/-- THE SECOND FORM's CARD OF 'chalklinelaw24.ProofOrder'. -/
def proofOrderUptoCard : Claim7 := { stood := { row := proofOrderUptoRow, standIns := [], harness := (true, "a4b6363b1986d793123d37117f95c4a1fec0bc1bd5ddf83200c3bf7ca9f9c4dd"), looks := true }, kinds := [], alts := [], laidByText := true, laidKinds := [.data, .data, .data, .data, .sentinel, .sentinel, .pinned], laidTests := true, laidLooks := .later }
def ProofOrderUptoCardSaid : Prop := Claim7.holds Tryz.pinned (.plain (OpenSpec.upto proofOrderSpec)) proofOrderUptoCard

/-- THE SECOND FORM's CARD OF 'chalklinelaw24.ProofSound'. -/
def proofSoundUptoCard : Claim7 := { stood := { row := proofSoundUptoRow, standIns := [], harness := (true, "a4b6363b1986d793123d37117f95c4a1fec0bc1bd5ddf83200c3bf7ca9f9c4dd"), looks := true }, kinds := [], alts := [], laidByText := true, laidKinds := [.data, .data, .data, .data, .sentinel, .sentinel, .pinned], laidTests := true, laidLooks := .later }
def ProofSoundUptoCardSaid : Prop := Claim7.holds Tryz.pinned (.plain (OpenSpec.upto proofSoundSpec)) proofSoundUptoCard

/-- THE SECOND FORM's CARD OF 'chalklinelaw24.ProofImplied'. -/
def proofImpliedUptoCard : Claim7 := { stood := { row := proofImpliedUptoRow, standIns := [], harness := (true, "a4b6363b1986d793123d37117f95c4a1fec0bc1bd5ddf83200c3bf7ca9f9c4dd"), looks := true }, kinds := [], alts := [], laidByText := true, laidKinds := [.data, .data, .data, .data, .sentinel, .sentinel, .pinned], laidTests := true, laidLooks := .later }
def ProofImpliedUptoCardSaid : Prop := Claim7.holds Tryz.pinned (.plain (OpenSpec.upto proofImpliedSpec)) proofImpliedUptoCard

/-- THE SECOND FORM's CARD OF 'chalklinelaw24.ProofTidy'. -/
def proofTidyUptoCard : Claim7 := { stood := { row := proofTidyUptoRow, standIns := [], harness := (true, "a4b6363b1986d793123d37117f95c4a1fec0bc1bd5ddf83200c3bf7ca9f9c4dd"), looks := true }, kinds := [], alts := [], laidByText := true, laidKinds := [.data, .data, .data, .data, .sentinel, .sentinel, .pinned], laidTests := true, laidLooks := .later }
def ProofTidyUptoCardSaid : Prop := Claim7.holds Tryz.pinned (.plain (OpenSpec.upto proofTidySpec)) proofTidyUptoCard

/-- THE SECOND FORM's CARD OF 'chalklinelaw24.ProofResolved'. -/
def proofResolvedUptoCard : Claim7 := { stood := { row := proofResolvedUptoRow, standIns := [], harness := (true, "a4b6363b1986d793123d37117f95c4a1fec0bc1bd5ddf83200c3bf7ca9f9c4dd"), looks := true }, kinds := [], alts := [], laidByText := true, laidKinds := [.data, .data, .data, .data, .sentinel, .sentinel, .pinned], laidTests := true, laidLooks := .later }
def ProofResolvedUptoCardSaid : Prop := Claim7.holds Tryz.pinned (.plain (OpenSpec.upto proofResolvedSpec)) proofResolvedUptoCard
end Rows
end Go.Proofs.YtbpbndlgfiammaaGreatDoor
