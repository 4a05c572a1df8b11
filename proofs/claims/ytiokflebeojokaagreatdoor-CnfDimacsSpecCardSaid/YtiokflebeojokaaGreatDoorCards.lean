/-
  DERIVED. GIVEN WITH THE SEED: THE CARDS: each row of YtiokflebeojokaaGreatDoorRows.lean that lists a variable, with what it lists TIED to the program's text (the seventh form; the later family's looks); each row that meets fmt, with fmt's text TOLD by the authors' own Lean function (tested against real Go, not proved from fmt's source: count such statements apart). THE CARD IS WHAT COUNTS. Prove the row's statement (the work); the ties are given (YtiokflebeojokaaGreatDoorTie.lean); close each card by the builder's one call (the guide's Derived/Test/ToyasCard.lean, 'card_holds'). Laid BY PROGRAM, IN A SANDBOX (cutbox-door.mjs). By AI agents, Wed Nov 11 2026. No macro, syntax, notation, axiom, sorry.
-/
import Derived.Test.YtiokflebeojokaaGreatDoorRows
import GoSem.ClaimSeven
namespace Go.Proofs.YtiokflebeojokaaGreatDoor
namespace Rows

/-- THE TIED CARD OF 'chalklinelaw14.CnfBasicsSpec'. -/
def cnfBasicsSpecCard : Claim7 := { stood := { row := cnfBasicsSpecRow, standIns := [], harness := (true, "69ea1b9bed37eb43f7d06a532788fc6e8602444b79cc641d80d0009ef1096f13"), looks := false }, kinds := [], alts := [], laidByText := true, laidKinds := [.data, .data, .data, .data, .sentinel, .pinned], laidTests := true, laidLooks := .later }
def CnfBasicsSpecCardSaid : Prop := Claim7.holds Tryz.pinned (.plain (OpenSpec.ofChange cnfBasicsSpecSpec)) cnfBasicsSpecCard

/-- THE TIED CARD OF 'chalklinelaw14.CnfResolveSpec'. -/
def cnfResolveSpecCard : Claim7 := { stood := { row := cnfResolveSpecRow, standIns := [], harness := (true, "69ea1b9bed37eb43f7d06a532788fc6e8602444b79cc641d80d0009ef1096f13"), looks := false }, kinds := [], alts := [], laidByText := true, laidKinds := [.data, .data, .data, .data, .sentinel, .pinned], laidTests := true, laidLooks := .later }
def CnfResolveSpecCardSaid : Prop := Claim7.holds Tryz.pinned (.plain (OpenSpec.ofChange cnfResolveSpecSpec)) cnfResolveSpecCard

/-- THE TIED CARD OF 'chalklinelaw14.CnfDimacsSpec'. -/
def cnfDimacsSpecCard : Claim7 := { stood := { row := cnfDimacsSpecRow, standIns := [], harness := (true, "69ea1b9bed37eb43f7d06a532788fc6e8602444b79cc641d80d0009ef1096f13"), looks := false }, kinds := [], alts := [], laidByText := true, laidKinds := [.data, .data, .data, .data, .sentinel, .pinned], laidTests := true, laidLooks := .later }
def CnfDimacsSpecCardSaid : Prop := Claim7.holds Tryz.pinned (.plain (OpenSpec.ofChange cnfDimacsSpecSpec)) cnfDimacsSpecCard

/-- THE TIED CARD OF 'chalklinelaw14.CnfResolveSound'. -/
def cnfResolveSoundCard : Claim7 := { stood := { row := cnfResolveSoundRow, standIns := [], harness := (true, "69ea1b9bed37eb43f7d06a532788fc6e8602444b79cc641d80d0009ef1096f13"), looks := false }, kinds := [], alts := [], laidByText := true, laidKinds := [.data, .data, .data, .data, .sentinel, .pinned], laidTests := true, laidLooks := .later }
def CnfResolveSoundCardSaid : Prop := Claim7.holds Tryz.pinned (.plain (OpenSpec.ofChange cnfResolveSoundSpec)) cnfResolveSoundCard

/-- THE TIED CARD OF 'chalklinelaw14.CnfSubsumesSound'. -/
def cnfSubsumesSoundCard : Claim7 := { stood := { row := cnfSubsumesSoundRow, standIns := [], harness := (true, "69ea1b9bed37eb43f7d06a532788fc6e8602444b79cc641d80d0009ef1096f13"), looks := false }, kinds := [], alts := [], laidByText := true, laidKinds := [.data, .data, .data, .data, .sentinel, .pinned], laidTests := true, laidLooks := .later }
def CnfSubsumesSoundCardSaid : Prop := Claim7.holds Tryz.pinned (.plain (OpenSpec.ofChange cnfSubsumesSoundSpec)) cnfSubsumesSoundCard

/-- THE TIED CARD OF 'chalklinelaw14.CnfNormEquivalent'. -/
def cnfNormEquivalentCard : Claim7 := { stood := { row := cnfNormEquivalentRow, standIns := [], harness := (true, "69ea1b9bed37eb43f7d06a532788fc6e8602444b79cc641d80d0009ef1096f13"), looks := false }, kinds := [], alts := [], laidByText := true, laidKinds := [.data, .data, .data, .data, .sentinel, .pinned], laidTests := true, laidLooks := .later }
def CnfNormEquivalentCardSaid : Prop := Claim7.holds Tryz.pinned (.plain (OpenSpec.ofChange cnfNormEquivalentSpec)) cnfNormEquivalentCard

/-- THE TIED CARD OF 'chalklinelaw14.CnfDimacsRoundTrip'. -/
def cnfDimacsRoundTripCard : Claim7 := { stood := { row := cnfDimacsRoundTripRow, standIns := [], harness := (true, "69ea1b9bed37eb43f7d06a532788fc6e8602444b79cc641d80d0009ef1096f13"), looks := false }, kinds := [], alts := [], laidByText := true, laidKinds := [.data, .data, .data, .data, .sentinel, .pinned], laidTests := true, laidLooks := .later }
def CnfDimacsRoundTripCardSaid : Prop := Claim7.holds Tryz.pinned (.plain (OpenSpec.ofChange cnfDimacsRoundTripSpec)) cnfDimacsRoundTripCard

/-- THE TIED CARD OF 'chalklinelaw14.CnfDimacsReadable'. -/
def cnfDimacsReadableCard : Claim7 := { stood := { row := cnfDimacsReadableRow, standIns := [], harness := (true, "69ea1b9bed37eb43f7d06a532788fc6e8602444b79cc641d80d0009ef1096f13"), looks := false }, kinds := [], alts := [], laidByText := true, laidKinds := [.data, .data, .data, .data, .sentinel, .pinned], laidTests := true, laidLooks := .later }
def CnfDimacsReadableCardSaid : Prop := Claim7.holds Tryz.pinned (.plain (OpenSpec.ofChange cnfDimacsReadableSpec)) cnfDimacsReadableCard

/-- THE TIED CARD OF 'chalklinelaw14.CnfConjunction'. -/
def cnfConjunctionCard : Claim7 := { stood := { row := cnfConjunctionRow, standIns := [], harness := (true, "69ea1b9bed37eb43f7d06a532788fc6e8602444b79cc641d80d0009ef1096f13"), looks := false }, kinds := [], alts := [], laidByText := true, laidKinds := [.data, .data, .data, .data, .sentinel, .pinned], laidTests := true, laidLooks := .later }
def CnfConjunctionCardSaid : Prop := Claim7.holds Tryz.pinned (.plain (OpenSpec.ofChange cnfConjunctionSpec)) cnfConjunctionCard

/-- THE SECOND FORM's CARD OF 'chalklinelaw14.CnfBasicsSpec'. -/
def cnfBasicsSpecUptoCard : Claim7 := { stood := { row := cnfBasicsSpecUptoRow, standIns := [], harness := (true, "69ea1b9bed37eb43f7d06a532788fc6e8602444b79cc641d80d0009ef1096f13"), looks := false }, kinds := [], alts := [], laidByText := true, laidKinds := [.data, .data, .data, .data, .sentinel, .pinned], laidTests := true, laidLooks := .later }
def CnfBasicsSpecUptoCardSaid : Prop := Claim7.holds Tryz.pinned (.plain (OpenSpec.upto cnfBasicsSpecSpec)) cnfBasicsSpecUptoCard

/-- THE SECOND FORM's CARD OF 'chalklinelaw14.CnfResolveSpec'. -/
def cnfResolveSpecUptoCard : Claim7 := { stood := { row := cnfResolveSpecUptoRow, standIns := [], harness := (true, "69ea1b9bed37eb43f7d06a532788fc6e8602444b79cc641d80d0009ef1096f13"), looks := false }, kinds := [], alts := [], laidByText := true, laidKinds := [.data, .data, .data, .data, .sentinel, .pinned], laidTests := true, laidLooks := .later }
def CnfResolveSpecUptoCardSaid : Prop := Claim7.holds Tryz.pinned (.plain (OpenSpec.upto cnfResolveSpecSpec)) cnfResolveSpecUptoCard

/-- THE SECOND FORM's CARD OF 'chalklinelaw14.CnfDimacsSpec'. -/
def cnfDimacsSpecUptoCard : Claim7 := { stood := { row := cnfDimacsSpecUptoRow, standIns := [], harness := (true, "69ea1b9bed37eb43f7d06a532788fc6e8602444b79cc641d80d0009ef1096f13"), looks := false }, kinds := [], alts := [], laidByText := true, laidKinds := [.data, .data, .data, .data, .sentinel, .pinned], laidTests := true, laidLooks := .later }
def CnfDimacsSpecUptoCardSaid : Prop := Claim7.holds Tryz.pinned (.plain (OpenSpec.upto cnfDimacsSpecSpec)) cnfDimacsSpecUptoCard

/-- THE SECOND FORM's CARD OF 'chalklinelaw14.CnfResolveSound'. -/
def cnfResolveSoundUptoCard : Claim7 := { stood := { row := cnfResolveSoundUptoRow, standIns := [], harness := (true, "69ea1b9bed37eb43f7d06a532788fc6e8602444b79cc641d80d0009ef1096f13"), looks := false }, kinds := [], alts := [], laidByText := true, laidKinds := [.data, .data, .data, .data, .sentinel, .pinned], laidTests := true, laidLooks := .later }
def CnfResolveSoundUptoCardSaid : Prop := Claim7.holds Tryz.pinned (.plain (OpenSpec.upto cnfResolveSoundSpec)) cnfResolveSoundUptoCard

/-- THE SECOND FORM's CARD OF 'chalklinelaw14.CnfSubsumesSound'. -/
def cnfSubsumesSoundUptoCard : Claim7 := { stood := { row := cnfSubsumesSoundUptoRow, standIns := [], harness := (true, "69ea1b9bed37eb43f7d06a532788fc6e8602444b79cc641d80d0009ef1096f13"), looks := false }, kinds := [], alts := [], laidByText := true, laidKinds := [.data, .data, .data, .data, .sentinel, .pinned], laidTests := true, laidLooks := .later }
def CnfSubsumesSoundUptoCardSaid : Prop := Claim7.holds Tryz.pinned (.plain (OpenSpec.upto cnfSubsumesSoundSpec)) cnfSubsumesSoundUptoCard

/-- THE SECOND FORM's CARD OF 'chalklinelaw14.CnfNormEquivalent'. -/
def cnfNormEquivalentUptoCard : Claim7 := { stood := { row := cnfNormEquivalentUptoRow, standIns := [], harness := (true, "69ea1b9bed37eb43f7d06a532788fc6e8602444b79cc641d80d0009ef1096f13"), looks := false }, kinds := [], alts := [], laidByText := true, laidKinds := [.data, .data, .data, .data, .sentinel, .pinned], laidTests := true, laidLooks := .later }
def CnfNormEquivalentUptoCardSaid : Prop := Claim7.holds Tryz.pinned (.plain (OpenSpec.upto cnfNormEquivalentSpec)) cnfNormEquivalentUptoCard

/-- THE SECOND FORM's CARD OF 'chalklinelaw14.CnfDimacsRoundTrip'. -/
def cnfDimacsRoundTripUptoCard : Claim7 := { stood := { row := cnfDimacsRoundTripUptoRow, standIns := [], harness := (true, "69ea1b9bed37eb43f7d06a532788fc6e8602444b79cc641d80d0009ef1096f13"), looks := false }, kinds := [], alts := [], laidByText := true, laidKinds := [.data, .data, .data, .data, .sentinel, .pinned], laidTests := true, laidLooks := .later }
def CnfDimacsRoundTripUptoCardSaid : Prop := Claim7.holds Tryz.pinned (.plain (OpenSpec.upto cnfDimacsRoundTripSpec)) cnfDimacsRoundTripUptoCard

/-- THE SECOND FORM's CARD OF 'chalklinelaw14.CnfDimacsReadable'. -/
def cnfDimacsReadableUptoCard : Claim7 := { stood := { row := cnfDimacsReadableUptoRow, standIns := [], harness := (true, "69ea1b9bed37eb43f7d06a532788fc6e8602444b79cc641d80d0009ef1096f13"), looks := false }, kinds := [], alts := [], laidByText := true, laidKinds := [.data, .data, .data, .data, .sentinel, .pinned], laidTests := true, laidLooks := .later }
def CnfDimacsReadableUptoCardSaid : Prop := Claim7.holds Tryz.pinned (.plain (OpenSpec.upto cnfDimacsReadableSpec)) cnfDimacsReadableUptoCard

/-- THE SECOND FORM's CARD OF 'chalklinelaw14.CnfConjunction'. -/
def cnfConjunctionUptoCard : Claim7 := { stood := { row := cnfConjunctionUptoRow, standIns := [], harness := (true, "69ea1b9bed37eb43f7d06a532788fc6e8602444b79cc641d80d0009ef1096f13"), looks := false }, kinds := [], alts := [], laidByText := true, laidKinds := [.data, .data, .data, .data, .sentinel, .pinned], laidTests := true, laidLooks := .later }
def CnfConjunctionUptoCardSaid : Prop := Claim7.holds Tryz.pinned (.plain (OpenSpec.upto cnfConjunctionSpec)) cnfConjunctionUptoCard
end Rows
end Go.Proofs.YtiokflebeojokaaGreatDoor
