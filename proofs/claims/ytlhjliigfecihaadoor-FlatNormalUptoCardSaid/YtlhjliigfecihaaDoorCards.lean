/-
  DERIVED. GIVEN WITH THE SEED: THE CARDS: each row of YtlhjliigfecihaaDoorRows.lean that lists a variable, with what it lists TIED to the program's text (the seventh form; the later family's looks); each row that meets fmt, with fmt's text TOLD by the authors' own Lean function (tested against real Go, not proved from fmt's source: count such statements apart). THE CARD IS WHAT COUNTS. Prove the row's statement (the work); the ties are given (YtlhjliigfecihaaDoorTie.lean); close each card by the builder's one call (the guide's Derived/Test/ToyasCard.lean, 'card_holds'). Laid BY PROGRAM, IN A SANDBOX (cutbox-door.mjs). By AI agents, Wed Nov 11 2026. No macro, syntax, notation, axiom, sorry.
-/
import Derived.Test.YtlhjliigfecihaaDoorRows
import GoSem.ClaimSeven
namespace Go.Proofs.YtlhjliigfecihaaDoor
namespace Rows

/-- THE TIED CARD OF 'chalklinelaw11.FlatValues'. -/
def flatValuesCard : Claim7 := { stood := { row := flatValuesRow, standIns := [], harness := (true, "a72112186f6696302c8abc3e547f0a74751898bbd054027aa667b7f74308d767"), looks := false }, kinds := [], alts := [], laidByText := true, laidKinds := [.data], laidTests := true, laidLooks := .later }
def FlatValuesCardSaid : Prop := Claim7.holds Tryd.pinned (.plain (OpenSpec.ofChange flatValuesSpec)) flatValuesCard

/-- THE TIED CARD OF 'chalklinelaw11.FlatSimplifies'. -/
def flatSimplifiesCard : Claim7 := { stood := { row := flatSimplifiesRow, standIns := [], harness := (true, "a72112186f6696302c8abc3e547f0a74751898bbd054027aa667b7f74308d767"), looks := false }, kinds := [], alts := [], laidByText := true, laidKinds := [.data], laidTests := true, laidLooks := .later }
def FlatSimplifiesCardSaid : Prop := Claim7.holds Tryd.pinned (.plain (OpenSpec.ofChange flatSimplifiesSpec)) flatSimplifiesCard

/-- THE TIED CARD OF 'chalklinelaw11.FlatPreserves'. -/
def flatPreservesCard : Claim7 := { stood := { row := flatPreservesRow, standIns := [], harness := (true, "a72112186f6696302c8abc3e547f0a74751898bbd054027aa667b7f74308d767"), looks := false }, kinds := [], alts := [], laidByText := true, laidKinds := [.data], laidTests := true, laidLooks := .later }
def FlatPreservesCardSaid : Prop := Claim7.holds Tryd.pinned (.plain (OpenSpec.ofChange flatPreservesSpec)) flatPreservesCard

/-- THE TIED CARD OF 'chalklinelaw11.FlatNormal'. -/
def flatNormalCard : Claim7 := { stood := { row := flatNormalRow, standIns := [], harness := (true, "a72112186f6696302c8abc3e547f0a74751898bbd054027aa667b7f74308d767"), looks := false }, kinds := [], alts := [], laidByText := true, laidKinds := [.data], laidTests := true, laidLooks := .later }
def FlatNormalCardSaid : Prop := Claim7.holds Tryd.pinned (.plain (OpenSpec.ofChange flatNormalSpec)) flatNormalCard

/-- THE TIED CARD OF 'chalklinelaw11.FlatDuality'. -/
def flatDualityCard : Claim7 := { stood := { row := flatDualityRow, standIns := [], harness := (true, "a72112186f6696302c8abc3e547f0a74751898bbd054027aa667b7f74308d767"), looks := false }, kinds := [], alts := [], laidByText := true, laidKinds := [.data], laidTests := true, laidLooks := .later }
def FlatDualityCardSaid : Prop := Claim7.holds Tryd.pinned (.plain (OpenSpec.ofChange flatDualitySpec)) flatDualityCard

/-- THE TIED CARD OF 'chalklinelaw11.FlatSubstitutes'. -/
def flatSubstitutesCard : Claim7 := { stood := { row := flatSubstitutesRow, standIns := [], harness := (true, "a72112186f6696302c8abc3e547f0a74751898bbd054027aa667b7f74308d767"), looks := false }, kinds := [], alts := [], laidByText := true, laidKinds := [.data], laidTests := true, laidLooks := .later }
def FlatSubstitutesCardSaid : Prop := Claim7.holds Tryd.pinned (.plain (OpenSpec.ofChange flatSubstitutesSpec)) flatSubstitutesCard

/-- THE TIED CARD OF 'chalklinelaw11.FlatCompositional'. -/
def flatCompositionalCard : Claim7 := { stood := { row := flatCompositionalRow, standIns := [], harness := (true, "a72112186f6696302c8abc3e547f0a74751898bbd054027aa667b7f74308d767"), looks := false }, kinds := [], alts := [], laidByText := true, laidKinds := [.data], laidTests := true, laidLooks := .later }
def FlatCompositionalCardSaid : Prop := Claim7.holds Tryd.pinned (.plain (OpenSpec.ofChange flatCompositionalSpec)) flatCompositionalCard

/-- THE SECOND FORM's CARD OF 'chalklinelaw11.FlatValues'. -/
def flatValuesUptoCard : Claim7 := { stood := { row := flatValuesUptoRow, standIns := [], harness := (true, "a72112186f6696302c8abc3e547f0a74751898bbd054027aa667b7f74308d767"), looks := false }, kinds := [], alts := [], laidByText := true, laidKinds := [.data], laidTests := true, laidLooks := .later }
def FlatValuesUptoCardSaid : Prop := Claim7.holds Tryd.pinned (.plain (OpenSpec.upto flatValuesSpec)) flatValuesUptoCard

/-- THE SECOND FORM's CARD OF 'chalklinelaw11.FlatSimplifies'. -/
def flatSimplifiesUptoCard : Claim7 := { stood := { row := flatSimplifiesUptoRow, standIns := [], harness := (true, "a72112186f6696302c8abc3e547f0a74751898bbd054027aa667b7f74308d767"), looks := false }, kinds := [], alts := [], laidByText := true, laidKinds := [.data], laidTests := true, laidLooks := .later }
def FlatSimplifiesUptoCardSaid : Prop := Claim7.holds Tryd.pinned (.plain (OpenSpec.upto flatSimplifiesSpec)) flatSimplifiesUptoCard

/-- THE SECOND FORM's CARD OF 'chalklinelaw11.FlatPreserves'. -/
def flatPreservesUptoCard : Claim7 := { stood := { row := flatPreservesUptoRow, standIns := [], harness := (true, "a72112186f6696302c8abc3e547f0a74751898bbd054027aa667b7f74308d767"), looks := false }, kinds := [], alts := [], laidByText := true, laidKinds := [.data], laidTests := true, laidLooks := .later }
def FlatPreservesUptoCardSaid : Prop := Claim7.holds Tryd.pinned (.plain (OpenSpec.upto flatPreservesSpec)) flatPreservesUptoCard

/-- THE SECOND FORM's CARD OF 'chalklinelaw11.FlatNormal'. -/
def flatNormalUptoCard : Claim7 := { stood := { row := flatNormalUptoRow, standIns := [], harness := (true, "a72112186f6696302c8abc3e547f0a74751898bbd054027aa667b7f74308d767"), looks := false }, kinds := [], alts := [], laidByText := true, laidKinds := [.data], laidTests := true, laidLooks := .later }
def FlatNormalUptoCardSaid : Prop := Claim7.holds Tryd.pinned (.plain (OpenSpec.upto flatNormalSpec)) flatNormalUptoCard

/-- THE SECOND FORM's CARD OF 'chalklinelaw11.FlatDuality'. -/
def flatDualityUptoCard : Claim7 := { stood := { row := flatDualityUptoRow, standIns := [], harness := (true, "a72112186f6696302c8abc3e547f0a74751898bbd054027aa667b7f74308d767"), looks := false }, kinds := [], alts := [], laidByText := true, laidKinds := [.data], laidTests := true, laidLooks := .later }
def FlatDualityUptoCardSaid : Prop := Claim7.holds Tryd.pinned (.plain (OpenSpec.upto flatDualitySpec)) flatDualityUptoCard

/-- THE SECOND FORM's CARD OF 'chalklinelaw11.FlatSubstitutes'. -/
def flatSubstitutesUptoCard : Claim7 := { stood := { row := flatSubstitutesUptoRow, standIns := [], harness := (true, "a72112186f6696302c8abc3e547f0a74751898bbd054027aa667b7f74308d767"), looks := false }, kinds := [], alts := [], laidByText := true, laidKinds := [.data], laidTests := true, laidLooks := .later }
def FlatSubstitutesUptoCardSaid : Prop := Claim7.holds Tryd.pinned (.plain (OpenSpec.upto flatSubstitutesSpec)) flatSubstitutesUptoCard

/-- THE SECOND FORM's CARD OF 'chalklinelaw11.FlatCompositional'. -/
def flatCompositionalUptoCard : Claim7 := { stood := { row := flatCompositionalUptoRow, standIns := [], harness := (true, "a72112186f6696302c8abc3e547f0a74751898bbd054027aa667b7f74308d767"), looks := false }, kinds := [], alts := [], laidByText := true, laidKinds := [.data], laidTests := true, laidLooks := .later }
def FlatCompositionalUptoCardSaid : Prop := Claim7.holds Tryd.pinned (.plain (OpenSpec.upto flatCompositionalSpec)) flatCompositionalUptoCard
end Rows
end Go.Proofs.YtlhjliigfecihaaDoor
