/-
  DERIVED. GIVEN WITH THE SEED: THE CARDS: each row of YtogolfneckhnaaaDoorRows.lean that lists a variable, with what it lists TIED to the program's text (the seventh form; the later family's looks); each row that meets fmt, with fmt's text TOLD by the authors' own Lean function (tested against real Go, not proved from fmt's source: count such statements apart). THE CARD IS WHAT COUNTS. Prove the row's statement (the work); the ties are given (YtogolfneckhnaaaDoorTie.lean); close each card by the builder's one call (the guide's Derived/Test/ToyasCard.lean, 'card_holds'). Laid BY PROGRAM, IN A SANDBOX (cutbox-door.mjs). By AI agents, Wed Nov 11 2026. No macro, syntax, notation, axiom, sorry.
-/
import Derived.Test.YtogolfneckhnaaaDoorRows
import GoSem.ClaimSeven
namespace Go.Proofs.YtogolfneckhnaaaDoor
namespace Rows

/-- THE TIED CARD OF 'chalklinelaw17.AdderSumSpec'. -/
def adderSumSpecCard : Claim7 := { stood := { row := adderSumSpecRow, standIns := [], harness := (true, "05636466e928d2f5d35cfbfb20ddd04a3d37dbae7b9c6dea307e761e9df5ab43"), looks := false }, kinds := [], alts := [], laidByText := true, laidKinds := [.data, .data], laidTests := true, laidLooks := .later }
def AdderSumSpecCardSaid : Prop := Claim7.holds Tryd.pinned (.plain (OpenSpec.ofChange adderSumSpecSpec)) adderSumSpecCard

/-- THE TIED CARD OF 'chalklinelaw17.AdderLeastSpec'. -/
def adderLeastSpecCard : Claim7 := { stood := { row := adderLeastSpecRow, standIns := [], harness := (true, "05636466e928d2f5d35cfbfb20ddd04a3d37dbae7b9c6dea307e761e9df5ab43"), looks := false }, kinds := [], alts := [], laidByText := true, laidKinds := [.data, .data], laidTests := true, laidLooks := .later }
def AdderLeastSpecCardSaid : Prop := Claim7.holds Tryd.pinned (.plain (OpenSpec.ofChange adderLeastSpecSpec)) adderLeastSpecCard

/-- THE TIED CARD OF 'chalklinelaw17.AdderShift'. -/
def adderShiftCard : Claim7 := { stood := { row := adderShiftRow, standIns := [], harness := (true, "05636466e928d2f5d35cfbfb20ddd04a3d37dbae7b9c6dea307e761e9df5ab43"), looks := false }, kinds := [], alts := [], laidByText := true, laidKinds := [.data, .data], laidTests := true, laidLooks := .later }
def AdderShiftCardSaid : Prop := Claim7.holds Tryd.pinned (.plain (OpenSpec.ofChange adderShiftSpec)) adderShiftCard

/-- THE TIED CARD OF 'chalklinelaw17.AdderSize'. -/
def adderSizeCard : Claim7 := { stood := { row := adderSizeRow, standIns := [], harness := (true, "05636466e928d2f5d35cfbfb20ddd04a3d37dbae7b9c6dea307e761e9df5ab43"), looks := false }, kinds := [], alts := [], laidByText := true, laidKinds := [.data, .data], laidTests := true, laidLooks := .later }
def AdderSizeCardSaid : Prop := Claim7.holds Tryd.pinned (.plain (OpenSpec.ofChange adderSizeSpec)) adderSizeCard

/-- THE TIED CARD OF 'chalklinelaw17.AdderLeastCorrect'. -/
def adderLeastCorrectCard : Claim7 := { stood := { row := adderLeastCorrectRow, standIns := [], harness := (true, "05636466e928d2f5d35cfbfb20ddd04a3d37dbae7b9c6dea307e761e9df5ab43"), looks := false }, kinds := [], alts := [], laidByText := true, laidKinds := [.data, .data], laidTests := true, laidLooks := .later }
def AdderLeastCorrectCardSaid : Prop := Claim7.holds Tryd.pinned (.plain (OpenSpec.ofChange adderLeastCorrectSpec)) adderLeastCorrectCard

/-- THE TIED CARD OF 'chalklinelaw17.AdderOrder'. -/
def adderOrderCard : Claim7 := { stood := { row := adderOrderRow, standIns := [], harness := (true, "05636466e928d2f5d35cfbfb20ddd04a3d37dbae7b9c6dea307e761e9df5ab43"), looks := false }, kinds := [], alts := [], laidByText := true, laidKinds := [.data, .data], laidTests := true, laidLooks := .later }
def AdderOrderCardSaid : Prop := Claim7.holds Tryd.pinned (.plain (OpenSpec.ofChange adderOrderSpec)) adderOrderCard

/-- THE TIED CARD OF 'chalklinelaw17.AdderSumCorrect'. -/
def adderSumCorrectCard : Claim7 := { stood := { row := adderSumCorrectRow, standIns := [], harness := (true, "05636466e928d2f5d35cfbfb20ddd04a3d37dbae7b9c6dea307e761e9df5ab43"), looks := false }, kinds := [], alts := [], laidByText := true, laidKinds := [.data, .data], laidTests := true, laidLooks := .later }
def AdderSumCorrectCardSaid : Prop := Claim7.holds Tryd.pinned (.plain (OpenSpec.ofChange adderSumCorrectSpec)) adderSumCorrectCard

/-- THE TIED CARD OF 'chalklinelaw17.AdderLeastMonotone'. -/
def adderLeastMonotoneCard : Claim7 := { stood := { row := adderLeastMonotoneRow, standIns := [], harness := (true, "05636466e928d2f5d35cfbfb20ddd04a3d37dbae7b9c6dea307e761e9df5ab43"), looks := false }, kinds := [], alts := [], laidByText := true, laidKinds := [.data, .data], laidTests := true, laidLooks := .later }
def AdderLeastMonotoneCardSaid : Prop := Claim7.holds Tryd.pinned (.plain (OpenSpec.ofChange adderLeastMonotoneSpec)) adderLeastMonotoneCard

/-- THE TIED CARD OF 'chalklinelaw17.AdderEncodesLin'. -/
def adderEncodesLinCard : Claim7 := { stood := { row := adderEncodesLinRow, standIns := [], harness := (true, "05636466e928d2f5d35cfbfb20ddd04a3d37dbae7b9c6dea307e761e9df5ab43"), looks := false }, kinds := [], alts := [], laidByText := true, laidKinds := [.data, .data], laidTests := true, laidLooks := .later }
def AdderEncodesLinCardSaid : Prop := Claim7.holds Tryd.pinned (.plain (OpenSpec.ofChange adderEncodesLinSpec)) adderEncodesLinCard

/-- THE SECOND FORM's CARD OF 'chalklinelaw17.AdderSumSpec'. -/
def adderSumSpecUptoCard : Claim7 := { stood := { row := adderSumSpecUptoRow, standIns := [], harness := (true, "05636466e928d2f5d35cfbfb20ddd04a3d37dbae7b9c6dea307e761e9df5ab43"), looks := false }, kinds := [], alts := [], laidByText := true, laidKinds := [.data, .data], laidTests := true, laidLooks := .later }
def AdderSumSpecUptoCardSaid : Prop := Claim7.holds Tryd.pinned (.plain (OpenSpec.upto adderSumSpecSpec)) adderSumSpecUptoCard

/-- THE SECOND FORM's CARD OF 'chalklinelaw17.AdderLeastSpec'. -/
def adderLeastSpecUptoCard : Claim7 := { stood := { row := adderLeastSpecUptoRow, standIns := [], harness := (true, "05636466e928d2f5d35cfbfb20ddd04a3d37dbae7b9c6dea307e761e9df5ab43"), looks := false }, kinds := [], alts := [], laidByText := true, laidKinds := [.data, .data], laidTests := true, laidLooks := .later }
def AdderLeastSpecUptoCardSaid : Prop := Claim7.holds Tryd.pinned (.plain (OpenSpec.upto adderLeastSpecSpec)) adderLeastSpecUptoCard

/-- THE SECOND FORM's CARD OF 'chalklinelaw17.AdderShift'. -/
def adderShiftUptoCard : Claim7 := { stood := { row := adderShiftUptoRow, standIns := [], harness := (true, "05636466e928d2f5d35cfbfb20ddd04a3d37dbae7b9c6dea307e761e9df5ab43"), looks := false }, kinds := [], alts := [], laidByText := true, laidKinds := [.data, .data], laidTests := true, laidLooks := .later }
def AdderShiftUptoCardSaid : Prop := Claim7.holds Tryd.pinned (.plain (OpenSpec.upto adderShiftSpec)) adderShiftUptoCard

/-- THE SECOND FORM's CARD OF 'chalklinelaw17.AdderSize'. -/
def adderSizeUptoCard : Claim7 := { stood := { row := adderSizeUptoRow, standIns := [], harness := (true, "05636466e928d2f5d35cfbfb20ddd04a3d37dbae7b9c6dea307e761e9df5ab43"), looks := false }, kinds := [], alts := [], laidByText := true, laidKinds := [.data, .data], laidTests := true, laidLooks := .later }
def AdderSizeUptoCardSaid : Prop := Claim7.holds Tryd.pinned (.plain (OpenSpec.upto adderSizeSpec)) adderSizeUptoCard

/-- THE SECOND FORM's CARD OF 'chalklinelaw17.AdderLeastCorrect'. -/
def adderLeastCorrectUptoCard : Claim7 := { stood := { row := adderLeastCorrectUptoRow, standIns := [], harness := (true, "05636466e928d2f5d35cfbfb20ddd04a3d37dbae7b9c6dea307e761e9df5ab43"), looks := false }, kinds := [], alts := [], laidByText := true, laidKinds := [.data, .data], laidTests := true, laidLooks := .later }
def AdderLeastCorrectUptoCardSaid : Prop := Claim7.holds Tryd.pinned (.plain (OpenSpec.upto adderLeastCorrectSpec)) adderLeastCorrectUptoCard

/-- THE SECOND FORM's CARD OF 'chalklinelaw17.AdderOrder'. -/
def adderOrderUptoCard : Claim7 := { stood := { row := adderOrderUptoRow, standIns := [], harness := (true, "05636466e928d2f5d35cfbfb20ddd04a3d37dbae7b9c6dea307e761e9df5ab43"), looks := false }, kinds := [], alts := [], laidByText := true, laidKinds := [.data, .data], laidTests := true, laidLooks := .later }
def AdderOrderUptoCardSaid : Prop := Claim7.holds Tryd.pinned (.plain (OpenSpec.upto adderOrderSpec)) adderOrderUptoCard

/-- THE SECOND FORM's CARD OF 'chalklinelaw17.AdderSumCorrect'. -/
def adderSumCorrectUptoCard : Claim7 := { stood := { row := adderSumCorrectUptoRow, standIns := [], harness := (true, "05636466e928d2f5d35cfbfb20ddd04a3d37dbae7b9c6dea307e761e9df5ab43"), looks := false }, kinds := [], alts := [], laidByText := true, laidKinds := [.data, .data], laidTests := true, laidLooks := .later }
def AdderSumCorrectUptoCardSaid : Prop := Claim7.holds Tryd.pinned (.plain (OpenSpec.upto adderSumCorrectSpec)) adderSumCorrectUptoCard

/-- THE SECOND FORM's CARD OF 'chalklinelaw17.AdderLeastMonotone'. -/
def adderLeastMonotoneUptoCard : Claim7 := { stood := { row := adderLeastMonotoneUptoRow, standIns := [], harness := (true, "05636466e928d2f5d35cfbfb20ddd04a3d37dbae7b9c6dea307e761e9df5ab43"), looks := false }, kinds := [], alts := [], laidByText := true, laidKinds := [.data, .data], laidTests := true, laidLooks := .later }
def AdderLeastMonotoneUptoCardSaid : Prop := Claim7.holds Tryd.pinned (.plain (OpenSpec.upto adderLeastMonotoneSpec)) adderLeastMonotoneUptoCard

/-- THE SECOND FORM's CARD OF 'chalklinelaw17.AdderEncodesLin'. -/
def adderEncodesLinUptoCard : Claim7 := { stood := { row := adderEncodesLinUptoRow, standIns := [], harness := (true, "05636466e928d2f5d35cfbfb20ddd04a3d37dbae7b9c6dea307e761e9df5ab43"), looks := false }, kinds := [], alts := [], laidByText := true, laidKinds := [.data, .data], laidTests := true, laidLooks := .later }
def AdderEncodesLinUptoCardSaid : Prop := Claim7.holds Tryd.pinned (.plain (OpenSpec.upto adderEncodesLinSpec)) adderEncodesLinUptoCard
end Rows
end Go.Proofs.YtogolfneckhnaaaDoor
