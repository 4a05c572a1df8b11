/-
  DERIVED. GIVEN WITH THE SEED: THE CARDS: each row of YteikjpbbhopkaaaGreatDoorRows.lean that lists a variable, with what it lists TIED to the program's text (the seventh form; the later family's looks); each row that meets fmt, with fmt's text TOLD by the authors' own Lean function (tested against real Go, not proved from fmt's source: count such statements apart). THE CARD IS WHAT COUNTS. Prove the row's statement (the work); the ties are given (YteikjpbbhopkaaaGreatDoorTie.lean); close each card by the builder's one call (the guide's Derived/Test/ToyasCard.lean, 'card_holds'). Laid BY PROGRAM, IN A SANDBOX (cutbox-door.mjs). By AI agents, Wed Nov 11 2026. No macro, syntax, notation, axiom, sorry.
-/
import Derived.Test.YteikjpbbhopkaaaGreatDoorRows
import GoSem.ClaimSeven
namespace Go.Proofs.YteikjpbbhopkaaaGreatDoor
namespace Rows

/-- THE TIED CARD OF 'chalklinelaw23.ElimGates'. -/
def elimGatesCard : Claim7 := { stood := { row := elimGatesRow, standIns := [], harness := (true, "94e74568242932b52bc3179f7bcd858c7b99b43ac16a1a338437ac00c0e89e90"), looks := true }, kinds := [], alts := [], laidByText := true, laidKinds := [.data, .data], laidTests := true, laidLooks := .later }
def ElimGatesCardSaid : Prop := Claim7.holds Tryz.pinned (.plain (OpenSpec.ofChange elimGatesSpec)) elimGatesCard

/-- THE SECOND FORM's CARD OF 'chalklinelaw23.ElimGates'. -/
def elimGatesUptoCard : Claim7 := { stood := { row := elimGatesUptoRow, standIns := [], harness := (true, "94e74568242932b52bc3179f7bcd858c7b99b43ac16a1a338437ac00c0e89e90"), looks := true }, kinds := [], alts := [], laidByText := true, laidKinds := [.data, .data], laidTests := true, laidLooks := .later }
def ElimGatesUptoCardSaid : Prop := Claim7.holds Tryz.pinned (.plain (OpenSpec.upto elimGatesSpec)) elimGatesUptoCard
end Rows
end Go.Proofs.YteikjpbbhopkaaaGreatDoor
