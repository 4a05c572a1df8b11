/- Lemmas and contracts for the row. -/
import Derived.Test.YtbpbndlgfiammaaGreatDoorPkRowProofTidyB
import Derived.Test.YtbpbndlgfiammaaGreatDoorPkRowProofTidyA
import Derived.Lib.ItoaLen
import Derived.Lib.UnsafeStr
set_option linter.unusedVariables false
set_option linter.unusedSimpArgs false
set_option linter.unnecessarySimpa false
namespace Go.Proofs.YtbpbndlgfiammaaGreatDoor.Cn
def itoaI (n : Int) : List Int := (Go.Lib.itoa n).map fun b => (b.toNat : Int)
def bytesC (xs : List Int) : List Value := xs.map (Value.int .u8)
theorem bytesC_itoa (n : Int) : Go.Lib.byteCells (Go.Lib.itoa n) = bytesC (itoaI n) := by simp [Go.Lib.byteCells, bytesC, itoaI, Function.comp_def]
theorem itoa_len {n : Int} (h0 : -9223372036854775808 ≤ n) (h1 : n ≤ 9223372036854775807) : (itoaI n).length ≤ 21 := by
  rw [itoaI, List.length_map]; exact Go.Lib.itoa_length_le n h0 h1
end Go.Proofs.YtbpbndlgfiammaaGreatDoor.Cn
