/- Variables that start-up code laid and that the code reads: where they lie and what they hold. Plain definition. -/
import Derived.Test.YthhfdjcaafckbaaMem
import Derived.Lib.TrailingZeros
namespace Go.Proofs.Ythhfdjcaafckbaa.En
open Go
def glb : List (Nat × List Value) := []
end Go.Proofs.Ythhfdjcaafckbaa.En
