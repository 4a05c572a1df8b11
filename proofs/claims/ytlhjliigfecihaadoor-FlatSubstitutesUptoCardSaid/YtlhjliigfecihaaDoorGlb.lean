/- Variables that start-up code laid and that the code reads: where they lie and what they hold. Plain definition. -/
import Derived.Test.YtlhjliigfecihaaDoorMem
import Derived.Lib.TrailingZeros
set_option linter.unusedSimpArgs false
set_option linter.unusedVariables false
set_option linter.unnecessarySimpa false
namespace Go.Proofs.YtlhjliigfecihaaDoor.En
open Go
def g_idle : List Int := [0, 0, 0, 0, 1, 0]
def glb : List (Nat × List Value) := [(0, g_idle.map (Value.int .i64))]
end Go.Proofs.YtlhjliigfecihaaDoor.En
