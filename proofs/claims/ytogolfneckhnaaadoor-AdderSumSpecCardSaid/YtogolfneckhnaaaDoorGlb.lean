/- Variables that start-up code laid and that the code reads: where they lie and what they hold. Plain definition. -/
import Derived.Test.YtogolfneckhnaaaDoorMem
import Derived.Lib.TrailingZeros
namespace Go.Proofs.YtogolfneckhnaaaDoor.En
open Go
def glb : List (Nat × List Value) := [(1, Lib.deBruijn64tab.map fun (n : Nat) => Value.int .u8 (n : Int))]
end Go.Proofs.YtogolfneckhnaaaDoor.En
