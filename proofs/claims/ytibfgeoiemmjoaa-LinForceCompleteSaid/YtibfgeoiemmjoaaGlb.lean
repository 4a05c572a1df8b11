/- Variables that start-up code laid and that the code reads: where they lie and what they hold. Plain definition. -/
import Derived.Test.YtibfgeoiemmjoaaMem
import Derived.Lib.TrailingZeros
set_option linter.unusedSimpArgs false
set_option linter.unusedVariables false
set_option linter.unnecessarySimpa false
namespace Go.Proofs.Ytibfgeoiemmjoaa.En
open Go

def glb : List (Nat × List Value) := []
end Go.Proofs.Ytibfgeoiemmjoaa.En
