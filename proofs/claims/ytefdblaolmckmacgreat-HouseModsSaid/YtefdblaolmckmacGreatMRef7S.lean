/- Lemmas of the proof. -/
import Derived.Test.YtefdblaolmckmacGreatMBSpecZAToRef3S
import Derived.Test.YtefdblaolmckmacGreatMBSpecDToHouU
import Derived.Test.YtefdblaolmckmacGreatMBStoBToKg
import Derived.Test.YtefdblaolmckmacGreatMBRunA7ToRunR
set_option linter.unusedVariables false
set_option linter.unusedSimpArgs false
set_option maxRecDepth 100000
set_option maxHeartbeats 12800000
namespace Go.Proofs.YtefdblaolmckmacGreat
open Go.RowKit
open Brood
end Go.Proofs.YtefdblaolmckmacGreat
