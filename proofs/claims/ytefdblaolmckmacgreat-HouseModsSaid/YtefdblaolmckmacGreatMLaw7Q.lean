/- Lemmas of the proof. -/
import Derived.Test.YtefdblaolmckmacGreatMBSpecIToSpecL
import Derived.Test.YtefdblaolmckmacGreatMRef7S
import Derived.Test.YtefdblaolmckmacGreatMMayW
import Derived.Test.YtefdblaolmckmacGreatMRuleA
import Derived.Test.YtefdblaolmckmacGreatMBRef2MToRunG
set_option linter.unusedVariables false
set_option linter.unusedSimpArgs false
set_option maxRecDepth 100000
set_option maxHeartbeats 12800000
namespace Go.Proofs.YtefdblaolmckmacGreat
open Go.RowKit
open Brood
end Go.Proofs.YtefdblaolmckmacGreat
