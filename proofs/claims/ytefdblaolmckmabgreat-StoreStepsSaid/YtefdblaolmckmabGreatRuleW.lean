/- The walks of package rule. -/
import Derived.Deep.QuietTactic
import Derived.BigQuiet
import Derived.Deep.RegionHeld3
import Derived.Deep.DeepCutAuto
import Derived.Test.YtefdblaolmckmabGreatBRowToInv
namespace Go.Proofs.YtefdblaolmckmabGreat
open Go.RowKit
open Brood
set_option linter.unusedVariables false
set_option linter.unusedSimpArgs false
end Go.Proofs.YtefdblaolmckmabGreat
