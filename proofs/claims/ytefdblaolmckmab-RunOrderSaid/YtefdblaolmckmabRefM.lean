/- The walk of the reference's Meets. -/
import Derived.RegionTactic
import Derived.Test.YtefdblaolmckmabBSortTBToRefW
import Derived.Test.YtefdblaolmckmabBRowToInv
namespace Go.Proofs.Ytefdblaolmckmab
open Go.RowKit
open Brood
set_option linter.unusedVariables false
set_option linter.unusedSimpArgs false
end Go.Proofs.Ytefdblaolmckmab
