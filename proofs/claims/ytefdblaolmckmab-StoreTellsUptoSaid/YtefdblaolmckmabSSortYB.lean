/- The walk of symMerge at []api.Being. -/
import Derived.Test.YtefdblaolmckmabSBSortABToSortIB
namespace Go.Proofs.Ytefdblaolmckmab
open Go.RowKit
open Brood
set_option linter.unusedVariables false
set_option linter.unusedSimpArgs false
end Go.Proofs.Ytefdblaolmckmab
