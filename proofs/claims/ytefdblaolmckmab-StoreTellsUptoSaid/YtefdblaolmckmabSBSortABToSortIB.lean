/- The walks of swapRange and rotate at []api.Being. The walk of insertion sort at []api.Being. -/
import Derived.BigQuiet
import Derived.Deep.QuietTactic
import Derived.Test.YtefdblaolmckmabSBStoBToKg
namespace Go.Proofs.Ytefdblaolmckmab
open Go.RowKit
open Brood
set_option linter.unusedVariables false
set_option linter.unusedSimpArgs false
end Go.Proofs.Ytefdblaolmckmab

namespace Go.Proofs.Ytefdblaolmckmab
open Go.RowKit
open Brood
set_option linter.unusedVariables false
set_option linter.unusedSimpArgs false
end Go.Proofs.Ytefdblaolmckmab
