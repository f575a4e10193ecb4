/- The walks of package rule. -/
import Derived.Deep.QuietTactic
import Derived.BigQuiet
import Derived.Deep.RegionHeld3
import Derived.Deep.DeepCutAuto
import Derived.Test.YtefdblaolmckmabSBRowToInv
namespace Go.Proofs.Ytefdblaolmckmab
open Go.RowKit
open Brood
set_option linter.unusedVariables false
set_option linter.unusedSimpArgs false
def ActAt (w : World) (b o : Nat) (a : BAct) : Prop :=
  w.cell? ⟨b, o, none⟩ = some (.int .i64 a.kind) ∧ w.cell? ⟨b, o + 1, none⟩ = some (.int .i64 a.part) ∧
  w.cell? ⟨b, o + 2, none⟩ = some (.int .i64 a.src) ∧ w.cell? ⟨b, o + 3, none⟩ = some (.int .i64 a.n)
end Go.Proofs.Ytefdblaolmckmab
