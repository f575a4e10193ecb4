/- Lemmas of the proof. -/
import Derived.Test.YtefdblaolmckmabGreatRBSortTBToRefW
set_option linter.unusedVariables false
set_option linter.unusedSimpArgs false
set_option maxRecDepth 100000
set_option maxHeartbeats 12800000
namespace Go.Proofs.YtefdblaolmckmabGreat
open Go.RowKit
open Brood
theorem rclip_any (n:Int) (w:World) :
  Calls Tryz.prog 119 #[.int .i64 n] w fun e w'=>e=.returned (.int .i64 (clip n))∧w=w':=by
 go_enter Tryz.func119,Tryz.ntmps119
 go_wp2
 all_goals go_ret
 all_goals exact ⟨ret_int (by simp only [clip];(repeat' split)<;>omega),rfl⟩
end Go.Proofs.YtefdblaolmckmabGreat
