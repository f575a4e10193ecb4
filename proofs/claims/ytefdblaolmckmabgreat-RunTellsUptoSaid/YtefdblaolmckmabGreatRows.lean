/-
  No cell of these rows narrows 'for every input' (looked for: loops, veiled, ifaces, maps, wideKeys, modest, calm, conditions, laid).
  DERIVED. THE GIVEN ROWS OF THIS SEAT. 4 by the template 'for every input the law returns true; each argument reads behind the call as it read before'; 0 by the template 'total and deterministic' (their statements: YtefdblaolmckmabGreatTotals.lean).
  GIVEN WITH THE SEED: the statements are not yours to turn. If you find one false, say at which input.
  Laid BY PROGRAM, IN A SANDBOX (cutbox-rows.mjs): the forced cells as the released guide's own fill.sh prints them over the translation 7f736360efd42f51… (all of the seat's roots in one cut). By AI agents, Wed Nov 11 2026. No macro, syntax, notation, axiom, sorry.
-/
import Derived.Test.YtefdblaolmckmabGreatChecked
import GoSem.Claim
import GoSem.ClaimJoined
import GoSem.ClaimMapViews
import Derived.JoinedTies
import Derived.KernelRfl
namespace Go.Proofs.YtefdblaolmckmabGreat
/- THE CELL 'sum', in the pinned program and in every row, IS THE sha256 OF THE DUMP (.gsa) THAT YtefdblaolmckmabGreatProg.lean LOADS. Nothing in Lean hashes anything: it is a label: what it is worth is what the hold of that sum in a sandbox is worth. -/
noncomputable def Tryz.pinned : Pinned := { name := "ytefdblaolmckmabgreat", sum := "7f736360efd42f515bce386adc73160653f12ef935c42cc6278eebbb3a4f5e22", checked := Tryz.checked }
namespace Rows
def none {H : Type} : Left H := { results := [], args := [] }

/-- 'broodtop.TopMoves': WHATEVER THE INPUT: true; the input reads as it did. -/
def topMovesSpec : ChangeSpec := { name := "topMoves", fn := fun _ => fun
  | [d1, d2, d3] => { results := [.lit (.bool true)], args := [d1, d2, d3] }
  | _ => none }
def topMovesRow : OpenClaim := { program := "ytefdblaolmckmabgreat", sum := "7f736360efd42f515bce386adc73160653f12ef935c42cc6278eebbb3a4f5e22", func := "broodhouse/broodtop.TopMoves", spec := "topMoves", inPlace := ["slices.overlaps[broodhouse/api.Table]", "slices.overlaps[broodhouse/api.Being]", "slices.overlaps[int]"], unfollowed := true, recurses := true, apart := false }
def TopMovesSaid : Prop := topMovesRow.holds Tryz.pinned (OpenSpec.ofChange topMovesSpec)

/-- ITS FALSE NEIGHBOUR: 'it returns false'. Refute it at one input. -/
def topMovesWrong : ChangeSpec := { name := "topMoves", fn := fun _ => fun
  | [d1, d2, d3] => { results := [.lit (.bool false)], args := [d1, d2, d3] }
  | _ => none }
def TopMovesWrongFalsely : Prop := topMovesRow.holds Tryz.pinned (OpenSpec.ofChange topMovesWrong)

/-- 'broodtop.TopBlind': WHATEVER THE INPUT: true; the input reads as it did. -/
def topBlindSpec : ChangeSpec := { name := "topBlind", fn := fun _ => fun
  | [d1, d2, d3, d4, d5] => { results := [.lit (.bool true)], args := [d1, d2, d3, d4, d5] }
  | _ => none }
def topBlindRow : OpenClaim := { program := "ytefdblaolmckmabgreat", sum := "7f736360efd42f515bce386adc73160653f12ef935c42cc6278eebbb3a4f5e22", func := "broodhouse/broodtop.TopBlind", spec := "topBlind", inPlace := ["slices.overlaps[broodhouse/api.Table]", "slices.overlaps[broodhouse/api.Being]", "slices.overlaps[int]"], unfollowed := true, recurses := true, apart := false }
def TopBlindSaid : Prop := topBlindRow.holds Tryz.pinned (OpenSpec.ofChange topBlindSpec)

/-- ITS FALSE NEIGHBOUR: 'it returns false'. Refute it at one input. -/
def topBlindWrong : ChangeSpec := { name := "topBlind", fn := fun _ => fun
  | [d1, d2, d3, d4, d5] => { results := [.lit (.bool false)], args := [d1, d2, d3, d4, d5] }
  | _ => none }
def TopBlindWrongFalsely : Prop := topBlindRow.holds Tryz.pinned (OpenSpec.ofChange topBlindWrong)

/-- 'broodlaw3.StoreSteps': WHATEVER THE INPUT: true; the input reads as it did. -/
def storeStepsSpec : ChangeSpec := { name := "storeSteps", fn := fun _ => fun
  | [d1, d2, d3, d4, d5] => { results := [.lit (.bool true)], args := [d1, d2, d3, d4, d5] }
  | _ => none }
def storeStepsRow : OpenClaim := { program := "ytefdblaolmckmabgreat", sum := "7f736360efd42f515bce386adc73160653f12ef935c42cc6278eebbb3a4f5e22", func := "broodhouse/broodlaw3.StoreSteps", spec := "storeSteps", inPlace := ["slices.overlaps[broodhouse/api.Table]", "slices.overlaps[broodhouse/api.Being]", "slices.overlaps[int]", "slices.overlaps[broodhouse/api.Row]"], unfollowed := true, recurses := true, apart := false }
def StoreStepsSaid : Prop := storeStepsRow.holds Tryz.pinned (OpenSpec.ofChange storeStepsSpec)

/-- ITS FALSE NEIGHBOUR: 'it returns false'. Refute it at one input. -/
def storeStepsWrong : ChangeSpec := { name := "storeSteps", fn := fun _ => fun
  | [d1, d2, d3, d4, d5] => { results := [.lit (.bool false)], args := [d1, d2, d3, d4, d5] }
  | _ => none }
def StoreStepsWrongFalsely : Prop := storeStepsRow.holds Tryz.pinned (OpenSpec.ofChange storeStepsWrong)

/-- 'broodlaw5.RunTells': WHATEVER THE INPUT: true; the input reads as it did. -/
def runTellsSpec : ChangeSpec := { name := "runTells", fn := fun _ => fun
  | [d1, d2] => { results := [.lit (.bool true)], args := [d1, d2] }
  | _ => none }
def runTellsRow : OpenClaim := { program := "ytefdblaolmckmabgreat", sum := "7f736360efd42f515bce386adc73160653f12ef935c42cc6278eebbb3a4f5e22", func := "broodhouse/broodlaw5.RunTells", spec := "runTells", inPlace := ["slices.overlaps[broodhouse/api.Table]", "slices.overlaps[broodhouse/api.Being]", "slices.overlaps[int]"], unfollowed := true, recurses := true, apart := false }
def RunTellsSaid : Prop := runTellsRow.holds Tryz.pinned (OpenSpec.ofChange runTellsSpec)

/-- ITS FALSE NEIGHBOUR: 'it returns false'. Refute it at one input. -/
def runTellsWrong : ChangeSpec := { name := "runTells", fn := fun _ => fun
  | [d1, d2] => { results := [.lit (.bool false)], args := [d1, d2] }
  | _ => none }
def RunTellsWrongFalsely : Prop := runTellsRow.holds Tryz.pinned (OpenSpec.ofChange runTellsWrong)

/- THE SECOND FORM. 'bulk': how many values and letters a reading holds, each counted each time it is reached (what is shared counts as often as it is met; a slice's spare places count too). A statement '..UptoSaid' is the law's where the arguments, and the package variables that the reading takes, are together of bulk at most 1048576: NARROWER than '..Said'. Prove '..Said' where nothing that the law and all that it calls make is longer than what came in: it says more and counts as full. Else prove '..UptoSaid'. A law counts once. -/
mutual
def uptoBulk {H : Type} : DataW H → Nat
  | .lit (.string bytes) => bytes.length + 1
  | .lit _ => 1
  | .nil => 1
  | .ptr d => uptoBulk d + 1
  | .slice elems spare => uptoBulkAll elems + uptoBulkAll spare + 1
  | .agg parts => uptoBulkAll parts + 1
  | .iface _ d => uptoBulk d + 1
  | .map entries => uptoBulkEntries entries + 1
  | .held _ => 1
def uptoBulkAll {H : Type} : List (DataW H) → Nat
  | [] => 0
  | d :: r => uptoBulk d + uptoBulkAll r
def uptoBulkEntries {H : Type} : List (Lit × DataW H) → Nat
  | [] => 0
  | x :: r => uptoBulkEntry x + uptoBulkEntries r
def uptoBulkEntry {H : Type} : Lit × DataW H → Nat
  | (.string bytes, d) => bytes.length + uptoBulk d + 1
  | (_, d) => uptoBulk d + 1
 end
def uptoSmall : (H : Type) → List (DataW H) → Bool := fun _ ds => decide (uptoBulkAll ds ≤ 1048576)
def OpenSpec.upto (s : _root_.Go.ChangeSpec) : _root_.Go.OpenSpec := { _root_.Go.OpenSpec.ofChange s with cond := some uptoSmall }

/-- 'broodtop.TopMoves', WHERE WHAT IT READS IS OF BULK AT MOST 1048576: true; the input reads as it did. -/
def topMovesUptoRow : OpenClaim := { program := "ytefdblaolmckmabgreat", sum := "7f736360efd42f515bce386adc73160653f12ef935c42cc6278eebbb3a4f5e22", func := "broodhouse/broodtop.TopMoves", spec := "topMoves", inPlace := ["slices.overlaps[broodhouse/api.Table]", "slices.overlaps[broodhouse/api.Being]", "slices.overlaps[int]"], unfollowed := true, recurses := true, apart := false, narrowed := true }
def TopMovesUptoSaid : Prop := topMovesUptoRow.holds Tryz.pinned (OpenSpec.upto topMovesSpec)

/-- 'broodtop.TopBlind', WHERE WHAT IT READS IS OF BULK AT MOST 1048576: true; the input reads as it did. -/
def topBlindUptoRow : OpenClaim := { program := "ytefdblaolmckmabgreat", sum := "7f736360efd42f515bce386adc73160653f12ef935c42cc6278eebbb3a4f5e22", func := "broodhouse/broodtop.TopBlind", spec := "topBlind", inPlace := ["slices.overlaps[broodhouse/api.Table]", "slices.overlaps[broodhouse/api.Being]", "slices.overlaps[int]"], unfollowed := true, recurses := true, apart := false, narrowed := true }
def TopBlindUptoSaid : Prop := topBlindUptoRow.holds Tryz.pinned (OpenSpec.upto topBlindSpec)

/-- 'broodlaw3.StoreSteps', WHERE WHAT IT READS IS OF BULK AT MOST 1048576: true; the input reads as it did. -/
def storeStepsUptoRow : OpenClaim := { program := "ytefdblaolmckmabgreat", sum := "7f736360efd42f515bce386adc73160653f12ef935c42cc6278eebbb3a4f5e22", func := "broodhouse/broodlaw3.StoreSteps", spec := "storeSteps", inPlace := ["slices.overlaps[broodhouse/api.Table]", "slices.overlaps[broodhouse/api.Being]", "slices.overlaps[int]", "slices.overlaps[broodhouse/api.Row]"], unfollowed := true, recurses := true, apart := false, narrowed := true }
def StoreStepsUptoSaid : Prop := storeStepsUptoRow.holds Tryz.pinned (OpenSpec.upto storeStepsSpec)

/-- 'broodlaw5.RunTells', WHERE WHAT IT READS IS OF BULK AT MOST 1048576: true; the input reads as it did. -/
def runTellsUptoRow : OpenClaim := { program := "ytefdblaolmckmabgreat", sum := "7f736360efd42f515bce386adc73160653f12ef935c42cc6278eebbb3a4f5e22", func := "broodhouse/broodlaw5.RunTells", spec := "runTells", inPlace := ["slices.overlaps[broodhouse/api.Table]", "slices.overlaps[broodhouse/api.Being]", "slices.overlaps[int]"], unfollowed := true, recurses := true, apart := false, narrowed := true }
def RunTellsUptoSaid : Prop := runTellsUptoRow.holds Tryz.pinned (OpenSpec.upto runTellsSpec)

end Rows
end Go.Proofs.YtefdblaolmckmabGreat
