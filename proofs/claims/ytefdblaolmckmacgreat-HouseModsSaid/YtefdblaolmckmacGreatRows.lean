/-
  No cell of these rows narrows 'for every input' (looked for: loops, veiled, ifaces, maps, wideKeys, modest, calm, conditions, laid).
  DERIVED. THE GIVEN ROWS OF THIS SEAT. 9 by the template 'for every input the law returns true; each argument reads behind the call as it read before'; 0 by the template 'total and deterministic' (their statements: YtefdblaolmckmacGreatTotals.lean).
  GIVEN WITH THE SEED: the statements are not yours to turn. If you find one false, say at which input.
  Laid BY PROGRAM, IN A SANDBOX (cutbox-rows.mjs): the forced cells as the released guide's own fill.sh prints them over the translation fdd4ef900c796772… (all of the seat's roots in one cut). By AI agents, Wed Nov 11 2026. No macro, syntax, notation, axiom, sorry.
-/
import Derived.Test.YtefdblaolmckmacGreatChecked
import GoSem.Claim
import GoSem.ClaimJoined
import GoSem.ClaimMapViews
import Derived.JoinedTies
import Derived.KernelRfl
namespace Go.Proofs.YtefdblaolmckmacGreat
/- THE CELL 'sum', in the pinned program and in every row, IS THE sha256 OF THE DUMP (.gsa) THAT YtefdblaolmckmacGreatProg.lean LOADS. Nothing in Lean hashes anything: it is a label: what it is worth is what the hold of that sum in a sandbox is worth. -/
noncomputable def Tryz.pinned : Pinned := { name := "ytefdblaolmckmacgreat", sum := "fdd4ef900c7967727bf6d828aec420ca293fff9cdc7d1e5da245eb2470a19629", checked := Tryz.checked }
namespace Rows
def none {H : Type} : Left H := { results := [], args := [] }

/-- 'broodlaw7.HouseTells': WHATEVER THE INPUT: true; the input reads as it did. -/
def houseTellsSpec : ChangeSpec := { name := "houseTells", fn := fun _ => fun
  | [d1, d2] => { results := [.lit (.bool true)], args := [d1, d2] }
  | _ => none }
def houseTellsRow : OpenClaim := { program := "ytefdblaolmckmacgreat", sum := "fdd4ef900c7967727bf6d828aec420ca293fff9cdc7d1e5da245eb2470a19629", func := "broodhouse/broodlaw7.HouseTells", spec := "houseTells", inPlace := ["slices.overlaps[broodhouse/api.Table]", "slices.overlaps[broodhouse/api.Being]", "slices.overlaps[int]"], unfollowed := true, recurses := true, plainKeys := false, apart := false }
def HouseTellsSaid : Prop := houseTellsRow.holds Tryz.pinned (OpenSpec.ofChange houseTellsSpec)

/-- ITS FALSE NEIGHBOUR: 'it returns false'. Refute it at one input. -/
def houseTellsWrong : ChangeSpec := { name := "houseTells", fn := fun _ => fun
  | [d1, d2] => { results := [.lit (.bool false)], args := [d1, d2] }
  | _ => none }
def HouseTellsWrongFalsely : Prop := houseTellsRow.holds Tryz.pinned (OpenSpec.ofChange houseTellsWrong)

/-- 'broodlaw7.HouseRight': WHATEVER THE INPUT: true; the input reads as it did. -/
def houseRightSpec : ChangeSpec := { name := "houseRight", fn := fun _ => fun
  | [d1, d2] => { results := [.lit (.bool true)], args := [d1, d2] }
  | _ => none }
def houseRightRow : OpenClaim := { program := "ytefdblaolmckmacgreat", sum := "fdd4ef900c7967727bf6d828aec420ca293fff9cdc7d1e5da245eb2470a19629", func := "broodhouse/broodlaw7.HouseRight", spec := "houseRight", inPlace := ["slices.overlaps[broodhouse/api.Table]", "slices.overlaps[broodhouse/api.Being]", "slices.overlaps[int]"], unfollowed := true, recurses := true, plainKeys := false, apart := false }
def HouseRightSaid : Prop := houseRightRow.holds Tryz.pinned (OpenSpec.ofChange houseRightSpec)

/-- ITS FALSE NEIGHBOUR: 'it returns false'. Refute it at one input. -/
def houseRightWrong : ChangeSpec := { name := "houseRight", fn := fun _ => fun
  | [d1, d2] => { results := [.lit (.bool false)], args := [d1, d2] }
  | _ => none }
def HouseRightWrongFalsely : Prop := houseRightRow.holds Tryz.pinned (OpenSpec.ofChange houseRightWrong)

/-- 'broodlaw7.HouseMods': WHATEVER THE INPUT: true; the input reads as it did. -/
def houseModsSpec : ChangeSpec := { name := "houseMods", fn := fun _ => fun
  | [d1, d2] => { results := [.lit (.bool true)], args := [d1, d2] }
  | _ => none }
def houseModsRow : OpenClaim := { program := "ytefdblaolmckmacgreat", sum := "fdd4ef900c7967727bf6d828aec420ca293fff9cdc7d1e5da245eb2470a19629", func := "broodhouse/broodlaw7.HouseMods", spec := "houseMods", inPlace := ["slices.overlaps[broodhouse/api.Table]", "slices.overlaps[broodhouse/api.Being]", "slices.overlaps[int]"], unfollowed := true, recurses := true, plainKeys := false, apart := false }
def HouseModsSaid : Prop := houseModsRow.holds Tryz.pinned (OpenSpec.ofChange houseModsSpec)

/-- ITS FALSE NEIGHBOUR: 'it returns false'. Refute it at one input. -/
def houseModsWrong : ChangeSpec := { name := "houseMods", fn := fun _ => fun
  | [d1, d2] => { results := [.lit (.bool false)], args := [d1, d2] }
  | _ => none }
def HouseModsWrongFalsely : Prop := houseModsRow.holds Tryz.pinned (OpenSpec.ofChange houseModsWrong)

/-- 'broodlaw7.HouseTick': WHATEVER THE INPUT: true; the input reads as it did. -/
def houseTickSpec : ChangeSpec := { name := "houseTick", fn := fun _ => fun
  | [d1, d2] => { results := [.lit (.bool true)], args := [d1, d2] }
  | _ => none }
def houseTickRow : OpenClaim := { program := "ytefdblaolmckmacgreat", sum := "fdd4ef900c7967727bf6d828aec420ca293fff9cdc7d1e5da245eb2470a19629", func := "broodhouse/broodlaw7.HouseTick", spec := "houseTick", inPlace := ["slices.overlaps[broodhouse/api.Table]", "slices.overlaps[broodhouse/api.Being]", "slices.overlaps[int]"], unfollowed := true, recurses := true, plainKeys := false, apart := false }
def HouseTickSaid : Prop := houseTickRow.holds Tryz.pinned (OpenSpec.ofChange houseTickSpec)

/-- ITS FALSE NEIGHBOUR: 'it returns false'. Refute it at one input. -/
def houseTickWrong : ChangeSpec := { name := "houseTick", fn := fun _ => fun
  | [d1, d2] => { results := [.lit (.bool false)], args := [d1, d2] }
  | _ => none }
def HouseTickWrongFalsely : Prop := houseTickRow.holds Tryz.pinned (OpenSpec.ofChange houseTickWrong)

/-- 'broodlaw7.HouseRefused': WHATEVER THE INPUT: true; the input reads as it did. -/
def houseRefusedSpec : ChangeSpec := { name := "houseRefused", fn := fun _ => fun
  | [d1, d2] => { results := [.lit (.bool true)], args := [d1, d2] }
  | _ => none }
def houseRefusedRow : OpenClaim := { program := "ytefdblaolmckmacgreat", sum := "fdd4ef900c7967727bf6d828aec420ca293fff9cdc7d1e5da245eb2470a19629", func := "broodhouse/broodlaw7.HouseRefused", spec := "houseRefused", inPlace := ["slices.overlaps[broodhouse/api.Table]", "slices.overlaps[broodhouse/api.Being]", "slices.overlaps[int]"], unfollowed := true, recurses := true, plainKeys := false, apart := false }
def HouseRefusedSaid : Prop := houseRefusedRow.holds Tryz.pinned (OpenSpec.ofChange houseRefusedSpec)

/-- ITS FALSE NEIGHBOUR: 'it returns false'. Refute it at one input. -/
def houseRefusedWrong : ChangeSpec := { name := "houseRefused", fn := fun _ => fun
  | [d1, d2] => { results := [.lit (.bool false)], args := [d1, d2] }
  | _ => none }
def HouseRefusedWrongFalsely : Prop := houseRefusedRow.holds Tryz.pinned (OpenSpec.ofChange houseRefusedWrong)

/-- 'broodlaw7.HouseOnce': WHATEVER THE INPUT: true; the input reads as it did. -/
def houseOnceSpec : ChangeSpec := { name := "houseOnce", fn := fun _ => fun
  | [d1, d2] => { results := [.lit (.bool true)], args := [d1, d2] }
  | _ => none }
def houseOnceRow : OpenClaim := { program := "ytefdblaolmckmacgreat", sum := "fdd4ef900c7967727bf6d828aec420ca293fff9cdc7d1e5da245eb2470a19629", func := "broodhouse/broodlaw7.HouseOnce", spec := "houseOnce", inPlace := ["slices.overlaps[broodhouse/api.Table]", "slices.overlaps[broodhouse/api.Being]", "slices.overlaps[int]"], unfollowed := true, recurses := true, plainKeys := false, apart := false }
def HouseOnceSaid : Prop := houseOnceRow.holds Tryz.pinned (OpenSpec.ofChange houseOnceSpec)

/-- ITS FALSE NEIGHBOUR: 'it returns false'. Refute it at one input. -/
def houseOnceWrong : ChangeSpec := { name := "houseOnce", fn := fun _ => fun
  | [d1, d2] => { results := [.lit (.bool false)], args := [d1, d2] }
  | _ => none }
def HouseOnceWrongFalsely : Prop := houseOnceRow.holds Tryz.pinned (OpenSpec.ofChange houseOnceWrong)

/-- 'broodtop.TopAges': WHATEVER THE INPUT: true; the input reads as it did. -/
def topAgesSpec : ChangeSpec := { name := "topAges", fn := fun _ => fun
  | [d1, d2] => { results := [.lit (.bool true)], args := [d1, d2] }
  | _ => none }
def topAgesRow : OpenClaim := { program := "ytefdblaolmckmacgreat", sum := "fdd4ef900c7967727bf6d828aec420ca293fff9cdc7d1e5da245eb2470a19629", func := "broodhouse/broodtop.TopAges", spec := "topAges", inPlace := ["slices.overlaps[broodhouse/api.Table]", "slices.overlaps[broodhouse/api.Being]", "slices.overlaps[int]"], unfollowed := true, recurses := true, plainKeys := false, apart := false }
def TopAgesSaid : Prop := topAgesRow.holds Tryz.pinned (OpenSpec.ofChange topAgesSpec)

/-- ITS FALSE NEIGHBOUR: 'it returns false'. Refute it at one input. -/
def topAgesWrong : ChangeSpec := { name := "topAges", fn := fun _ => fun
  | [d1, d2] => { results := [.lit (.bool false)], args := [d1, d2] }
  | _ => none }
def TopAgesWrongFalsely : Prop := topAgesRow.holds Tryz.pinned (OpenSpec.ofChange topAgesWrong)

/-- 'broodtop.TopDoubles': WHATEVER THE INPUT: true; the input reads as it did. -/
def topDoublesSpec : ChangeSpec := { name := "topDoubles", fn := fun _ => fun
  | [d] => { results := [.lit (.bool true)], args := [d] }
  | _ => none }
def topDoublesRow : OpenClaim := { program := "ytefdblaolmckmacgreat", sum := "fdd4ef900c7967727bf6d828aec420ca293fff9cdc7d1e5da245eb2470a19629", func := "broodhouse/broodtop.TopDoubles", spec := "topDoubles", inPlace := ["slices.overlaps[broodhouse/api.Table]", "slices.overlaps[broodhouse/api.Being]", "slices.overlaps[int]"], unfollowed := true, recurses := true, plainKeys := false, apart := false }
def TopDoublesSaid : Prop := topDoublesRow.holds Tryz.pinned (OpenSpec.ofChange topDoublesSpec)

/-- ITS FALSE NEIGHBOUR: 'it returns false'. Refute it at one input. -/
def topDoublesWrong : ChangeSpec := { name := "topDoubles", fn := fun _ => fun
  | [d] => { results := [.lit (.bool false)], args := [d] }
  | _ => none }
def TopDoublesWrongFalsely : Prop := topDoublesRow.holds Tryz.pinned (OpenSpec.ofChange topDoublesWrong)

/-- 'broodtop.TopBatches': WHATEVER THE INPUT: true; the input reads as it did. -/
def topBatchesSpec : ChangeSpec := { name := "topBatches", fn := fun _ => fun
  | [d] => { results := [.lit (.bool true)], args := [d] }
  | _ => none }
def topBatchesRow : OpenClaim := { program := "ytefdblaolmckmacgreat", sum := "fdd4ef900c7967727bf6d828aec420ca293fff9cdc7d1e5da245eb2470a19629", func := "broodhouse/broodtop.TopBatches", spec := "topBatches", inPlace := ["slices.overlaps[broodhouse/api.Table]", "slices.overlaps[broodhouse/api.Being]", "slices.overlaps[int]"], unfollowed := true, recurses := true, plainKeys := false, apart := false }
def TopBatchesSaid : Prop := topBatchesRow.holds Tryz.pinned (OpenSpec.ofChange topBatchesSpec)

/-- ITS FALSE NEIGHBOUR: 'it returns false'. Refute it at one input. -/
def topBatchesWrong : ChangeSpec := { name := "topBatches", fn := fun _ => fun
  | [d] => { results := [.lit (.bool false)], args := [d] }
  | _ => none }
def TopBatchesWrongFalsely : Prop := topBatchesRow.holds Tryz.pinned (OpenSpec.ofChange topBatchesWrong)

/- THE SECOND FORM. 'bulk': how many values and letters a reading holds, each counted each time it is reached (what is shared counts as often as it is met; a slice's spare places count too). A statement '..UptoSaid' is the law's where the arguments, and the package variables that the reading takes, are together of bulk at most 1048576: NARROWER than '..Said'. Prove '..Said' where nothing that the law and all that it calls make is longer than what came in: it says more and counts as full. Else prove '..UptoSaid'. A law counts once. -/
mutual
def uptoBulk {H : Type} : DataW H → Nat
  | .lit (.string bytes) => bytes.length + 1
  | .lit _ => 1
  | .nil => 1
  | .ptr d => uptoBulk d + 1
  | .slice elems spare => uptoBulkAll elems + uptoBulkAll spare + 1
  | .agg parts => uptoBulkAll parts + 1
  | .iface _ d => uptoBulk d + 1
  | .map entries => uptoBulkEntries entries + 1
  | .held _ => 1
def uptoBulkAll {H : Type} : List (DataW H) → Nat
  | [] => 0
  | d :: r => uptoBulk d + uptoBulkAll r
def uptoBulkEntries {H : Type} : List (Lit × DataW H) → Nat
  | [] => 0
  | x :: r => uptoBulkEntry x + uptoBulkEntries r
def uptoBulkEntry {H : Type} : Lit × DataW H → Nat
  | (.string bytes, d) => bytes.length + uptoBulk d + 1
  | (_, d) => uptoBulk d + 1
 end
def uptoSmall : (H : Type) → List (DataW H) → Bool := fun _ ds => decide (uptoBulkAll ds ≤ 1048576)
def OpenSpec.upto (s : _root_.Go.ChangeSpec) : _root_.Go.OpenSpec := { _root_.Go.OpenSpec.ofChange s with cond := some uptoSmall }

/-- 'broodlaw7.HouseTells', WHERE WHAT IT READS IS OF BULK AT MOST 1048576: true; the input reads as it did. -/
def houseTellsUptoRow : OpenClaim := { program := "ytefdblaolmckmacgreat", sum := "fdd4ef900c7967727bf6d828aec420ca293fff9cdc7d1e5da245eb2470a19629", func := "broodhouse/broodlaw7.HouseTells", spec := "houseTells", inPlace := ["slices.overlaps[broodhouse/api.Table]", "slices.overlaps[broodhouse/api.Being]", "slices.overlaps[int]"], unfollowed := true, recurses := true, plainKeys := false, apart := false, narrowed := true }
def HouseTellsUptoSaid : Prop := houseTellsUptoRow.holds Tryz.pinned (OpenSpec.upto houseTellsSpec)

/-- 'broodlaw7.HouseRight', WHERE WHAT IT READS IS OF BULK AT MOST 1048576: true; the input reads as it did. -/
def houseRightUptoRow : OpenClaim := { program := "ytefdblaolmckmacgreat", sum := "fdd4ef900c7967727bf6d828aec420ca293fff9cdc7d1e5da245eb2470a19629", func := "broodhouse/broodlaw7.HouseRight", spec := "houseRight", inPlace := ["slices.overlaps[broodhouse/api.Table]", "slices.overlaps[broodhouse/api.Being]", "slices.overlaps[int]"], unfollowed := true, recurses := true, plainKeys := false, apart := false, narrowed := true }
def HouseRightUptoSaid : Prop := houseRightUptoRow.holds Tryz.pinned (OpenSpec.upto houseRightSpec)

/-- 'broodlaw7.HouseMods', WHERE WHAT IT READS IS OF BULK AT MOST 1048576: true; the input reads as it did. -/
def houseModsUptoRow : OpenClaim := { program := "ytefdblaolmckmacgreat", sum := "fdd4ef900c7967727bf6d828aec420ca293fff9cdc7d1e5da245eb2470a19629", func := "broodhouse/broodlaw7.HouseMods", spec := "houseMods", inPlace := ["slices.overlaps[broodhouse/api.Table]", "slices.overlaps[broodhouse/api.Being]", "slices.overlaps[int]"], unfollowed := true, recurses := true, plainKeys := false, apart := false, narrowed := true }
def HouseModsUptoSaid : Prop := houseModsUptoRow.holds Tryz.pinned (OpenSpec.upto houseModsSpec)

/-- 'broodlaw7.HouseTick', WHERE WHAT IT READS IS OF BULK AT MOST 1048576: true; the input reads as it did. -/
def houseTickUptoRow : OpenClaim := { program := "ytefdblaolmckmacgreat", sum := "fdd4ef900c7967727bf6d828aec420ca293fff9cdc7d1e5da245eb2470a19629", func := "broodhouse/broodlaw7.HouseTick", spec := "houseTick", inPlace := ["slices.overlaps[broodhouse/api.Table]", "slices.overlaps[broodhouse/api.Being]", "slices.overlaps[int]"], unfollowed := true, recurses := true, plainKeys := false, apart := false, narrowed := true }
def HouseTickUptoSaid : Prop := houseTickUptoRow.holds Tryz.pinned (OpenSpec.upto houseTickSpec)

/-- 'broodlaw7.HouseRefused', WHERE WHAT IT READS IS OF BULK AT MOST 1048576: true; the input reads as it did. -/
def houseRefusedUptoRow : OpenClaim := { program := "ytefdblaolmckmacgreat", sum := "fdd4ef900c7967727bf6d828aec420ca293fff9cdc7d1e5da245eb2470a19629", func := "broodhouse/broodlaw7.HouseRefused", spec := "houseRefused", inPlace := ["slices.overlaps[broodhouse/api.Table]", "slices.overlaps[broodhouse/api.Being]", "slices.overlaps[int]"], unfollowed := true, recurses := true, plainKeys := false, apart := false, narrowed := true }
def HouseRefusedUptoSaid : Prop := houseRefusedUptoRow.holds Tryz.pinned (OpenSpec.upto houseRefusedSpec)

/-- 'broodlaw7.HouseOnce', WHERE WHAT IT READS IS OF BULK AT MOST 1048576: true; the input reads as it did. -/
def houseOnceUptoRow : OpenClaim := { program := "ytefdblaolmckmacgreat", sum := "fdd4ef900c7967727bf6d828aec420ca293fff9cdc7d1e5da245eb2470a19629", func := "broodhouse/broodlaw7.HouseOnce", spec := "houseOnce", inPlace := ["slices.overlaps[broodhouse/api.Table]", "slices.overlaps[broodhouse/api.Being]", "slices.overlaps[int]"], unfollowed := true, recurses := true, plainKeys := false, apart := false, narrowed := true }
def HouseOnceUptoSaid : Prop := houseOnceUptoRow.holds Tryz.pinned (OpenSpec.upto houseOnceSpec)

/-- 'broodtop.TopAges', WHERE WHAT IT READS IS OF BULK AT MOST 1048576: true; the input reads as it did. -/
def topAgesUptoRow : OpenClaim := { program := "ytefdblaolmckmacgreat", sum := "fdd4ef900c7967727bf6d828aec420ca293fff9cdc7d1e5da245eb2470a19629", func := "broodhouse/broodtop.TopAges", spec := "topAges", inPlace := ["slices.overlaps[broodhouse/api.Table]", "slices.overlaps[broodhouse/api.Being]", "slices.overlaps[int]"], unfollowed := true, recurses := true, plainKeys := false, apart := false, narrowed := true }
def TopAgesUptoSaid : Prop := topAgesUptoRow.holds Tryz.pinned (OpenSpec.upto topAgesSpec)

/-- 'broodtop.TopDoubles', WHERE WHAT IT READS IS OF BULK AT MOST 1048576: true; the input reads as it did. -/
def topDoublesUptoRow : OpenClaim := { program := "ytefdblaolmckmacgreat", sum := "fdd4ef900c7967727bf6d828aec420ca293fff9cdc7d1e5da245eb2470a19629", func := "broodhouse/broodtop.TopDoubles", spec := "topDoubles", inPlace := ["slices.overlaps[broodhouse/api.Table]", "slices.overlaps[broodhouse/api.Being]", "slices.overlaps[int]"], unfollowed := true, recurses := true, plainKeys := false, apart := false, narrowed := true }
def TopDoublesUptoSaid : Prop := topDoublesUptoRow.holds Tryz.pinned (OpenSpec.upto topDoublesSpec)

/-- 'broodtop.TopBatches', WHERE WHAT IT READS IS OF BULK AT MOST 1048576: true; the input reads as it did. -/
def topBatchesUptoRow : OpenClaim := { program := "ytefdblaolmckmacgreat", sum := "fdd4ef900c7967727bf6d828aec420ca293fff9cdc7d1e5da245eb2470a19629", func := "broodhouse/broodtop.TopBatches", spec := "topBatches", inPlace := ["slices.overlaps[broodhouse/api.Table]", "slices.overlaps[broodhouse/api.Being]", "slices.overlaps[int]"], unfollowed := true, recurses := true, plainKeys := false, apart := false, narrowed := true }
def TopBatchesUptoSaid : Prop := topBatchesUptoRow.holds Tryz.pinned (OpenSpec.upto topBatchesSpec)

end Rows
end Go.Proofs.YtefdblaolmckmacGreat
