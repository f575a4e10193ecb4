/-
  No cell of these rows narrows 'for every input' (looked for: loops, veiled, ifaces, maps, wideKeys, modest, calm, conditions, laid).
  DERIVED. THE GIVEN ROWS OF THIS SEAT. 8 by the template 'for every input the law returns true; each argument reads behind the call as it read before'; 0 by the template 'total and deterministic' (their statements: YtefdblaolmckmabTotals.lean).
  GIVEN WITH THE SEED: the statements are not yours to turn. If you find one false, say at which input.
  Laid BY PROGRAM, IN A SANDBOX (cutbox-rows.mjs): the forced cells as the released guide's own fill.sh prints them over the translation f03b2fbb22cf24c2… (all of the seat's roots in one cut). By AI agents, Wed Nov 11 2026. No macro, syntax, notation, axiom, sorry.
-/
import Derived.Test.YtefdblaolmckmabChecked
import GoSem.Claim
import GoSem.ClaimJoined
import GoSem.ClaimMapViews
import Derived.JoinedTies
import Derived.KernelRfl
namespace Go.Proofs.Ytefdblaolmckmab
/- THE CELL 'sum', in the pinned program and in every row, IS THE sha256 OF THE DUMP (.gsa) THAT YtefdblaolmckmabProg.lean LOADS. Nothing in Lean hashes anything: it is a label: what it is worth is what the hold of that sum in a sandbox is worth. -/
noncomputable def Try.pinned : Pinned := { name := "ytefdblaolmckmab", sum := "f03b2fbb22cf24c27c5e1e471f3c8bcac4175eb03c8ff4529ce1686680192bb9", checked := Try.checked }
namespace Rows
def none {H : Type} : Left H := { results := [], args := [] }

/-- 'broodlaw2.PlainTells': WHATEVER THE INPUT: true; the input reads as it did. -/
def plainTellsSpec : ChangeSpec := { name := "plainTells", fn := fun _ => fun
  | [d1, d2, d3, d4, d5, d6] => { results := [.lit (.bool true)], args := [d1, d2, d3, d4, d5, d6] }
  | _ => none }
def plainTellsRow : OpenClaim := { program := "ytefdblaolmckmab", sum := "f03b2fbb22cf24c27c5e1e471f3c8bcac4175eb03c8ff4529ce1686680192bb9", func := "broodhouse/broodlaw2.PlainTells", spec := "plainTells", inPlace := ["slices.overlaps[broodhouse/api.Row]"], unfollowed := true, recurses := true, apart := false }
def PlainTellsSaid : Prop := plainTellsRow.holds Try.pinned (OpenSpec.ofChange plainTellsSpec)

/-- ITS FALSE NEIGHBOUR: 'it returns false'. Refute it at one input. -/
def plainTellsWrong : ChangeSpec := { name := "plainTells", fn := fun _ => fun
  | [d1, d2, d3, d4, d5, d6] => { results := [.lit (.bool false)], args := [d1, d2, d3, d4, d5, d6] }
  | _ => none }
def PlainTellsWrongFalsely : Prop := plainTellsRow.holds Try.pinned (OpenSpec.ofChange plainTellsWrong)

/-- 'broodlaw3.StoreTells': WHATEVER THE INPUT: true; the input reads as it did. -/
def storeTellsSpec : ChangeSpec := { name := "storeTells", fn := fun _ => fun
  | [d1, d2, d3, d4, d5, d6] => { results := [.lit (.bool true)], args := [d1, d2, d3, d4, d5, d6] }
  | _ => none }
def storeTellsRow : OpenClaim := { program := "ytefdblaolmckmab", sum := "f03b2fbb22cf24c27c5e1e471f3c8bcac4175eb03c8ff4529ce1686680192bb9", func := "broodhouse/broodlaw3.StoreTells", spec := "storeTells", inPlace := ["slices.overlaps[broodhouse/api.Table]", "slices.overlaps[broodhouse/api.Being]", "slices.overlaps[int]"], unfollowed := true, recurses := true, apart := false }
def StoreTellsSaid : Prop := storeTellsRow.holds Try.pinned (OpenSpec.ofChange storeTellsSpec)

/-- ITS FALSE NEIGHBOUR: 'it returns false'. Refute it at one input. -/
def storeTellsWrong : ChangeSpec := { name := "storeTells", fn := fun _ => fun
  | [d1, d2, d3, d4, d5, d6] => { results := [.lit (.bool false)], args := [d1, d2, d3, d4, d5, d6] }
  | _ => none }
def StoreTellsWrongFalsely : Prop := storeTellsRow.holds Try.pinned (OpenSpec.ofChange storeTellsWrong)

/-- 'broodlaw3.StoreTables': WHATEVER THE INPUT: true; the input reads as it did. -/
def storeTablesSpec : ChangeSpec := { name := "storeTables", fn := fun _ => fun
  | [d] => { results := [.lit (.bool true)], args := [d] }
  | _ => none }
def storeTablesRow : OpenClaim := { program := "ytefdblaolmckmab", sum := "f03b2fbb22cf24c27c5e1e471f3c8bcac4175eb03c8ff4529ce1686680192bb9", func := "broodhouse/broodlaw3.StoreTables", spec := "storeTables", inPlace := ["slices.overlaps[broodhouse/api.Table]", "slices.overlaps[broodhouse/api.Being]", "slices.overlaps[int]"], unfollowed := true, recurses := true, apart := false }
def StoreTablesSaid : Prop := storeTablesRow.holds Try.pinned (OpenSpec.ofChange storeTablesSpec)

/-- ITS FALSE NEIGHBOUR: 'it returns false'. Refute it at one input. -/
def storeTablesWrong : ChangeSpec := { name := "storeTables", fn := fun _ => fun
  | [d] => { results := [.lit (.bool false)], args := [d] }
  | _ => none }
def StoreTablesWrongFalsely : Prop := storeTablesRow.holds Try.pinned (OpenSpec.ofChange storeTablesWrong)

/-- 'broodlaw3.StoreBoth': WHATEVER THE INPUT: true; the input reads as it did. -/
def storeBothSpec : ChangeSpec := { name := "storeBoth", fn := fun _ => fun
  | [d1, d2, d3, d4] => { results := [.lit (.bool true)], args := [d1, d2, d3, d4] }
  | _ => none }
def storeBothRow : OpenClaim := { program := "ytefdblaolmckmab", sum := "f03b2fbb22cf24c27c5e1e471f3c8bcac4175eb03c8ff4529ce1686680192bb9", func := "broodhouse/broodlaw3.StoreBoth", spec := "storeBoth", inPlace := ["slices.overlaps[broodhouse/api.Table]", "slices.overlaps[broodhouse/api.Being]", "slices.overlaps[int]"], unfollowed := true, recurses := true, apart := false }
def StoreBothSaid : Prop := storeBothRow.holds Try.pinned (OpenSpec.ofChange storeBothSpec)

/-- ITS FALSE NEIGHBOUR: 'it returns false'. Refute it at one input. -/
def storeBothWrong : ChangeSpec := { name := "storeBoth", fn := fun _ => fun
  | [d1, d2, d3, d4] => { results := [.lit (.bool false)], args := [d1, d2, d3, d4] }
  | _ => none }
def StoreBothWrongFalsely : Prop := storeBothRow.holds Try.pinned (OpenSpec.ofChange storeBothWrong)

/-- 'broodlaw5.RunNobody': WHATEVER THE INPUT: true; the input reads as it did. -/
def runNobodySpec : ChangeSpec := { name := "runNobody", fn := fun _ => fun
  | [d1, d2] => { results := [.lit (.bool true)], args := [d1, d2] }
  | _ => none }
def runNobodyRow : OpenClaim := { program := "ytefdblaolmckmab", sum := "f03b2fbb22cf24c27c5e1e471f3c8bcac4175eb03c8ff4529ce1686680192bb9", func := "broodhouse/broodlaw5.RunNobody", spec := "runNobody", inPlace := ["slices.overlaps[broodhouse/api.Table]", "slices.overlaps[broodhouse/api.Being]", "slices.overlaps[int]"], unfollowed := true, recurses := true, apart := false }
def RunNobodySaid : Prop := runNobodyRow.holds Try.pinned (OpenSpec.ofChange runNobodySpec)

/-- ITS FALSE NEIGHBOUR: 'it returns false'. Refute it at one input. -/
def runNobodyWrong : ChangeSpec := { name := "runNobody", fn := fun _ => fun
  | [d1, d2] => { results := [.lit (.bool false)], args := [d1, d2] }
  | _ => none }
def RunNobodyWrongFalsely : Prop := runNobodyRow.holds Try.pinned (OpenSpec.ofChange runNobodyWrong)

/-- 'broodlaw5.RunWrites': WHATEVER THE INPUT: true; the input reads as it did. -/
def runWritesSpec : ChangeSpec := { name := "runWrites", fn := fun _ => fun
  | [d1, d2] => { results := [.lit (.bool true)], args := [d1, d2] }
  | _ => none }
def runWritesRow : OpenClaim := { program := "ytefdblaolmckmab", sum := "f03b2fbb22cf24c27c5e1e471f3c8bcac4175eb03c8ff4529ce1686680192bb9", func := "broodhouse/broodlaw5.RunWrites", spec := "runWrites", inPlace := ["slices.overlaps[broodhouse/api.Table]", "slices.overlaps[broodhouse/api.Being]", "slices.overlaps[int]"], unfollowed := true, recurses := true, apart := false }
def RunWritesSaid : Prop := runWritesRow.holds Try.pinned (OpenSpec.ofChange runWritesSpec)

/-- ITS FALSE NEIGHBOUR: 'it returns false'. Refute it at one input. -/
def runWritesWrong : ChangeSpec := { name := "runWrites", fn := fun _ => fun
  | [d1, d2] => { results := [.lit (.bool false)], args := [d1, d2] }
  | _ => none }
def RunWritesWrongFalsely : Prop := runWritesRow.holds Try.pinned (OpenSpec.ofChange runWritesWrong)

/-- 'broodlaw5.RunBlind': WHATEVER THE INPUT: true; the input reads as it did. -/
def runBlindSpec : ChangeSpec := { name := "runBlind", fn := fun _ => fun
  | [d1, d2, d3, d4] => { results := [.lit (.bool true)], args := [d1, d2, d3, d4] }
  | _ => none }
def runBlindRow : OpenClaim := { program := "ytefdblaolmckmab", sum := "f03b2fbb22cf24c27c5e1e471f3c8bcac4175eb03c8ff4529ce1686680192bb9", func := "broodhouse/broodlaw5.RunBlind", spec := "runBlind", inPlace := ["slices.overlaps[broodhouse/api.Table]", "slices.overlaps[broodhouse/api.Being]", "slices.overlaps[int]"], unfollowed := true, recurses := true, apart := false }
def RunBlindSaid : Prop := runBlindRow.holds Try.pinned (OpenSpec.ofChange runBlindSpec)

/-- ITS FALSE NEIGHBOUR: 'it returns false'. Refute it at one input. -/
def runBlindWrong : ChangeSpec := { name := "runBlind", fn := fun _ => fun
  | [d1, d2, d3, d4] => { results := [.lit (.bool false)], args := [d1, d2, d3, d4] }
  | _ => none }
def RunBlindWrongFalsely : Prop := runBlindRow.holds Try.pinned (OpenSpec.ofChange runBlindWrong)

/-- 'broodlaw5.RunOrder': WHATEVER THE INPUT: true; the input reads as it did. -/
def runOrderSpec : ChangeSpec := { name := "runOrder", fn := fun _ => fun
  | [d1, d2, d3] => { results := [.lit (.bool true)], args := [d1, d2, d3] }
  | _ => none }
def runOrderRow : OpenClaim := { program := "ytefdblaolmckmab", sum := "f03b2fbb22cf24c27c5e1e471f3c8bcac4175eb03c8ff4529ce1686680192bb9", func := "broodhouse/broodlaw5.RunOrder", spec := "runOrder", inPlace := ["slices.overlaps[broodhouse/api.Table]", "slices.overlaps[broodhouse/api.Being]", "slices.overlaps[int]"], unfollowed := true, recurses := true, apart := false }
def RunOrderSaid : Prop := runOrderRow.holds Try.pinned (OpenSpec.ofChange runOrderSpec)

/-- ITS FALSE NEIGHBOUR: 'it returns false'. Refute it at one input. -/
def runOrderWrong : ChangeSpec := { name := "runOrder", fn := fun _ => fun
  | [d1, d2, d3] => { results := [.lit (.bool false)], args := [d1, d2, d3] }
  | _ => none }
def RunOrderWrongFalsely : Prop := runOrderRow.holds Try.pinned (OpenSpec.ofChange runOrderWrong)

/- THE SECOND FORM. 'bulk': how many values and letters a reading holds, each counted each time it is reached (what is shared counts as often as it is met; a slice's spare places count too). A statement '..UptoSaid' is the law's where the arguments, and the package variables that the reading takes, are together of bulk at most 1048576: NARROWER than '..Said'. Prove '..Said' where nothing that the law and all that it calls make is longer than what came in: it says more and counts as full. Else prove '..UptoSaid'. A law counts once. -/
mutual
def uptoBulk {H : Type} : DataW H → Nat
  | .lit (.string bytes) => bytes.length + 1
  | .lit _ => 1
  | .nil => 1
  | .ptr d => uptoBulk d + 1
  | .slice elems spare => uptoBulkAll elems + uptoBulkAll spare + 1
  | .agg parts => uptoBulkAll parts + 1
  | .iface _ d => uptoBulk d + 1
  | .map entries => uptoBulkEntries entries + 1
  | .held _ => 1
def uptoBulkAll {H : Type} : List (DataW H) → Nat
  | [] => 0
  | d :: r => uptoBulk d + uptoBulkAll r
def uptoBulkEntries {H : Type} : List (Lit × DataW H) → Nat
  | [] => 0
  | x :: r => uptoBulkEntry x + uptoBulkEntries r
def uptoBulkEntry {H : Type} : Lit × DataW H → Nat
  | (.string bytes, d) => bytes.length + uptoBulk d + 1
  | (_, d) => uptoBulk d + 1
 end
def uptoSmall : (H : Type) → List (DataW H) → Bool := fun _ ds => decide (uptoBulkAll ds ≤ 1048576)
def OpenSpec.upto (s : _root_.Go.ChangeSpec) : _root_.Go.OpenSpec := { _root_.Go.OpenSpec.ofChange s with cond := some uptoSmall }

/-- 'broodlaw2.PlainTells', WHERE WHAT IT READS IS OF BULK AT MOST 1048576: true; the input reads as it did. -/
def plainTellsUptoRow : OpenClaim := { program := "ytefdblaolmckmab", sum := "f03b2fbb22cf24c27c5e1e471f3c8bcac4175eb03c8ff4529ce1686680192bb9", func := "broodhouse/broodlaw2.PlainTells", spec := "plainTells", inPlace := ["slices.overlaps[broodhouse/api.Row]"], unfollowed := true, recurses := true, apart := false, narrowed := true }
def PlainTellsUptoSaid : Prop := plainTellsUptoRow.holds Try.pinned (OpenSpec.upto plainTellsSpec)

/-- 'broodlaw3.StoreTells', WHERE WHAT IT READS IS OF BULK AT MOST 1048576: true; the input reads as it did. -/
def storeTellsUptoRow : OpenClaim := { program := "ytefdblaolmckmab", sum := "f03b2fbb22cf24c27c5e1e471f3c8bcac4175eb03c8ff4529ce1686680192bb9", func := "broodhouse/broodlaw3.StoreTells", spec := "storeTells", inPlace := ["slices.overlaps[broodhouse/api.Table]", "slices.overlaps[broodhouse/api.Being]", "slices.overlaps[int]"], unfollowed := true, recurses := true, apart := false, narrowed := true }
def StoreTellsUptoSaid : Prop := storeTellsUptoRow.holds Try.pinned (OpenSpec.upto storeTellsSpec)

/-- 'broodlaw3.StoreTables', WHERE WHAT IT READS IS OF BULK AT MOST 1048576: true; the input reads as it did. -/
def storeTablesUptoRow : OpenClaim := { program := "ytefdblaolmckmab", sum := "f03b2fbb22cf24c27c5e1e471f3c8bcac4175eb03c8ff4529ce1686680192bb9", func := "broodhouse/broodlaw3.StoreTables", spec := "storeTables", inPlace := ["slices.overlaps[broodhouse/api.Table]", "slices.overlaps[broodhouse/api.Being]", "slices.overlaps[int]"], unfollowed := true, recurses := true, apart := false, narrowed := true }
def StoreTablesUptoSaid : Prop := storeTablesUptoRow.holds Try.pinned (OpenSpec.upto storeTablesSpec)

/-- 'broodlaw3.StoreBoth', WHERE WHAT IT READS IS OF BULK AT MOST 1048576: true; the input reads as it did. -/
def storeBothUptoRow : OpenClaim := { program := "ytefdblaolmckmab", sum := "f03b2fbb22cf24c27c5e1e471f3c8bcac4175eb03c8ff4529ce1686680192bb9", func := "broodhouse/broodlaw3.StoreBoth", spec := "storeBoth", inPlace := ["slices.overlaps[broodhouse/api.Table]", "slices.overlaps[broodhouse/api.Being]", "slices.overlaps[int]"], unfollowed := true, recurses := true, apart := false, narrowed := true }
def StoreBothUptoSaid : Prop := storeBothUptoRow.holds Try.pinned (OpenSpec.upto storeBothSpec)

/-- 'broodlaw5.RunNobody', WHERE WHAT IT READS IS OF BULK AT MOST 1048576: true; the input reads as it did. -/
def runNobodyUptoRow : OpenClaim := { program := "ytefdblaolmckmab", sum := "f03b2fbb22cf24c27c5e1e471f3c8bcac4175eb03c8ff4529ce1686680192bb9", func := "broodhouse/broodlaw5.RunNobody", spec := "runNobody", inPlace := ["slices.overlaps[broodhouse/api.Table]", "slices.overlaps[broodhouse/api.Being]", "slices.overlaps[int]"], unfollowed := true, recurses := true, apart := false, narrowed := true }
def RunNobodyUptoSaid : Prop := runNobodyUptoRow.holds Try.pinned (OpenSpec.upto runNobodySpec)

/-- 'broodlaw5.RunWrites', WHERE WHAT IT READS IS OF BULK AT MOST 1048576: true; the input reads as it did. -/
def runWritesUptoRow : OpenClaim := { program := "ytefdblaolmckmab", sum := "f03b2fbb22cf24c27c5e1e471f3c8bcac4175eb03c8ff4529ce1686680192bb9", func := "broodhouse/broodlaw5.RunWrites", spec := "runWrites", inPlace := ["slices.overlaps[broodhouse/api.Table]", "slices.overlaps[broodhouse/api.Being]", "slices.overlaps[int]"], unfollowed := true, recurses := true, apart := false, narrowed := true }
def RunWritesUptoSaid : Prop := runWritesUptoRow.holds Try.pinned (OpenSpec.upto runWritesSpec)

/-- 'broodlaw5.RunBlind', WHERE WHAT IT READS IS OF BULK AT MOST 1048576: true; the input reads as it did. -/
def runBlindUptoRow : OpenClaim := { program := "ytefdblaolmckmab", sum := "f03b2fbb22cf24c27c5e1e471f3c8bcac4175eb03c8ff4529ce1686680192bb9", func := "broodhouse/broodlaw5.RunBlind", spec := "runBlind", inPlace := ["slices.overlaps[broodhouse/api.Table]", "slices.overlaps[broodhouse/api.Being]", "slices.overlaps[int]"], unfollowed := true, recurses := true, apart := false, narrowed := true }
def RunBlindUptoSaid : Prop := runBlindUptoRow.holds Try.pinned (OpenSpec.upto runBlindSpec)

/-- 'broodlaw5.RunOrder', WHERE WHAT IT READS IS OF BULK AT MOST 1048576: true; the input reads as it did. -/
def runOrderUptoRow : OpenClaim := { program := "ytefdblaolmckmab", sum := "f03b2fbb22cf24c27c5e1e471f3c8bcac4175eb03c8ff4529ce1686680192bb9", func := "broodhouse/broodlaw5.RunOrder", spec := "runOrder", inPlace := ["slices.overlaps[broodhouse/api.Table]", "slices.overlaps[broodhouse/api.Being]", "slices.overlaps[int]"], unfollowed := true, recurses := true, apart := false, narrowed := true }
def RunOrderUptoSaid : Prop := runOrderUptoRow.holds Try.pinned (OpenSpec.upto runOrderSpec)

end Rows
end Go.Proofs.Ytefdblaolmckmab
