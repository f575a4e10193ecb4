/-
  No cell of these rows narrows 'for every input' (looked for: loops, veiled, ifaces, maps, wideKeys, modest, calm, conditions, laid).
  DERIVED. THE GIVEN ROWS OF THIS SEAT. 12 by the template 'for every input the law returns true; each argument reads behind the call as it read before'; 0 by the template 'total and deterministic' (their statements: YtefdblaolmckmaaTotals.lean).
  GIVEN WITH THE SEED: the statements are not yours to turn. If you find one false, say at which input.
  Laid BY PROGRAM, IN A SANDBOX (cutbox-rows.mjs): the forced cells as the released guide's own fill.sh prints them over the translation d05ae679d44c2ea2… (all of the seat's roots in one cut). By AI agents, Wed Nov 11 2026. No macro, syntax, notation, axiom, sorry.
-/
import Derived.Test.YtefdblaolmckmaaChecked
import GoSem.Claim
import GoSem.ClaimJoined
import GoSem.ClaimMapViews
import Derived.JoinedTies
import Derived.KernelRfl
namespace Go.Proofs.Ytefdblaolmckmaa
/- THE CELL 'sum', in the pinned program and in every row, IS THE sha256 OF THE DUMP (.gsa) THAT YtefdblaolmckmaaProg.lean LOADS. Nothing in Lean hashes anything: it is a label: what it is worth is what the hold of that sum in a sandbox is worth. -/
noncomputable def Try.pinned : Pinned := { name := "ytefdblaolmckmaa", sum := "d05ae679d44c2ea24ed5de3bb860fb937b0fd6b4fad7bac43bf86e8137789a3b", checked := Try.checked }
namespace Rows
def none {H : Type} : Left H := { results := [], args := [] }

/-- 'broodlaw1.PartsMore': WHATEVER THE INPUT: true; the input reads as it did. -/
def partsMoreSpec : ChangeSpec := { name := "partsMore", fn := fun _ => fun
  | [d1, d2, d3, d4] => { results := [.lit (.bool true)], args := [d1, d2, d3, d4] }
  | _ => none }
def partsMoreRow : OpenClaim := { program := "ytefdblaolmckmaa", sum := "d05ae679d44c2ea24ed5de3bb860fb937b0fd6b4fad7bac43bf86e8137789a3b", func := "broodhouse/broodlaw1.PartsMore", spec := "partsMore", apart := false }
def PartsMoreSaid : Prop := partsMoreRow.holds Try.pinned (OpenSpec.ofChange partsMoreSpec)

/-- ITS FALSE NEIGHBOUR: 'it returns false'. Refute it at one input. -/
def partsMoreWrong : ChangeSpec := { name := "partsMore", fn := fun _ => fun
  | [d1, d2, d3, d4] => { results := [.lit (.bool false)], args := [d1, d2, d3, d4] }
  | _ => none }
def PartsMoreWrongFalsely : Prop := partsMoreRow.holds Try.pinned (OpenSpec.ofChange partsMoreWrong)

/-- 'broodlaw1.PartsTells': WHATEVER THE INPUT: true; the input reads as it did. -/
def partsTellsSpec : ChangeSpec := { name := "partsTells", fn := fun _ => fun
  | [d1, d2, d3, d4] => { results := [.lit (.bool true)], args := [d1, d2, d3, d4] }
  | _ => none }
def partsTellsRow : OpenClaim := { program := "ytefdblaolmckmaa", sum := "d05ae679d44c2ea24ed5de3bb860fb937b0fd6b4fad7bac43bf86e8137789a3b", func := "broodhouse/broodlaw1.PartsTells", spec := "partsTells", apart := false }
def PartsTellsSaid : Prop := partsTellsRow.holds Try.pinned (OpenSpec.ofChange partsTellsSpec)

/-- ITS FALSE NEIGHBOUR: 'it returns false'. Refute it at one input. -/
def partsTellsWrong : ChangeSpec := { name := "partsTells", fn := fun _ => fun
  | [d1, d2, d3, d4] => { results := [.lit (.bool false)], args := [d1, d2, d3, d4] }
  | _ => none }
def PartsTellsWrongFalsely : Prop := partsTellsRow.holds Try.pinned (OpenSpec.ofChange partsTellsWrong)

/-- 'broodlaw4.RuleTells': WHATEVER THE INPUT: true; the input reads as it did. -/
def ruleTellsSpec : ChangeSpec := { name := "ruleTells", fn := fun _ => fun
  | [d1, d2, d3] => { results := [.lit (.bool true)], args := [d1, d2, d3] }
  | _ => none }
def ruleTellsRow : OpenClaim := { program := "ytefdblaolmckmaa", sum := "d05ae679d44c2ea24ed5de3bb860fb937b0fd6b4fad7bac43bf86e8137789a3b", func := "broodhouse/broodlaw4.RuleTells", spec := "ruleTells", apart := false }
def RuleTellsSaid : Prop := ruleTellsRow.holds Try.pinned (OpenSpec.ofChange ruleTellsSpec)

/-- ITS FALSE NEIGHBOUR: 'it returns false'. Refute it at one input. -/
def ruleTellsWrong : ChangeSpec := { name := "ruleTells", fn := fun _ => fun
  | [d1, d2, d3] => { results := [.lit (.bool false)], args := [d1, d2, d3] }
  | _ => none }
def RuleTellsWrongFalsely : Prop := ruleTellsRow.holds Try.pinned (OpenSpec.ofChange ruleTellsWrong)

/-- 'broodlaw4.RuleMore': WHATEVER THE INPUT: true; the input reads as it did. -/
def ruleMoreSpec : ChangeSpec := { name := "ruleMore", fn := fun _ => fun
  | [d1, d2, d3] => { results := [.lit (.bool true)], args := [d1, d2, d3] }
  | _ => none }
def ruleMoreRow : OpenClaim := { program := "ytefdblaolmckmaa", sum := "d05ae679d44c2ea24ed5de3bb860fb937b0fd6b4fad7bac43bf86e8137789a3b", func := "broodhouse/broodlaw4.RuleMore", spec := "ruleMore", apart := false }
def RuleMoreSaid : Prop := ruleMoreRow.holds Try.pinned (OpenSpec.ofChange ruleMoreSpec)

/-- ITS FALSE NEIGHBOUR: 'it returns false'. Refute it at one input. -/
def ruleMoreWrong : ChangeSpec := { name := "ruleMore", fn := fun _ => fun
  | [d1, d2, d3] => { results := [.lit (.bool false)], args := [d1, d2, d3] }
  | _ => none }
def RuleMoreWrongFalsely : Prop := ruleMoreRow.holds Try.pinned (OpenSpec.ofChange ruleMoreWrong)

/-- 'broodlaw4.RuleBoth': WHATEVER THE INPUT: true; the input reads as it did. -/
def ruleBothSpec : ChangeSpec := { name := "ruleBoth", fn := fun _ => fun
  | [d1, d2] => { results := [.lit (.bool true)], args := [d1, d2] }
  | _ => none }
def ruleBothRow : OpenClaim := { program := "ytefdblaolmckmaa", sum := "d05ae679d44c2ea24ed5de3bb860fb937b0fd6b4fad7bac43bf86e8137789a3b", func := "broodhouse/broodlaw4.RuleBoth", spec := "ruleBoth", apart := false }
def RuleBothSaid : Prop := ruleBothRow.holds Try.pinned (OpenSpec.ofChange ruleBothSpec)

/-- ITS FALSE NEIGHBOUR: 'it returns false'. Refute it at one input. -/
def ruleBothWrong : ChangeSpec := { name := "ruleBoth", fn := fun _ => fun
  | [d1, d2] => { results := [.lit (.bool false)], args := [d1, d2] }
  | _ => none }
def RuleBothWrongFalsely : Prop := ruleBothRow.holds Try.pinned (OpenSpec.ofChange ruleBothWrong)

/-- 'broodlaw4.RuleLess': WHATEVER THE INPUT: true; the input reads as it did. -/
def ruleLessSpec : ChangeSpec := { name := "ruleLess", fn := fun _ => fun
  | [d] => { results := [.lit (.bool true)], args := [d] }
  | _ => none }
def ruleLessRow : OpenClaim := { program := "ytefdblaolmckmaa", sum := "d05ae679d44c2ea24ed5de3bb860fb937b0fd6b4fad7bac43bf86e8137789a3b", func := "broodhouse/broodlaw4.RuleLess", spec := "ruleLess", apart := false }
def RuleLessSaid : Prop := ruleLessRow.holds Try.pinned (OpenSpec.ofChange ruleLessSpec)

/-- ITS FALSE NEIGHBOUR: 'it returns false'. Refute it at one input. -/
def ruleLessWrong : ChangeSpec := { name := "ruleLess", fn := fun _ => fun
  | [d] => { results := [.lit (.bool false)], args := [d] }
  | _ => none }
def RuleLessWrongFalsely : Prop := ruleLessRow.holds Try.pinned (OpenSpec.ofChange ruleLessWrong)

/-- 'broodlaw6.BatchTells': WHATEVER THE INPUT: true; the input reads as it did. -/
def batchTellsSpec : ChangeSpec := { name := "batchTells", fn := fun _ => fun
  | [d] => { results := [.lit (.bool true)], args := [d] }
  | _ => none }
def batchTellsRow : OpenClaim := { program := "ytefdblaolmckmaa", sum := "d05ae679d44c2ea24ed5de3bb860fb937b0fd6b4fad7bac43bf86e8137789a3b", func := "broodhouse/broodlaw6.BatchTells", spec := "batchTells", unfollowed := true, recurses := true, apart := false }
def BatchTellsSaid : Prop := batchTellsRow.holds Try.pinned (OpenSpec.ofChange batchTellsSpec)

/-- ITS FALSE NEIGHBOUR: 'it returns false'. Refute it at one input. -/
def batchTellsWrong : ChangeSpec := { name := "batchTells", fn := fun _ => fun
  | [d] => { results := [.lit (.bool false)], args := [d] }
  | _ => none }
def BatchTellsWrongFalsely : Prop := batchTellsRow.holds Try.pinned (OpenSpec.ofChange batchTellsWrong)

/-- 'broodlaw6.BatchAll': WHATEVER THE INPUT: true; the input reads as it did. -/
def batchAllSpec : ChangeSpec := { name := "batchAll", fn := fun _ => fun
  | [d] => { results := [.lit (.bool true)], args := [d] }
  | _ => none }
def batchAllRow : OpenClaim := { program := "ytefdblaolmckmaa", sum := "d05ae679d44c2ea24ed5de3bb860fb937b0fd6b4fad7bac43bf86e8137789a3b", func := "broodhouse/broodlaw6.BatchAll", spec := "batchAll", unfollowed := true, recurses := true, apart := false }
def BatchAllSaid : Prop := batchAllRow.holds Try.pinned (OpenSpec.ofChange batchAllSpec)

/-- ITS FALSE NEIGHBOUR: 'it returns false'. Refute it at one input. -/
def batchAllWrong : ChangeSpec := { name := "batchAll", fn := fun _ => fun
  | [d] => { results := [.lit (.bool false)], args := [d] }
  | _ => none }
def BatchAllWrongFalsely : Prop := batchAllRow.holds Try.pinned (OpenSpec.ofChange batchAllWrong)

/-- 'broodtop.Names': WHATEVER THE INPUT: true; the input reads as it did. -/
def namesSpec : ChangeSpec := { name := "names", fn := fun _ => fun
  | [] => { results := [.lit (.bool true)], args := [] }
  | _ => none }
def namesRow : OpenClaim := { program := "ytefdblaolmckmaa", sum := "d05ae679d44c2ea24ed5de3bb860fb937b0fd6b4fad7bac43bf86e8137789a3b", func := "broodhouse/broodtop.Names", spec := "names", apart := false }
def NamesSaid : Prop := namesRow.holds Try.pinned (OpenSpec.ofChange namesSpec)

/-- ITS FALSE NEIGHBOUR: 'it returns false'. Refute it at one input. -/
def namesWrong : ChangeSpec := { name := "names", fn := fun _ => fun
  | [] => { results := [.lit (.bool false)], args := [] }
  | _ => none }
def NamesWrongFalsely : Prop := namesRow.holds Try.pinned (OpenSpec.ofChange namesWrong)

/-- 'broodlaw2.PlainNew': WHATEVER THE INPUT: true; the input reads as it did. -/
def plainNewSpec : ChangeSpec := { name := "plainNew", fn := fun _ => fun
  | [d1, d2, d3] => { results := [.lit (.bool true)], args := [d1, d2, d3] }
  | _ => none }
def plainNewRow : OpenClaim := { program := "ytefdblaolmckmaa", sum := "d05ae679d44c2ea24ed5de3bb860fb937b0fd6b4fad7bac43bf86e8137789a3b", func := "broodhouse/broodlaw2.PlainNew", spec := "plainNew", inPlace := ["slices.overlaps[broodhouse/api.Row]"], unfollowed := true, recurses := true, apart := false }
def PlainNewSaid : Prop := plainNewRow.holds Try.pinned (OpenSpec.ofChange plainNewSpec)

/-- ITS FALSE NEIGHBOUR: 'it returns false'. Refute it at one input. -/
def plainNewWrong : ChangeSpec := { name := "plainNew", fn := fun _ => fun
  | [d1, d2, d3] => { results := [.lit (.bool false)], args := [d1, d2, d3] }
  | _ => none }
def PlainNewWrongFalsely : Prop := plainNewRow.holds Try.pinned (OpenSpec.ofChange plainNewWrong)

/-- 'broodlaw2.PlainRight': WHATEVER THE INPUT: true; the input reads as it did. -/
def plainRightSpec : ChangeSpec := { name := "plainRight", fn := fun _ => fun
  | [d1, d2, d3, d4, d5, d6] => { results := [.lit (.bool true)], args := [d1, d2, d3, d4, d5, d6] }
  | _ => none }
def plainRightRow : OpenClaim := { program := "ytefdblaolmckmaa", sum := "d05ae679d44c2ea24ed5de3bb860fb937b0fd6b4fad7bac43bf86e8137789a3b", func := "broodhouse/broodlaw2.PlainRight", spec := "plainRight", inPlace := ["slices.overlaps[broodhouse/api.Row]"], unfollowed := true, recurses := true, apart := false }
def PlainRightSaid : Prop := plainRightRow.holds Try.pinned (OpenSpec.ofChange plainRightSpec)

/-- ITS FALSE NEIGHBOUR: 'it returns false'. Refute it at one input. -/
def plainRightWrong : ChangeSpec := { name := "plainRight", fn := fun _ => fun
  | [d1, d2, d3, d4, d5, d6] => { results := [.lit (.bool false)], args := [d1, d2, d3, d4, d5, d6] }
  | _ => none }
def PlainRightWrongFalsely : Prop := plainRightRow.holds Try.pinned (OpenSpec.ofChange plainRightWrong)

/-- 'broodlaw2.PlainPut': WHATEVER THE INPUT: true; the input reads as it did. -/
def plainPutSpec : ChangeSpec := { name := "plainPut", fn := fun _ => fun
  | [d1, d2, d3, d4, d5] => { results := [.lit (.bool true)], args := [d1, d2, d3, d4, d5] }
  | _ => none }
def plainPutRow : OpenClaim := { program := "ytefdblaolmckmaa", sum := "d05ae679d44c2ea24ed5de3bb860fb937b0fd6b4fad7bac43bf86e8137789a3b", func := "broodhouse/broodlaw2.PlainPut", spec := "plainPut", inPlace := ["slices.overlaps[broodhouse/api.Row]"], unfollowed := true, recurses := true, apart := false }
def PlainPutSaid : Prop := plainPutRow.holds Try.pinned (OpenSpec.ofChange plainPutSpec)

/-- ITS FALSE NEIGHBOUR: 'it returns false'. Refute it at one input. -/
def plainPutWrong : ChangeSpec := { name := "plainPut", fn := fun _ => fun
  | [d1, d2, d3, d4, d5] => { results := [.lit (.bool false)], args := [d1, d2, d3, d4, d5] }
  | _ => none }
def PlainPutWrongFalsely : Prop := plainPutRow.holds Try.pinned (OpenSpec.ofChange plainPutWrong)

/- THE SECOND FORM. 'bulk': how many values and letters a reading holds, each counted each time it is reached (what is shared counts as often as it is met; a slice's spare places count too). A statement '..UptoSaid' is the law's where the arguments, and the package variables that the reading takes, are together of bulk at most 1048576: NARROWER than '..Said'. Prove '..Said' where nothing that the law and all that it calls make is longer than what came in: it says more and counts as full. Else prove '..UptoSaid'. A law counts once. -/
mutual
def uptoBulk {H : Type} : DataW H → Nat
  | .lit (.string bytes) => bytes.length + 1
  | .lit _ => 1
  | .nil => 1
  | .ptr d => uptoBulk d + 1
  | .slice elems spare => uptoBulkAll elems + uptoBulkAll spare + 1
  | .agg parts => uptoBulkAll parts + 1
  | .iface _ d => uptoBulk d + 1
  | .map entries => uptoBulkEntries entries + 1
  | .held _ => 1
def uptoBulkAll {H : Type} : List (DataW H) → Nat
  | [] => 0
  | d :: r => uptoBulk d + uptoBulkAll r
def uptoBulkEntries {H : Type} : List (Lit × DataW H) → Nat
  | [] => 0
  | x :: r => uptoBulkEntry x + uptoBulkEntries r
def uptoBulkEntry {H : Type} : Lit × DataW H → Nat
  | (.string bytes, d) => bytes.length + uptoBulk d + 1
  | (_, d) => uptoBulk d + 1
 end
def uptoSmall : (H : Type) → List (DataW H) → Bool := fun _ ds => decide (uptoBulkAll ds ≤ 1048576)
def OpenSpec.upto (s : _root_.Go.ChangeSpec) : _root_.Go.OpenSpec := { _root_.Go.OpenSpec.ofChange s with cond := some uptoSmall }

/-- 'broodlaw1.PartsMore', WHERE WHAT IT READS IS OF BULK AT MOST 1048576: true; the input reads as it did. -/
def partsMoreUptoRow : OpenClaim := { program := "ytefdblaolmckmaa", sum := "d05ae679d44c2ea24ed5de3bb860fb937b0fd6b4fad7bac43bf86e8137789a3b", func := "broodhouse/broodlaw1.PartsMore", spec := "partsMore", apart := false, narrowed := true }
def PartsMoreUptoSaid : Prop := partsMoreUptoRow.holds Try.pinned (OpenSpec.upto partsMoreSpec)

/-- 'broodlaw1.PartsTells', WHERE WHAT IT READS IS OF BULK AT MOST 1048576: true; the input reads as it did. -/
def partsTellsUptoRow : OpenClaim := { program := "ytefdblaolmckmaa", sum := "d05ae679d44c2ea24ed5de3bb860fb937b0fd6b4fad7bac43bf86e8137789a3b", func := "broodhouse/broodlaw1.PartsTells", spec := "partsTells", apart := false, narrowed := true }
def PartsTellsUptoSaid : Prop := partsTellsUptoRow.holds Try.pinned (OpenSpec.upto partsTellsSpec)

/-- 'broodlaw4.RuleTells', WHERE WHAT IT READS IS OF BULK AT MOST 1048576: true; the input reads as it did. -/
def ruleTellsUptoRow : OpenClaim := { program := "ytefdblaolmckmaa", sum := "d05ae679d44c2ea24ed5de3bb860fb937b0fd6b4fad7bac43bf86e8137789a3b", func := "broodhouse/broodlaw4.RuleTells", spec := "ruleTells", apart := false, narrowed := true }
def RuleTellsUptoSaid : Prop := ruleTellsUptoRow.holds Try.pinned (OpenSpec.upto ruleTellsSpec)

/-- 'broodlaw4.RuleMore', WHERE WHAT IT READS IS OF BULK AT MOST 1048576: true; the input reads as it did. -/
def ruleMoreUptoRow : OpenClaim := { program := "ytefdblaolmckmaa", sum := "d05ae679d44c2ea24ed5de3bb860fb937b0fd6b4fad7bac43bf86e8137789a3b", func := "broodhouse/broodlaw4.RuleMore", spec := "ruleMore", apart := false, narrowed := true }
def RuleMoreUptoSaid : Prop := ruleMoreUptoRow.holds Try.pinned (OpenSpec.upto ruleMoreSpec)

/-- 'broodlaw4.RuleBoth', WHERE WHAT IT READS IS OF BULK AT MOST 1048576: true; the input reads as it did. -/
def ruleBothUptoRow : OpenClaim := { program := "ytefdblaolmckmaa", sum := "d05ae679d44c2ea24ed5de3bb860fb937b0fd6b4fad7bac43bf86e8137789a3b", func := "broodhouse/broodlaw4.RuleBoth", spec := "ruleBoth", apart := false, narrowed := true }
def RuleBothUptoSaid : Prop := ruleBothUptoRow.holds Try.pinned (OpenSpec.upto ruleBothSpec)

/-- 'broodlaw4.RuleLess', WHERE WHAT IT READS IS OF BULK AT MOST 1048576: true; the input reads as it did. -/
def ruleLessUptoRow : OpenClaim := { program := "ytefdblaolmckmaa", sum := "d05ae679d44c2ea24ed5de3bb860fb937b0fd6b4fad7bac43bf86e8137789a3b", func := "broodhouse/broodlaw4.RuleLess", spec := "ruleLess", apart := false, narrowed := true }
def RuleLessUptoSaid : Prop := ruleLessUptoRow.holds Try.pinned (OpenSpec.upto ruleLessSpec)

/-- 'broodlaw6.BatchTells', WHERE WHAT IT READS IS OF BULK AT MOST 1048576: true; the input reads as it did. -/
def batchTellsUptoRow : OpenClaim := { program := "ytefdblaolmckmaa", sum := "d05ae679d44c2ea24ed5de3bb860fb937b0fd6b4fad7bac43bf86e8137789a3b", func := "broodhouse/broodlaw6.BatchTells", spec := "batchTells", unfollowed := true, recurses := true, apart := false, narrowed := true }
def BatchTellsUptoSaid : Prop := batchTellsUptoRow.holds Try.pinned (OpenSpec.upto batchTellsSpec)

/-- 'broodlaw6.BatchAll', WHERE WHAT IT READS IS OF BULK AT MOST 1048576: true; the input reads as it did. -/
def batchAllUptoRow : OpenClaim := { program := "ytefdblaolmckmaa", sum := "d05ae679d44c2ea24ed5de3bb860fb937b0fd6b4fad7bac43bf86e8137789a3b", func := "broodhouse/broodlaw6.BatchAll", spec := "batchAll", unfollowed := true, recurses := true, apart := false, narrowed := true }
def BatchAllUptoSaid : Prop := batchAllUptoRow.holds Try.pinned (OpenSpec.upto batchAllSpec)

/-- 'broodtop.Names', WHERE WHAT IT READS IS OF BULK AT MOST 1048576: true; the input reads as it did. -/
def namesUptoRow : OpenClaim := { program := "ytefdblaolmckmaa", sum := "d05ae679d44c2ea24ed5de3bb860fb937b0fd6b4fad7bac43bf86e8137789a3b", func := "broodhouse/broodtop.Names", spec := "names", apart := false, narrowed := true }
def NamesUptoSaid : Prop := namesUptoRow.holds Try.pinned (OpenSpec.upto namesSpec)

/-- 'broodlaw2.PlainNew', WHERE WHAT IT READS IS OF BULK AT MOST 1048576: true; the input reads as it did. -/
def plainNewUptoRow : OpenClaim := { program := "ytefdblaolmckmaa", sum := "d05ae679d44c2ea24ed5de3bb860fb937b0fd6b4fad7bac43bf86e8137789a3b", func := "broodhouse/broodlaw2.PlainNew", spec := "plainNew", inPlace := ["slices.overlaps[broodhouse/api.Row]"], unfollowed := true, recurses := true, apart := false, narrowed := true }
def PlainNewUptoSaid : Prop := plainNewUptoRow.holds Try.pinned (OpenSpec.upto plainNewSpec)

/-- 'broodlaw2.PlainRight', WHERE WHAT IT READS IS OF BULK AT MOST 1048576: true; the input reads as it did. -/
def plainRightUptoRow : OpenClaim := { program := "ytefdblaolmckmaa", sum := "d05ae679d44c2ea24ed5de3bb860fb937b0fd6b4fad7bac43bf86e8137789a3b", func := "broodhouse/broodlaw2.PlainRight", spec := "plainRight", inPlace := ["slices.overlaps[broodhouse/api.Row]"], unfollowed := true, recurses := true, apart := false, narrowed := true }
def PlainRightUptoSaid : Prop := plainRightUptoRow.holds Try.pinned (OpenSpec.upto plainRightSpec)

/-- 'broodlaw2.PlainPut', WHERE WHAT IT READS IS OF BULK AT MOST 1048576: true; the input reads as it did. -/
def plainPutUptoRow : OpenClaim := { program := "ytefdblaolmckmaa", sum := "d05ae679d44c2ea24ed5de3bb860fb937b0fd6b4fad7bac43bf86e8137789a3b", func := "broodhouse/broodlaw2.PlainPut", spec := "plainPut", inPlace := ["slices.overlaps[broodhouse/api.Row]"], unfollowed := true, recurses := true, apart := false, narrowed := true }
def PlainPutUptoSaid : Prop := plainPutUptoRow.holds Try.pinned (OpenSpec.upto plainPutSpec)

end Rows
end Go.Proofs.Ytefdblaolmckmaa
