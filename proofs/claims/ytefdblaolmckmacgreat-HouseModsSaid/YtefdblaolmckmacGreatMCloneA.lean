/- Lemmas of the proof. -/
import Derived.Laws.AppendOwnNone
import Derived.Test.YtefdblaolmckmacGreatMBSpecVToStoA
import Derived.Test.YtefdblaolmckmacGreatMBSortTRToStoO
import Derived.Test.YtefdblaolmckmacGreatMRuleA
set_option linter.unusedVariables false
set_option linter.unusedSimpArgs false
set_option maxRecDepth 100000
set_option maxHeartbeats 12800000
namespace Go.Proofs.YtefdblaolmckmacGreat
open Go.RowKit
open Brood
theorem acts_one (l:List BAct):∀ u∈l.flatMap actCells,u.oneCell'=true:=by
 intro u hu
 obtain ⟨x,_,hu⟩:=List.mem_flatMap.1 hu
 simp [actCells] at hu
 rcases hu with rfl | rfl | rfl | rfl<;>rfl
theorem infoAct:(Tryz.prog.info? 76).map (fun i=>(i.zero,i.size,i.bytes))=some (some (.agg #[.int .i64 0,.int .i64 0,.int .i64 0,.int .i64 0]),4,32):=by kernel_rfl
theorem sl_some_a (ad:Addr) (n c:Nat) (w:World):(binOp .eql 49 (.slice (some ad) n c) (.slice none 0 0)).run Tryz.prog w=.ok (.bool false) w:=by kernel_rfl
theorem sl_none_a (n c:Nat) (w:World):(binOp .eql 49 (.slice none n c) (.slice none 0 0)).run Tryz.prog w=.ok (.bool true) w:=by kernel_rfl
theorem cloneA_any (zs:List BAct) (A:Option Addr) (c:Nat) (hlen:zs.length*32≤140737488355328) (hn:A=none→c=0∧zs=[]) (w:World) (hA:RdAB w w.heap.size A zs) :
  Calls Tryz.prog 92 #[.slice A zs.length c] w fun e w'=>∃ v,e=.returned v∧w'.ownsRow w.heap.size 76 4 v zs.length (zs.flatMap actCells)∧Below w.heap.size w w':=by
 obtain ⟨i0',hi0,hz0a,hz0b,hz0c⟩:=info_parts infoAct
 have hs1:=sl_some_a
 have hs2:=sl_none_a
 cases A with
 | none=>
  obtain ⟨rfl,rfl⟩:=hn rfl
  go_enter Tryz.func92,Tryz.ntmps92
  go_wp2_with fail
  go_ret
  exact ⟨_,rfl,own_nil _ _ _ _,Below.refl _ _⟩
 | some ad=>
  have hown0:(w.alloc (.cells #[] 76)).ownsRow w.heap.size 76 4 (.slice (some ⟨w.heap.size,0,none⟩) 0 0) 0 []:=World.ownsRow_lit w #[] 0 (Nat.le_refl _) (by unfold maxLen;omega) (by simp)
  have hA':=Rd.alloc hA (Nat.le_refl _) (.cells #[] 76)
  have hce:∀ j u,(zs.flatMap actCells)[j]?=some u→(w.alloc (.cells #[] 76)).cell? (ad.add j)=some u:=by
   intro j u hu
   have h0:0<zs.length:=by
    rcases Nat.eq_zero_or_pos zs.length with e | e
    ·have:zs=[]:=List.eq_nil_of_length_eq_zero e
     subst this
     simp [ints] at hu
    ·exact e
   obtain ⟨b,off,he,_,hc⟩:=hA'.2 h0
   obtain rfl:=Option.some.inj he
   rw [add_mk]
   exact hc j u hu
  have hcl:(zs.flatMap actCells).length=zs.length*4:=hA.1
  go_enter Tryz.func92,Tryz.ntmps92
  go_wp2_with (at_builtin;refine wpList_append_own _ rfl _ _ 49 rfl w.heap.size 76 i0' (.agg #[.int .i64 0,.int .i64 0,.int .i64 0,.int .i64 0]) 4 32 Tryz.underlying49 hi0 hz0a hz0b hz0c rfl (by decide) _ _ _ rfl hown0 ad zs.length c (zs.flatMap actCells) rfl hcl hce (acts_one _) ?c3 ?c4 ?c5 ?_;rotate_left 3;intro v' w1 hown' hgrow _)
  case c3=>unfold maxLen;omega
  case c4=>omega
  case c5=>simp
  go_ret
  exact ⟨_,rfl,by simpa using hown',((Below.refl _ _).alloc (Nat.le_refl _) _).grown hgrow (by simp) (fun k e=>by cases e;exact Nat.le_refl _)⟩
end Go.Proofs.YtefdblaolmckmacGreat
