/- Lemmas of the proof. -/
import Derived.Test.YtefdblaolmckmacGreatMBRef2MToRunG
set_option linter.unusedVariables false
set_option linter.unusedSimpArgs false
set_option maxRecDepth 100000
set_option maxHeartbeats 12800000
namespace Go.Proofs.YtefdblaolmckmacGreat
open Go.RowKit
open Brood
def ansV (e:Int):Value:=.agg #[.int .i64 e,.int .i64 0,.int .i64 0,.slice none 0 0,.int .i64 0]
def hsL (e:Int) (s0 s1 v0 v1 vm vs:Value):List Value:=if e=0 then [s0,s1,vm,vs] else [v0,v1,vm,vs]
theorem hset_any (hb:Nat) (A:Option Addr) (n c:Nat) (Ag:Option Addr) (m cg:Nat) (A':Option Addr) (n' c':Nat) (Ag':Option Addr) (m' cg':Nat) (vm vs:Value) (e:Int) (w0 w:World) (E:List Ent)
  (h:Hp w0 w (.box hb 81 [.slice A n c,.slice Ag m cg,vm,vs]::E)) :
  Calls Tryz.prog 56 #[.pointer (some ⟨hb,0,none⟩),.agg #[.slice A' n' c',.slice Ag' m' cg'],.int .i64 e] w fun e' w'=>e'=.returned (ansV e) ∧
   Hp w0 w' (.box hb 81 (hsL e (.slice A' n' c') (.slice Ag' m' cg') (.slice A n c) (.slice Ag m cg) vm vs)::E):=by
 have hlt:=h.lt 0 rfl
 have H0:=(h.newL w.heap.size rfl 27 [.slice A' n' c',.slice Ag' m' cg']).newL (w.heap.size+1) (by simp) 44 [.int .i64 0,.int .i64 0,.int .i64 0,.slice none 0 0,.int .i64 0]
 have hH0:=Lib.hid H0
 have hs1:Hid (hsL e (.slice A' n' c') (.slice Ag' m' cg') (.slice A n c) (.slice Ag m cg) vm vs=if e=0 then [.slice A' n' c',.slice Ag' m' cg',vm,vs] else [.slice A n c,.slice Ag m cg,vm,vs]):=Lib.hid rfl
 generalize hsL e (.slice A' n' c') (.slice Ag' m' cg') (.slice A n c) (.slice Ag m cg) vm vs=R at *
 clear h H0
 go_enter Tryz.func56,Tryz.ntmps56
 go_upto_region 1 with fail
 obtain ⟨w1,hw1,H0⟩:=hH0.out.name
 rw [hw1]
 clear hw1 hH0
 by_cases he:e=0
 ·subst he
  have y0:=H0.frozen 2 0 rfl;have y1:=H0.frozen 2 1 rfl;have q0:=H0.cell 2 0 rfl rfl;have q1:=H0.cell 2 1 rfl rfl
  have p0:=H0.cell 1 0 rfl rfl;have p1:=H0.cell 1 1 rfl rfl
  have H1:=(H0.set 2 0 (.slice A' n' c') rfl).set 2 1 (.slice Ag' m' cg') rfl
  have hH1:=Lib.hid H1
  clear H0 H1
  go_upto_region 3 with fail
  obtain ⟨w2,hw2,H1⟩:=hH1.out.name
  rw [hw2]
  clear hw2 hH1 y0 y1 q0 q1 p0 p1
  have z0:=H1.frozen 0 0 rfl;have z1:=H1.frozen 0 1 rfl;have z2:=H1.frozen 0 2 rfl;have z3:=H1.frozen 0 3 rfl;have z4:=H1.frozen 0 4 rfl
  have d0:=H1.cell 0 0 rfl rfl;have d1:=H1.cell 0 1 rfl rfl;have d2:=H1.cell 0 2 rfl rfl;have d3:=H1.cell 0 3 rfl rfl;have d4:=H1.cell 0 4 rfl rfl
  have H2:=((((H1.set 0 0 (.int .i64 0) rfl).set 0 1 (.int .i64 0) rfl).set 0 2 (.int .i64 0) rfl).set 0 3 (.slice none 0 0) rfl).set 0 4 (.int .i64 0) rfl
  have r0:=H2.cell 0 0 rfl rfl;have r1:=H2.cell 0 1 rfl rfl;have r2:=H2.cell 0 2 rfl rfl;have r3:=H2.cell 0 3 rfl rfl;have r4:=H2.cell 0 4 rfl rfl
  have hH2:=Lib.hid H2
  clear H1 H2
  go_wp2_with fail
  refine bodyPost_ret (v:=ansV 0) (by simp [results,Tryz.results56,go_sem,r0,r1,r2,r3,r4,ansV]) rfl ⟨rfl,?_⟩
  rw [hs1.out]
  simp only [if_true]
  exact (hH2.out.drop1 1).drop1 0
 ·have he':(e==0)=false:=by simpa using he
  have z0:=H0.frozen 0 0 rfl;have z1:=H0.frozen 0 1 rfl;have z2:=H0.frozen 0 2 rfl;have z3:=H0.frozen 0 3 rfl;have z4:=H0.frozen 0 4 rfl
  have d0:=H0.cell 0 0 rfl rfl;have d1:=H0.cell 0 1 rfl rfl;have d2:=H0.cell 0 2 rfl rfl;have d3:=H0.cell 0 3 rfl rfl;have d4:=H0.cell 0 4 rfl rfl
  have H2:=((((H0.set 0 0 (.int .i64 e) rfl).set 0 1 (.int .i64 0) rfl).set 0 2 (.int .i64 0) rfl).set 0 3 (.slice none 0 0) rfl).set 0 4 (.int .i64 0) rfl
  have r0:=H2.cell 0 0 rfl rfl;have r1:=H2.cell 0 1 rfl rfl;have r2:=H2.cell 0 2 rfl rfl;have r3:=H2.cell 0 3 rfl rfl;have r4:=H2.cell 0 4 rfl rfl
  have hH2:=Lib.hid H2
  have hn:Hid (¬ e=0):=Lib.hid he
  clear H0 H2 he
  go_wp2_with fail
  refine bodyPost_ret (v:=ansV e) (by simp [results,Tryz.results56,go_sem,r0,r1,r2,r3,r4,ansV]) rfl ⟨rfl,?_⟩
  rw [hs1.out,if_neg hn.out]
  exact (hH2.out.drop1 1).drop1 0
end Go.Proofs.YtefdblaolmckmacGreat
