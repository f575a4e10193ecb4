/- Lemmas of the proof. -/
import Derived.Test.YtefdblaolmckmabGreatRBSortTBToRefW
import Derived.Test.YtefdblaolmckmabGreatRBRowToInv
import Derived.Test.YtefdblaolmckmabGreatRRuleA
set_option linter.unusedVariables false
set_option linter.unusedSimpArgs false
set_option maxRecDepth 100000
set_option maxHeartbeats 12800000
namespace Go.Proofs.YtefdblaolmckmabGreat
open Go.RowKit
open Brood
def actV (a:BAct):Value:=.agg #[.int .i64 a.kind,.int .i64 a.part,.int .i64 a.src,.int .i64 a.n]
def rAct (all:Int) (b:Nat→Bool) (a:BAct):Int:=
 if actErr all a≠0 then actErr all a
 else if (isFrom a && b a.src.toNat) || (isOwn a && b a.part.toNat) then 7 else 0
theorem rAct_6 (all non part src n:Int) (b:Nat→Bool) (w:World) :
  Calls Tryz.prog 111 #[.agg #[.int .i64 all,.int .i64 non],actV ⟨6,part,src,n⟩,.agg (arr8 b)] w fun e w'=>e=.returned (.int .i64 0)∧Below w.heap.size w w':=by
 unfold actV arr8
 go_enter Tryz.func111,Tryz.ntmps111
 go_wp2_with fail
 go_ret
 exact ⟨rfl,(((Below.refl _ _).alloc (Nat.le_refl _) _).alloc (by simp) _).alloc (by simp;omega) _⟩
theorem rAct_1 (all non part src n:Int) (b:Nat→Bool) (w:World) :
  Calls Tryz.prog 111 #[.agg #[.int .i64 all,.int .i64 non],actV ⟨1,part,src,n⟩,.agg (arr8 b)] w fun e w'=>e=.returned (.int .i64 (if isVal n && isPart part then 0 else 3))∧Below w.heap.size w w':=by
 have hbel:Below w.heap.size w (((w.alloc (.cells #[.int .i64 all,.int .i64 non] 26)).alloc (.cells #[.int .i64 1,.int .i64 part,.int .i64 src,.int .i64 n] 35)).alloc (.cells (arr8 b) 174)):=(((Below.refl _ _).alloc (Nat.le_refl _) _).alloc (by simp) _).alloc (by simp;omega) _
 unfold actV
 unfold arr8 at *
 go_enter Tryz.func111,Tryz.ntmps111
 go_wp2_with fail
 refine (rvalue_any _ _).mono ?_
 rintro e w1 ⟨rfl,rfl⟩
 cases hv:isVal n
 ·go_wp2_with fail
  all_goals (go_ret;exact ⟨rfl,hbel⟩)
 by_cases hp0:part<0
 ·have hp:isPart part=false:=isPart_false.2 (.inl hp0)
  go_wp2_with fail
  all_goals (go_ret;exact ⟨ret_int (by simp [hp]),hbel⟩)
 by_cases hp1:7<part
 ·have hp:isPart part=false:=isPart_false.2 (.inr (by omega))
  go_wp2_with fail
  all_goals (go_ret;exact ⟨ret_int (by simp [hp]),hbel⟩)
 have hp:isPart part=true:=isPart_iff.2 ⟨by omega,by omega⟩
 go_wp2_with fail
 all_goals (go_ret;exact ⟨ret_int (by simp [hp]),hbel⟩)
theorem rAct_5 (all non part src n:Int) (b:Nat→Bool) (w:World) :
  Calls Tryz.prog 111 #[.agg #[.int .i64 all,.int .i64 non],actV ⟨5,part,src,n⟩,.agg (arr8 b)] w fun e w'=>e=.returned (.int .i64 (if isPart part then 0 else 3))∧Below w.heap.size w w':=by
 have hbel:Below w.heap.size w (((w.alloc (.cells #[.int .i64 all,.int .i64 non] 26)).alloc (.cells #[.int .i64 5,.int .i64 part,.int .i64 src,.int .i64 n] 35)).alloc (.cells (arr8 b) 174)):=(((Below.refl _ _).alloc (Nat.le_refl _) _).alloc (by simp) _).alloc (by simp;omega) _
 unfold actV
 unfold arr8 at *
 go_enter Tryz.func111,Tryz.ntmps111
 by_cases hp0:part<0
 ·have hp:isPart part=false:=isPart_false.2 (.inl hp0)
  go_wp2_with fail
  all_goals (go_ret;exact ⟨ret_int (by simp [hp]),hbel⟩)
 by_cases hp1:7<part
 ·have hp:isPart part=false:=isPart_false.2 (.inr (by omega))
  go_wp2_with fail
  all_goals (go_ret;exact ⟨ret_int (by simp [hp]),hbel⟩)
 have hp:isPart part=true:=isPart_iff.2 ⟨by omega,by omega⟩
 go_wp2_with fail
 all_goals (go_ret;exact ⟨ret_int (by simp [hp]),hbel⟩)
theorem rAct_7 (all non part src n:Int) (b:Nat→Bool) (w:World) :
  Calls Tryz.prog 111 #[.agg #[.int .i64 all,.int .i64 non],actV ⟨7,part,src,n⟩,.agg (arr8 b)] w fun e w'=>e=.returned (.int .i64 (if isSet part && isVal n then 0 else 3))∧Below w.heap.size w w':=by
 have hbel:Below w.heap.size w (((w.alloc (.cells #[.int .i64 all,.int .i64 non] 26)).alloc (.cells #[.int .i64 7,.int .i64 part,.int .i64 src,.int .i64 n] 35)).alloc (.cells (arr8 b) 174)):=(((Below.refl _ _).alloc (Nat.le_refl _) _).alloc (by simp) _).alloc (by simp;omega) _
 unfold actV
 unfold arr8 at *
 go_enter Tryz.func111,Tryz.ntmps111
 go_wp2_with fail
 refine (rset_any _ _).mono ?_
 rintro e w1 ⟨rfl,rfl⟩
 cases hs:isSet part
 ·go_wp2_with fail
  all_goals (go_ret;exact ⟨rfl,hbel⟩)
 go_wp2_with fail
 refine (rvalue_any _ _).mono ?_
 rintro e w1 ⟨rfl,rfl⟩
 cases hv:isVal n
 ·go_wp2_with fail
  all_goals (go_ret;exact ⟨rfl,hbel⟩)
 go_wp2_with fail
 all_goals (go_ret;exact ⟨rfl,hbel⟩)
theorem rAct_0 (all non part src n:Int) (kind:Int) (k1:¬ kind=1) (k2:¬ kind=2) (k3:¬ kind=3) (k4:¬ kind=4) (k5:¬ kind=5) (k6:¬ kind=6) (k7:¬ kind=7) (b:Nat→Bool) (w:World) :
  Calls Tryz.prog 111 #[.agg #[.int .i64 all,.int .i64 non],actV ⟨kind,part,src,n⟩,.agg (arr8 b)] w fun e w'=>e=.returned (.int .i64 (1))∧Below w.heap.size w w':=by
 have hbel:Below w.heap.size w (((w.alloc (.cells #[.int .i64 all,.int .i64 non] 26)).alloc (.cells #[.int .i64 kind,.int .i64 part,.int .i64 src,.int .i64 n] 35)).alloc (.cells (arr8 b) 174)):=(((Below.refl _ _).alloc (Nat.le_refl _) _).alloc (by simp) _).alloc (by simp;omega) _
 unfold actV
 unfold arr8 at *
 go_enter Tryz.func111,Tryz.ntmps111
 go_wp2_with fail
 all_goals (go_ret;exact ⟨rfl,hbel⟩)
theorem rAct_4 (all non part src n:Int) (hall:isSet all=true) (b:Nat→Bool) (w:World) :
  Calls Tryz.prog 111 #[.agg #[.int .i64 all,.int .i64 non],actV ⟨4,part,src,n⟩,.agg (arr8 b)] w fun e w'=>e=.returned (.int .i64 (if isVal n && isPart part then (if hasB all part && !b part.toNat then 0 else 7) else 3))∧Below w.heap.size w w':=by
 have hbel:Below w.heap.size w (((w.alloc (.cells #[.int .i64 all,.int .i64 non] 26)).alloc (.cells #[.int .i64 4,.int .i64 part,.int .i64 src,.int .i64 n] 35)).alloc (.cells (arr8 b) 174)):=(((Below.refl _ _).alloc (Nat.le_refl _) _).alloc (by simp) _).alloc (by simp;omega) _
 have HF:=((Blk.new w 26 #[.int .i64 all,.int .i64 non]).alloc (.cells #[.int .i64 4,.int .i64 part,.int .i64 src,.int .i64 n] 35)).alloc (.cells (arr8 b) 174)
 have HA:=(Blk.new (w.alloc (.cells #[.int .i64 all,.int .i64 non] 26)) 35 #[.int .i64 4,.int .i64 part,.int .i64 src,.int .i64 n]).alloc (.cells (arr8 b) 174)
 have HG:=Blk.new ((w.alloc (.cells #[.int .i64 all,.int .i64 non] 26)).alloc (.cells #[.int .i64 4,.int .i64 part,.int .i64 src,.int .i64 n] 35)) 174 (arr8 b)
 simp only [World.size_alloc] at HA HG
 unfold actV
 go_enter Tryz.func111,Tryz.ntmps111
 go_wp2_with fail
 refine (rvalue_any _ _).mono ?_
 rintro e w1 ⟨rfl,rfl⟩
 cases hv:isVal n
 ·go_wp2_with fail
  all_goals (go_ret;exact ⟨rfl,hbel⟩)
 by_cases hp0:part<0
 ·have hp:isPart part=false:=isPart_false.2 (.inl hp0)
  go_wp2_with fail
  all_goals (go_ret;exact ⟨ret_int (by simp [hp]),hbel⟩)
 by_cases hp1:7<part
 ·have hp:isPart part=false:=isPart_false.2 (.inr (by omega))
  go_wp2_with fail
  all_goals (go_ret;exact ⟨ret_int (by simp [hp]),hbel⟩)
 have hp:isPart part=true:=isPart_iff.2 ⟨by omega,by omega⟩
 go_wp2_with fail
 refine (rhas_any all part hall _).mono ?_
 rintro e w2 ⟨rfl,hb2⟩
 replace hbel:=grow_below hbel hb2
 cases hh:hasB all part
 ·go_wp2_with fail
  all_goals (go_ret;exact ⟨ret_int (by simp [hp]),hbel⟩)
 obtain ⟨k,rfl⟩:=nat_of (show 0≤part by omega)
 have hk:k<8:=by omega
 replace HA:=HA.below hb2 HA.lt
 replace HG:=HG.below hb2 HG.lt
 have a1:=HA.cell 1
 have gk:=HG.cell k
 rw [arr8_get b hk] at gk
 simp at a1
 cases hg:b k<;>rw [hg] at gk
 ·go_wp2_with fail
  all_goals (go_ret;exact ⟨ret_int (by simp [hp,hg]),hbel⟩)
 ·go_wp2_with fail
  all_goals (go_ret;exact ⟨ret_int (by simp [hp,hg]),hbel⟩)
theorem rAct_2 (all non part src n:Int) (hall:isSet all=true) (b:Nat→Bool) (w:World) :
  Calls Tryz.prog 111 #[.agg #[.int .i64 all,.int .i64 non],actV ⟨2,part,src,n⟩,.agg (arr8 b)] w fun e w'=>e=.returned (.int .i64 (if isPart src && isPart part then (if hasB all src && !b src.toNat then 0 else 7) else 3))∧Below w.heap.size w w':=by
 have hbel:Below w.heap.size w (((w.alloc (.cells #[.int .i64 all,.int .i64 non] 26)).alloc (.cells #[.int .i64 2,.int .i64 part,.int .i64 src,.int .i64 n] 35)).alloc (.cells (arr8 b) 174)):=(((Below.refl _ _).alloc (Nat.le_refl _) _).alloc (by simp) _).alloc (by simp;omega) _
 have HF:=((Blk.new w 26 #[.int .i64 all,.int .i64 non]).alloc (.cells #[.int .i64 2,.int .i64 part,.int .i64 src,.int .i64 n] 35)).alloc (.cells (arr8 b) 174)
 have HA:=(Blk.new (w.alloc (.cells #[.int .i64 all,.int .i64 non] 26)) 35 #[.int .i64 2,.int .i64 part,.int .i64 src,.int .i64 n]).alloc (.cells (arr8 b) 174)
 have HG:=Blk.new ((w.alloc (.cells #[.int .i64 all,.int .i64 non] 26)).alloc (.cells #[.int .i64 2,.int .i64 part,.int .i64 src,.int .i64 n] 35)) 174 (arr8 b)
 simp only [World.size_alloc] at HA HG
 unfold actV
 go_enter Tryz.func111,Tryz.ntmps111
 by_cases hq0:src<0
 ·have hq:isPart src=false:=isPart_false.2 (.inl hq0)
  go_wp2_with fail
  all_goals (go_ret;exact ⟨ret_int (by simp [hq]),hbel⟩)
 by_cases hq1:7<src
 ·have hq:isPart src=false:=isPart_false.2 (.inr (by omega))
  go_wp2_with fail
  all_goals (go_ret;exact ⟨ret_int (by simp [hq]),hbel⟩)
 have hq:isPart src=true:=isPart_iff.2 ⟨by omega,by omega⟩
 by_cases hp0:part<0
 ·have hp:isPart part=false:=isPart_false.2 (.inl hp0)
  go_wp2_with fail
  all_goals (go_ret;exact ⟨ret_int (by simp [hp]),hbel⟩)
 by_cases hp1:7<part
 ·have hp:isPart part=false:=isPart_false.2 (.inr (by omega))
  go_wp2_with fail
  all_goals (go_ret;exact ⟨ret_int (by simp [hp]),hbel⟩)
 have hp:isPart part=true:=isPart_iff.2 ⟨by omega,by omega⟩
 go_wp2_with fail
 refine (rhas_any all src hall _).mono ?_
 rintro e w2 ⟨rfl,hb2⟩
 replace hbel:=grow_below hbel hb2
 cases hh:hasB all src
 ·go_wp2_with fail
  all_goals (go_ret;exact ⟨ret_int (by simp [hp,hq]),hbel⟩)
 obtain ⟨k,rfl⟩:=nat_of (show 0≤src by omega)
 have hk:k<8:=by omega
 replace HA:=HA.below hb2 HA.lt
 replace HG:=HG.below hb2 HG.lt
 have a1:=HA.cell 2
 have gk:=HG.cell k
 rw [arr8_get b hk] at gk
 simp at a1
 cases hg:b k<;>rw [hg] at gk
 ·go_wp2_with fail
  all_goals (go_ret;exact ⟨ret_int (by simp [hp,hq,hg]),hbel⟩)
 ·go_wp2_with fail
  all_goals (go_ret;exact ⟨ret_int (by simp [hp,hq,hg]),hbel⟩)
theorem rAct_3 (all non part src n:Int) (hall:isSet all=true) (b:Nat→Bool) (w:World) :
  Calls Tryz.prog 111 #[.agg #[.int .i64 all,.int .i64 non],actV ⟨3,part,src,n⟩,.agg (arr8 b)] w fun e w'=>e=.returned (.int .i64 (if isPart src && isPart part then (if (hasB all src && !b src.toNat) && (hasB all part && !b part.toNat) then 0 else 7) else 3))∧Below w.heap.size w w':=by
 have hbel:Below w.heap.size w (((w.alloc (.cells #[.int .i64 all,.int .i64 non] 26)).alloc (.cells #[.int .i64 3,.int .i64 part,.int .i64 src,.int .i64 n] 35)).alloc (.cells (arr8 b) 174)):=(((Below.refl _ _).alloc (Nat.le_refl _) _).alloc (by simp) _).alloc (by simp;omega) _
 have HF:=((Blk.new w 26 #[.int .i64 all,.int .i64 non]).alloc (.cells #[.int .i64 3,.int .i64 part,.int .i64 src,.int .i64 n] 35)).alloc (.cells (arr8 b) 174)
 have HA:=(Blk.new (w.alloc (.cells #[.int .i64 all,.int .i64 non] 26)) 35 #[.int .i64 3,.int .i64 part,.int .i64 src,.int .i64 n]).alloc (.cells (arr8 b) 174)
 have HG:=Blk.new ((w.alloc (.cells #[.int .i64 all,.int .i64 non] 26)).alloc (.cells #[.int .i64 3,.int .i64 part,.int .i64 src,.int .i64 n] 35)) 174 (arr8 b)
 simp only [World.size_alloc] at HA HG
 unfold actV
 go_enter Tryz.func111,Tryz.ntmps111
 by_cases hq0:src<0
 ·have hq:isPart src=false:=isPart_false.2 (.inl hq0)
  go_wp2_with fail
  all_goals (go_ret;exact ⟨ret_int (by simp [hq]),hbel⟩)
 by_cases hq1:7<src
 ·have hq:isPart src=false:=isPart_false.2 (.inr (by omega))
  go_wp2_with fail
  all_goals (go_ret;exact ⟨ret_int (by simp [hq]),hbel⟩)
 have hq:isPart src=true:=isPart_iff.2 ⟨by omega,by omega⟩
 by_cases hp0:part<0
 ·have hp:isPart part=false:=isPart_false.2 (.inl hp0)
  go_wp2_with fail
  all_goals (go_ret;exact ⟨ret_int (by simp [hp]),hbel⟩)
 by_cases hp1:7<part
 ·have hp:isPart part=false:=isPart_false.2 (.inr (by omega))
  go_wp2_with fail
  all_goals (go_ret;exact ⟨ret_int (by simp [hp]),hbel⟩)
 have hp:isPart part=true:=isPart_iff.2 ⟨by omega,by omega⟩
 go_wp2_with fail
 refine (rhas_any all src hall _).mono ?_
 rintro e w2 ⟨rfl,hb2⟩
 replace hbel:=grow_below hbel hb2
 cases hh:hasB all src
 ·go_wp2_with fail
  all_goals (go_ret;exact ⟨ret_int (by simp [hp,hq]),hbel⟩)
 obtain ⟨k,rfl⟩:=nat_of (show 0≤src by omega)
 have hk:k<8:=by omega
 replace HA:=HA.below hb2 HA.lt
 replace HG:=HG.below hb2 HG.lt
 have a1:=HA.cell 2
 have gk:=HG.cell k
 rw [arr8_get b hk] at gk
 simp at a1
 have hbz:=HF
 cases hg:b k<;>rw [hg] at gk
 case true=>
  go_wp2_with fail
  all_goals (go_ret;exact ⟨ret_int (by simp [hp,hq,hg]),hbel⟩)
 replace HF:=HF.below hb2 HF.lt
 have f0:=HF.cell 0
 have a2:=HA.cell 1
 simp at f0 a2
 go_wp2_with fail
 refine (rhas_any all part hall _).mono ?_
 rintro e w3 ⟨rfl,hb3⟩
 replace hbel:=grow_below hbel hb3
 clear f0 a1 a2 gk
 cases hh':hasB all part
 ·go_wp2_with fail
  all_goals (go_ret;exact ⟨ret_int (by simp [hp,hq,hg]),hbel⟩)
 obtain ⟨q,rfl⟩:=nat_of (show 0≤part by omega)
 have hk':q<8:=by omega
 replace HA:=HA.below hb3 HA.lt
 replace HG:=HG.below hb3 HG.lt
 have a1:=HA.cell 1
 have gk:=HG.cell q
 rw [arr8_get b hk'] at gk
 simp at a1
 cases hg':b q<;>rw [hg'] at gk
 ·go_wp2_with fail
  all_goals (go_ret;exact ⟨ret_int (by simp [hp,hq,hg,hg']),hbel⟩)
 ·go_wp2_with fail
  all_goals (go_ret;exact ⟨ret_int (by simp [hp,hq,hg,hg']),hbel⟩)
open Go.RowKit
open Brood
theorem rAct_any (all non:Int) (hall:isSet all=true) (a:BAct) (b:Nat→Bool) (w:World) :
  Calls Tryz.prog 111 #[.agg #[.int .i64 all,.int .i64 non],actV a,.agg (arr8 b)] w fun e w'=>e=.returned (.int .i64 (rAct all b a))∧Below w.heap.size w w':=by
 obtain ⟨kind,part,src,n⟩:=a
 have conv:∀ x y:Int,x=y→(Calls Tryz.prog 111 #[.agg #[.int .i64 all,.int .i64 non],actV ⟨kind,part,src,n⟩,.agg (arr8 b)] w fun e w'=>e=.returned (.int .i64 x)∧Below w.heap.size w w') →
   Calls Tryz.prog 111 #[.agg #[.int .i64 all,.int .i64 non],actV ⟨kind,part,src,n⟩,.agg (arr8 b)] w fun e w'=>e=.returned (.int .i64 y)∧Below w.heap.size w w':=by
  rintro x y rfl h;exact h
 by_cases k1:kind=1
 ·subst k1
  refine conv _ _ ?_ (rAct_1 all non part src n b w)
  simp [rAct,actErr,isWrite,isFrom,isOwn]
  cases isVal n<;>cases isPart part<;>simp
 by_cases k2:kind=2
 ·subst k2
  refine conv _ _ ?_ (rAct_2 all non part src n hall b w)
  simp [rAct,actErr,isWrite,isFrom,isOwn]
  cases isPart src<;>cases isPart part<;>cases hasB all src<;>cases b src.toNat<;>simp
 by_cases k3:kind=3
 ·subst k3
  refine conv _ _ ?_ (rAct_3 all non part src n hall b w)
  simp [rAct,actErr,isWrite,isFrom,isOwn]
  cases isPart src<;>cases isPart part<;>cases hasB all src<;>cases b src.toNat<;>cases hasB all part<;>cases b part.toNat<;>simp
 by_cases k4:kind=4
 ·subst k4
  refine conv _ _ ?_ (rAct_4 all non part src n hall b w)
  simp [rAct,actErr,isWrite,isFrom,isOwn]
  cases isVal n<;>cases isPart part<;>cases hasB all part<;>cases b part.toNat<;>simp
 by_cases k5:kind=5
 ·subst k5
  refine conv _ _ ?_ (rAct_5 all non part src n b w)
  simp [rAct,actErr,isWrite,isFrom,isOwn]
  cases isPart part<;>simp
 by_cases k6:kind=6
 ·subst k6
  refine conv _ _ ?_ (rAct_6 all non part src n b w)
  simp [rAct,actErr,isWrite,isFrom,isOwn]
 by_cases k7:kind=7
 ·subst k7
  refine conv _ _ ?_ (rAct_7 all non part src n b w)
  simp [rAct,actErr,isWrite,isFrom,isOwn]
  cases isSet part<;>cases isVal n<;>simp
 refine conv _ _ ?_ (rAct_0 all non part src n kind k1 k2 k3 k4 k5 k6 k7 b w)
 have:isWrite kind=false:=by simp [isWrite];omega
 simp [rAct,actErr,this,k6,k7]
open Go.RowKit
open Brood
theorem arr8_put (b:Nat→Bool) {k:Nat} (hk:k<8) (v:Bool):(arr8 b).setIfInBounds k (.bool v)=arr8 (fun j=>if j=k then v else b j):=by
 match k,hk with
 | 0,_ | 1,_ | 2,_ | 3,_ | 4,_ | 5,_ | 6,_ | 7,_=>rfl
theorem arr8_congr {b b':Nat→Bool} (h:∀ j,j<8→b j=b' j):arr8 b=arr8 b':=by
 simp only [arr8,h 0 (by omega),h 1 (by omega),h 2 (by omega),h 3 (by omega),h 4 (by omega),h 5 (by omega),h 6 (by omega),h 7 (by omega)]
theorem hasB_nat (s:Int) {k:Nat} (hk:k<8):hasB s (k:Int)=tb s.toNat k:=by
 have:isPart (k:Int)=true:=isPart_iff.2 ⟨by omega,by omega⟩
 simp [hasB,this,tb]
theorem hasB_part {s k:Int} (hk:isPart k=true):hasB s k=tb s.toNat k.toNat:=by simp [hasB,hk,tb]
theorem arr_with (z:Int) {p:Nat} (hp:p<8):(arr8 (tb z.toNat)).setIfInBounds p (.bool true)=arr8 (tb (withS z (p:Int)).toNat):=by
 rw [arr8_put _ hp]
 refine arr8_congr fun j hj=>?_
 rw [← hasB_nat (withS z (p:Int)) hj,has_with,← hasB_nat z hj]
 have h1:isPart (p:Int)=true:=isPart_iff.2 ⟨by omega,by omega⟩
 rw [h1]
 by_cases e:j=p
 ·subst e;simp
 ·have:¬ ((j:Int)=(p:Int)):=by omega
  simp [e,this]
theorem arr_without {z:Int} (hz:isSet z=true) {p:Nat} (hp:p<8):(arr8 (tb z.toNat)).setIfInBounds p (.bool false)=arr8 (tb (withoutS z (p:Int)).toNat):=by
 rw [arr8_put _ hp]
 refine arr8_congr fun j hj=>?_
 rw [← hasB_nat (withoutS z (p:Int)) hj,has_without hz,← hasB_nat z hj]
 by_cases e:j=p
 ·subst e;simp
 ·have:¬ ((j:Int)=(p:Int)):=by omega
  simp [e,this]
theorem rAct_gone (all z:Int) (a:BAct):rAct all (tb z.toNat) a=if actErr all a≠0 then actErr all a else if goneErr z a then 7 else 0:=by
 by_cases h:actErr all a=0
 ·unfold rAct
  obtain ⟨kind,part,src,n⟩:=a
  rcases kinds_of_ok h with rfl | rfl | rfl | rfl | rfl | rfl | rfl
  ·simp [h,goneErr,isFrom,isOwn]
  ·have:isPart src=true:=by
    cases q:isPart src with
    | true=>rfl
    | false=>simp [actErr,isFrom,isOwn,isWrite,q] at h
   simp [h,goneErr,isFrom,isOwn,hasB_part this]
  ·have h1:isPart src=true:=by
    cases q:isPart src with
    | true=>rfl
    | false=>simp [actErr,isFrom,isOwn,isWrite,q] at h
   have h2:isPart part=true:=by
    cases q:isPart part with
    | true=>rfl
    | false=>simp [actErr,isFrom,isOwn,isWrite,q] at h
   simp [h,goneErr,isFrom,isOwn,hasB_part h1,hasB_part h2]
  ·have h2:isPart part=true:=by
    cases q:isPart part with
    | true=>rfl
    | false=>simp [actErr,isFrom,isOwn,isWrite,q] at h
   simp [h,goneErr,isFrom,isOwn,hasB_part h2]
  ·simp [h,goneErr,isFrom,isOwn]
  ·simp [h,goneErr,isFrom,isOwn]
  ·simp [h,goneErr,isFrom,isOwn]
 ·rw [rAct,if_pos h,if_pos h]
theorem wrongFrom_r (all z:Int) (k:Nat) (a:BAct) (l:List BAct) :
  wrongFrom all z k (a::l)=if rAct all (tb z.toNat) a≠0 then (rAct all (tb z.toNat) a,(k:Int)) else wrongFrom all (goneNext z a) (k+1) l:=by
 rw [rAct_gone]
 by_cases h:actErr all a=0
 ·cases g:goneErr z a<;>simp [wrongFrom,h,g]
 ·simp [wrongFrom,h]
theorem act_of_r {all z:Int} {a:BAct} (h:rAct all (tb z.toNat) a=0):actErr all a=0:=by
 rw [rAct_gone] at h
 by_cases h':actErr all a=0
 ·exact h'
 ·rw [if_pos h'] at h;exact absurd h h'
theorem part_of_ok {all kind part src n:Int} (h:actErr all ⟨kind,part,src,n⟩=0) (hk:kind≠6∧kind≠7):isPart part=true:=by
 cases q:isPart part with
 | true=>rfl
 | false=>
  by_cases hw:isWrite kind=true
  ·simp [actErr,hw,q,hk.1,hk.2] at h
  ·simp [actErr,hw,hk.1,hk.2] at h
theorem rwrong_any (s:BSys) (A:Option Addr) (c:Nat) (w:World) (hA:RdA w A s.acts) :
  Calls Tryz.prog 72 #[.agg #[.int .i64 s.mod,.int .i64 s.all,.int .i64 s.non,.slice A s.acts.length c]] w fun e w'=>
   e=.returned (.agg #[.int .i64 (sysWrong s).1,.int .i64 (sysWrong s).2])∧Below w.heap.size w w':=by
 obtain ⟨mod,all,non,acts⟩:=s
 simp only at hA ⊢
 by_cases hh:sysHead ⟨mod,all,non,acts⟩=true
 ·have hh':=hh
  simp only [sysHead,Bool.and_eq_true,decide_eq_true_eq] at hh'
  obtain ⟨⟨⟨m0,m1⟩,hall⟩,hnon⟩:=hh'
  by_cases hl:8<acts.length
  ·have hr:sysWrong ⟨mod,all,non,acts⟩=(4,0):=by simp [sysWrong,hh,hl]
   rw [hr]
   clear hh hr
   go_enter Tryz.func72,Tryz.ntmps72
   go_wp2_with (go_at_call 110;refine (rset_any _ _).mono ?_;rintro e w' ⟨rfl,rfl⟩)
   refine bodyPost_ret (v:=.agg #[.int .i64 4,.int .i64 0]) (by simp [results,Tryz.results72,go_sem]) rfl ⟨rfl,?_⟩
   exact ((Below.refl _ _).alloc (Nat.le_refl _) _).alloc (by simp) _
  ·have hr:sysWrong ⟨mod,all,non,acts⟩=wrongFrom all 0 0 acts:=by simp [sysWrong,hh,hl]
   rw [hr]
   clear hh hr
   go_enter Tryz.func72,Tryz.ntmps72
   go_wp2_with (go_at_call 110;refine (rset_any _ _).mono ?_;rintro e w' ⟨rfl,rfl⟩)
   have B0:=(((Blk.new w 29 #[.int .i64 mod,.int .i64 all,.int .i64 non,.slice A acts.length c]).alloc (.cells #[.int .i64 0,.int .i64 0] 48))).alloc (.cells #[.bool false,.bool false,.bool false,.bool false,.bool false,.bool false,.bool false,.bool false] 174)
   have F0:=(Blk.new (w.alloc (.cells #[.int .i64 mod,.int .i64 all,.int .i64 non,.slice A acts.length c] 29)) 48 #[.int .i64 0,.int .i64 0]).alloc (.cells #[.bool false,.bool false,.bool false,.bool false,.bool false,.bool false,.bool false,.bool false] 174)
   have G0:=Blk.new ((w.alloc (.cells #[.int .i64 mod,.int .i64 all,.int .i64 non,.slice A acts.length c] 29)).alloc (.cells #[.int .i64 0,.int .i64 0] 48)) 174 #[.bool false,.bool false,.bool false,.bool false,.bool false,.bool false,.bool false,.bool false]
   simp only [World.size_alloc] at F0 G0
   go_loopw [38] (fun i wr=>∃ (k:Nat) (z:Int),k≤acts.length∧i=.int .i64 k∧isSet z=true∧Hid (wrongFrom all 0 0 acts=wrongFrom all z k (acts.drop k)) ∧
     Below w.heap.size w wr∧RdAB wr w.heap.size A acts∧Blk wr w.heap.size 29 #[.int .i64 mod,.int .i64 all,.int .i64 non,.slice A acts.length c]∧Blk wr (w.heap.size+1) 48 #[.int .i64 0,.int .i64 0]∧Blk wr (w.heap.size+1+1) 174 (arr8 (tb z.toNat))) (fun i _=>acts.length-(intOf i).toNat)
   case atStart=>
    refine ⟨0,0,Nat.zero_le _,rfl,by decide,Lib.hid (by simp),(((Below.refl _ _).alloc (Nat.le_refl _) _).alloc (by simp) _).alloc (by simp;omega) _,Rd.alloc (Rd.alloc (Rd.alloc hA (Nat.le_refl _) _) (by simp) _) (by simp;omega) _,B0,F0,?_⟩
    have:arr8 (tb (0:Int).toNat)=#[.bool false,.bool false,.bool false,.bool false,.bool false,.bool false,.bool false,.bool false]:=by simp [arr8,tb]
    rw [this]
    exact G0
   case round=>
    clear B0 F0 G0 hA
    obtain ⟨k,z,hk,rfl,hz,heq,hbel,hA,HB,HF,HG⟩:=hrel
    have s1:=HB.lt;have s2:=HF.lt;have s3:=HG.lt
    have hbs:w.heap.size≤wr.heap.size:=hbel.size
    by_cases hlt:k<acts.length
    ·obtain ⟨b,off,rfl,hb,ha⟩:=hA.at_ hlt
     have i0:(0:Int)≤(k:Int):=by omega
     have i1:(k:Int)<(acts.length:Int):=by omega
     have hst:=Lib.hid (drop_cons hlt)
     obtain ⟨hc0,hc1,hc2,hc3⟩:=ha
     generalize acts[k]=a at *
     obtain ⟨kind,part,src,n⟩:=a
     simp only at hc0 hc1 hc2 hc3
     have e0:=HB.cell 0;have e1:=HB.cell 1;have e2:=HB.cell 2;have e3:=HB.cell 3
     have g0:=HG.cell 0;have g1:=HG.cell 1;have g2:=HG.cell 2;have g3:=HG.cell 3;have g4:=HG.cell 4;have g5:=HG.cell 5;have g6:=HG.cell 6;have g7:=HG.cell 7
     rw [arr8_get _ (by omega)] at g0 g1 g2 g3 g4 g5 g6 g7
     simp at e0 e1 e2 e3
     go_wp2_with fail
     refine (rAct_any all non hall ⟨kind,part,src,n⟩ (tb z.toNat) _).mono ?_
     rintro e w1 ⟨rfl,hb1⟩
     have HA:=(Blk.new wr 35 #[.int .i64 kind,.int .i64 part,.int .i64 src,.int .i64 n]).below hb1 (by simp)
     replace HB:=(HB.alloc (.cells #[.int .i64 kind,.int .i64 part,.int .i64 src,.int .i64 n] 35)).below hb1 (by simp;omega)
     replace HF:=(HF.alloc (.cells #[.int .i64 kind,.int .i64 part,.int .i64 src,.int .i64 n] 35)).below hb1 (by simp;omega)
     replace HG:=(HG.alloc (.cells #[.int .i64 kind,.int .i64 part,.int .i64 src,.int .i64 n] 35)).below hb1 (by simp;omega)
     replace hA:=(Rd.alloc hA hbs (.cells #[.int .i64 kind,.int .i64 part,.int .i64 src,.int .i64 n] 35)).under hb1 (by simp;omega)
     replace hbel:=(hbel.alloc hbs (.cells #[.int .i64 kind,.int .i64 part,.int .i64 src,.int .i64 n] 35)).trans (hb1.mono (by simp;omega))
     have hw1:=HA.lt
     clear hb1 hc0 hc1 hc2 hc3 g0 g1 g2 g3 g4 g5 g6 g7 e0 e1 e2 e3
     have f0:=HF.cell 0;have f1:=HF.cell 1;have z0:=HF.frozen 0;have z1:=HF.frozen 1
     simp at f0 f1
     cases hx:(decide (rAct all (tb z.toNat) ⟨kind,part,src,n⟩=0)) with
     | false=>
      have hx1:=of_decide_eq_false hx
      have hx':(rAct all (tb z.toNat) ⟨kind,part,src,n⟩ != 0)=true:=by simpa using hx1
      have hx2:=Lib.hid hx1
      clear hx hx1
      go_wp2_with fail
      refine bodyPost_ret (v:=.agg #[.int .i64 (rAct all (tb z.toNat) ⟨kind,part,src,n⟩),.int .i64 (k:Int)]) (by simp [results,Tryz.results72,go_sem,f0,f1,z0,z1]) rfl ⟨?_,?_⟩
      ·rw [heq.out,hst.out,wrongFrom_r,if_pos hx2.out]
      ·exact (hbel.setCell (by simp) _).setCell (by simp) _
     | true=>
      have hx1:=of_decide_eq_true hx
      have hx':(rAct all (tb z.toNat) ⟨kind,part,src,n⟩ != 0)=false:=by simpa using hx1
      have hok:=act_of_r hx1
      have hkinds:=kinds_of_ok hok
      have hpart:=part_of_ok hok
      have hnext:Hid (wrongFrom all 0 0 acts=wrongFrom all (goneNext z ⟨kind,part,src,n⟩) (k+1) (acts.drop (k+1))):=Lib.hid (by rw [heq.out,hst.out,wrongFrom_r,if_neg (by simpa using hx1)])
      have hgset:isSet (goneNext z ⟨kind,part,src,n⟩)=true:=by
       unfold goneNext
       split
       ·exact Brood.with_set hz
       ·split
        ·exact without_set hz
        ·exact hz
      clear hx hx1 hok
      have hxx:=Lib.hid hx'
      have a0:=HA.cell 0;have a1:=HA.cell 1
      simp at a0 a1
      rcases hkinds with rfl | rfl | rfl | rfl | rfl | rfl | rfl
      ·obtain ⟨p0,p1⟩:=isPart_iff.1 (hpart (by decide))
       obtain ⟨p,rfl⟩:=nat_of p0
       have hp8:p<8:=by omega
       have gz:=HG.frozen p
       have gc:=HG.cell p
       rw [arr8_get _ hp8] at gc
       go_wp2_with fail
       go_roundw
       case rel=>exact ⟨k+1,_,by omega,by go_num,hgset,hnext,hbel.setCell (by simp;omega) _,Rd.setCell hA (by simp;omega) _,HB.far (by simp;omega) _,HF.far (by simp) _,by have h:=HG.set_ p (.bool false);rw [arr_without hz hp8] at h;exact h⟩
       case measure=>simp [intOf];omega
      ·obtain ⟨p0,p1⟩:=isPart_iff.1 (hpart (by decide))
       obtain ⟨p,rfl⟩:=nat_of p0
       have hp8:p<8:=by omega
       have gz:=HG.frozen p
       have gc:=HG.cell p
       rw [arr8_get _ hp8] at gc
       go_wp2_with fail
       go_roundw
       case rel=>exact ⟨k+1,_,by omega,by go_num,hgset,hnext,hbel.setCell (by simp;omega) _,Rd.setCell hA (by simp;omega) _,HB.far (by simp;omega) _,HF.far (by simp) _,by have h:=HG.set_ p (.bool false);rw [arr_without hz hp8] at h;exact h⟩
       case measure=>simp [intOf];omega
      ·go_wp2_with fail
       go_roundw
       case rel=>exact ⟨k+1,_,by omega,by go_num,hgset,hnext,hbel,hA,HB,HF,HG⟩
       case measure=>simp [intOf];omega
      ·go_wp2_with fail
       go_roundw
       case rel=>exact ⟨k+1,_,by omega,by go_num,hgset,hnext,hbel,hA,HB,HF,HG⟩
       case measure=>simp [intOf];omega
      ·obtain ⟨p0,p1⟩:=isPart_iff.1 (hpart (by decide))
       obtain ⟨p,rfl⟩:=nat_of p0
       have hp8:p<8:=by omega
       have gz:=HG.frozen p
       have gc:=HG.cell p
       rw [arr8_get _ hp8] at gc
       go_wp2_with fail
       go_roundw
       case rel=>exact ⟨k+1,_,by omega,by go_num,hgset,hnext,hbel.setCell (by simp;omega) _,Rd.setCell hA (by simp;omega) _,HB.far (by simp;omega) _,HF.far (by simp) _,by have h:=HG.set_ p (.bool true);rw [arr_with z hp8] at h;exact h⟩
       case measure=>simp [intOf];omega
      ·go_wp2_with fail
       go_roundw
       case rel=>exact ⟨k+1,_,by omega,by go_num,hgset,hnext,hbel,hA,HB,HF,HG⟩
       case measure=>simp [intOf];omega
      ·go_wp2_with fail
       go_roundw
       case rel=>exact ⟨k+1,_,by omega,by go_num,hgset,hnext,hbel,hA,HB,HF,HG⟩
       case measure=>simp [intOf];omega
    ·obtain rfl:k=acts.length:=by omega
     have f0:=HF.cell 0;have f1:=HF.cell 1;have z0:=HF.frozen 0;have z1:=HF.frozen 1
     simp at f0 f1
     go_wp2_with fail
     refine bodyPost_ret (v:=.agg #[.int .i64 0,.int .i64 0]) (by simp [results,Tryz.results72,go_sem,f0,f1,z0,z1]) rfl ⟨?_,?_⟩
     ·rw [heq.out]
      simp [wrongFrom]
     ·exact (hbel.setCell (by simp) _).setCell (by simp) _
 ·have hr:sysWrong ⟨mod,all,non,acts⟩=(3,0):=by simp [sysWrong,hh]
  rw [hr]
  have hcase:mod<0∨5<mod∨((0≤mod∧mod≤5)∧isSet all=false)∨((0≤mod∧mod≤5)∧isSet all=true∧isSet non=false):=by
   by_cases h1:mod<0
   ·exact .inl h1
   by_cases h2:5<mod
   ·exact .inr (.inl h2)
   have h3:0≤mod∧mod≤5:=by omega
   cases qa:isSet all with
   | false=>exact .inr (.inr (.inl ⟨h3,rfl⟩))
   | true=>
    cases qn:isSet non with
    | false=>exact .inr (.inr (.inr ⟨h3,rfl,rfl⟩))
    | true=>
     have h4:mod<6:=by omega
     exact absurd (by simp [sysHead,h3.1,h4,qa,qn]) hh
  clear hh hr
  rcases hcase with h | h | ⟨⟨h,h'⟩,q⟩ | ⟨⟨h,h'⟩,q,q'⟩
  all_goals (
   go_enter Tryz.func72,Tryz.ntmps72
   go_wp2_with (go_at_call 110;refine (rset_any _ _).mono ?_;rintro e w' ⟨rfl,rfl⟩)
   refine bodyPost_ret (v:=.agg #[.int .i64 3,.int .i64 0]) (by simp [results,Tryz.results72,go_sem]) rfl ⟨rfl,?_⟩
   exact ((Below.refl _ _).alloc (Nat.le_refl _) _).alloc (by simp) _)
end Go.Proofs.YtefdblaolmckmabGreat
