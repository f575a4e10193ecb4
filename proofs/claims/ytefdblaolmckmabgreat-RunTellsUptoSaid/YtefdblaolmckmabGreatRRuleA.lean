/- Lemmas of the proof. -/
import Derived.Deep.LoopGhost
import Derived.Test.YtefdblaolmckmabGreatRRuleW
set_option linter.unusedVariables false
set_option linter.unusedSimpArgs false
set_option maxRecDepth 100000
set_option maxHeartbeats 12800000
namespace Go.Proofs.YtefdblaolmckmabGreat
open Go.RowKit
open Brood
theorem err_eq {x y:Int} (h:x=y):Ending.returned (.int .i64 x)=.returned (.int .i64 y):=by rw [h]
theorem act_any (all non:Int) (a:BAct) (hall:isSet all=true) (b o:Nat) (w:World) (hb:b<w.heap.size) (hc:ActAt w b o a) :
  Calls Tryz.prog 106 #[.agg #[.int .i64 all,.int .i64 non],.pointer (some ⟨b,o,none⟩)] w fun e w'=>e=.returned (.int .i64 (actErr all a))∧Below w.heap.size w w':=by
 obtain ⟨kind,part,src,n⟩:=a
 obtain ⟨c0,c1,c2,c3⟩:=hc
 simp only at c0 c1 c2 c3
 by_cases h:kind=1∨kind=2∨kind=3∨kind=4∨kind=5∨kind=6∨kind=7
 ·rcases h with rfl | rfl | rfl | rfl | rfl | rfl | rfl
  ·cases q0:isPart part with
   | false=>
    refine (act_1_0 all non part src n hall b o w hb c0 c1 c2 c3 q0).mono ?_
    rintro e w' ⟨rfl,hq⟩
    exact ⟨err_eq (by simp [actErr,isFrom,isOwn,isWrite,q0]),hq⟩
   | true=>
    cases q1:isVal n with
    | false=>
     refine (act_1_1 all non part src n hall b o w hb c0 c1 c2 c3 q0 q1).mono ?_
     rintro e w' ⟨rfl,hq⟩
     exact ⟨err_eq (by simp [actErr,isFrom,isOwn,isWrite,q0,q1]),hq⟩
    | true=>
     refine (act_1_2 all non part src n hall b o w hb c0 c1 c2 c3 q0 q1).mono ?_
     rintro e w' ⟨rfl,hq⟩
     exact ⟨err_eq (by simp [actErr,isFrom,isOwn,isWrite,q0,q1]),hq⟩
  ·cases q0:isPart part with
   | false=>
    refine (act_2_0 all non part src n hall b o w hb c0 c1 c2 c3 q0).mono ?_
    rintro e w' ⟨rfl,hq⟩
    exact ⟨err_eq (by simp [actErr,isFrom,isOwn,isWrite,q0]),hq⟩
   | true=>
    cases q1:isPart src with
    | false=>
     refine (act_2_1 all non part src n hall b o w hb c0 c1 c2 c3 q0 q1).mono ?_
     rintro e w' ⟨rfl,hq⟩
     exact ⟨err_eq (by simp [actErr,isFrom,isOwn,isWrite,q0,q1]),hq⟩
    | true=>
     cases q2:hasB all src with
     | false=>
      refine (act_2_2 all non part src n hall b o w hb c0 c1 c2 c3 q0 q1 q2).mono ?_
      rintro e w' ⟨rfl,hq⟩
      exact ⟨err_eq (by simp [actErr,isFrom,isOwn,isWrite,q0,q1,q2]),hq⟩
     | true=>
      refine (act_2_3 all non part src n hall b o w hb c0 c1 c2 c3 q0 q1 q2).mono ?_
      rintro e w' ⟨rfl,hq⟩
      exact ⟨err_eq (by simp [actErr,isFrom,isOwn,isWrite,q0,q1,q2]),hq⟩
  ·cases q0:isPart part with
   | false=>
    refine (act_3_0 all non part src n hall b o w hb c0 c1 c2 c3 q0).mono ?_
    rintro e w' ⟨rfl,hq⟩
    exact ⟨err_eq (by simp [actErr,isFrom,isOwn,isWrite,q0]),hq⟩
   | true=>
    cases q1:isPart src with
    | false=>
     refine (act_3_1 all non part src n hall b o w hb c0 c1 c2 c3 q0 q1).mono ?_
     rintro e w' ⟨rfl,hq⟩
     exact ⟨err_eq (by simp [actErr,isFrom,isOwn,isWrite,q0,q1]),hq⟩
    | true=>
     cases q2:hasB all src with
     | false=>
      refine (act_3_2 all non part src n hall b o w hb c0 c1 c2 c3 q0 q1 q2).mono ?_
      rintro e w' ⟨rfl,hq⟩
      exact ⟨err_eq (by simp [actErr,isFrom,isOwn,isWrite,q0,q1,q2]),hq⟩
     | true=>
      cases q3:hasB all part with
      | false=>
       refine (act_3_3 all non part src n hall b o w hb c0 c1 c2 c3 q0 q1 q2 q3).mono ?_
       rintro e w' ⟨rfl,hq⟩
       exact ⟨err_eq (by simp [actErr,isFrom,isOwn,isWrite,q0,q1,q2,q3]),hq⟩
      | true=>
       refine (act_3_4 all non part src n hall b o w hb c0 c1 c2 c3 q0 q1 q2 q3).mono ?_
       rintro e w' ⟨rfl,hq⟩
       exact ⟨err_eq (by simp [actErr,isFrom,isOwn,isWrite,q0,q1,q2,q3]),hq⟩
  ·cases q0:isPart part with
   | false=>
    refine (act_4_0 all non part src n hall b o w hb c0 c1 c2 c3 q0).mono ?_
    rintro e w' ⟨rfl,hq⟩
    exact ⟨err_eq (by simp [actErr,isFrom,isOwn,isWrite,q0]),hq⟩
   | true=>
    cases q1:isVal n with
    | false=>
     refine (act_4_1 all non part src n hall b o w hb c0 c1 c2 c3 q0 q1).mono ?_
     rintro e w' ⟨rfl,hq⟩
     exact ⟨err_eq (by simp [actErr,isFrom,isOwn,isWrite,q0,q1]),hq⟩
    | true=>
     cases q2:hasB all part with
     | false=>
      refine (act_4_2 all non part src n hall b o w hb c0 c1 c2 c3 q0 q1 q2).mono ?_
      rintro e w' ⟨rfl,hq⟩
      exact ⟨err_eq (by simp [actErr,isFrom,isOwn,isWrite,q0,q1,q2]),hq⟩
     | true=>
      refine (act_4_3 all non part src n hall b o w hb c0 c1 c2 c3 q0 q1 q2).mono ?_
      rintro e w' ⟨rfl,hq⟩
      exact ⟨err_eq (by simp [actErr,isFrom,isOwn,isWrite,q0,q1,q2]),hq⟩
  ·cases q0:isPart part with
   | false=>
    refine (act_5_0 all non part src n hall b o w hb c0 c1 c2 c3 q0).mono ?_
    rintro e w' ⟨rfl,hq⟩
    exact ⟨err_eq (by simp [actErr,isFrom,isOwn,isWrite,q0]),hq⟩
   | true=>
    refine (act_5_1 all non part src n hall b o w hb c0 c1 c2 c3 q0).mono ?_
    rintro e w' ⟨rfl,hq⟩
    exact ⟨err_eq (by simp [actErr,isFrom,isOwn,isWrite,q0]),hq⟩
  ·refine (act_6_0 all non part src n hall b o w hb c0 c1 c2 c3 ).mono ?_
   rintro e w' ⟨rfl,hq⟩
   exact ⟨err_eq (by simp [actErr,isFrom,isOwn,isWrite]),hq⟩
  ·cases q0:isSet part with
   | false=>
    refine (act_7_0 all non part src n hall b o w hb c0 c1 c2 c3 q0).mono ?_
    rintro e w' ⟨rfl,hq⟩
    exact ⟨err_eq (by simp [actErr,isFrom,isOwn,isWrite,q0]),hq⟩
   | true=>
    cases q1:isVal n with
    | false=>
     refine (act_7_1 all non part src n hall b o w hb c0 c1 c2 c3 q0 q1).mono ?_
     rintro e w' ⟨rfl,hq⟩
     exact ⟨err_eq (by simp [actErr,isFrom,isOwn,isWrite,q0,q1]),hq⟩
    | true=>
     refine (act_7_2 all non part src n hall b o w hb c0 c1 c2 c3 q0 q1).mono ?_
     rintro e w' ⟨rfl,hq⟩
     exact ⟨err_eq (by simp [actErr,isFrom,isOwn,isWrite,q0,q1]),hq⟩
 ·have hk:kind≠1∧kind≠2∧kind≠3∧kind≠4∧kind≠5∧kind≠6∧kind≠7:=by
   simp only [not_or] at h
   exact h
  refine (act_other all non kind part src n hall b o w hb c0 c1 c2 c3 hk).mono ?_
  rintro e w' ⟨rfl,hq⟩
  refine ⟨err_eq ?_,hq⟩
  have hw:isWrite kind=false:=by simp [isWrite];omega
  simp [actErr,hk.2.2.2.2.2.1,hk.2.2.2.2.2.2,hw]
theorem flat_get {α:Type} {f:α→List Value} {m:Nat} (hf:∀ x,(f x).length=m):∀ (l:List α) (k:Nat) (hk:k<l.length) (j:Nat),j<m→(l.flatMap f)[k*m+j]?=(f l[k])[j]?:=by
 intro l
 induction l with
 | nil=>intro k hk;simp at hk
 | cons x l ih=>
  intro k hk j hj
  rw [List.flatMap_cons]
  cases k with
  | zero=>
   rw [List.getElem?_append_left (by rw [hf];omega)]
   simp
  | succ k=>
   have e:(k+1)*m=m+k*m:=by rw [Nat.succ_mul,Nat.add_comm]
   rw [List.getElem?_append_right (by rw [hf,e];omega),hf,e]
   have e2:m+k*m+j-m=k*m+j:=by omega
   rw [e2,ih k (by simpa using hk) j hj]
   simp
theorem flat_length {α:Type} {f:α→List Value} {m:Nat} (hf:∀ x,(f x).length=m) (l:List α):(l.flatMap f).length=l.length*m:=by
 induction l with
 | nil=>simp
 | cons x l ih=>rw [List.flatMap_cons,List.length_append,hf,ih,List.length_cons,Nat.succ_mul];omega
def actCells (a:BAct):List Value:=[.int .i64 a.kind,.int .i64 a.part,.int .i64 a.src,.int .i64 a.n]
def RdAB (w:World) (B:Nat) (A:Option Addr) (l:List BAct):Prop:=Rd w B 4 A l.length (l.flatMap actCells)
theorem RdAB.at_ {w:World} {B:Nat} {A:Option Addr} {l:List BAct} (h:RdAB w B A l) {k:Nat} (hk:k<l.length) :
  ∃ b off,A=some ⟨b,off,none⟩∧b<B∧ActAt w b (off+k*4) l[k]:=by
 obtain ⟨b,off,e,hb,hc⟩:=h.2 (by omega)
 have hf:∀ x,(actCells x).length=4:=fun _=>rfl
 refine ⟨b,off,e,hb,?_,?_,?_,?_⟩
 ·have:=hc (k*4+0) _ (flat_get hf l k hk 0 (by omega));simpa using this
 ·have:=hc (k*4+1) _ (flat_get hf l k hk 1 (by omega));simpa [Nat.add_assoc] using this
 ·have:=hc (k*4+2) _ (flat_get hf l k hk 2 (by omega));simpa [Nat.add_assoc] using this
 ·have:=hc (k*4+3) _ (flat_get hf l k hk 3 (by omega));simpa [Nat.add_assoc] using this
def RdA (w:World) (A:Option Addr) (l:List BAct):Prop:=RdAB w w.heap.size A l
theorem RdA.at_ {w:World} {A:Option Addr} {l:List BAct} (h:RdA w A l) {k:Nat} (hk:k<l.length) :
  ∃ b off,A=some ⟨b,off,none⟩∧b<w.heap.size∧ActAt w b (off+k*4) l[k]:=RdAB.at_ h hk
theorem RdA.grow {w w':World} {A:Option Addr} {l:List BAct} (h:RdA w A l) (hb:Below w.heap.size w w'):RdA w' A l:=Rd.grow h hb
theorem RdA.drew {w:World} {A:Option Addr} {l:List BAct} (h:RdA w A l):RdA w.drew A l:=h
theorem ActAt.below {w w':World} {b o:Nat} {a:BAct} (h:ActAt w b o a) {B:Nat} (hb:Below B w w') (hB:b<B):ActAt w' b o a:=
 ⟨(hb.cell hB).trans h.1,(hb.cell hB).trans h.2.1,(hb.cell hB).trans h.2.2.1,(hb.cell hB).trans h.2.2.2⟩
theorem wrongFrom_ok {all g:Int} {i:Nat} {a:BAct} {l:List BAct} (h1:actErr all a=0) (h2:goneErr g a=false) :
  wrongFrom all g i (a::l)=wrongFrom all (goneNext g a) (i+1) l:=by
 simp [wrongFrom,h1,h2]
theorem drop_cons {α:Type} {l:List α} {k:Nat} (h:k<l.length):l.drop k=l[k]::l.drop (k+1):=List.drop_eq_getElem_cons h
theorem kinds_of_ok {all kind part src n:Int} (h:actErr all ⟨kind,part,src,n⟩=0):kind=1∨kind=2∨kind=3∨kind=4∨kind=5∨kind=6∨kind=7:=by
 by_cases h6:kind=6
 ·omega
 by_cases h7:kind=7
 ·omega
 by_cases hw:isWrite kind=true
 ·simp [isWrite] at hw;omega
 ·simp [actErr,h6,h7,hw] at h
theorem wrong_any (s:BSys) (A:Option Addr) (c:Nat) (w:World) (hA:RdA w A s.acts) :
  Calls Tryz.prog 70 #[.agg #[.int .i64 s.mod,.int .i64 s.all,.int .i64 s.non,.slice A s.acts.length c]] w fun e w'=>
   e=.returned (.agg #[.int .i64 (sysWrong s).1,.int .i64 (sysWrong s).2])∧Below w.heap.size w w':=by
 obtain ⟨mod,all,non,acts⟩:=s
 simp only at hA ⊢
 by_cases hh:sysHead ⟨mod,all,non,acts⟩=true
 ·have hh':=hh
  simp only [sysHead,Bool.and_eq_true,decide_eq_true_eq] at hh'
  obtain ⟨⟨⟨m0,m1⟩,hall⟩,hnon⟩:=hh'
  by_cases hl:8<acts.length
  ·have hr:sysWrong ⟨mod,all,non,acts⟩=(4,0):=by simp [sysWrong,hh,hl]
   rw [hr]
   clear hh hr
   go_enter Tryz.func70,Tryz.ntmps70
   go_wp2_with (go_at_call 43;refine (set_any _ _).mono ?_;rintro e w' ⟨rfl,rfl⟩)
   refine bodyPost_ret (v:=.agg #[.int .i64 4,.int .i64 0]) (by simp [results,Tryz.results70,go_sem]) rfl ⟨rfl,?_⟩
   exact ((Below.refl _ _).alloc (Nat.le_refl _) _).alloc (by simp) _
  ·have hr:sysWrong ⟨mod,all,non,acts⟩=wrongFrom all 0 0 acts:=by simp [sysWrong,hh,hl]
   rw [hr]
   clear hh hr
   go_enter Tryz.func70,Tryz.ntmps70
   go_wp2_with (go_at_call 43;refine (set_any _ _).mono ?_;rintro e w' ⟨rfl,rfl⟩)
   have B0:=((Blk.new w 29 #[.int .i64 mod,.int .i64 all,.int .i64 non,.slice A acts.length c]).alloc (.cells #[.int .i64 0,.int .i64 0] 48))
   have F0:=Blk.new (w.alloc (.cells #[.int .i64 mod,.int .i64 all,.int .i64 non,.slice A acts.length c] 29)) 48 #[.int .i64 0,.int .i64 0]
   rw [show (w.alloc (.cells #[.int .i64 mod,.int .i64 all,.int .i64 non,.slice A acts.length c] 29)).heap.size=w.heap.size+1 from by simp] at F0
   go_loopw [3,40] (fun g i wr=>∃ (k:Nat) (z:Int),k≤acts.length∧i=.int .i64 k∧g=.int .i64 z∧isSet z=true∧Hid (wrongFrom all 0 0 acts=wrongFrom all z k (acts.drop k)) ∧
     Below w.heap.size w wr∧RdA wr A acts∧Blk wr w.heap.size 29 #[.int .i64 mod,.int .i64 all,.int .i64 non,.slice A acts.length c]∧Blk wr (w.heap.size+1) 48 #[.int .i64 0,.int .i64 0]) (fun _ i _=>acts.length-(intOf i).toNat)
   case atStart=>exact ⟨0,0,Nat.zero_le _,rfl,rfl,by decide,Lib.hid (by simp),((Below.refl _ _).alloc (Nat.le_refl _) _).alloc (by simp) _,Rd.alloc_ (Rd.alloc_ hA _) _,B0,F0⟩
   case round=>
    clear B0 F0 hA
    obtain ⟨k,z,hk,rfl,rfl,hz,heq,hbel,hA,HB,HF⟩:=hrel
    by_cases hlt:k<acts.length
    ·obtain ⟨b,off,rfl,hb,ha⟩:=hA.at_ hlt
     have i0:(0:Int)≤(k:Int):=by omega
     have i1:(k:Int)<(acts.length:Int):=by omega
     have hst:=Lib.hid (drop_cons hlt)
     replace HB:=HB.drew;replace HF:=HF.drew;replace hbel:=hbel.drew;replace ha:ActAt wr.drew b (off+k*4) acts[k]:=ha;replace hb:b<wr.drew.heap.size:=hb;replace hA:=hA.drew
     go_upto_region 9 with fail
     go_cut [5] (fun s5 wx=>s5=.int .i64 (actErr all acts[k])∧Below w.heap.size w wx∧b<wx.heap.size∧ActAt wx b (off+k*4) acts[k]∧RdA wx (some ⟨b,off,none⟩) acts∧Blk wx w.heap.size 29 #[.int .i64 mod,.int .i64 all,.int .i64 non,.slice (some ⟨b,off,none⟩) acts.length c]∧Blk wx (w.heap.size+1) 48 #[.int .i64 0,.int .i64 0])
     case first=>
      go_region_held3 (fun w'=>w'.cell? ⟨w.heap.size,0,none⟩=some (.int .i64 mod)∧w'.cell? ⟨w.heap.size,1,none⟩=some (.int .i64 all)∧w'.cell? ⟨w.heap.size,2,none⟩=some (.int .i64 non)∧w'.cell? ⟨w.heap.size,3,none⟩=some (.slice (some ⟨b,off,none⟩) acts.length c)) (exact ⟨HB.cell 0,HB.cell 1,HB.cell 2,HB.cell 3⟩)
       (first | (go_at_call 106;refine (act_any all non acts[k] hall b (off+k*4) _ hb ha).mono ?_;rintro e w1 ⟨rfl,hb1⟩;have HB:=HB.below hb1 HB.lt;have HF:=HF.below hb1 HF.lt;have hbel:=grow_below hbel hb1;have ha:=ha.below hb1 hb;have hA:=hA.grow hb1;have hb:=Nat.lt_of_lt_of_le hb hb1.size))
      go_wp2_with fail
      go_meet
      exact ⟨rfl,hbel,hb,ha,hA,HB,HF⟩
     case rest=>
      clear ha hb hA HB HF hbel
      obtain ⟨rfl,hbel,hb,ha,hA,HB,HF⟩:=hcut
      obtain ⟨hc0,hc1,hc2,hc3⟩:=ha
      have e0:=HB.cell 0;have e1:=HB.cell 1;have e2:=HB.cell 2;have e3:=HB.cell 3
      have f0:=HF.cell 0;have f1:=HF.cell 1;have z0:=HF.frozen 0;have z1:=HF.frozen 1
      simp at e0 e1 e2 e3 f0 f1
      generalize acts[k]=a at *
      obtain ⟨kind,part,src,n⟩:=a
      simp only at hc0 hc1 hc2 hc3
      cases hx:(decide (actErr all ⟨kind,part,src,n⟩=0)) with
      | false=>
       have hx1:=of_decide_eq_false hx
       have hx':(actErr all ⟨kind,part,src,n⟩ != 0)=true:=by simpa using hx1
       have hx2:=Lib.hid hx1
       clear hx hx1
       go_wp2_with fail
       refine bodyPost_ret (v:=.agg #[.int .i64 (actErr all ⟨kind,part,src,n⟩),.int .i64 (k:Int)]) (by simp [results,Tryz.results70,go_sem,f0,f1,z0,z1]) rfl ⟨?_,?_⟩
       ·rw [heq.out,hst.out]
        simp [wrongFrom,hx2.out]
       ·exact (hbel.setCell (by simp) _).setCell (by simp) _
      | true=>
       have hx2:=Lib.hid (of_decide_eq_true hx)
       have hx':(actErr all ⟨kind,part,src,n⟩ != 0)=false:=by simpa using of_decide_eq_true hx
       clear hx
       have hkinds:=kinds_of_ok hx2.out
       go_upto_region 13 with fail
       have hw0:∃ W:World,W=wc:=⟨_,rfl⟩
       go_cut [100] (fun s100 wx=>s100=.bool (goneErr z ⟨kind,part,src,n⟩)∧wc=wx)
       case first=>
        rcases hkinds with rfl | rfl | rfl | rfl | rfl | rfl | rfl
        ·go_wp2_with fail
         go_meet
         exact ⟨rfl,rfl⟩
        ·cases q:hasB z src
         all_goals (go_wp2_with (go_at_call 36;refine (has_any _ _ hz _).mono ?_;rintro e w' ⟨rfl,rfl⟩))
         all_goals (go_meet;exact ⟨by simp [goneErr,isFrom,isOwn,q],rfl⟩)
        ·cases q:hasB z src<;>cases q':hasB z part
         all_goals (go_wp2_with (go_at_call 36;refine (has_any _ _ hz _).mono ?_;rintro e w' ⟨rfl,rfl⟩))
         all_goals (go_meet;exact ⟨by simp [goneErr,isFrom,isOwn,q,q'],rfl⟩)
        ·cases q:hasB z part
         all_goals (go_wp2_with (go_at_call 36;refine (has_any _ _ hz _).mono ?_;rintro e w' ⟨rfl,rfl⟩))
         all_goals (go_meet;exact ⟨by simp [goneErr,isFrom,isOwn,q],rfl⟩)
        ·go_wp2_with fail
         go_meet
         exact ⟨rfl,rfl⟩
        ·go_wp2_with fail
         go_meet
         exact ⟨rfl,rfl⟩
        ·go_wp2_with fail
         go_meet
         exact ⟨rfl,rfl⟩
       case rest=>
        obtain ⟨rfl,rfl⟩:=hcut
        cases hg:goneErr z ⟨kind,part,src,n⟩ with
        | true=>
         go_wp2_with fail
         refine bodyPost_ret (v:=.agg #[.int .i64 7,.int .i64 (k:Int)]) (by simp [results,Tryz.results70,go_sem,f0,f1,z0,z1]) rfl ⟨?_,?_⟩
         ·rw [heq.out,hst.out]
          simp [wrongFrom,hx2.out,hg]
         ·exact (hbel.setCell (by simp) _).setCell (by simp) _
        | false=>
         have hnext:Hid (wrongFrom all 0 0 acts=wrongFrom all (goneNext z ⟨kind,part,src,n⟩) (k+1) (acts.drop (k+1))):=Lib.hid (by rw [heq.out,hst.out,wrongFrom_ok hx2.out hg])
         have hgset:isSet (goneNext z ⟨kind,part,src,n⟩)=true:=by
          unfold goneNext
          split
          ·exact with_set hz
          ·split
           ·exact without_set hz
           ·exact hz
         have hg':=Lib.hid hg
         have hxx:=Lib.hid hx'
         clear hg hx'
         rcases hkinds with rfl | rfl | rfl | rfl | rfl | rfl | rfl
         all_goals (go_wp2_with (first
          | (go_at_call 60;refine (with_any _ _ hz _).mono ?_;rintro e w' ⟨rfl,rfl⟩)
          | (go_at_call 63;refine (without_any _ _ hz _).mono ?_;rintro e w' ⟨rfl,rfl⟩)))
         all_goals go_roundw
         all_goals (try case rel=>exact ⟨k+1,_,by omega,by go_num,rfl,hgset,hnext,hbel,hA,HB,HF⟩)
         all_goals (try case measure=>simp [intOf];omega)
    ·obtain rfl:k=acts.length:=by omega
     have f0:=HF.cell 0;have f1:=HF.cell 1;have z0:=HF.frozen 0;have z1:=HF.frozen 1
     simp at f0 f1
     go_wp2_with fail
     refine bodyPost_ret (v:=.agg #[.int .i64 0,.int .i64 0]) (by simp [results,Tryz.results70,go_sem,f0,f1,z0,z1]) rfl ⟨?_,?_⟩
     ·rw [heq.out]
      simp [wrongFrom]
     ·exact (hbel.setCell (by simp) _).setCell (by simp) _
 ·have hr:sysWrong ⟨mod,all,non,acts⟩=(3,0):=by simp [sysWrong,hh]
  rw [hr]
  have hcase:mod<0∨6≤mod∨((0≤mod∧mod<6)∧isSet all=false)∨((0≤mod∧mod<6)∧isSet all=true∧isSet non=false):=by
   by_cases h1:mod<0
   ·exact .inl h1
   by_cases h2:6≤mod
   ·exact .inr (.inl h2)
   have h3:0≤mod∧mod<6:=by omega
   cases qa:isSet all with
   | false=>exact .inr (.inr (.inl ⟨h3,rfl⟩))
   | true=>
    cases qn:isSet non with
    | false=>exact .inr (.inr (.inr ⟨h3,rfl,rfl⟩))
    | true=>exact absurd (by simp [sysHead,h3.1,h3.2,qa,qn]) hh
  clear hh hr
  rcases hcase with h | h | ⟨⟨h,h'⟩,q⟩ | ⟨⟨h,h'⟩,q,q'⟩
  all_goals (
   go_enter Tryz.func70,Tryz.ntmps70
   go_wp2_with (go_at_call 43;refine (set_any _ _).mono ?_;rintro e w' ⟨rfl,rfl⟩)
   refine bodyPost_ret (v:=.agg #[.int .i64 3,.int .i64 0]) (by simp [results,Tryz.results70,go_sem]) rfl ⟨rfl,?_⟩
   exact ((Below.refl _ _).alloc (Nat.le_refl _) _).alloc (by simp) _)
end Go.Proofs.YtefdblaolmckmabGreat
