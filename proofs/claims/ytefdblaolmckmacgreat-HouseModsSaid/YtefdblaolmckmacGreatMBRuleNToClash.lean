/- Lemmas of the proof. -/
import Derived.Test.YtefdblaolmckmacGreatMRuleA
set_option linter.unusedVariables false
set_option linter.unusedSimpArgs false
set_option maxRecDepth 100000
set_option maxHeartbeats 12800000
namespace Go.Proofs.YtefdblaolmckmacGreat
open Go.RowKit
open Brood
theorem i64_or_nat (a b:Nat) (ha:a<9223372036854775808) (hb:b<9223372036854775808):bits .or .i64 (a:Int) (b:Int)=((a ||| b:Nat):Int):=by
 have ofInt_i64:∀ (a:Nat),a<9223372036854775808→(BitVec.ofInt 64 (a:Int)).toNat=a:=by
  intro a ha
  rw [BitVec.ofInt_natCast,BitVec.toNat_ofNat];exact Nat.mod_eq_of_lt (by omega)
 have hx:a ||| b<2 ^ 63:=Nat.or_lt_two_pow (by omega) (by omega)
 show IntKind.i64.wrap ((BitVec.ofInt 64 (a:Int) ||| BitVec.ofInt 64 (b:Int)).toNat:Int)=_
 rw [BitVec.toNat_or,ofInt_i64 a ha,ofInt_i64 b hb,IntKind.wrap_i64]
 omega
theorem bits_or_set {a b:Int} (ha:isSet a=true) (hb:isSet b=true):bits .or .i64 a b=orS a b:=by
 rw [isSet_iff] at ha hb
 obtain ⟨a,rfl⟩:=nat_of ha.1
 obtain ⟨b,rfl⟩:=nat_of hb.1
 rw [i64_or_nat a b (by omega) (by omega)]
 simp [orS]
theorem or_set {a b:Int} (ha:isSet a=true) (hb:isSet b=true):isSet (orS a b)=true:=by
 rw [isSet_iff] at *
 have h1:a.toNat<2 ^ 8:=by omega
 have h2:b.toNat<2 ^ 8:=by omega
 have:=Nat.or_lt_two_pow h1 h2
 unfold orS
 omega
def needV (n:BNeed):Value:=.agg #[.int .i64 n.reads,.int .i64 n.writes,.bool n.moves,.bool n.life]
theorem ok_part {all kind part src n:Int} (h:actErr all ⟨kind,part,src,n⟩=0) (hk:kind=7):isSet part=true:=by
 subst hk
 cases q:isSet part with
 | true=>rfl
 | false=>simp [actErr,q] at h
theorem wrong_acts {all:Int}:∀ (l:List BAct) (g:Int) (i:Nat),(wrongFrom all g i l).1=0→∀ a∈l,actErr all a=0:=by
 intro l
 induction l with
 | nil=>intro g i _ a ha;simp at ha
 | cons x l ih=>
  intro g i h a ha
  by_cases hx:actErr all x=0
  ·by_cases hg:goneErr g x=true
   ·simp [wrongFrom,hx,hg] at h
   ·have hg':goneErr g x=false:=by simpa using hg
    rw [wrongFrom_ok hx hg'] at h
    rcases List.mem_cons.1 ha with rfl | ha
    ·exact hx
    ·exact ih _ _ h a ha
  ·simp [wrongFrom,hx] at h
section
variable (all r v part src n:Int) (m l:Bool)
theorem needAct_1:needAct all ⟨r,v,m,l⟩ ⟨1,part,src,n⟩=⟨r,withS v part,m || !hasB all part,l⟩:=by simp [needAct,isOwn,isFrom]
theorem needAct_2:needAct all ⟨r,v,m,l⟩ ⟨2,part,src,n⟩=⟨withS r src,withS v part,m || !hasB all part,l⟩:=by simp [needAct,isOwn,isFrom]
theorem needAct_3:needAct all ⟨r,v,m,l⟩ ⟨3,part,src,n⟩=⟨withS (withS r src) part,withS v part,m || !hasB all part,l⟩:=by simp [needAct,isOwn,isFrom]
theorem needAct_4:needAct all ⟨r,v,m,l⟩ ⟨4,part,src,n⟩=⟨withS r part,withS v part,m || !hasB all part,l⟩:=by simp [needAct,isOwn,isFrom]
theorem needAct_5:needAct all ⟨r,v,m,l⟩ ⟨5,part,src,n⟩=⟨r,withS v part,true,l⟩:=by simp [needAct,isOwn,isFrom]
theorem needAct_6:needAct all ⟨r,v,m,l⟩ ⟨6,part,src,n⟩=⟨r,v,m,true⟩:=by simp [needAct,isOwn,isFrom]
theorem needAct_7:needAct all ⟨r,v,m,l⟩ ⟨7,part,src,n⟩=⟨r,orS v part,m,true⟩:=by simp [needAct,isOwn,isFrom]
end
theorem needs_any (mod all non:Int) (acts:List BAct) (hall:isSet all=true) (hok:∀ a∈acts,actErr all a=0) (hlen:acts.length≤1000000) (A:Option Addr) (c:Nat) (w:World) (hA:RdA w A acts) :
  Calls Tryz.prog 44 #[.agg #[.int .i64 mod,.int .i64 all,.int .i64 non,.slice A acts.length c]] w fun e w'=>
   e=.returned (needV (acts.foldl (needAct all) ⟨0,0,false,false⟩))∧Below w.heap.size w w':=by
 go_enter Tryz.func44,Tryz.ntmps44
 go_wp2_with fail
 have B0:=((Blk.new w 51 #[.int .i64 mod,.int .i64 all,.int .i64 non,.slice A acts.length c]).alloc (.cells #[.int .i64 0,.int .i64 0,.bool false,.bool false] 96)).alloc (.cells #[.int .i64 0,.int .i64 0,.bool false,.bool false] 96)
 have R0:=(Blk.new (w.alloc (.cells #[.int .i64 mod,.int .i64 all,.int .i64 non,.slice A acts.length c] 51)) 96 #[.int .i64 0,.int .i64 0,.bool false,.bool false]).alloc (.cells #[.int .i64 0,.int .i64 0,.bool false,.bool false] 96)
 have N0:=Blk.new ((w.alloc (.cells #[.int .i64 mod,.int .i64 all,.int .i64 non,.slice A acts.length c] 51)).alloc (.cells #[.int .i64 0,.int .i64 0,.bool false,.bool false] 96)) 96 #[.int .i64 0,.int .i64 0,.bool false,.bool false]
 simp only [World.size_alloc] at R0 N0
 go_loopw [9] (fun i wr=>∃ (k:Nat) (r v:Int) (m l:Bool),k≤acts.length∧i=.int .i64 k∧isSet r=true∧isSet v=true ∧
   Hid (acts.foldl (needAct all) ⟨0,0,false,false⟩=(acts.drop k).foldl (needAct all) ⟨r,v,m,l⟩) ∧
   Below w.heap.size w wr∧RdAB wr w.heap.size A acts∧Blk wr w.heap.size 51 #[.int .i64 mod,.int .i64 all,.int .i64 non,.slice A acts.length c] ∧
   Blk wr (w.heap.size+1) 96 #[.int .i64 0,.int .i64 0,.bool false,.bool false]∧Blk wr (w.heap.size+1+1) 96 #[.int .i64 r,.int .i64 v,.bool m,.bool l]) (fun i _=>acts.length-(intOf i).toNat)
 case atStart=>exact ⟨0,0,0,false,false,Nat.zero_le _,rfl,by decide,by decide,Lib.hid (by simp),(((Below.refl _ _).alloc (Nat.le_refl _) _).alloc (by simp) _).alloc (by simp;omega) _,Rd.alloc (Rd.alloc (Rd.alloc hA (Nat.le_refl _) _) (by simp) _) (by simp;omega) _,B0,R0,N0⟩
 case round=>
  clear B0 R0 N0 hA
  obtain ⟨k,r,v,m,l,hk,rfl,hr,hv,heq,hbel,hA,HB,HR,HN⟩:=hrel
  have e1:=HB.cell 1;have e3:=HB.cell 3
  have n0:=HN.cell 0;have n1:=HN.cell 1;have n2:=HN.cell 2;have n3:=HN.cell 3
  have s1:=HB.lt;have s2:=HR.lt;have s3:=HN.lt
  simp at e1 e3 n0 n1 n2 n3
  by_cases hlt:k<acts.length
  ·obtain ⟨b,off,rfl,hb,ha⟩:=hA.at_ hlt
   have x0:=HN.frozen 0;have x1:=HN.frozen 1;have x2:=HN.frozen 2;have x3:=HN.frozen 3
   have i0:(0:Int)≤(k:Int):=by omega
   have i1:(k:Int)<(acts.length:Int):=by omega
   have hst:=Lib.hid (drop_cons hlt)
   have hka:=hok acts[k] (List.getElem_mem hlt)
   obtain ⟨hc0,hc1,hc2,hc3⟩:=ha
   generalize acts[k]=a at *
   obtain ⟨kind,part,src,n⟩:=a
   simp only at hc0 hc1 hc2 hc3
   have hkinds:=kinds_of_ok hka
   have hsp:=ok_part hka
   have hka':=Lib.hid hka
   have hst2:Hid (acts.foldl (needAct all) ⟨0,0,false,false⟩=(acts.drop (k+1)).foldl (needAct all) (needAct all ⟨r,v,m,l⟩ ⟨kind,part,src,n⟩)):=Lib.hid (by rw [heq.out,hst.out];rfl)
   clear hka hst
   have hbs:w.heap.size≤wr.heap.size:=hbel.size
   have hbne:b≠w.heap.size+1+1:=by omega
   rcases hkinds with rfl | rfl | rfl | rfl | rfl | rfl | rfl
   ·have hst3:=hst2.out
    rw [needAct_1] at hst3
    have hst4:=Lib.hid hst3
    clear hst2 hst3
    clear hsp
    cases m
    ·go_wp2_with (first | (go_at_call_of 42 (Value.int IntKind.i64 v);refine (with_any _ _ hv _).mono ?_;rintro e w' ⟨rfl,rfl⟩) | (go_at_call 41;refine (has_any _ _ hall _).mono ?_;rintro e w' ⟨rfl,rfl⟩))
     go_roundw
     case rel=>
      refine ⟨k+1,_,_,_,_,by omega,by go_num,hr,with_set hv,hst4,(((hbel.setCell (by simp;omega) _).setCell (by simp;omega) _).alloc (by simp;omega) _),(Rd.alloc (Rd.setCell (Rd.setCell hA (by simp;omega) _) (by simp;omega) _) (by simp;omega) _),by exact ((HB.far (by simp;omega) _).far (by simp;omega) _).alloc _,by exact ((HR.far (by simp) _).far (by simp) _).alloc _,?_⟩
      have h:=((HN.set_ 1 (.int .i64 (withS v part))).set_ 2 (.bool (!hasB all part))).alloc (.cells #[.int .i64 1,.int .i64 part,.int .i64 src,.int .i64 n] 76)
      simpa using h
     case measure=>simp [intOf];omega
    ·go_wp2_with (first | (go_at_call_of 42 (Value.int IntKind.i64 v);refine (with_any _ _ hv _).mono ?_;rintro e w' ⟨rfl,rfl⟩) | (go_at_call 41;refine (has_any _ _ hall _).mono ?_;rintro e w' ⟨rfl,rfl⟩))
     go_roundw
     case rel=>
      refine ⟨k+1,_,_,_,_,by omega,by go_num,hr,with_set hv,hst4,(((hbel.setCell (by simp;omega) _).setCell (by simp;omega) _).alloc (by simp;omega) _),(Rd.alloc (Rd.setCell (Rd.setCell hA (by simp;omega) _) (by simp;omega) _) (by simp;omega) _),by exact ((HB.far (by simp;omega) _).far (by simp;omega) _).alloc _,by exact ((HR.far (by simp) _).far (by simp) _).alloc _,?_⟩
      have h:=((HN.set_ 1 (.int .i64 (withS v part))).set_ 2 (.bool true)).alloc (.cells #[.int .i64 1,.int .i64 part,.int .i64 src,.int .i64 n] 76)
      simpa using h
     case measure=>simp [intOf];omega
   ·have hst3:=hst2.out
    rw [needAct_2] at hst3
    have hst4:=Lib.hid hst3
    clear hst2 hst3
    clear hsp
    cases m
    ·go_wp2_with (first | (go_at_call_of 42 (Value.int IntKind.i64 r);refine (with_any _ _ hr _).mono ?_;rintro e w' ⟨rfl,rfl⟩) | (go_at_call_of 42 (Value.int IntKind.i64 v);refine (with_any _ _ hv _).mono ?_;rintro e w' ⟨rfl,rfl⟩) | (go_at_call 41;refine (has_any _ _ hall _).mono ?_;rintro e w' ⟨rfl,rfl⟩))
     go_roundw
     case rel=>
      refine ⟨k+1,_,_,_,_,by omega,by go_num,with_set hr,with_set hv,hst4,((((hbel.setCell (by simp;omega) _).setCell (by simp;omega) _).setCell (by simp;omega) _).alloc (by simp;omega) _),(Rd.alloc (Rd.setCell (Rd.setCell (Rd.setCell hA (by simp;omega) _) (by simp;omega) _) (by simp;omega) _) (by simp;omega) _),by exact (((HB.far (by simp;omega) _).far (by simp;omega) _).far (by simp;omega) _).alloc _,by exact (((HR.far (by simp) _).far (by simp) _).far (by simp) _).alloc _,?_⟩
      have h:=(((HN.set_ 0 (.int .i64 (withS r src))).set_ 1 (.int .i64 (withS v part))).set_ 2 (.bool (!hasB all part))).alloc (.cells #[.int .i64 2,.int .i64 part,.int .i64 src,.int .i64 n] 76)
      simpa using h
     case measure=>simp [intOf];omega
    ·go_wp2_with (first | (go_at_call_of 42 (Value.int IntKind.i64 r);refine (with_any _ _ hr _).mono ?_;rintro e w' ⟨rfl,rfl⟩) | (go_at_call_of 42 (Value.int IntKind.i64 v);refine (with_any _ _ hv _).mono ?_;rintro e w' ⟨rfl,rfl⟩) | (go_at_call 41;refine (has_any _ _ hall _).mono ?_;rintro e w' ⟨rfl,rfl⟩))
     go_roundw
     case rel=>
      refine ⟨k+1,_,_,_,_,by omega,by go_num,with_set hr,with_set hv,hst4,((((hbel.setCell (by simp;omega) _).setCell (by simp;omega) _).setCell (by simp;omega) _).alloc (by simp;omega) _),(Rd.alloc (Rd.setCell (Rd.setCell (Rd.setCell hA (by simp;omega) _) (by simp;omega) _) (by simp;omega) _) (by simp;omega) _),by exact (((HB.far (by simp;omega) _).far (by simp;omega) _).far (by simp;omega) _).alloc _,by exact (((HR.far (by simp) _).far (by simp) _).far (by simp) _).alloc _,?_⟩
      have h:=(((HN.set_ 0 (.int .i64 (withS r src))).set_ 1 (.int .i64 (withS v part))).set_ 2 (.bool true)).alloc (.cells #[.int .i64 2,.int .i64 part,.int .i64 src,.int .i64 n] 76)
      simpa using h
     case measure=>simp [intOf];omega
   ·have hst3:=hst2.out
    rw [needAct_3] at hst3
    have hst4:=Lib.hid hst3
    clear hst2 hst3
    clear hsp
    cases m
    ·go_wp2_with (first | (go_at_call_of 42 (Value.int IntKind.i64 r);refine (with_any _ _ hr _).mono ?_;rintro e w' ⟨rfl,rfl⟩) | (go_at_call_of 42 (Value.int IntKind.i64 (withS r src));refine (with_any _ _ (with_set hr) _).mono ?_;rintro e w' ⟨rfl,rfl⟩) | (go_at_call_of 42 (Value.int IntKind.i64 v);refine (with_any _ _ hv _).mono ?_;rintro e w' ⟨rfl,rfl⟩) | (go_at_call 41;refine (has_any _ _ hall _).mono ?_;rintro e w' ⟨rfl,rfl⟩))
     go_roundw
     case rel=>
      refine ⟨k+1,_,_,_,_,by omega,by go_num,with_set (with_set hr),with_set hv,hst4,(((((hbel.setCell (by simp;omega) _).setCell (by simp;omega) _).setCell (by simp;omega) _).setCell (by simp;omega) _).alloc (by simp;omega) _),(Rd.alloc (Rd.setCell (Rd.setCell (Rd.setCell (Rd.setCell hA (by simp;omega) _) (by simp;omega) _) (by simp;omega) _) (by simp;omega) _) (by simp;omega) _),by exact ((((HB.far (by simp;omega) _).far (by simp;omega) _).far (by simp;omega) _).far (by simp;omega) _).alloc _,by exact ((((HR.far (by simp) _).far (by simp) _).far (by simp) _).far (by simp) _).alloc _,?_⟩
      have h:=((((HN.set_ 0 (.int .i64 (withS r src))).set_ 0 (.int .i64 (withS (withS r src) part))).set_ 1 (.int .i64 (withS v part))).set_ 2 (.bool (!hasB all part))).alloc (.cells #[.int .i64 3,.int .i64 part,.int .i64 src,.int .i64 n] 76)
      simpa using h
     case measure=>simp [intOf];omega
    ·go_wp2_with (first | (go_at_call_of 42 (Value.int IntKind.i64 r);refine (with_any _ _ hr _).mono ?_;rintro e w' ⟨rfl,rfl⟩) | (go_at_call_of 42 (Value.int IntKind.i64 (withS r src));refine (with_any _ _ (with_set hr) _).mono ?_;rintro e w' ⟨rfl,rfl⟩) | (go_at_call_of 42 (Value.int IntKind.i64 v);refine (with_any _ _ hv _).mono ?_;rintro e w' ⟨rfl,rfl⟩) | (go_at_call 41;refine (has_any _ _ hall _).mono ?_;rintro e w' ⟨rfl,rfl⟩))
     go_roundw
     case rel=>
      refine ⟨k+1,_,_,_,_,by omega,by go_num,with_set (with_set hr),with_set hv,hst4,(((((hbel.setCell (by simp;omega) _).setCell (by simp;omega) _).setCell (by simp;omega) _).setCell (by simp;omega) _).alloc (by simp;omega) _),(Rd.alloc (Rd.setCell (Rd.setCell (Rd.setCell (Rd.setCell hA (by simp;omega) _) (by simp;omega) _) (by simp;omega) _) (by simp;omega) _) (by simp;omega) _),by exact ((((HB.far (by simp;omega) _).far (by simp;omega) _).far (by simp;omega) _).far (by simp;omega) _).alloc _,by exact ((((HR.far (by simp) _).far (by simp) _).far (by simp) _).far (by simp) _).alloc _,?_⟩
      have h:=((((HN.set_ 0 (.int .i64 (withS r src))).set_ 0 (.int .i64 (withS (withS r src) part))).set_ 1 (.int .i64 (withS v part))).set_ 2 (.bool true)).alloc (.cells #[.int .i64 3,.int .i64 part,.int .i64 src,.int .i64 n] 76)
      simpa using h
     case measure=>simp [intOf];omega
   ·have hst3:=hst2.out
    rw [needAct_4] at hst3
    have hst4:=Lib.hid hst3
    clear hst2 hst3
    clear hsp
    cases m
    ·go_wp2_with (first | (go_at_call_of 42 (Value.int IntKind.i64 r);refine (with_any _ _ hr _).mono ?_;rintro e w' ⟨rfl,rfl⟩) | (go_at_call_of 42 (Value.int IntKind.i64 v);refine (with_any _ _ hv _).mono ?_;rintro e w' ⟨rfl,rfl⟩) | (go_at_call 41;refine (has_any _ _ hall _).mono ?_;rintro e w' ⟨rfl,rfl⟩))
     go_roundw
     case rel=>
      refine ⟨k+1,_,_,_,_,by omega,by go_num,with_set hr,with_set hv,hst4,((((hbel.setCell (by simp;omega) _).setCell (by simp;omega) _).setCell (by simp;omega) _).alloc (by simp;omega) _),(Rd.alloc (Rd.setCell (Rd.setCell (Rd.setCell hA (by simp;omega) _) (by simp;omega) _) (by simp;omega) _) (by simp;omega) _),by exact (((HB.far (by simp;omega) _).far (by simp;omega) _).far (by simp;omega) _).alloc _,by exact (((HR.far (by simp) _).far (by simp) _).far (by simp) _).alloc _,?_⟩
      have h:=(((HN.set_ 0 (.int .i64 (withS r part))).set_ 1 (.int .i64 (withS v part))).set_ 2 (.bool (!hasB all part))).alloc (.cells #[.int .i64 4,.int .i64 part,.int .i64 src,.int .i64 n] 76)
      simpa using h
     case measure=>simp [intOf];omega
    ·go_wp2_with (first | (go_at_call_of 42 (Value.int IntKind.i64 r);refine (with_any _ _ hr _).mono ?_;rintro e w' ⟨rfl,rfl⟩) | (go_at_call_of 42 (Value.int IntKind.i64 v);refine (with_any _ _ hv _).mono ?_;rintro e w' ⟨rfl,rfl⟩) | (go_at_call 41;refine (has_any _ _ hall _).mono ?_;rintro e w' ⟨rfl,rfl⟩))
     go_roundw
     case rel=>
      refine ⟨k+1,_,_,_,_,by omega,by go_num,with_set hr,with_set hv,hst4,((((hbel.setCell (by simp;omega) _).setCell (by simp;omega) _).setCell (by simp;omega) _).alloc (by simp;omega) _),(Rd.alloc (Rd.setCell (Rd.setCell (Rd.setCell hA (by simp;omega) _) (by simp;omega) _) (by simp;omega) _) (by simp;omega) _),by exact (((HB.far (by simp;omega) _).far (by simp;omega) _).far (by simp;omega) _).alloc _,by exact (((HR.far (by simp) _).far (by simp) _).far (by simp) _).alloc _,?_⟩
      have h:=(((HN.set_ 0 (.int .i64 (withS r part))).set_ 1 (.int .i64 (withS v part))).set_ 2 (.bool true)).alloc (.cells #[.int .i64 4,.int .i64 part,.int .i64 src,.int .i64 n] 76)
      simpa using h
     case measure=>simp [intOf];omega
   ·have hst3:=hst2.out
    rw [needAct_5] at hst3
    have hst4:=Lib.hid hst3
    clear hst2 hst3
    clear hsp
    cases m
    ·go_wp2_with (first | (go_at_call_of 42 (Value.int IntKind.i64 v);refine (with_any _ _ hv _).mono ?_;rintro e w' ⟨rfl,rfl⟩))
     go_roundw
     case rel=>
      refine ⟨k+1,_,_,_,_,by omega,by go_num,hr,with_set hv,hst4,(((hbel.setCell (by simp;omega) _).setCell (by simp;omega) _).alloc (by simp;omega) _),(Rd.alloc (Rd.setCell (Rd.setCell hA (by simp;omega) _) (by simp;omega) _) (by simp;omega) _),by exact ((HB.far (by simp;omega) _).far (by simp;omega) _).alloc _,by exact ((HR.far (by simp) _).far (by simp) _).alloc _,?_⟩
      have h:=((HN.set_ 1 (.int .i64 (withS v part))).set_ 2 (.bool true)).alloc (.cells #[.int .i64 5,.int .i64 part,.int .i64 src,.int .i64 n] 76)
      simpa using h
     case measure=>simp [intOf];omega
    ·go_wp2_with (first | (go_at_call_of 42 (Value.int IntKind.i64 v);refine (with_any _ _ hv _).mono ?_;rintro e w' ⟨rfl,rfl⟩))
     go_roundw
     case rel=>
      refine ⟨k+1,_,_,_,_,by omega,by go_num,hr,with_set hv,hst4,(((hbel.setCell (by simp;omega) _).setCell (by simp;omega) _).alloc (by simp;omega) _),(Rd.alloc (Rd.setCell (Rd.setCell hA (by simp;omega) _) (by simp;omega) _) (by simp;omega) _),by exact ((HB.far (by simp;omega) _).far (by simp;omega) _).alloc _,by exact ((HR.far (by simp) _).far (by simp) _).alloc _,?_⟩
      have h:=((HN.set_ 1 (.int .i64 (withS v part))).set_ 2 (.bool true)).alloc (.cells #[.int .i64 5,.int .i64 part,.int .i64 src,.int .i64 n] 76)
      simpa using h
     case measure=>simp [intOf];omega
   ·have hst3:=hst2.out
    rw [needAct_6] at hst3
    have hst4:=Lib.hid hst3
    clear hst2 hst3
    clear hsp
    go_wp2_with (fail)
    go_roundw
    case rel=>
     refine ⟨k+1,_,_,_,_,by omega,by go_num,hr,hv,hst4,((hbel.setCell (by simp;omega) _).alloc (by simp;omega) _),(Rd.alloc (Rd.setCell hA (by simp;omega) _) (by simp;omega) _),by exact (HB.far (by simp;omega) _).alloc _,by exact (HR.far (by simp) _).alloc _,?_⟩
     have h:=(HN.set_ 3 (.bool true)).alloc (.cells #[.int .i64 6,.int .i64 part,.int .i64 src,.int .i64 n] 76)
     simpa using h
    case measure=>simp [intOf];omega
   ·have hst3:=hst2.out
    rw [needAct_7] at hst3
    have hst4:=Lib.hid hst3
    clear hst2 hst3
    have hob:=bits_or_set hv (hsp rfl)
    have hos:=or_set hv (hsp rfl)
    clear hsp
    go_wp2_with (fail)
    go_roundw
    case rel=>
     refine ⟨k+1,_,_,_,_,by omega,by go_num,hr,hos,hst4,(((hbel.setCell (by simp;omega) _).setCell (by simp;omega) _).alloc (by simp;omega) _),(Rd.alloc (Rd.setCell (Rd.setCell hA (by simp;omega) _) (by simp;omega) _) (by simp;omega) _),by exact ((HB.far (by simp;omega) _).far (by simp;omega) _).alloc _,by exact ((HR.far (by simp) _).far (by simp) _).alloc _,?_⟩
     have h:=((HN.set_ 3 (.bool true)).set_ 1 (.int .i64 (orS v part))).alloc (.cells #[.int .i64 7,.int .i64 part,.int .i64 src,.int .i64 n] 76)
     simpa using h
    case measure=>simp [intOf];omega
  ·obtain rfl:k=acts.length:=by omega
   have r0:=HR.cell 0;have r1:=HR.cell 1;have r2:=HR.cell 2;have r3:=HR.cell 3
   have y0:=HR.frozen 0;have y1:=HR.frozen 1;have y2:=HR.frozen 2;have y3:=HR.frozen 3
   simp at r0 r1 r2 r3
   go_wp2_with fail
   refine bodyPost_ret (v:=.agg #[.int .i64 r,.int .i64 v,.bool m,.bool l]) (by simp [results,Tryz.results44,go_sem,r0,r1,r2,r3,y0,y1,y2,y3]) rfl ⟨?_,?_⟩
   ·rw [heq.out]
    simp [needV]
   ·exact (((hbel.setCell (by simp) _).setCell (by simp) _).setCell (by simp) _).setCell (by simp) _
open Go.RowKit
open Brood
theorem bits_andNot (a b:Nat) (ha:a<256) (hb:b<256):bits .andNot .i64 ((a:Nat):Int) ((b:Nat):Int)=((a &&& (255 ^^^ b):Nat):Int):=by
 have e:BitVec.ofInt 64 (a:Int) &&& ~~~ (BitVec.ofInt 64 (b:Int))=BitVec.ofNat 64 (a &&& (255 ^^^ b)):=by
  rw [BitVec.ofInt_natCast,BitVec.ofInt_natCast]
  apply BitVec.eq_of_getLsbD_eq
  intro i hi
  simp only [BitVec.getLsbD_and,BitVec.getLsbD_not,BitVec.getLsbD_ofNat,Nat.testBit_and,Nat.testBit_xor,hi,decide_true,Bool.true_and]
  by_cases h8:i<8
  ·have h255:∀ i,i<8→Nat.testBit 255 i=true:=by decide
   rw [h255 i h8]
   simp
  ·have hz:a.testBit i=false:=Nat.testBit_lt_two_pow (Nat.lt_of_lt_of_le ha (show 2 ^ 8≤2 ^ i from Nat.pow_le_pow_right (by omega) (by omega)))
   rw [hz]
   simp
 have hx:a &&& (255 ^^^ b)<2 ^ 8:=Nat.and_lt_two_pow _ (Nat.xor_lt_two_pow (by omega) (by omega))
 show IntKind.i64.wrap ((BitVec.ofInt 64 (a:Int) &&& ~~~ (BitVec.ofInt 64 (b:Int))).toNat:Int)=_
 rw [e,BitVec.toNat_ofNat,Nat.mod_eq_of_lt (by omega),IntKind.wrap_i64]
 omega
theorem and_sub {a b:Nat} (ha:a<256) (hb:b<256):a &&& (255 ^^^ b)=0↔a &&& b=a:=by
 have h255:∀ i,i<8→Nat.testBit 255 i=true:=by decide
 have hz:∀ x:Nat,x<256→∀ i,¬ i<8→x.testBit i=false:=fun x hx i h8=>Nat.testBit_lt_two_pow (Nat.lt_of_lt_of_le hx (show 2 ^ 8≤2 ^ i from Nat.pow_le_pow_right (by omega) (by omega)))
 constructor
 ·intro h
  apply Nat.eq_of_testBit_eq
  intro i
  have e:=congrArg (fun x=>x.testBit i) h
  simp only [Nat.testBit_and,Nat.testBit_xor,Nat.zero_testBit] at e ⊢
  by_cases h8:i<8
  ·rw [h255 i h8] at e
   revert e
   cases a.testBit i<;>cases b.testBit i<;>simp
  ·simp [hz a ha i h8]
 ·intro h
  apply Nat.eq_of_testBit_eq
  intro i
  have e:=congrArg (fun x=>x.testBit i) h
  simp only [Nat.testBit_and,Nat.testBit_xor,Nat.zero_testBit] at e ⊢
  by_cases h8:i<8
  ·rw [h255 i h8]
   revert e
   cases a.testBit i<;>cases b.testBit i<;>simp
  ·simp [hz a ha i h8]
theorem bits_sub (a:Nat) (ha:a<256) (b:Nat) (hb:b<256):(bits .andNot .i64 ((a:Nat):Int) ((b:Nat):Int)==0)=(a &&& b==a):=by
 rw [bits_andNot a b ha hb,Bool.eq_iff_iff]
 simp only [beq_iff_eq]
 have:=and_sub ha hb
 constructor
 ·intro h;exact this.1 (by omega)
 ·intro h;have:=this.2 h;omega
theorem bits_subS {a b:Int} (ha:isSet a=true) (hb:isSet b=true):(bits .andNot .i64 a b==0)=subS a b:=by
 rw [isSet_iff] at ha hb
 obtain ⟨a,rfl⟩:=nat_of ha.1
 obtain ⟨b,rfl⟩:=nat_of hb.1
 rw [bits_sub a (by omega) b (by omega)]
 simp [subS]
theorem bits_meetS {a b:Int} (ha:isSet a=true) (hb:isSet b=true):(bits .and .i64 a b != 0)=meetS a b:=by
 have ha':=isSet_iff.1 ha
 have hb':=isSet_iff.1 hb
 rw [bits_and_set ha' hb']
 unfold meetS
 rw [Bool.eq_iff_iff]
 simp
def Right (s:BSys):Prop:=isSet s.all=true∧isSet s.non=true∧s.acts.length≤8∧∀ a∈s.acts,actErr s.all a=0
theorem right_of {s:BSys} (h:(sysWrong s).1=0):Right s:=by
 unfold sysWrong at h
 split at h
 ·rename_i hh
  split at h
  ·simp at h
  ·simp only [sysHead,Bool.and_eq_true] at hh
   exact ⟨hh.1.2,hh.2,by omega,wrong_acts _ _ _ h⟩
 ·simp at h
theorem need_sets {all:Int}:∀ (l:List BAct) (n:BNeed),(∀ a∈l,actErr all a=0)→isSet n.reads=true→isSet n.writes=true →
  isSet (l.foldl (needAct all) n).reads=true∧isSet (l.foldl (needAct all) n).writes=true:=by
 intro l
 induction l with
 | nil=>intro n _ h1 h2;exact ⟨h1,h2⟩
 | cons a l ih=>
  intro n hok h1 h2
  rw [List.foldl_cons]
  refine ih _ (fun x hx=>hok x (by simp [hx])) ?_ ?_
  ·unfold needAct
   split
   ·exact h1
   ·split
    ·exact h1
    ·simp only
     split<;>split<;>first | exact with_set (with_set h1) | exact with_set h1 | exact h1
  ·have ha:=hok a (by simp)
   unfold needAct
   split
   ·exact h2
   ·split
    ·rename_i h7
     obtain ⟨kind,part,src,nn⟩:=a
     exact or_set h2 (ok_part ha h7)
    ·exact with_set h2
theorem needs_sets {s:BSys} (h:Right s):isSet (needs s).reads=true∧isSet (needs s).writes=true:=
 need_sets _ _ h.2.2.2 (by decide) (by decide)
theorem needs_right (s:BSys) (h:Right s) (A:Option Addr) (c:Nat) (w:World) (hA:RdA w A s.acts) :
  Calls Tryz.prog 44 #[.agg #[.int .i64 s.mod,.int .i64 s.all,.int .i64 s.non,.slice A s.acts.length c]] w fun e w'=>
   e=.returned (.agg #[.int .i64 (needs s).reads,.int .i64 (needs s).writes,.bool (needs s).moves,.bool (needs s).life])∧Below w.heap.size w w':=
 needs_any s.mod s.all s.non s.acts h.1 h.2.2.2 (by have:=h.2.2.1;omega) A c w hA
open Go.RowKit
open Brood
def putIf (l:Bool) (d:Tmp) (v:Value) (a:Act):Act:=if l then a.put (some d) v else a
theorem putIf_false (d:Tmp) (v:Value) (a:Act):putIf false d v a=a:=rfl
theorem putIf_true (d:Tmp) (v:Value) (a:Act):putIf true d v a=a.put (some d) v:=rfl
theorem put_putIf {d x:Tmp} (h:d≠x) (l:Bool) (v u:Value) (a:Act):(putIf l d v a).put (some x) u=putIf l d v (a.put (some x) u):=by
 cases l
 ·rfl
 ·show (a.put (some d) v).put (some x) u=(a.put (some x) u).put (some d) v
  exact Act.put_comm a (x:=some d) (y:=some x) v u (fun e he hx=>by cases he;cases hx;exact h rfl)
theorem putIf_size (l:Bool) (d:Tmp) (v:Value) (a:Act):(putIf l d v a).tmps.size=a.tmps.size:=by
 cases l<;>simp [putIf,Act.put]
theorem eval_putIf_ne {d x:Tmp} (h:d≠x) (l:Bool) (v:Value) (a:Act):(putIf l d v a).eval (.tmp x)=a.eval (.tmp x):=by
 cases l
 ·rfl
 ·show (a.put (some d) v).eval (.tmp x)=a.eval (.tmp x)
  exact Act.eval_put (dst:=some d) (x:=.tmp x) (fun e he hx=>by cases he;cases hx;exact h rfl)
theorem eval_put_same {d:Tmp} {v:Value} {a:Act} (h:d<a.tmps.size):(a.put (some d) v).eval (.tmp d)=v:=by
 simp [Act.eval,Act.put,h]
def TwoFr (a:Act) (d1 d2 d3 d4 p5 p6:Tmp) (v2 r1 v3 r2:Value) (l0 l1 l2 l3 l4 l5:Bool) (u5 u6:Value):Act:=
 putIf l5 p6 u6 (putIf l4 p5 u5 (putIf l3 d4 r2 (putIf l2 d3 v3 (putIf l1 d2 r1 (putIf l0 d1 v2 a)))))
def TwoI (w:World) (a:Act) (d1 d2 d3 d4 p5 p6:Tmp) (v2 r1 v3 r2:Value) (xs ys:Array Value) (L:Array Bool) (act:Act) (w':World):Prop:=
 ∃ (l0 l1 l2 l3 l4 l5 l6 l7:Bool) (g g':Nat),L=#[l0,l1,l2,l3,l4,l5,l6,l7] ∧
  act=TwoFr a d1 d2 d3 d4 p5 p6 v2 r1 v3 r2 l0 l1 l2 l3 l4 l5 (.pointer (some ⟨g,0,none⟩)) (.pointer (some ⟨g',0,none⟩)) ∧
  Below w.heap.size w w' ∧
  (l4=true→w.heap.size≤g∧Blk w' g 96 (if l6 then xs else #[.int .i64 0,.int .i64 0,.bool false,.bool false])) ∧
  (l5=true→w.heap.size≤g'∧Blk w' g' 96 (if l7 then ys else #[.int .i64 0,.int .i64 0,.bool false,.bool false])) ∧
  (l4=true→l5=true→g≠g')∧(l6=true→l4=true)∧(l7=true→l5=true)
section
variable (d1 d2 d3 d4 p5 p6 s2 s3:Tmp) (f:FuncId) (q1 q2 q3 q4 q5 q6 q7 q8:String) (D1 D2:Departure)
def twoOps:Array Oper:=
 #[{ dst:=some d1,op:=Op.load 51 (Operand.tmp s2),type:=51,pos:=q1,after:=#[],guard:=none },
  { dst:=some d2,op:=Op.call { callee:=Callee.value (Operand.func f),args:=#[Operand.tmp d1],argTypes:=#[51] },type:=96,pos:=q2,after:=#[{ on:=0,ground:=Ground.data }],guard:=none },
  { dst:=some d3,op:=Op.load 51 (Operand.tmp s3),type:=51,pos:=q3,after:=#[],guard:=none },
  { dst:=some d4,op:=Op.call { callee:=Callee.value (Operand.func f),args:=#[Operand.tmp d3],argTypes:=#[51] },type:=96,pos:=q4,after:=#[{ on:=2,ground:=Ground.data },{ on:=1,ground:=Ground.chain }],guard:=none },
  { dst:=some p5,op:=Op.alloc 96,type:=0,pos:=q5,after:=#[],guard:=none },
  { dst:=some p6,op:=Op.alloc 96,type:=0,pos:=q6,after:=#[],guard:=none },
  { dst:=none,op:=Op.store 96 (Operand.tmp p5) (Operand.tmp d2),type:=0,pos:=q7,after:=#[{ on:=4,ground:=Ground.data },{ on:=1,ground:=Ground.data },{ on:=3,ground:=Ground.chain },{ on:=0,ground:=Ground.phase },{ on:=1,ground:=Ground.phase },{ on:=2,ground:=Ground.textOnly D1 },{ on:=3,ground:=Ground.textOnly D2 },{ on:=4,ground:=Ground.phase },{ on:=5,ground:=Ground.phase }],guard:=none },
  { dst:=none,op:=Op.store 96 (Operand.tmp p6) (Operand.tmp d4),type:=0,pos:=q8,after:=#[{ on:=5,ground:=Ground.data },{ on:=3,ground:=Ground.data },{ on:=6,ground:=Ground.chain },{ on:=0,ground:=Ground.phase },{ on:=1,ground:=Ground.phase },{ on:=2,ground:=Ground.phase },{ on:=3,ground:=Ground.phase },{ on:=4,ground:=Ground.phase },{ on:=5,ground:=Ground.phase },{ on:=6,ground:=Ground.phase }],guard:=none }]
end
theorem two_calls (d1 d2 d3 d4 p5 p6 s2 s3:Tmp) (f:FuncId) (q1 q2 q3 q4 q5 q6 q7 q8:String) (D1 D2:Departure) {id:Nat} {Q:Exit→Act→World→Prop} {a:Act} {w:World}
  (c0 c1 c2:Int) (c3:Value) (e0 e1 e2:Int) (e3:Value) (x0 x1:Int) (x2 x3:Bool) (y0 y1:Int) (y2 y3:Bool) (b2 b3:Nat)
  (hcf:∀ (v:Value) (W:World),(callFunc f #[v]).run Tryz.prog W=.ok (.enter f #[v]) W)
  (hsl:[d1,d2,d3,d4,p5,p6,s2,s3].Nodup) (hsz:∀ d∈[d1,d2,d3,d4,p5,p6,s2,s3],d<a.tmps.size)
  (h2:a.eval (.tmp s2)=.pointer (some ⟨b2,0,none⟩)) (h3:a.eval (.tmp s3)=.pointer (some ⟨b3,0,none⟩))
  (hb2:Blk w b2 51 #[.int .i64 c0,.int .i64 c1,.int .i64 c2,c3]) (hb3:Blk w b3 51 #[.int .i64 e0,.int .i64 e1,.int .i64 e2,e3])
  (hf2:∀ W,Below w.heap.size w W→Calls Tryz.prog f #[.agg #[.int .i64 c0,.int .i64 c1,.int .i64 c2,c3]] W fun e W'=>e=.returned (.agg #[.int .i64 x0,.int .i64 x1,.bool x2,.bool x3])∧Below W.heap.size W W')
  (hf3:∀ W,Below w.heap.size w W→Calls Tryz.prog f #[.agg #[.int .i64 e0,.int .i64 e1,.int .i64 e2,e3]] W fun e W'=>e=.returned (.agg #[.int .i64 y0,.int .i64 y1,.bool y2,.bool y3])∧Below W.heap.size W W')
  (hQ:∀ (g g':Nat) (W:World),Below w.heap.size w W→Blk W g 96 #[.int .i64 x0,.int .i64 x1,.bool x2,.bool x3]→Blk W g' 96 #[.int .i64 y0,.int .i64 y1,.bool y2,.bool y3] →
   Q .normal ((((((a.put (some d1) (.agg #[.int .i64 c0,.int .i64 c1,.int .i64 c2,c3])).put (some d2) (.agg #[.int .i64 x0,.int .i64 x1,.bool x2,.bool x3])).put (some d3) (.agg #[.int .i64 e0,.int .i64 e1,.int .i64 e2,e3])).put (some d4) (.agg #[.int .i64 y0,.int .i64 y1,.bool y2,.bool y3])).put (some p5) (.pointer (some ⟨g,0,none⟩))).put (some p6) (.pointer (some ⟨g',0,none⟩))) W) :
  (Code.region id (twoOps d1 d2 d3 d4 p5 p6 s2 s3 f q1 q2 q3 q4 q5 q6 q7 q8 D1 D2) true).wp Tryz.prog Q a w:=by
 simp only [List.nodup_cons,List.mem_cons,List.not_mem_nil,or_false,not_or,List.nodup_nil,and_true,not_false_eq_true] at hsl
 obtain ⟨⟨n12,n13,n14,n15,n16,n1s,n1t⟩,⟨n23,n24,n25,n26,n2s,n2t⟩,⟨n34,n35,n36,n3s,n3t⟩,⟨n45,n46,n4s,n4t⟩,⟨n56,n5s,n5t⟩,⟨n6s,n6t⟩,nst⟩:=hsl
 have z1:=hsz d1 (by simp);have z2:=hsz d2 (by simp);have z3:=hsz d3 (by simp);have z4:=hsz d4 (by simp);have z5:=hsz p5 (by simp);have z6:=hsz p6 (by simp)
 clear hsz
 refine wp_region_inv mixed (TwoI w a d1 d2 d3 d4 p5 p6 (.agg #[.int .i64 c0,.int .i64 c1,.int .i64 c2,c3]) (.agg #[.int .i64 x0,.int .i64 x1,.bool x2,.bool x3]) (.agg #[.int .i64 e0,.int .i64 e1,.int .i64 e2,e3]) (.agg #[.int .i64 y0,.int .i64 y1,.bool y2,.bool y3]) #[.int .i64 x0,.int .i64 x1,.bool x2,.bool x3] #[.int .i64 y0,.int .i64 y1,.bool y2,.bool y3]) ?start ?fin ?step
 case start=>
  exact ⟨false,false,false,false,false,false,false,false,0,0,rfl,rfl,(Below.refl _ _).drew,(fun h=>by cases h),(fun h=>by cases h),(fun h=>by cases h),(fun h=>by cases h),(fun h=>by cases h)⟩
 case step=>
  rintro L act w' i ⟨l0,l1,l2,l3,l4,l5,l6,l7,g,g',rfl,rfl,hbel,k4,k5,k45,k6,k7⟩ hi hf hd
  have hi':i<8:=hi
  clear hi
  match i,hi' with
  | 0,_=>
   obtain rfl:l0=false:=by simpa using hf
   refine wpOp_of (o:={ dst:=some d1,op:=Op.load 51 (Operand.tmp s2),type:=51,pos:=q1,after:=#[],guard:=none }) rfl rfl (fun K hK=>?_)
   have ev:(TwoFr a d1 d2 d3 d4 p5 p6 (.agg #[.int .i64 c0,.int .i64 c1,.int .i64 c2,c3]) (.agg #[.int .i64 x0,.int .i64 x1,.bool x2,.bool x3]) (.agg #[.int .i64 e0,.int .i64 e1,.int .i64 e2,e3]) (.agg #[.int .i64 y0,.int .i64 y1,.bool y2,.bool y3]) false l1 l2 l3 l4 l5 (.pointer (some ⟨g,0,none⟩)) (.pointer (some ⟨g',0,none⟩))).eval (.tmp s2)=.pointer (some ⟨b2,0,none⟩):=by
    unfold TwoFr
    rw [eval_putIf_ne n6s,eval_putIf_ne n5s,eval_putIf_ne n4s,eval_putIf_ne n3s,eval_putIf_ne n2s,eval_putIf_ne n1s,h2]
   have HB:=hb2.below hbel hb2.lt
   have r0:=HB.cell 0;have r1:=HB.cell 1;have r2:=HB.cell 2;have r3:=HB.cell 3
   simp at r0 r1 r2 r3
   have pf:(TwoFr a d1 d2 d3 d4 p5 p6 (.agg #[.int .i64 c0,.int .i64 c1,.int .i64 c2,c3]) (.agg #[.int .i64 x0,.int .i64 x1,.bool x2,.bool x3]) (.agg #[.int .i64 e0,.int .i64 e1,.int .i64 e2,e3]) (.agg #[.int .i64 y0,.int .i64 y1,.bool y2,.bool y3]) false l1 l2 l3 l4 l5 (.pointer (some ⟨g,0,none⟩)) (.pointer (some ⟨g',0,none⟩))).put (some d1) (.agg #[.int .i64 c0,.int .i64 c1,.int .i64 c2,c3])=TwoFr a d1 d2 d3 d4 p5 p6 (.agg #[.int .i64 c0,.int .i64 c1,.int .i64 c2,c3]) (.agg #[.int .i64 x0,.int .i64 x1,.bool x2,.bool x3]) (.agg #[.int .i64 e0,.int .i64 e1,.int .i64 e2,e3]) (.agg #[.int .i64 y0,.int .i64 y1,.bool y2,.bool y3]) true l1 l2 l3 l4 l5 (.pointer (some ⟨g,0,none⟩)) (.pointer (some ⟨g',0,none⟩)):=by
    unfold TwoFr
    rw [put_putIf (Ne.symm n16),put_putIf (Ne.symm n15),put_putIf (Ne.symm n14),put_putIf (Ne.symm n13),put_putIf (Ne.symm n12),putIf_false]
    simp only [putIf_true]
   generalize TwoFr a d1 d2 d3 d4 p5 p6 (.agg #[.int .i64 c0,.int .i64 c1,.int .i64 c2,c3]) (.agg #[.int .i64 x0,.int .i64 x1,.bool x2,.bool x3]) (.agg #[.int .i64 e0,.int .i64 e1,.int .i64 e2,e3]) (.agg #[.int .i64 y0,.int .i64 y1,.bool y2,.bool y3]) false l1 l2 l3 l4 l5 (.pointer (some ⟨g,0,none⟩)) (.pointer (some ⟨g',0,none⟩))=act at *
   have ev':act.tmps[s2]?.getD undef=.pointer (some ⟨b2,0,none⟩):=by have h:=ev;simpa [Act.eval,Array.getD_eq_getD_getElem?] using h
   clear ev
   go_simp
   exact hK _ _ ⟨true,l1,l2,l3,l4,l5,l6,l7,g,g',rfl,pf,hbel,k4,k5,k45,k6,k7⟩
  | 1,_=>
   obtain rfl:l1=false:=by simpa using hf
   have e:l0=true:=by
    clear k4 k5 k45 k6 k7
    revert hd
    cases l0<;>simp [twoOps,Region.binds]
   obtain rfl:=e
   refine wpOp_of (o:={ dst:=some d2,op:=Op.call { callee:=Callee.value (Operand.func f),args:=#[Operand.tmp d1],argTypes:=#[51] },type:=96,pos:=q2,after:=#[{ on:=0,ground:=Ground.data }],guard:=none }) rfl rfl (fun K hK=>?_)
   have ev:(TwoFr a d1 d2 d3 d4 p5 p6 (.agg #[.int .i64 c0,.int .i64 c1,.int .i64 c2,c3]) (.agg #[.int .i64 x0,.int .i64 x1,.bool x2,.bool x3]) (.agg #[.int .i64 e0,.int .i64 e1,.int .i64 e2,e3]) (.agg #[.int .i64 y0,.int .i64 y1,.bool y2,.bool y3]) true false l2 l3 l4 l5 (.pointer (some ⟨g,0,none⟩)) (.pointer (some ⟨g',0,none⟩))).eval (.tmp d1)=(.agg #[.int .i64 c0,.int .i64 c1,.int .i64 c2,c3]):=by
    unfold TwoFr
    rw [eval_putIf_ne (Ne.symm n16),eval_putIf_ne (Ne.symm n15),eval_putIf_ne (Ne.symm n14),eval_putIf_ne (Ne.symm n13),eval_putIf_ne (Ne.symm n12),putIf_true,eval_put_same (by simpa [putIf_size] using z1)]
   have pf:(TwoFr a d1 d2 d3 d4 p5 p6 (.agg #[.int .i64 c0,.int .i64 c1,.int .i64 c2,c3]) (.agg #[.int .i64 x0,.int .i64 x1,.bool x2,.bool x3]) (.agg #[.int .i64 e0,.int .i64 e1,.int .i64 e2,e3]) (.agg #[.int .i64 y0,.int .i64 y1,.bool y2,.bool y3]) true false l2 l3 l4 l5 (.pointer (some ⟨g,0,none⟩)) (.pointer (some ⟨g',0,none⟩))).put (some d2) (.agg #[.int .i64 x0,.int .i64 x1,.bool x2,.bool x3])=TwoFr a d1 d2 d3 d4 p5 p6 (.agg #[.int .i64 c0,.int .i64 c1,.int .i64 c2,c3]) (.agg #[.int .i64 x0,.int .i64 x1,.bool x2,.bool x3]) (.agg #[.int .i64 e0,.int .i64 e1,.int .i64 e2,e3]) (.agg #[.int .i64 y0,.int .i64 y1,.bool y2,.bool y3]) true true l2 l3 l4 l5 (.pointer (some ⟨g,0,none⟩)) (.pointer (some ⟨g',0,none⟩)):=by
    unfold TwoFr
    rw [put_putIf (Ne.symm n26),put_putIf (Ne.symm n25),put_putIf (Ne.symm n24),put_putIf (Ne.symm n23),putIf_false]
    simp only [putIf_true]
   generalize TwoFr a d1 d2 d3 d4 p5 p6 (.agg #[.int .i64 c0,.int .i64 c1,.int .i64 c2,c3]) (.agg #[.int .i64 x0,.int .i64 x1,.bool x2,.bool x3]) (.agg #[.int .i64 e0,.int .i64 e1,.int .i64 e2,e3]) (.agg #[.int .i64 y0,.int .i64 y1,.bool y2,.bool y3]) true false l2 l3 l4 l5 (.pointer (some ⟨g,0,none⟩)) (.pointer (some ⟨g',0,none⟩))=act at *
   have ev':act.tmps[d1]?.getD undef=(.agg #[.int .i64 c0,.int .i64 c1,.int .i64 c2,c3]):=by have h:=ev;simpa [Act.eval,Array.getD_eq_getD_getElem?] using h
   clear ev
   go_simp
   refine (hf2 _ hbel).mono ?_
   rintro e W1 ⟨rfl,hb1⟩
   exact hK _ _ ⟨true,true,l2,l3,l4,l5,l6,l7,g,g',rfl,pf,(grow_below hbel hb1),(fun h=>⟨(k4 h).1,(k4 h).2.below hb1 (k4 h).2.lt⟩),(fun h=>⟨(k5 h).1,(k5 h).2.below hb1 (k5 h).2.lt⟩),k45,k6,k7⟩
  | 2,_=>
   obtain rfl:l2=false:=by simpa using hf
   refine wpOp_of (o:={ dst:=some d3,op:=Op.load 51 (Operand.tmp s3),type:=51,pos:=q3,after:=#[],guard:=none }) rfl rfl (fun K hK=>?_)
   have ev:(TwoFr a d1 d2 d3 d4 p5 p6 (.agg #[.int .i64 c0,.int .i64 c1,.int .i64 c2,c3]) (.agg #[.int .i64 x0,.int .i64 x1,.bool x2,.bool x3]) (.agg #[.int .i64 e0,.int .i64 e1,.int .i64 e2,e3]) (.agg #[.int .i64 y0,.int .i64 y1,.bool y2,.bool y3]) l0 l1 false l3 l4 l5 (.pointer (some ⟨g,0,none⟩)) (.pointer (some ⟨g',0,none⟩))).eval (.tmp s3)=.pointer (some ⟨b3,0,none⟩):=by
    unfold TwoFr
    rw [eval_putIf_ne n6t,eval_putIf_ne n5t,eval_putIf_ne n4t,eval_putIf_ne n3t,eval_putIf_ne n2t,eval_putIf_ne n1t,h3]
   have HB:=hb3.below hbel hb3.lt
   have r0:=HB.cell 0;have r1:=HB.cell 1;have r2:=HB.cell 2;have r3:=HB.cell 3
   simp at r0 r1 r2 r3
   have pf:(TwoFr a d1 d2 d3 d4 p5 p6 (.agg #[.int .i64 c0,.int .i64 c1,.int .i64 c2,c3]) (.agg #[.int .i64 x0,.int .i64 x1,.bool x2,.bool x3]) (.agg #[.int .i64 e0,.int .i64 e1,.int .i64 e2,e3]) (.agg #[.int .i64 y0,.int .i64 y1,.bool y2,.bool y3]) l0 l1 false l3 l4 l5 (.pointer (some ⟨g,0,none⟩)) (.pointer (some ⟨g',0,none⟩))).put (some d3) (.agg #[.int .i64 e0,.int .i64 e1,.int .i64 e2,e3])=TwoFr a d1 d2 d3 d4 p5 p6 (.agg #[.int .i64 c0,.int .i64 c1,.int .i64 c2,c3]) (.agg #[.int .i64 x0,.int .i64 x1,.bool x2,.bool x3]) (.agg #[.int .i64 e0,.int .i64 e1,.int .i64 e2,e3]) (.agg #[.int .i64 y0,.int .i64 y1,.bool y2,.bool y3]) l0 l1 true l3 l4 l5 (.pointer (some ⟨g,0,none⟩)) (.pointer (some ⟨g',0,none⟩)):=by
    unfold TwoFr
    rw [put_putIf (Ne.symm n36),put_putIf (Ne.symm n35),put_putIf (Ne.symm n34),putIf_false]
    simp only [putIf_true]
   generalize TwoFr a d1 d2 d3 d4 p5 p6 (.agg #[.int .i64 c0,.int .i64 c1,.int .i64 c2,c3]) (.agg #[.int .i64 x0,.int .i64 x1,.bool x2,.bool x3]) (.agg #[.int .i64 e0,.int .i64 e1,.int .i64 e2,e3]) (.agg #[.int .i64 y0,.int .i64 y1,.bool y2,.bool y3]) l0 l1 false l3 l4 l5 (.pointer (some ⟨g,0,none⟩)) (.pointer (some ⟨g',0,none⟩))=act at *
   have ev':act.tmps[s3]?.getD undef=.pointer (some ⟨b3,0,none⟩):=by have h:=ev;simpa [Act.eval,Array.getD_eq_getD_getElem?] using h
   clear ev
   go_simp
   exact hK _ _ ⟨l0,l1,true,l3,l4,l5,l6,l7,g,g',rfl,pf,hbel,k4,k5,k45,k6,k7⟩
  | 3,_=>
   obtain rfl:l3=false:=by simpa using hf
   have e:l2=true:=by
    clear k4 k5 k45 k6 k7
    revert hd
    cases l2<;>simp [twoOps,Region.binds]
   obtain rfl:=e
   refine wpOp_of (o:={ dst:=some d4,op:=Op.call { callee:=Callee.value (Operand.func f),args:=#[Operand.tmp d3],argTypes:=#[51] },type:=96,pos:=q4,after:=#[{ on:=2,ground:=Ground.data },{ on:=1,ground:=Ground.chain }],guard:=none }) rfl rfl (fun K hK=>?_)
   have ev:(TwoFr a d1 d2 d3 d4 p5 p6 (.agg #[.int .i64 c0,.int .i64 c1,.int .i64 c2,c3]) (.agg #[.int .i64 x0,.int .i64 x1,.bool x2,.bool x3]) (.agg #[.int .i64 e0,.int .i64 e1,.int .i64 e2,e3]) (.agg #[.int .i64 y0,.int .i64 y1,.bool y2,.bool y3]) l0 l1 true false l4 l5 (.pointer (some ⟨g,0,none⟩)) (.pointer (some ⟨g',0,none⟩))).eval (.tmp d3)=(.agg #[.int .i64 e0,.int .i64 e1,.int .i64 e2,e3]):=by
    unfold TwoFr
    rw [eval_putIf_ne (Ne.symm n36),eval_putIf_ne (Ne.symm n35),eval_putIf_ne (Ne.symm n34),putIf_true,eval_put_same (by simpa [putIf_size] using z3)]
   have pf:(TwoFr a d1 d2 d3 d4 p5 p6 (.agg #[.int .i64 c0,.int .i64 c1,.int .i64 c2,c3]) (.agg #[.int .i64 x0,.int .i64 x1,.bool x2,.bool x3]) (.agg #[.int .i64 e0,.int .i64 e1,.int .i64 e2,e3]) (.agg #[.int .i64 y0,.int .i64 y1,.bool y2,.bool y3]) l0 l1 true false l4 l5 (.pointer (some ⟨g,0,none⟩)) (.pointer (some ⟨g',0,none⟩))).put (some d4) (.agg #[.int .i64 y0,.int .i64 y1,.bool y2,.bool y3])=TwoFr a d1 d2 d3 d4 p5 p6 (.agg #[.int .i64 c0,.int .i64 c1,.int .i64 c2,c3]) (.agg #[.int .i64 x0,.int .i64 x1,.bool x2,.bool x3]) (.agg #[.int .i64 e0,.int .i64 e1,.int .i64 e2,e3]) (.agg #[.int .i64 y0,.int .i64 y1,.bool y2,.bool y3]) l0 l1 true true l4 l5 (.pointer (some ⟨g,0,none⟩)) (.pointer (some ⟨g',0,none⟩)):=by
    unfold TwoFr
    rw [put_putIf (Ne.symm n46),put_putIf (Ne.symm n45),putIf_false]
    simp only [putIf_true]
   generalize TwoFr a d1 d2 d3 d4 p5 p6 (.agg #[.int .i64 c0,.int .i64 c1,.int .i64 c2,c3]) (.agg #[.int .i64 x0,.int .i64 x1,.bool x2,.bool x3]) (.agg #[.int .i64 e0,.int .i64 e1,.int .i64 e2,e3]) (.agg #[.int .i64 y0,.int .i64 y1,.bool y2,.bool y3]) l0 l1 true false l4 l5 (.pointer (some ⟨g,0,none⟩)) (.pointer (some ⟨g',0,none⟩))=act at *
   have ev':act.tmps[d3]?.getD undef=(.agg #[.int .i64 e0,.int .i64 e1,.int .i64 e2,e3]):=by have h:=ev;simpa [Act.eval,Array.getD_eq_getD_getElem?] using h
   clear ev
   go_simp
   refine (hf3 _ hbel).mono ?_
   rintro e W1 ⟨rfl,hb1⟩
   exact hK _ _ ⟨l0,l1,true,true,l4,l5,l6,l7,g,g',rfl,pf,(grow_below hbel hb1),(fun h=>⟨(k4 h).1,(k4 h).2.below hb1 (k4 h).2.lt⟩),(fun h=>⟨(k5 h).1,(k5 h).2.below hb1 (k5 h).2.lt⟩),k45,k6,k7⟩
  | 4,_=>
   obtain rfl:l4=false:=by simpa using hf
   refine wpOp_of (o:={ dst:=some p5,op:=Op.alloc 96,type:=0,pos:=q5,after:=#[],guard:=none }) rfl rfl (fun K hK=>?_)
   have pf:(TwoFr a d1 d2 d3 d4 p5 p6 (.agg #[.int .i64 c0,.int .i64 c1,.int .i64 c2,c3]) (.agg #[.int .i64 x0,.int .i64 x1,.bool x2,.bool x3]) (.agg #[.int .i64 e0,.int .i64 e1,.int .i64 e2,e3]) (.agg #[.int .i64 y0,.int .i64 y1,.bool y2,.bool y3]) l0 l1 l2 l3 false l5 (.pointer (some ⟨g,0,none⟩)) (.pointer (some ⟨g',0,none⟩))).put (some p5) (.pointer (some ⟨w'.heap.size,0,none⟩))=TwoFr a d1 d2 d3 d4 p5 p6 (.agg #[.int .i64 c0,.int .i64 c1,.int .i64 c2,c3]) (.agg #[.int .i64 x0,.int .i64 x1,.bool x2,.bool x3]) (.agg #[.int .i64 e0,.int .i64 e1,.int .i64 e2,e3]) (.agg #[.int .i64 y0,.int .i64 y1,.bool y2,.bool y3]) l0 l1 l2 l3 true l5 (.pointer (some ⟨w'.heap.size,0,none⟩)) (.pointer (some ⟨g',0,none⟩)):=by
    unfold TwoFr
    rw [put_putIf (Ne.symm n56),putIf_false]
    simp only [putIf_true]
   generalize TwoFr a d1 d2 d3 d4 p5 p6 (.agg #[.int .i64 c0,.int .i64 c1,.int .i64 c2,c3]) (.agg #[.int .i64 x0,.int .i64 x1,.bool x2,.bool x3]) (.agg #[.int .i64 e0,.int .i64 e1,.int .i64 e2,e3]) (.agg #[.int .i64 y0,.int .i64 y1,.bool y2,.bool y3]) l0 l1 l2 l3 false l5 (.pointer (some ⟨g,0,none⟩)) (.pointer (some ⟨g',0,none⟩))=act at *
   have hno:¬ l6=true:=fun h=>by have:=k6 h;cases this
   go_simp
   exact hK _ _ ⟨l0,l1,l2,l3,true,l5,l6,l7,w'.heap.size,g',rfl,pf,(hbel.alloc hbel.size _),(fun _=>⟨hbel.size,by rw [if_neg hno];exact Blk.new _ _ _⟩),(fun h=>⟨(k5 h).1,(k5 h).2.alloc _⟩),(fun _ h e=>Nat.lt_irrefl _ (e ▸ (k5 h).2.lt)),(fun _=>rfl),k7⟩
  | 5,_=>
   obtain rfl:l5=false:=by simpa using hf
   refine wpOp_of (o:={ dst:=some p6,op:=Op.alloc 96,type:=0,pos:=q6,after:=#[],guard:=none }) rfl rfl (fun K hK=>?_)
   have pf:(TwoFr a d1 d2 d3 d4 p5 p6 (.agg #[.int .i64 c0,.int .i64 c1,.int .i64 c2,c3]) (.agg #[.int .i64 x0,.int .i64 x1,.bool x2,.bool x3]) (.agg #[.int .i64 e0,.int .i64 e1,.int .i64 e2,e3]) (.agg #[.int .i64 y0,.int .i64 y1,.bool y2,.bool y3]) l0 l1 l2 l3 l4 false (.pointer (some ⟨g,0,none⟩)) (.pointer (some ⟨g',0,none⟩))).put (some p6) (.pointer (some ⟨w'.heap.size,0,none⟩))=TwoFr a d1 d2 d3 d4 p5 p6 (.agg #[.int .i64 c0,.int .i64 c1,.int .i64 c2,c3]) (.agg #[.int .i64 x0,.int .i64 x1,.bool x2,.bool x3]) (.agg #[.int .i64 e0,.int .i64 e1,.int .i64 e2,e3]) (.agg #[.int .i64 y0,.int .i64 y1,.bool y2,.bool y3]) l0 l1 l2 l3 l4 true (.pointer (some ⟨g,0,none⟩)) (.pointer (some ⟨w'.heap.size,0,none⟩)):=by
    unfold TwoFr
    rw [putIf_false]
    simp only [putIf_true]
   generalize TwoFr a d1 d2 d3 d4 p5 p6 (.agg #[.int .i64 c0,.int .i64 c1,.int .i64 c2,c3]) (.agg #[.int .i64 x0,.int .i64 x1,.bool x2,.bool x3]) (.agg #[.int .i64 e0,.int .i64 e1,.int .i64 e2,e3]) (.agg #[.int .i64 y0,.int .i64 y1,.bool y2,.bool y3]) l0 l1 l2 l3 l4 false (.pointer (some ⟨g,0,none⟩)) (.pointer (some ⟨g',0,none⟩))=act at *
   have hno:¬ l7=true:=fun h=>by have:=k7 h;cases this
   go_simp
   exact hK _ _ ⟨l0,l1,l2,l3,l4,true,l6,l7,g,w'.heap.size,rfl,pf,(hbel.alloc hbel.size _),(fun h=>⟨(k4 h).1,(k4 h).2.alloc _⟩),(fun _=>⟨hbel.size,by rw [if_neg hno];exact Blk.new _ _ _⟩),(fun h _ e=>Nat.lt_irrefl _ (e.symm ▸ (k4 h).2.lt)),k6,(fun _=>rfl)⟩
  | 6,_=>
   obtain rfl:l6=false:=by simpa using hf
   have e:l1=true∧l3=true∧l4=true:=by
    clear k4 k5 k45 k6 k7
    revert hd
    cases l1<;>cases l3<;>cases l4<;>simp [twoOps,Region.binds]
   obtain ⟨rfl,rfl,rfl⟩:=e
   refine wpOp_of (o:={ dst:=none,op:=Op.store 96 (Operand.tmp p5) (Operand.tmp d2),type:=0,pos:=q7,after:=#[{ on:=4,ground:=Ground.data },{ on:=1,ground:=Ground.data },{ on:=3,ground:=Ground.chain },{ on:=0,ground:=Ground.phase },{ on:=1,ground:=Ground.phase },{ on:=2,ground:=Ground.textOnly D1 },{ on:=3,ground:=Ground.textOnly D2 },{ on:=4,ground:=Ground.phase },{ on:=5,ground:=Ground.phase }],guard:=none }) rfl rfl (fun K hK=>?_)
   have ev:(TwoFr a d1 d2 d3 d4 p5 p6 (.agg #[.int .i64 c0,.int .i64 c1,.int .i64 c2,c3]) (.agg #[.int .i64 x0,.int .i64 x1,.bool x2,.bool x3]) (.agg #[.int .i64 e0,.int .i64 e1,.int .i64 e2,e3]) (.agg #[.int .i64 y0,.int .i64 y1,.bool y2,.bool y3]) l0 true l2 true true l5 (.pointer (some ⟨g,0,none⟩)) (.pointer (some ⟨g',0,none⟩))).eval (.tmp p5)=.pointer (some ⟨g,0,none⟩):=by
    unfold TwoFr
    rw [eval_putIf_ne (Ne.symm n56),putIf_true,eval_put_same (by simpa [putIf_size] using z5)]
   have ev2:(TwoFr a d1 d2 d3 d4 p5 p6 (.agg #[.int .i64 c0,.int .i64 c1,.int .i64 c2,c3]) (.agg #[.int .i64 x0,.int .i64 x1,.bool x2,.bool x3]) (.agg #[.int .i64 e0,.int .i64 e1,.int .i64 e2,e3]) (.agg #[.int .i64 y0,.int .i64 y1,.bool y2,.bool y3]) l0 true l2 true true l5 (.pointer (some ⟨g,0,none⟩)) (.pointer (some ⟨g',0,none⟩))).eval (.tmp d2)=(.agg #[.int .i64 x0,.int .i64 x1,.bool x2,.bool x3]):=by
    unfold TwoFr
    rw [eval_putIf_ne (Ne.symm n26),eval_putIf_ne (Ne.symm n25),eval_putIf_ne (Ne.symm n24),eval_putIf_ne (Ne.symm n23),putIf_true,eval_put_same (by simpa [putIf_size] using z2)]
   obtain ⟨hg,hB⟩:=k4 rfl
   rw [if_neg (by simp)] at hB
   have r0:=hB.cell 0;have r1:=hB.cell 1;have r2:=hB.cell 2;have r3:=hB.cell 3
   have t0:=hB.frozen 0;have t1:=hB.frozen 1;have t2:=hB.frozen 2;have t3:=hB.frozen 3
   simp at r0 r1 r2 r3
   generalize hA:TwoFr a d1 d2 d3 d4 p5 p6 (.agg #[.int .i64 c0,.int .i64 c1,.int .i64 c2,c3]) (.agg #[.int .i64 x0,.int .i64 x1,.bool x2,.bool x3]) (.agg #[.int .i64 e0,.int .i64 e1,.int .i64 e2,e3]) (.agg #[.int .i64 y0,.int .i64 y1,.bool y2,.bool y3]) l0 true l2 true true l5 (.pointer (some ⟨g,0,none⟩)) (.pointer (some ⟨g',0,none⟩))=act at *
   have ev':act.tmps[p5]?.getD undef=.pointer (some ⟨g,0,none⟩):=by have h:=ev;simpa [Act.eval,Array.getD_eq_getD_getElem?] using h
   clear ev
   have ev2':act.tmps[d2]?.getD undef=(.agg #[.int .i64 x0,.int .i64 x1,.bool x2,.bool x3]):=by have h:=ev2;simpa [Act.eval,Array.getD_eq_getD_getElem?] using h
   clear ev2
   go_simp
   exact hK _ _ ⟨l0,true,l2,true,true,l5,true,l7,g,g',rfl,hA.symm,((((hbel.setCell (p:=⟨g,0,none⟩) hg _).setCell (p:=⟨g,1,none⟩) hg _).setCell (p:=⟨g,2,none⟩) hg _).setCell (p:=⟨g,3,none⟩) hg _),(fun _=>⟨hg,by rw [if_pos rfl];have h:=(((hB.set_ 0 (.int .i64 x0)).set_ 1 (.int .i64 x1)).set_ 2 (.bool x2)).set_ 3 (.bool x3);simpa using h⟩),(fun h=>⟨(k5 h).1,((((k5 h).2.far (p:=⟨g,0,none⟩) (fun e=>k45 rfl h e.symm) _).far (p:=⟨g,1,none⟩) (fun e=>k45 rfl h e.symm) _).far (p:=⟨g,2,none⟩) (fun e=>k45 rfl h e.symm) _).far (p:=⟨g,3,none⟩) (fun e=>k45 rfl h e.symm) _⟩),k45,(fun _=>rfl),k7⟩
  | 7,_=>
   obtain rfl:l7=false:=by simpa using hf
   have e:l3=true∧l5=true:=by
    clear k4 k5 k45 k6 k7
    revert hd
    cases l3<;>cases l5<;>simp [twoOps,Region.binds]
   obtain ⟨rfl,rfl⟩:=e
   refine wpOp_of (o:={ dst:=none,op:=Op.store 96 (Operand.tmp p6) (Operand.tmp d4),type:=0,pos:=q8,after:=#[{ on:=5,ground:=Ground.data },{ on:=3,ground:=Ground.data },{ on:=6,ground:=Ground.chain },{ on:=0,ground:=Ground.phase },{ on:=1,ground:=Ground.phase },{ on:=2,ground:=Ground.phase },{ on:=3,ground:=Ground.phase },{ on:=4,ground:=Ground.phase },{ on:=5,ground:=Ground.phase },{ on:=6,ground:=Ground.phase }],guard:=none }) rfl rfl (fun K hK=>?_)
   have ev:(TwoFr a d1 d2 d3 d4 p5 p6 (.agg #[.int .i64 c0,.int .i64 c1,.int .i64 c2,c3]) (.agg #[.int .i64 x0,.int .i64 x1,.bool x2,.bool x3]) (.agg #[.int .i64 e0,.int .i64 e1,.int .i64 e2,e3]) (.agg #[.int .i64 y0,.int .i64 y1,.bool y2,.bool y3]) l0 l1 l2 true l4 true (.pointer (some ⟨g,0,none⟩)) (.pointer (some ⟨g',0,none⟩))).eval (.tmp p6)=.pointer (some ⟨g',0,none⟩):=by
    unfold TwoFr
    rw [putIf_true,eval_put_same (by simpa [putIf_size] using z6)]
   have ev2:(TwoFr a d1 d2 d3 d4 p5 p6 (.agg #[.int .i64 c0,.int .i64 c1,.int .i64 c2,c3]) (.agg #[.int .i64 x0,.int .i64 x1,.bool x2,.bool x3]) (.agg #[.int .i64 e0,.int .i64 e1,.int .i64 e2,e3]) (.agg #[.int .i64 y0,.int .i64 y1,.bool y2,.bool y3]) l0 l1 l2 true l4 true (.pointer (some ⟨g,0,none⟩)) (.pointer (some ⟨g',0,none⟩))).eval (.tmp d4)=(.agg #[.int .i64 y0,.int .i64 y1,.bool y2,.bool y3]):=by
    unfold TwoFr
    rw [eval_putIf_ne (Ne.symm n46),eval_putIf_ne (Ne.symm n45),putIf_true,eval_put_same (by simpa [putIf_size] using z4)]
   obtain ⟨hg,hB⟩:=k5 rfl
   rw [if_neg (by simp)] at hB
   have r0:=hB.cell 0;have r1:=hB.cell 1;have r2:=hB.cell 2;have r3:=hB.cell 3
   have t0:=hB.frozen 0;have t1:=hB.frozen 1;have t2:=hB.frozen 2;have t3:=hB.frozen 3
   simp at r0 r1 r2 r3
   generalize hA:TwoFr a d1 d2 d3 d4 p5 p6 (.agg #[.int .i64 c0,.int .i64 c1,.int .i64 c2,c3]) (.agg #[.int .i64 x0,.int .i64 x1,.bool x2,.bool x3]) (.agg #[.int .i64 e0,.int .i64 e1,.int .i64 e2,e3]) (.agg #[.int .i64 y0,.int .i64 y1,.bool y2,.bool y3]) l0 l1 l2 true l4 true (.pointer (some ⟨g,0,none⟩)) (.pointer (some ⟨g',0,none⟩))=act at *
   have ev':act.tmps[p6]?.getD undef=.pointer (some ⟨g',0,none⟩):=by have h:=ev;simpa [Act.eval,Array.getD_eq_getD_getElem?] using h
   clear ev
   have ev2':act.tmps[d4]?.getD undef=(.agg #[.int .i64 y0,.int .i64 y1,.bool y2,.bool y3]):=by have h:=ev2;simpa [Act.eval,Array.getD_eq_getD_getElem?] using h
   clear ev2
   go_simp
   exact hK _ _ ⟨l0,l1,l2,true,l4,true,l6,true,g,g',rfl,hA.symm,((((hbel.setCell (p:=⟨g',0,none⟩) hg _).setCell (p:=⟨g',1,none⟩) hg _).setCell (p:=⟨g',2,none⟩) hg _).setCell (p:=⟨g',3,none⟩) hg _),(fun h=>⟨(k4 h).1,((((k4 h).2.far (p:=⟨g',0,none⟩) (fun e=>k45 h rfl e) _).far (p:=⟨g',1,none⟩) (fun e=>k45 h rfl e) _).far (p:=⟨g',2,none⟩) (fun e=>k45 h rfl e) _).far (p:=⟨g',3,none⟩) (fun e=>k45 h rfl e) _⟩),(fun _=>⟨hg,by rw [if_pos rfl];have h:=(((hB.set_ 0 (.int .i64 y0)).set_ 1 (.int .i64 y1)).set_ 2 (.bool y2)).set_ 3 (.bool y3);simpa using h⟩),k45,k6,(fun _=>rfl)⟩
 case fin=>
  rintro L act w' ⟨l0,l1,l2,l3,l4,l5,l6,l7,g,g',rfl,rfl,hbel,k4,k5,k45,k6,k7⟩ hr
  obtain rfl:l0=true:=by simpa using ready_out hr 0 (by simp [twoOps]) (by simp [twoOps,Region.binds])
  obtain rfl:l2=true:=by simpa using ready_out hr 2 (by simp [twoOps]) (by simp [twoOps,Region.binds])
  obtain rfl:l4=true:=by simpa using ready_out hr 4 (by simp [twoOps]) (by simp [twoOps,Region.binds])
  obtain rfl:l5=true:=by simpa using ready_out hr 5 (by simp [twoOps]) (by simp [twoOps,Region.binds])
  obtain rfl:l1=true:=by simpa using ready_out hr 1 (by simp [twoOps]) (by simp [twoOps,Region.binds])
  obtain rfl:l3=true:=by simpa using ready_out hr 3 (by simp [twoOps]) (by simp [twoOps,Region.binds])
  obtain rfl:l6=true:=by simpa using ready_out hr 6 (by simp [twoOps]) (by simp [twoOps,Region.binds])
  obtain rfl:l7=true:=by simpa using ready_out hr 7 (by simp [twoOps]) (by simp [twoOps,Region.binds])
  have h4:=(k4 rfl).2;have h5:=(k5 rfl).2
  rw [if_pos rfl] at h4 h5
  exact hQ g g' w' hbel h4 h5
open Go.RowKit
open Brood
theorem needs_enter (v:Value) (W:World):(callFunc 44 #[v]).run Tryz.prog W=.ok (.enter 44 #[v]) W:=by kernel_rfl
theorem clash_any (s t:BSys) (hs:Right s) (ht:Right t) (A A':Option Addr) (c c':Nat) (w:World) (hA:RdA w A s.acts) (hA':RdA w A' t.acts) :
  Calls Tryz.prog 127 #[.agg #[.int .i64 s.mod,.int .i64 s.all,.int .i64 s.non,.slice A s.acts.length c],.agg #[.int .i64 t.mod,.int .i64 t.all,.int .i64 t.non,.slice A' t.acts.length c']] w fun e w'=>
   e=.returned (.bool (clash s t))∧Below w.heap.size w w':=by
 have H2:=((Blk.new w 51 #[.int .i64 s.mod,.int .i64 s.all,.int .i64 s.non,.slice A s.acts.length c]).alloc (.cells #[.int .i64 t.mod,.int .i64 t.all,.int .i64 t.non,.slice A' t.acts.length c'] 51))
 have H3:=(Blk.new (w.alloc (.cells #[.int .i64 s.mod,.int .i64 s.all,.int .i64 s.non,.slice A s.acts.length c] 51)) 51 #[.int .i64 t.mod,.int .i64 t.all,.int .i64 t.non,.slice A' t.acts.length c'])
 simp only [World.size_alloc] at H3
 have hA0:RdA ((w.alloc (.cells #[.int .i64 s.mod,.int .i64 s.all,.int .i64 s.non,.slice A s.acts.length c] 51)).alloc (.cells #[.int .i64 t.mod,.int .i64 t.all,.int .i64 t.non,.slice A' t.acts.length c'] 51)) A s.acts:=Rd.alloc_ (Rd.alloc_ hA _) _
 have hA1:RdA ((w.alloc (.cells #[.int .i64 s.mod,.int .i64 s.all,.int .i64 s.non,.slice A s.acts.length c] 51)).alloc (.cells #[.int .i64 t.mod,.int .i64 t.all,.int .i64 t.non,.slice A' t.acts.length c'] 51)) A' t.acts:=Rd.alloc_ (Rd.alloc_ hA' _) _
 have hb0:Below w.heap.size w ((w.alloc (.cells #[.int .i64 s.mod,.int .i64 s.all,.int .i64 s.non,.slice A s.acts.length c] 51)).alloc (.cells #[.int .i64 t.mod,.int .i64 t.all,.int .i64 t.non,.slice A' t.acts.length c'] 51)):=((Below.refl _ _).alloc (Nat.le_refl _) _).alloc (by simp) _
 have hns:=needs_sets hs
 have hnt:=needs_sets ht
 go_enter Tryz.func127,Tryz.ntmps127
 go_upto_region 1 with fail
 go_cut [5,6] (fun s5 s6 wx=>∃ g g':Nat,s5=.pointer (some ⟨g,0,none⟩)∧s6=.pointer (some ⟨g',0,none⟩)∧Below w.heap.size w wx ∧
   Blk wx g 96 #[.int .i64 (needs s).reads,.int .i64 (needs s).writes,.bool (needs s).moves,.bool (needs s).life] ∧
   Blk wx g' 96 #[.int .i64 (needs t).reads,.int .i64 (needs t).writes,.bool (needs t).moves,.bool (needs t).life])
 case first=>
  refine two_calls 7 8 9 10 5 6 2 3 44 _ _ _ _ _ _ _ _ _ _ s.mod s.all s.non (.slice A s.acts.length c) t.mod t.all t.non (.slice A' t.acts.length c') _ _ _ _ _ _ _ _ w.heap.size (w.heap.size+1) needs_enter (by decide) (by simp) rfl rfl H2 H3
   (fun W hW=>needs_right s hs A c W (RdA.grow hA0 hW)) (fun W hW=>needs_right t ht A' c' W (RdA.grow hA1 hW)) ?_
  intro g g' W hW hg hg'
  go_wp2_with fail
  go_meet
  exact ⟨g,g',rfl,rfl,hb0.trans (hW.mono hb0.size),hg,hg'⟩
 case rest=>
  obtain ⟨g,g',rfl,rfl,hbel,hg,hg'⟩:=hcut
  clear H2 H3 hA0 hA1 hb0
  have g0:=hg.cell 0;have g1:=hg.cell 1;have g2:=hg.cell 2;have g3:=hg.cell 3
  have k0:=hg'.cell 0;have k1:=hg'.cell 1;have k2:=hg'.cell 2;have k3:=hg'.cell 3
  simp at g0 g1 g2 g3 k0 k1 k2 k3
  have q1:=bits_or_set hnt.1 hnt.2
  have q2:=Lib.hid (bits_meetS hns.2 (or_set hnt.1 hnt.2))
  have q3:=Lib.hid (bits_meetS hnt.2 hns.1)
  have hcl:Hid (clash s t=((needs s).moves || (needs t).moves || (needs s).life || (needs t).life || meetS (needs s).writes (orS (needs t).reads (needs t).writes) || meetS (needs t).writes (needs s).reads)):=Lib.hid rfl
  generalize needs s=x at *
  generalize needs t=y at *
  obtain ⟨xr,xw,xm,xl⟩:=x
  obtain ⟨yr,yw,ym,yl⟩:=y
  simp only at *
  cases xm<;>cases ym<;>cases xl<;>cases yl
  all_goals first
   | (go_wp2_with fail;go_ret;exact ⟨ret_bool (by rw [hcl.out];rfl),hbel⟩)
   | (cases b1:meetS xw (orS yr yw)<;>cases b2:meetS yw xr<;>(have q2':=q2.out;have q3':=q3.out;rw [b1] at q2';rw [b2] at q3';go_wp2_with fail;go_ret;exact ⟨ret_bool (by rw [hcl.out,b1,b2];rfl),hbel⟩))
end Go.Proofs.YtefdblaolmckmacGreat
