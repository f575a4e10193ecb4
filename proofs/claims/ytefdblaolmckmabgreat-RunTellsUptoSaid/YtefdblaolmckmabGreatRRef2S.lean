/- Lemmas of the proof. -/
import Derived.Laws.AppendOwnNone
import Derived.Test.YtefdblaolmckmabGreatRBRef2KToRef2N
set_option linter.unusedVariables false
set_option linter.unusedSimpArgs false
set_option maxRecDepth 100000
set_option maxHeartbeats 12800000
namespace Go.Proofs.YtefdblaolmckmabGreat
open Go.RowKit
open Brood
def bvTo (m:Nat) (n:Int) (k:Nat):List Int:=(List.range 8).map fun j=>if decide (j<k) && tb m j then n else 0
theorem bvTo_len (m:Nat) (n:Int) (k:Nat):(bvTo m n k).length=8:=by simp [bvTo]
theorem bvTo_get (m:Nat) (n:Int) (k:Nat) {j:Nat} (hj:j<8):(bvTo m n k).getD j 0=if decide (j<k) && tb m j then n else 0:=by
 simp [bvTo,List.getD_eq_getElem?_getD,hj]
theorem list_eq8 {a b:List Int} (ha:a.length=8) (hb:b.length=8) (h:∀ j,j<8→a.getD j 0=b.getD j 0):a=b:=by
 refine List.ext_getElem (by omega) fun j h1 h2=>?_
 have:=h j (by omega)
 rwa [getD_get h1,getD_get h2] at this
theorem bvTo_zero (m:Nat) (n:Int):bvTo m n 0=zeros8:=by simp [bvTo,zeros8,List.range,List.range.loop]
theorem bvTo_yes (m:Nat) (n:Int) {k:Nat} (hk:k<8) (h:tb m k=true):bvTo m n (k+1)=(bvTo m n k).set k n:=by
 refine list_eq8 (bvTo_len _ _ _) (by rw [List.length_set];exact bvTo_len _ _ _) fun j hj=>?_
 rw [bvTo_get _ _ _ hj]
 by_cases e:j=k
 ·subst e
  simp [List.getD_eq_getElem?_getD,bvTo_len,hj,h]
 ·have:((bvTo m n k).set k n).getD j 0=(bvTo m n k).getD j 0:=by
   simp only [List.getD_eq_getElem?_getD]
   rw [List.getElem?_set_ne (by omega)]
  rw [this,bvTo_get _ _ _ hj,decide_eq_decide.2 (show j<k+1↔j<k by omega)]
theorem bvTo_no (m:Nat) (n:Int) {k:Nat} (hk:k<8) (h:tb m k=false):bvTo m n (k+1)=bvTo m n k:=by
 refine list_eq8 (bvTo_len _ _ _) (bvTo_len _ _ _) fun j hj=>?_
 rw [bvTo_get _ _ _ hj,bvTo_get _ _ _ hj]
 by_cases e:j=k
 ·subst e;simp [h]
 ·rw [decide_eq_decide.2 (show j<k+1↔j<k by omega)]
theorem bvTo_end (m:Nat) (hm:isSet (m:Int)=true) (i g n:Int):bvTo m n 8=(newRow i g (m:Int) n).vals:=by
 refine list_eq8 (bvTo_len _ _ _) (newRow i g (m:Int) n).h8 fun j hj=>?_
 rw [bvTo_get _ _ _ hj,newRow_val hm hj]
 have:hasB (m:Int) (j:Int)=tb m j:=by
  unfold hasB tb
  rw [isPart_iff.2 ⟨by omega,by omega⟩]
  simp
 rw [this,decide_eq_true hj]
 simp
theorem Hp.lit0 {w0 w:World} {E:List Ent} (h:Hp w0 w E):Hp w0 (w.alloc (.cells #[] 3)) (E++[.own (.slice (some ⟨w.heap.size,0,none⟩) 0 0) 3 1 0 []]):=
 h.moreR (World.grownBy_alloc w _ _) (own_lower (World.ownsRow_lit w #[] 0 (Nat.le_refl _) (by unfold maxLen;omega) (by simp)) h.bel.size) (fun g hg=>by
  have:w.heap.size=g:=by simpa [Ent.blk,Value.ownBlock] using hg
  omega)
theorem rspawn_on (rows:List BRow) (gens:List Int) (Ar:Option Addr) (cr:Nat) (Ag:Option Addr) (cg:Nat) (has n:Int) (hlr:rows.length≤9223372036854775807) (hng:Ag=none→cg=0∧gens=[]) (Q:Nat→Prop)
  (w:World) (hr:RdR w w.heap.size Ar rows) (hg:RdG w w.heap.size Ag gens) (hQ:∀ b,w.heap.size≤b→Q b) :
  Calls Tryz.prog 115 #[.agg #[.slice Ar rows.length cr,.slice Ag gens.length cg],.int .i64 has,.int .i64 n] w fun e w'=>
   ∃ v,e=.returned (.tuple #[v,.agg #[.int .i64 (spawnV rows gens has n).i,.int .i64 (spawnV rows gens has n).g],.int .i64 (spawnV rows gens has n).err]) ∧
    GotQ True Q w' v (spawnV rows gens has n).rows (spawnV rows gens has n).gens∧Below w.heap.size w w':=by
 obtain ⟨i0',hi0,hz0a,hz0b,hz0c⟩:=info_parts infoInt
 have H0:=(((Hp.start w).new w.heap.size rfl 64 [.slice Ar rows.length cr,.slice Ag gens.length cg]).new (w.heap.size+1) (by simp) 64 [.slice none 0 0,.slice none 0 0]).new (w.heap.size+1+1) (by simp) 24 [.int .i64 0,.int .i64 0]
 go_enter Tryz.func115,Tryz.ntmps115
 go_wp2_with fail
 obtain ⟨w0,hw0,H0⟩:=H0.name
 rw [hw0];clear hw0
 refine (rwrong2_any rows gens Ar cr Ag cg hlr w0 (H0.old hr) (H0.old hg)).mono ?_
 rintro e w1 ⟨rfl,hb1⟩
 replace H0:=H0.grow hb1
 clear hb1
 by_cases hf:(worldErr ⟨rows,gens⟩).1=0
 case neg=>
  have hf':((worldErr ⟨rows,gens⟩).1 != 0)=true:=by simpa using hf
  have hE:Hid (spawnV rows gens has n=⟨[],[],0,0,(worldErr ⟨rows,gens⟩).1⟩):=Lib.hid (spawn_wrong has n hf)
  generalize worldErr ⟨rows,gens⟩=F' at *
  obtain ⟨f1,f2⟩:=F'
  dsimp only at hf hf' hE ⊢
  have H2:=H0.new w1.heap.size rfl 48 [.int .i64 f1,.int .i64 f2]
  clear H0
  go_upto_region 3 with fail
  obtain ⟨w2,hw2,H2⟩:=H2.name
  rw [hw2];clear hw2
  have n13:=H2.ne 1 3 rfl rfl (by omega);have n31:=n13.symm;have n23:=H2.ne 2 3 rfl rfl (by omega);have n32:=n23.symm
  have q0:=H2.cell 1 0 rfl rfl;have q1:=H2.cell 1 1 rfl rfl;have q2:=H2.cell 2 0 rfl rfl;have q3:=H2.cell 2 1 rfl rfl
  have y0:=H2.frozen 1 0 rfl;have y1:=H2.frozen 1 1 rfl;have y2:=H2.frozen 2 0 rfl;have y3:=H2.frozen 2 1 rfl
  have c0:=H2.cell 3 0 rfl rfl
  go_region_held3 (fun w'=>w'.cell? ⟨w1.heap.size,0,none⟩=some (.int .i64 f1)) (go_keep) (fail)
  have H4:=((((H2.set 1 0 (.slice none 0 0) rfl).set 1 1 (.slice none 0 0) rfl).set 2 0 (.int .i64 0) rfl).set 2 1 (.int .i64 0) rfl).drew
  have p0:=H4.cell 1 0 rfl rfl;have p1:=H4.cell 1 1 rfl rfl;have p2:=H4.cell 2 0 rfl rfl;have p3:=H4.cell 2 1 rfl rfl
  go_wp2_with fail
  refine bodyPost_ret (v:=.tuple #[.agg #[.slice none 0 0,.slice none 0 0],.agg #[.int .i64 0,.int .i64 0],.int .i64 f1]) (by simp [results,Tryz.results115,go_sem,p0,p1,p2,p3]) rfl ⟨_,by rw [hE.out],by rw [hE.out];exact GotQ.zero _ _ _,H4.bel⟩
 case pos=>
  have hrw:=(right_iff rows gens).1 hf
  have hl60:=hrw.lens2
  rw [hf]
  generalize (worldErr ⟨rows,gens⟩).2=f2 at *
  have H2:=H0.new w1.heap.size rfl 48 [.int .i64 0,.int .i64 f2]
  clear H0 hf
  go_wp2_with fail
  obtain ⟨w2,hw2,H2⟩:=H2.name
  rw [hw2];clear hw2
  refine (rset_any has w2).mono ?_
  rintro e w3 ⟨rfl,rfl⟩
  cases hs1:isSet has
  ·have hs1':=hs1
   have hE:Hid (spawnV rows gens has n=⟨[],[],0,0,3⟩):=Lib.hid (spawn_arg hrw (.inl hs1))
   have q0:=H2.cell 1 0 rfl rfl;have q1:=H2.cell 1 1 rfl rfl;have q2:=H2.cell 2 0 rfl rfl;have q3:=H2.cell 2 1 rfl rfl
   have y0:=H2.frozen 1 0 rfl;have y1:=H2.frozen 1 1 rfl;have y2:=H2.frozen 2 0 rfl;have y3:=H2.frozen 2 1 rfl
   have H9:=(((H2.set 1 0 (.slice none 0 0) rfl).set 1 1 (.slice none 0 0) rfl).set 2 0 (.int .i64 0) rfl).set 2 1 (.int .i64 0) rfl
   have p0:=H9.cell 1 0 rfl rfl;have p1:=H9.cell 1 1 rfl rfl;have p2:=H9.cell 2 0 rfl rfl;have p3:=H9.cell 2 1 rfl rfl
   go_wp2_with fail
   refine bodyPost_ret (v:=.tuple #[.agg #[.slice none 0 0,.slice none 0 0],.agg #[.int .i64 0,.int .i64 0],.int .i64 3]) (by simp [results,Tryz.results115,go_sem,p0,p1,p2,p3]) rfl ⟨_,by rw [hE.out],by rw [hE.out];exact GotQ.zero _ _ _,H9.bel⟩
  go_wp2_with fail
  refine (rvalue_any n w2).mono ?_
  rintro e w3 ⟨rfl,rfl⟩
  cases hs2:isVal n
  ·have hs2':=hs2
   have hE:Hid (spawnV rows gens has n=⟨[],[],0,0,3⟩):=Lib.hid (spawn_arg hrw (.inr hs2))
   have q0:=H2.cell 1 0 rfl rfl;have q1:=H2.cell 1 1 rfl rfl;have q2:=H2.cell 2 0 rfl rfl;have q3:=H2.cell 2 1 rfl rfl
   have y0:=H2.frozen 1 0 rfl;have y1:=H2.frozen 1 1 rfl;have y2:=H2.frozen 2 0 rfl;have y3:=H2.frozen 2 1 rfl
   have H9:=(((H2.set 1 0 (.slice none 0 0) rfl).set 1 1 (.slice none 0 0) rfl).set 2 0 (.int .i64 0) rfl).set 2 1 (.int .i64 0) rfl
   have p0:=H9.cell 1 0 rfl rfl;have p1:=H9.cell 1 1 rfl rfl;have p2:=H9.cell 2 0 rfl rfl;have p3:=H9.cell 2 1 rfl rfl
   go_wp2_with fail
   refine bodyPost_ret (v:=.tuple #[.agg #[.slice none 0 0,.slice none 0 0],.agg #[.int .i64 0,.int .i64 0],.int .i64 3]) (by simp [results,Tryz.results115,go_sem,p0,p1,p2,p3]) rfl ⟨_,by rw [hE.out],by rw [hE.out];exact GotQ.zero _ _ _,H9.bel⟩
  have x0:=H2.cell 0 0 rfl rfl;have x1:=H2.cell 0 1 rfl rfl
  go_wp2_with fail
  have hEn:=Lib.hid (fun h=>@spawn_none rows gens has n hrw hs1 hs2 h)
  have hEs:=Lib.hid (fun h=>@spawn_some rows gens has n hrw hs1 hs2 h)
  have hok:=Lib.hid (@nextV_ok rows gens)
  refine (rnext_any rows gens Ar cr Ag cg (by omega) (by omega) (fun q hq=>by have:=(hrw.gen q hq).1;omega) w2 (H2.old hr) (H2.old hg)).mono ?_
  rintro e w3 ⟨rfl,hb3⟩
  replace H2:=H2.grow hb3
  clear hb3 x0 x1
  generalize nextV rows gens=N at *
  obtain ⟨ni,ng,ne⟩:=N
  dsimp only at hEn hEs hok ⊢
  by_cases hne:ne=0
  case neg=>
   have hne':(ne != 0)=true:=by simpa using hne
   have l1:=H2.lt 1 rfl;have l2:=H2.lt 2 rfl
   have hE:Hid (spawnV rows gens has n=⟨[],[],0,0,ne⟩):=Lib.hid (hEn.out hne)
   have q0:=H2.cell 1 0 rfl rfl;have q1:=H2.cell 1 1 rfl rfl;have q2:=H2.cell 2 0 rfl rfl;have q3:=H2.cell 2 1 rfl rfl
   have y0:=H2.frozen 1 0 rfl;have y1:=H2.frozen 1 1 rfl;have y2:=H2.frozen 2 0 rfl;have y3:=H2.frozen 2 1 rfl
   have H9:=(((H2.set 1 0 (.slice none 0 0) rfl).set 1 1 (.slice none 0 0) rfl).set 2 0 (.int .i64 0) rfl).set 2 1 (.int .i64 0) rfl
   replace H9:=H9.new w3.heap.size (by simp) 24 [.int .i64 ni,.int .i64 ng]
   have p0:=H9.cell 1 0 rfl rfl;have p1:=H9.cell 1 1 rfl rfl;have p2:=H9.cell 2 0 rfl rfl;have p3:=H9.cell 2 1 rfl rfl
   go_wp2_with fail
   refine bodyPost_ret (v:=.tuple #[.agg #[.slice none 0 0,.slice none 0 0],.agg #[.int .i64 0,.int .i64 0],.int .i64 ne]) (by simp [results,Tryz.results115,go_sem,p0,p1,p2,p3]) rfl ⟨_,by rw [hE.out],by rw [hE.out];exact GotQ.zero _ _ _,H9.bel⟩
  subst hne
  have hE:=Lib.hid (hEs.out rfl)
  have hnok:=Lib.hid (hok.out rfl)
  clear hEs hEn hok
  have hset:=hs1
  have hms:=isSet_iff.1 hs1
  obtain ⟨m,rfl⟩:=nat_of (n:=has) hms.1
  have hm:m<256:=by omega
  have H3:=(H2.new w3.heap.size rfl 24 [.int .i64 ni,.int .i64 ng]).new (w3.heap.size+1) (by simp) 114 (rowL ni ng (m:Int) (bvTo m n 0))
  have hrl:rowL ni ng (m:Int) (bvTo m n 0)=[.int .i64 ni,.int .i64 ng,.int .i64 (m:Int),.int .i64 0,.int .i64 0,.int .i64 0,.int .i64 0,.int .i64 0,.int .i64 0,.int .i64 0,.int .i64 0]:=by rw [bvTo_zero];rfl
  clear hs1 hs2 hms hrw
  go_wp2_with fail
  have H3':=H3
  rw [hrl] at H3'
  obtain ⟨w4,hw4,_⟩:=H3'.name
  have hw4':=hw4
  rw [← hrl] at hw4'
  rw [hw4'] at H3
  rw [hw4]
  clear hw4 hw4' H3' hrl H2
  refine (rbits_any m hm w4).mono ?_
  rintro e w5 ⟨rfl,hb5⟩
  replace H3:=H3.grow hb5
  clear hb5
  have hba:=Lib.hid (fun k hk W=>@bits_at m k hk W)
  generalize bitsV m=BV at *
  go_wp2_with fail
  go_loopw [51] (fun q wx=>∃ k:Nat,k≤8∧q=.int .i64 k∧Hp w wx ([.box w.heap.size 64 [.slice Ar rows.length cr,.slice Ag gens.length cg],.box (w.heap.size+1) 64 [.slice none 0 0,.slice none 0 0],.box (w.heap.size+1+1) 24 [.int .i64 0,.int .i64 0],.box w1.heap.size 48 [.int .i64 0,.int .i64 f2],.box w3.heap.size 24 [.int .i64 ni,.int .i64 ng],.box (w3.heap.size+1) 114 (rowL ni ng (m:Int) (bvTo m n k))])) (fun q _=>8-(intOf q).toNat)
  case atStart=>exact ⟨0,by omega,rfl,H3⟩
  case round=>
   clear H3
   obtain ⟨k,hk,rfl,H⟩:=hrel
   by_cases hlt:k<8
   ·have hix:=hba.out k hlt
    have k0:(0:Int)≤(k:Int):=by omega
    have k8:(k:Int)<8:=by omega
    cases hB:tb m k
    ·rw [hB] at hix
     have hbn:=bvTo_no m n hlt hB
     rw [← hbn] at H
     clear hbn
     go_wp2_with fail
     go_roundw
     case rel=>exact ⟨k+1,by omega,by go_num,H⟩
     case measure=>simp [intOf];omega
    ·rw [hB] at hix
     have hbn:=Lib.hid (bvTo_yes m n hlt hB)
     have hrs:=Lib.hid (rowL_set ni ng (m:Int) (bvTo m n k) k n)
     have hv8:=bvTo_len m n k
     obtain ⟨u,hu⟩:∃ u,(rowL ni ng (m:Int) (bvTo m n k))[3+k]?=some u:=⟨_,List.getElem?_eq_getElem (by simp [rowL,ints,hv8];omega)⟩
     have z5:=H.cell 5 (3+k) rfl hu
     have z6:=H.frozen 5 (3+k) rfl
     have H10:=H.set 5 (3+k) (.int .i64 n) rfl
     rw [hrs.out,← hbn.out] at H10
     clear H hu hv8 hrs hbn
     have H11:=Lib.hid H10
     clear H10
     go_wp2_with fail
     go_roundw
     case rel=>exact ⟨k+1,by omega,by go_num,H11.out⟩
     case measure=>simp [intOf];omega
   ·obtain rfl:k=8:=by omega
    rw [bvTo_end m hset ni ng n] at H
    clear hba
    obtain ⟨R,hR⟩:∃ R:BRow,R=newRow ni ng (m:Int) n:=⟨_,rfl⟩
    have hRi:R.idx=ni:=by rw [hR];rfl
    have hRg:R.gen=ng:=by rw [hR];rfl
    have hRh:R.has=(m:Int):=by rw [hR];rfl
    rw [← hR] at hE H
    clear hR
    obtain ⟨ri,rg,rh,rv,rh8⟩:=R
    dsimp only at hRi hRg hRh H
    subst hRi hRg hRh
    obtain ⟨b0,b1,b2,b3,b4,b5,b6,b7,rfl⟩:=vals_eight rh8
    have H3:Hp w wr ([.box w.heap.size 64 [.slice Ar rows.length cr,.slice Ag gens.length cg],.box (w.heap.size+1) 64 [.slice none 0 0,.slice none 0 0],.box (w.heap.size+1+1) 24 [.int .i64 0,.int .i64 0],.box w1.heap.size 48 [.int .i64 0,.int .i64 f2],.box w3.heap.size 24 [.int .i64 ri,.int .i64 rg],.box (w3.heap.size+1) 114 [.int .i64 ri,.int .i64 rg,.int .i64 (m:Int),.int .i64 b0,.int .i64 b1,.int .i64 b2,.int .i64 b3,.int .i64 b4,.int .i64 b5,.int .i64 b6,.int .i64 b7]]):=H
    clear H
    have x0:=H3.cell 0 1 rfl rfl
    have l0:=H3.lt 0 rfl
    have H4:=H3.lit0
    go_upto_region 16 with fail
    go_cut [15] (fun s15 wx=>∃ A2 c2,s15=.slice A2 gens.length c2∧Hp w wx ([.box w.heap.size 64 [.slice Ar rows.length cr,.slice Ag gens.length cg],.box (w.heap.size+1) 64 [.slice none 0 0,.slice none 0 0],.box (w.heap.size+1+1) 24 [.int .i64 0,.int .i64 0],.box w1.heap.size 48 [.int .i64 0,.int .i64 f2],.box w3.heap.size 24 [.int .i64 ri,.int .i64 rg],.box (w3.heap.size+1) 114 [.int .i64 ri,.int .i64 rg,.int .i64 (m:Int),.int .i64 b0,.int .i64 b1,.int .i64 b2,.int .i64 b3,.int .i64 b4,.int .i64 b5,.int .i64 b6,.int .i64 b7],.own (.slice A2 gens.length c2) 3 1 gens.length (ints gens)]))
    case first=>
     have hce:=H4.old hg
     cases Ag with
     | none=>
      obtain ⟨rfl,rfl⟩:=hng rfl
      clear hce
      go_wp2_with (at_builtin;refine wpList_append_own_none rfl _ _ 38 rfl w.heap.size 3 i0' 1 Tryz.underlying38 hi0 _ _ _ rfl (H4.owns 6 rfl) rfl ?_)
      go_meet
      exact ⟨_,_,rfl,H4⟩
     | some ad=>
      go_wp2_with (at_builtin;refine wpList_append_own_at _ rfl _ _ 38 rfl w.heap.size 3 i0' (.int .i64 0) 1 8 Tryz.underlying38 hi0 hz0a hz0b hz0c rfl (by decide) _ _ _ rfl (H4.owns 6 rfl) ad gens.length cg (ints gens) rfl ?c0 ?c1 ?c2 ?c3 ?c4 ?c5 ?_;rotate_left 6;intro v' w7 hown7 hgrow7 _ hat7;have H8:=H4.app 6 rfl hgrow7 hown7 (hat7.imp id (fun e g hg=>by rw [e] at hg;injection hg with hg;omega));obtain ⟨A3,c3,rfl,hs1,hs2⟩:=own_shape hown7)
      case c0=>simp [ints_length]
      case c1=>
       intro j u hu
       have hj:j<gens.length:=by rw [← ints_length gens];exact (List.getElem?_eq_some_iff.1 hu).1
       obtain ⟨b,off,he,_,hc⟩:=hce.2 (by omega)
       obtain rfl:=Option.some.inj he
       rw [add_mk]
       exact hc j u hu
      case c2=>exact ints_one gens
      case c3=>unfold maxLen;omega
      case c4=>omega
      case c5=>exact H4.bel.size
      go_meet
      rw [Nat.zero_add,List.nil_append] at H8
      exact ⟨A3,c3,rfl,H8⟩
    case rest=>
     obtain ⟨A2,c2,rfl,H5⟩:=hcut
     clear H3 H4 x0 l0
     obtain ⟨G1,hG1⟩:∃ G1:List Int,Hid (G1=if ri=(gens.length:Int) then gens++[0] else gens):=⟨_,Lib.hid rfl⟩
     have x0:=H5.cell 4 0 rfl rfl
     go_upto_if 69 with fail
     go_cut [15] (fun s15 wx=>∃ A3 c3,s15=.slice A3 G1.length c3∧Hp w wx ([.box w.heap.size 64 [.slice Ar rows.length cr,.slice Ag gens.length cg],.box (w.heap.size+1) 64 [.slice none 0 0,.slice none 0 0],.box (w.heap.size+1+1) 24 [.int .i64 0,.int .i64 0],.box w1.heap.size 48 [.int .i64 0,.int .i64 f2],.box w3.heap.size 24 [.int .i64 ri,.int .i64 rg],.box (w3.heap.size+1) 114 [.int .i64 ri,.int .i64 rg,.int .i64 (m:Int),.int .i64 b0,.int .i64 b1,.int .i64 b2,.int .i64 b3,.int .i64 b4,.int .i64 b5,.int .i64 b6,.int .i64 b7],.own (.slice A3 G1.length c3) 3 1 G1.length (ints G1)]))
     case first=>
      by_cases hi:ri=(gens.length:Int)
      ·have hGv:Hid (G1=gens++[0]):=Lib.hid (by rw [hG1.out,if_pos hi])
       have hge:(gens.length:Int)≤ri:=by omega
       have H7:=H5.new wc.heap.size rfl 3 [.int .i64 0]
       clear hG1 hi
       go_wp2_with (at_builtin;refine wpList_append_own_at _ rfl _ _ 38 rfl w.heap.size 3 i0' (.int .i64 0) 1 8 Tryz.underlying38 hi0 hz0a hz0b hz0c rfl (by decide) _ _ _ rfl (H7.owns 6 rfl) ⟨wc.heap.size,0,none⟩ 1 1 [.int .i64 0] rfl rfl ?c1 ?c2 ?c3 ?c4 ?c5 ?_;rotate_left 5;intro v' w7 hown7 hgrow7 _ hat7;have H8:=H7.app 6 rfl hgrow7 hown7 (hat7.imp id (fun e g hg=>by rw [e] at hg;injection hg with hg;omega));obtain ⟨A3,c3,rfl,hs1,hs2⟩:=own_shape hown7)
       case c1=>exact news_blk (H7.blk 7 rfl)
       case c2=>simp [Value.oneCell']
       case c3=>unfold maxLen;omega
       case c4=>omega
       case c5=>exact H7.bel.size
       go_meet
       have hl:G1.length=gens.length+1:=by rw [hGv.out];simp
       have hi:ints G1=ints gens++[.int .i64 0]:=by rw [hGv.out,ints_snoc]
       rw [hl,hi]
       exact ⟨A3,c3,rfl,H8.drop1 7⟩
      ·have hGv:Hid (G1=gens):=Lib.hid (by rw [hG1.out,if_neg hi])
       have hge:ri<(gens.length:Int):=by
        rcases hnok.out with ⟨k,hk,h1,_⟩ | ⟨h1,_⟩
        ·omega
        ·exact absurd h1 hi
       clear hG1 hi
       go_wp2_with fail
       go_meet
       rw [hGv.out]
       exact ⟨A2,c2,rfl,H5⟩
     case rest=>
      clear H5 x0
      obtain ⟨A3,c3,rfl,H6⟩:=hcut
      obtain ⟨ix,rfl,hix⟩:∃ ix:Nat,ri=(ix:Int)∧ix<G1.length:=by
       rw [hG1.out]
       rcases hnok.out with ⟨k,hk,rfl,_⟩ | ⟨rfl,_⟩
       ·exact ⟨k,rfl,by rw [if_neg (by omega)];exact hk⟩
       ·exact ⟨_,rfl,by rw [if_pos rfl];simp⟩
      clear hnok
      obtain ⟨gb,rfl⟩:=own_some (H6.owns 6 rfl) (by omega)
      have hgput:Hid (gensPut gens (ix:Int) rg=G1.set ix rg):=Lib.hid (by rw [hG1.out];simp [gensPut])
      have hse:Hid ((ints G1).set ix (.int .i64 rg)=ints (G1.set ix rg)):=Lib.hid (by simp [ints,List.map_set])
      have z0:=H6.cell 4 0 rfl rfl;have z1:=H6.cell 4 1 rfl rfl
      have z4:=H6.ownCell 6 ix rfl (ints_get hix);have z5:=H6.ownFrozen 6 ix rfl
      have i0:(0:Int)≤(ix:Int):=by omega
      have i1:(ix:Int)<(G1.length:Int):=by omega
      have H7:=H6.put 6 ix (.int .i64 rg) rfl
      rw [hse.out] at H7
      have hlG:Hid (G1.length=(gensPut gens (ix:Int) rg).length):=Lib.hid (by rw [hgput.out];simp)
      rw [← hgput.out] at H7
      go_upto_region 20 with fail
      obtain ⟨w7,hw7,H7⟩:=H7.name
      rw [hw7]
      clear hw7 z0 z1 z4 z5 H6 hse i1 hgput hG1 hix
      rw [hlG.out] at H7
      generalize gensPut gens (ix:Int) rg=G2 at *
      have x0:=H7.cell 0 0 rfl rfl;have x1:=H7.cell 0 1 rfl rfl
      have f0:=H7.cell 5 0 rfl rfl;have f1:=H7.cell 5 1 rfl rfl;have f2':=H7.cell 5 2 rfl rfl;have f3:=H7.cell 5 3 rfl rfl;have f4:=H7.cell 5 4 rfl rfl;have f5:=H7.cell 5 5 rfl rfl;have f6:=H7.cell 5 6 rfl rfl;have f7:=H7.cell 5 7 rfl rfl;have f8:=H7.cell 5 8 rfl rfl;have f9:=H7.cell 5 9 rfl rfl;have f10:=H7.cell 5 10 rfl rfl
      go_wp2_with fail
      have hcall:=rwith_any rows gens ⟨(ix:Int),rg,(m:Int),[b0,b1,b2,b3,b4,b5,b6,b7],rh8⟩ Ar cr Ag cg (by omega) w7 (H7.old hr)
      have hrv:rowV ⟨(ix:Int),rg,(m:Int),[b0,b1,b2,b3,b4,b5,b6,b7],rh8⟩=.agg #[.int .i64 (ix:Int),.int .i64 rg,.int .i64 (m:Int),.int .i64 b0,.int .i64 b1,.int .i64 b2,.int .i64 b3,.int .i64 b4,.int .i64 b5,.int .i64 b6,.int .i64 b7]:=rfl
      rw [hrv] at hcall
      refine hcall.mono ?_
      rintro e w10 ⟨⟨A,c,rfl,hown⟩,hb10⟩
      generalize withV ⟨(ix:Int),rg,(m:Int),[b0,b1,b2,b3,b4,b5,b6,b7],rh8⟩ rows=R2 at *
      have H8:=H7.got hb10 hown
      clear H7 hb10 hown f0 f1 f2' f3 f4 f5 f6 f7 f8 f9 f10 x0 x1 hcall hrv
      have H9:=(H8.new w10.heap.size rfl 64 [.slice A R2.length c,.slice (some ⟨gb,0,none⟩) G2.length c3])
      rw [hlG.out]
      clear hlG
      go_upto_region 22 with fail
      obtain ⟨w13,hw13,H13⟩:=H9.name
      rw [hw13];clear hw13 H8 H9
      have n14:=H13.ne 1 4 rfl rfl (by omega);have n18:=H13.ne 1 8 rfl rfl (by omega);have n24:=H13.ne 2 4 rfl rfl (by omega);have n28:=H13.ne 2 8 rfl rfl (by omega)
      have n41:=n14.symm;have n81:=n18.symm;have n42:=n24.symm;have n82:=n28.symm
      have q0:=H13.cell 1 0 rfl rfl;have q1:=H13.cell 1 1 rfl rfl;have q2:=H13.cell 2 0 rfl rfl;have q3:=H13.cell 2 1 rfl rfl
      have y0:=H13.frozen 1 0 rfl;have y1:=H13.frozen 1 1 rfl;have y2:=H13.frozen 2 0 rfl;have y3:=H13.frozen 2 1 rfl
      have x0:=H13.cell 8 0 rfl rfl;have x1:=H13.cell 8 1 rfl rfl;have x2:=H13.cell 4 0 rfl rfl;have x3:=H13.cell 4 1 rfl rfl
      go_region_held3 (fun w'=>w'.cell? ⟨w10.heap.size,0,none⟩=some (.slice A R2.length c)∧w'.cell? ⟨w10.heap.size,1,none⟩=some (.slice (some ⟨gb,0,none⟩) G2.length c3)∧w'.cell? ⟨w3.heap.size,0,none⟩=some (.int .i64 ix)∧w'.cell? ⟨w3.heap.size,1,none⟩=some (.int .i64 rg)) (go_keep) (fail)
      have H14:=((((H13.set 1 0 (.slice A R2.length c) rfl).set 1 1 (.slice (some ⟨gb,0,none⟩) G2.length c3) rfl).set 2 0 (.int .i64 ix) rfl).set 2 1 (.int .i64 rg) rfl).drew
      have p0:=H14.cell 1 0 rfl rfl;have p1:=H14.cell 1 1 rfl rfl;have p2:=H14.cell 2 0 rfl rfl;have p3:=H14.cell 2 1 rfl rfl
      go_wp2_with fail
      refine bodyPost_ret (v:=.tuple #[.agg #[.slice A R2.length c,.slice (some ⟨gb,0,none⟩) G2.length c3],.agg #[.int .i64 ix,.int .i64 rg],.int .i64 0]) (by simp [results,Tryz.results115,go_sem,p0,p1,p2,p3]) rfl ⟨_,by rw [hE.out],by rw [hE.out];exact ⟨_,_,_,_,rfl,H14.rd 7 rfl,H14.rd 6 rfl,own_on (H14.owns 7 rfl) hQ,own_on (H14.owns 6 rfl) hQ,fun _ e=>by cases e⟩,H14.bel⟩
end Go.Proofs.YtefdblaolmckmabGreat
