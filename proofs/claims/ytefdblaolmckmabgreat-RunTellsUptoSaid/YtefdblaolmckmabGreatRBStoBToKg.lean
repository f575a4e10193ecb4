/- Lemmas of the proof. -/
import Derived.Deep.DeepCutAuto
import Derived.Deep.MidRow
import Derived.Test.YtefdblaolmckmabGreatRBSpecVToStoA
import Derived.Test.YtefdblaolmckmabGreatRBSpecOToSpecR
import Derived.Test.YtefdblaolmckmabGreatRBSpecSToSpecU
import Derived.Test.YtefdblaolmckmabGreatRBRowToInv
set_option linter.unusedVariables false
set_option linter.unusedSimpArgs false
set_option maxRecDepth 100000
set_option maxHeartbeats 12800000
namespace Go.Proofs.YtefdblaolmckmabGreat
open Go.RowKit
open Brood
structure TabAt (w:World) (B b o:Nat) (t:TabIn):Prop where
 lt:b<B
 c0:w.cell? ⟨b,o,none⟩=some (.int .i64 t.has)
 c1:w.cell? ⟨b,o+1,none⟩=some (.slice t.bA t.bs.length t.bc)
 c2:w.cell? ⟨b,o+2,none⟩=some (.slice t.cA t.cols.length t.cc)
 bs:Rd w B 2 t.bA t.bs.length (t.bs.flatMap beC)
 cs:Rd w B 1 t.cA t.cols.length (t.cols.map colV)
 zs:∀ c∈t.cols,Rd w B 1 c.A c.zs.length (ints c.zs)
theorem RdT.tab {w:World} {B:Nat} {A:Option Addr} {l:List TabIn} (h:RdT w B A l) {k:Nat} (hk:k<l.length):∃ b off,A=some ⟨b,off,none⟩∧b<B∧TabAt w B b (off+k*3) l[k]:=by
 obtain ⟨b,off,e,hb,c0,c1,c2⟩:=h.at_ hk
 have hm:=List.getElem_mem hk
 exact ⟨b,off,e,hb,hb,c0,c1,c2,h.bs _ hm,h.cs _ hm,h.zs _ hm⟩
theorem TabAt.under {w w':World} {B b o:Nat} {t:TabIn} (h:TabAt w B b o t) {C:Nat} (hb:Below C w w') (hC:B≤C):TabAt w' B b o t:=by
 have hl:=h.lt
 exact ⟨hl,(hb.cell (by simp only;omega)).trans h.c0,(hb.cell (by simp only;omega)).trans h.c1,(hb.cell (by simp only;omega)).trans h.c2,Rd.under h.bs hb hC,Rd.under h.cs hb hC,fun c hc=>Rd.under (h.zs c hc) hb hC⟩
structure TabSmall (t:TabIn):Prop where
 bs:t.bs.length≤1048576
 cols:t.cols.length≤1048576
 zs:∀ c∈t.cols,c.zs.length≤1048576
def prevB (bs:List (Int×Int)) (k:Nat):Option Int:=match k with | 0=>none | k+1=>(bs[k]?).map Prod.fst
theorem count_eq (s:Int):countS s=((listS s).length:Int):=by unfold countS listS;simp
theorem table_any (t:TabIn) (b o:Nat) (w:World) (h:TabAt w w.heap.size b o t) (hs:TabSmall t) :
  Calls Tryz.prog 65 #[.pointer (some ⟨b,o,none⟩)] w fun e w'=>e=.returned (.int .i64 (tabErr (tabOf t)))∧Below w.heap.size w w':=by
 obtain ⟨E,hE⟩:∃ E,E=tabErr (tabOf t):=⟨_,rfl⟩
 rw [← hE]
 obtain ⟨has,bA,bc,bs,cA,cc,cols⟩:=t
 replace hE:Hid (E=if isSet has=false then 3 else if bs.length=0∨cols.length≠(listS has).length then 4 else if colsErr bs.length (cols.map ColIn.zs)≠0 then colsErr bs.length (cols.map ColIn.zs) else bsErr none bs):=Lib.hid (by rw [hE];unfold tabErr tabOf;simp only [List.length_map])
 obtain ⟨hlt,c0,c1,c2,hbs,hcs,hzs⟩:=h
 obtain ⟨s1,s2,s3⟩:=hs
 dsimp only at c0 c1 c2 hbs hcs hzs s1 s2 s3
 have hzsh:=Lib.hid hzs;have s3h:=Lib.hid s3
 clear hzs s3
 have hsc:=set_any has w
 cases hset:isSet has with
 | false=>
  rw [hset] at hsc
  have hEf:Hid (E=3):=Lib.hid (by rw [hE.out,if_pos hset])
  have hsch:=Lib.hid hsc
  clear hsc hset hE
  go_enter Tryz.func65,Tryz.ntmps65
  go_wp2_with fail
  refine hsch.out.mono ?_
  rintro e w1 ⟨rfl,rfl⟩
  go_wp2_with fail
  go_ret
  exact ⟨ret_int hEf.out.symm,Below.refl _ _⟩
 | true=>
  rw [hset] at hsc
  have hcnt:=fun W=>count_any has hset W
  rw [count_eq] at hcnt
  have hE2:Hid (E=if bs.length=0∨cols.length≠(listS has).length then 4 else if colsErr bs.length (cols.map ColIn.zs)≠0 then colsErr bs.length (cols.map ColIn.zs) else bsErr none bs):=Lib.hid (by rw [hE.out,if_neg (by rw [hset];decide)])
  have hl8:=listS_len has
  have hsch:=Lib.hid hsc;have hcnth:=Lib.hid hcnt
  clear hsc hcnt hset hE
  generalize (listS has).length=L at *
  by_cases hn:bs.length=0
  ·have hz:((bs.length:Int)==0)=true:=by simp [hn]
   have hEf:Hid (E=4):=Lib.hid (by rw [hE2.out,if_pos (.inl hn)])
   clear hE2
   go_enter Tryz.func65,Tryz.ntmps65
   go_wp2_with fail
   refine hsch.out.mono ?_
   rintro e w1 ⟨rfl,rfl⟩
   go_wp2_with fail
   go_quiet (fail)
   go_wp2_with fail
   go_ret
   exact ⟨ret_int hEf.out.symm,below_drewN (Below.refl _ _) _⟩
  ·have hz:((bs.length:Int)==0)=false:=beq_false_of_ne (by omega)
   by_cases hm:cols.length=L
   ·have hz2:((cols.length:Int) != (L:Int))=false:=by simp [hm]
    have hE3:Hid (E=if colsErr bs.length (cols.map ColIn.zs)≠0 then colsErr bs.length (cols.map ColIn.zs) else bsErr none bs):=Lib.hid (by rw [hE2.out,if_neg (by simp [hn,hm])])
    clear hE2
    have hn0:0<bs.length:=by omega
    clear hn hm
    go_enter Tryz.func65,Tryz.ntmps65
    go_wp2_with fail
    refine hsch.out.mono ?_
    rintro e w1 ⟨rfl,rfl⟩
    go_wp2_with fail
    go_quiet (exact quiet_same (hcnth.out _))
    go_wp2_with fail
    go_loopw [38] (fun q wr=>∃ k:Nat,k≤cols.length∧q=.int .i64 k∧Hid (colsErr bs.length (cols.map ColIn.zs)=colsErr bs.length ((cols.drop k).map ColIn.zs))∧Below w.heap.size w wr) (fun q _=>cols.length-(intOf q).toNat)
    case atStart=>exact ⟨0,by omega,rfl,Lib.hid (by simp),below_drewN (Below.refl _ _) _⟩
    case round=>
     obtain ⟨k,hk,rfl,hfr,hbel⟩:=hrel
     have d0:wr.cell? ⟨b,o,none⟩=some (.int .i64 has):=(hbel.cell (by simpa using hlt)).trans c0
     have d1:wr.cell? ⟨b,o+1,none⟩=some (.slice bA bs.length bc):=(hbel.cell (by simpa using hlt)).trans c1
     have d2:wr.cell? ⟨b,o+2,none⟩=some (.slice cA cols.length cc):=(hbel.cell (by simpa using hlt)).trans c2
     by_cases hkl:k<cols.length
     ·obtain ⟨b1,off,rfl,hb1,e0⟩:=rdC_at (Rd.under hcs hbel (Nat.le_refl _)) hkl
      have hst:Hid ((cols.drop k).map ColIn.zs=cols[k].zs::(cols.drop (k+1)).map ColIn.zs):=Lib.hid (by rw [List.drop_eq_getElem_cons hkl];rfl)
      have hcol:=Rd.more (Rd.under (hzsh.out _ (List.getElem_mem hkl)) hbel (Nat.le_refl _)) hbel.size
      have hsm:=s3h.out _ (List.getElem_mem hkl)
      have hcall:=badCol_any cols[k].zs cols[k].A cols[k].c (by omega) wr hcol
      generalize cols[k]=C at *
      obtain ⟨CA,Cc,Cz⟩:=C
      dsimp only at e0 hst hsm hcall
      have i0:(0:Int)≤(k:Int):=by omega
      have i1:(k:Int)<(cols.length:Int):=by omega
      clear hcol
      by_cases hcl:Cz.length=bs.length
      ·have hq:((Cz.length:Int) != (bs.length:Int))=false:=by simp [hcl]
       obtain ⟨B,hB⟩:∃ B,B=Cz.any fun y=>!isVal y:=⟨_,rfl⟩
       rw [← hB] at hcall
       have hcallh:=Lib.hid hcall
       clear hcall
       cases B with
       | true=>
        have hx:colsErr bs.length (cols.map ColIn.zs)=3:=by rw [hfr.out,hst.out,colsErr,if_neg (fun e=>e hcl),if_pos hB.symm]
        have hEf:Hid (E=3):=Lib.hid (by rw [hE3.out,hx];rfl)
        clear hx
        clear hB hE3 hst hfr hcl
        go_wp2_with fail
        refine hcallh.out.mono ?_
        rintro e w1 ⟨rfl,rfl⟩
        go_wp2_with fail
        go_ret
        exact ⟨ret_int hEf.out.symm,hbel⟩
       | false=>
        have hf2:Hid (colsErr bs.length (cols.map ColIn.zs)=colsErr bs.length ((cols.drop (k+1)).map ColIn.zs)):=Lib.hid (by rw [hfr.out,hst.out,colsErr,if_neg (fun e=>e hcl),if_neg (by rw [← hB];decide)])
        clear hB hst hfr hcl
        go_wp2_with fail
        refine hcallh.out.mono ?_
        rintro e w1 ⟨rfl,rfl⟩
        go_wp2_with fail
        go_roundw
        case rel=>exact ⟨k+1,by omega,by go_num,hf2,hbel⟩
        case measure=>simp [intOf];omega
      ·have hq:((Cz.length:Int) != (bs.length:Int))=true:=bne_iff_ne.2 (by omega)
       have hx:colsErr bs.length (cols.map ColIn.zs)=4:=by rw [hfr.out,hst.out,colsErr,if_pos hcl]
       have hEf:Hid (E=4):=Lib.hid (by rw [hE3.out,hx];rfl)
       clear hx
       clear hE3 hst hfr hcl hcall
       go_wp2_with fail
       go_ret
       exact ⟨ret_int hEf.out.symm,hbel⟩
     ·obtain rfl:k=cols.length:=by omega
      have hE4:Hid (E=bsErr none bs):=Lib.hid (by rw [hE3.out,hfr.out,List.drop_length];rfl)
      have hk1:=Lib.hid c1
      clear hE3 hfr hcs hzsh s3h c0 c1 c2
      obtain ⟨wo,rfl⟩:∃ wo:World,wo=wr:=⟨_,rfl⟩
      go_wp2_with fail
      go_loopw [58] (fun q wr=>∃ k:Nat,k≤bs.length∧q=.int .i64 k∧Hid (E=bsErr (prevB bs k) (bs.drop k))∧Below w.heap.size w wr) (fun q _=>bs.length-(intOf q).toNat)
      case atStart=>exact ⟨0,by omega,rfl,Lib.hid (by rw [hE4.out];simp [prevB]),hbel⟩
      case round=>
       clear hE4
       obtain ⟨k,hk,rfl,hfr,hbel⟩:=hrel
       have d1:wr.cell? ⟨b,o+1,none⟩=some (.slice bA bs.length bc):=(hbel.cell (by simpa using hlt)).trans hk1.out
       by_cases hkl:k<bs.length
       ·obtain ⟨b1,off,rfl,hb1,e0,e1⟩:=rdBe_at (Rd.under hbs hbel (Nat.le_refl _)) hkl
        have hst:Hid (bs.drop k=bs[k]::bs.drop (k+1)):=Lib.hid (List.drop_eq_getElem_cons hkl)
        have hpn:Hid (prevB bs (k+1)=some bs[k].1):=Lib.hid (by simp [prevB,hkl])
        have hprev:∀ k',k=k'+1→∃ z:Int,prevB bs k=some z∧wr.cell? ⟨b1,off+k'*2,none⟩=some (.int .i64 z):=by
         rintro k' rfl
         have hk':k' < bs.length:=by omega
         obtain ⟨b',off',hbo,_,e0',_⟩:=rdBe_at (Rd.under hbs hbel (Nat.le_refl _)) hk'
         injection hbo with hbo
         injection hbo with hbo1 hbo2
         subst hbo1 hbo2
         exact ⟨bs[k'].1,by simp [prevB,hk'],e0'⟩
        generalize bs[k]=r at *
        obtain ⟨ri,rg⟩:=r
        dsimp only at e0 hst hpn
        have i0:(0:Int)≤(k:Int):=by omega
        have i1:(k:Int)<(bs.length:Int):=by omega
        clear hbs hk1
        have hEq:Hid (E=if prevGe (prevB bs k) ri=true then 2 else bsErr (some ri) (bs.drop (k+1))):=Lib.hid (by rw [hfr.out,hst.out,bsErr])
        clear hfr hst
        obtain ⟨P,hP⟩:∃ P,P=prevB bs k:=⟨_,rfl⟩
        rw [← hP] at hprev hEq
        have hP0:Hid (k=0→P=none):=Lib.hid (by rintro rfl;rw [hP];rfl)
        clear hP
        go_upto_region 16 with fail
        go_cut [82] (fun s82 wx=>s82=.bool (prevGe P ri)∧∃ n,wx=wr.drewN n)
        case first=>
         cases k with
         | zero=>
          have hpz:Hid (prevGe P ri=false):=Lib.hid (by rw [hP0.out rfl];rfl)
          clear hprev
          go_quiet (fail)
          go_wp2_with fail
          go_meet
          exact ⟨by rw [hpz.out],_,rfl⟩
         | succ k'=>
          obtain ⟨q,hq,hcq⟩:=hprev k' rfl
          have hqv:Hid (prevGe P ri=decide (ri≤q)):=Lib.hid (by rw [hq];rfl)
          have hwrap:IntKind.i64.wrap (((k'+1:Nat):Int)-1)=(k':Int):=by rw [IntKind.wrap_i64];omega
          have hkp:(0:Int)<((k'+1:Nat):Int):=by omega
          have k0:(0:Int)≤(k':Int):=by omega
          have k1:(k':Int)<(bs.length:Int):=by omega
          clear hprev hq
          go_quiet (fail)
          go_wp2_with fail
          go_meet
          exact ⟨by rw [hqv.out],_,rfl⟩
        case rest=>
         obtain ⟨rfl,n,rfl⟩:=hcut
         clear hprev hP0
         cases hpg:prevGe P ri with
         | true=>
          have hEf:Hid (E=2):=Lib.hid (by rw [hEq.out,if_pos hpg])
          go_wp2_with fail
          go_ret
          exact ⟨ret_int hEf.out.symm,below_drewN hbel _⟩
         | false=>
          have hEf:Hid (E=bsErr (prevB bs (k+1)) (bs.drop (k+1))):=Lib.hid (by rw [hEq.out,if_neg (by rw [hpg];decide),hpn.out])
          go_wp2_with fail
          go_roundw
          case rel=>exact ⟨k+1,by omega,by go_num,hEf,below_drewN hbel _⟩
          case measure=>simp [intOf];omega
       ·obtain rfl:k=bs.length:=by omega
        have hEf:Hid (E=0):=Lib.hid (by rw [hfr.out,List.drop_length];rfl)
        go_wp2_with fail
        go_ret
        exact ⟨ret_int hEf.out.symm,hbel⟩
   ·have hz2:((cols.length:Int) != (L:Int))=true:=bne_iff_ne.2 (by omega)
    have hEf:Hid (E=4):=Lib.hid (by rw [hE2.out,if_pos (.inr hm)])
    clear hE2
    go_enter Tryz.func65,Tryz.ntmps65
    go_wp2_with fail
    refine hsch.out.mono ?_
    rintro e w1 ⟨rfl,rfl⟩
    go_wp2_with fail
    go_quiet (exact quiet_same (hcnth.out _))
    go_wp2_with fail
    go_ret
    exact ⟨ret_int hEf.out.symm,below_drewN (Below.refl _ _) _⟩
open Go.RowKit
open Brood
theorem fold_get (f:Int→Int):∀ (l:List Int) (vs:List Int),vs.length=8→(∀ k∈l,0≤k∧k<8)→∀ j:Nat,j<8→(l.foldl (fun vs k=>vs.set k.toNat (f k)) vs).getD j 0=if (j:Int)∈l then f j else vs.getD j 0
 | [],vs,_,_,j,_=>by simp
 | k::l,vs,h8,hr,j,hj=>by
  obtain ⟨k0,k8⟩:=hr k (by simp)
  obtain ⟨m,rfl⟩:=nat_of k0
  rw [List.foldl_cons,fold_get f l _ (by simp [h8]) (fun q hq=>hr q (by simp [hq])) j hj]
  by_cases hm:(j:Int)∈l
  ·simp [hm]
  ·rw [if_neg hm]
   simp only [List.getD_eq_getElem?_getD,Int.toNat_natCast]
   by_cases e:m=j
   ·subst e
    rw [List.getElem?_set_self (by omega),if_pos (by simp)]
    rfl
   ·rw [List.getElem?_set_ne e,if_neg]
    simp only [List.mem_cons,not_or]
    exact ⟨by omega,hm⟩
theorem fold_len2 (f:Int→Int):∀ (l:List Int) (vs:List Int),(l.foldl (fun vs k=>vs.set k.toNat (f k)) vs).length=vs.length
 | [],_=>rfl
 | k::l,vs=>by rw [List.foldl_cons,fold_len2 f l];simp
def valsUp (r:BRow) (has:Int) (j:Nat):List Int:=((listS has).take j).foldl (fun vs k=>vs.set k.toNat (r.vals.getD k.toNat 0)) zeros8
theorem valsUp_len (r:BRow) (has:Int) (j:Nat):(valsUp r has j).length=8:=by unfold valsUp;rw [fold_len2 (fun k=>r.vals.getD k.toNat 0)];rfl
theorem valsUp_succ (r:BRow) {has:Int} {j:Nat} (hj:j<(listS has).length):valsUp r has (j+1)=(valsUp r has j).set (listS has)[j].toNat (r.vals.getD (listS has)[j].toNat 0):=by
 unfold valsUp
 rw [List.take_add_one,List.getElem?_eq_getElem hj,Option.toList_some,List.foldl_append]
 rfl
theorem zeros8_get {j:Nat} (hj:j<8):zeros8.getD j 0=0:=by
 unfold zeros8
 rcases (show j=0∨j=1∨j=2∨j=3∨j=4∨j=5∨j=6∨j=7 by omega) with rfl | rfl | rfl | rfl | rfl | rfl | rfl | rfl<;>rfl
theorem valsUp_all {r:BRow} {has:Int} (hs:isSet has=true) (hz:∀ j:Nat,j<8→hasB has (j:Int)=false→r.vals.getD j 0=0):valsUp r has (listS has).length=r.vals:=by
 refine ext8 (valsUp_len _ _ _) r.h8 fun j hj=>?_
 unfold valsUp
 rw [List.take_length,fold_get (fun k=>r.vals.getD k.toNat 0) _ _ rfl listS_range j hj]
 by_cases hm:(j:Int)∈listS has
 ·rw [if_pos hm,Int.toNat_natCast]
 ·rw [if_neg hm,zeros8_get hj]
  refine (hz j hj ?_).symm
  cases hb:hasB has (j:Int) with
  | false=>rfl
  | true=>exact absurd ((mem_listS hs).2 hb) hm
theorem fit_len {l:List TabIn} {G:List Grp} (h:l.map tabOf=G.map tabG):l.length=G.length:=by simpa using congrArg List.length h
structure FitAt (t:TabIn) (g:Grp):Prop where
 has:t.has=g.h
 bs:t.bs=g.rs.map beOf
 cols:t.cols.map ColIn.zs=(listS g.h).map (colOf g.rs)
theorem fit_tab {t:TabIn} {g:Grp} (h:tabOf t=tabG g):FitAt t g:=by
 have h1:=congrArg BTab.has h;have h2:=congrArg BTab.bs h;have h3:=congrArg BTab.cols h
 exact ⟨h1,h2,h3⟩
theorem FitAt.tab {t:TabIn} {g:Grp} (h:FitAt t g):tabOf t=tabG g:=by
 unfold tabOf tabG
 rw [h.has,h.bs,h.cols]
theorem fit_at {l:List TabIn} {G:List Grp} (h:l.map tabOf=G.map tabG) {k:Nat} (hk:k<l.length) (hg:k<G.length):FitAt l[k] G[k]:=by
 refine fit_tab ?_
 have h1:(l.map tabOf)[k]?=(G.map tabG)[k]?:=by rw [h]
 rw [List.getElem?_map,List.getElem?_map,List.getElem?_eq_getElem hk,List.getElem?_eq_getElem hg] at h1
 exact Option.some.inj h1
section
variable {t:TabIn} {g:Grp}
theorem FitAt.len (h:FitAt t g):t.bs.length=g.rs.length:=by rw [h.bs,List.length_map]
theorem FitAt.be (h:FitAt t g) {i:Nat} (hi:i<t.bs.length) (hi2:i<g.rs.length):t.bs[i]=beOf g.rs[i]:=by
 have:t.bs[i]?=(g.rs.map beOf)[i]?:=by rw [h.bs]
 rw [List.getElem?_eq_getElem hi,List.getElem?_map,List.getElem?_eq_getElem hi2] at this
 exact Option.some.inj this
theorem FitAt.clen (h:FitAt t g):t.cols.length=(listS g.h).length:=by simpa using congrArg List.length h.cols
theorem FitAt.col (h:FitAt t g) {j:Nat} (hj:j<t.cols.length) (hj2:j<(listS g.h).length):t.cols[j].zs=colOf g.rs (listS g.h)[j]:=by
 have:(t.cols.map ColIn.zs)[j]?=((listS g.h).map (colOf g.rs))[j]?:=by rw [h.cols]
 rw [List.getElem?_map,List.getElem?_map,List.getElem?_eq_getElem hj,List.getElem?_eq_getElem hj2] at this
 exact Option.some.inj this
end
theorem colOf_len (rs:List BRow) (k:Int):(colOf rs k).length=rs.length:=by simp [colOf]
theorem flatG_take {G:List Grp} {k:Nat} (hk:k<G.length):flatG (G.take (k+1))=flatG (G.take k)++G[k].rs:=by
 unfold flatG
 rw [List.take_add_one,List.getElem?_eq_getElem hk,Option.toList_some,List.flatMap_append]
 simp
theorem flatG_le {G:List Grp} {k:Nat} (hk:k<G.length):(flatG (G.take k)).length+G[k].rs.length≤(flatG G).length:=by
 have e:flatG G=flatG (G.take (k+1))++flatG (G.drop (k+1)):=by unfold flatG;rw [← List.flatMap_append,List.take_append_drop]
 rw [e,flatG_take hk]
 simp
theorem GotW.got' {w0 w w':World} {E:List Ent} (h:Hp w0 w E) (hb:Below w.heap.size w w') {v:Value} {rows:List BRow} {gens:List Int} (hG:GotW w' w.heap.size v rows gens) :
  ∃ Ar cr Ag cg,v=.agg #[.slice Ar rows.length cr,.slice Ag gens.length cg] ∧
   Hp w0 w' (E++[.own (.slice Ar rows.length cr) 114 11 rows.length (rows.flatMap rowCells),.own (.slice Ag gens.length cg) 3 1 gens.length (ints gens)]):=by
 obtain ⟨vr,vg,rfl,hO⟩:=hG
 obtain ⟨Ar,cr,rfl,_,_⟩:=own_shape hO.rows_
 obtain ⟨Ag,cg,rfl,_,_⟩:=own_shape hO.gens_
 exact ⟨Ar,cr,Ag,cg,rfl,h.got2 hb hO.rows_ hO.gens_ (by decide)⟩
open Go.RowKit
open Brood
theorem cmp_any (a b:Int) (w:World):Calls Tryz.prog 50 #[.int .i64 a,.int .i64 b] w fun e w'=>e=.returned (.int .i64 (cmpI a b))∧w'=w:=by
 by_cases h1:a<b
 ·have hr:Hid (cmpI a b=-1):=Lib.hid (by simp [cmpI,h1])
  go_enter Tryz.func50,Tryz.ntmps50
  go_wp2
  go_ret
  exact ⟨ret_int hr.out.symm,rfl⟩
 ·by_cases h2:b<a
  ·have hr:Hid (cmpI a b=1):=Lib.hid (by simp [cmpI,h1,h2])
   go_enter Tryz.func50,Tryz.ntmps50
   go_wp2
   go_ret
   exact ⟨ret_int hr.out.symm,rfl⟩
  ·have hr:Hid (cmpI a b=0):=Lib.hid (by simp [cmpI,h1,h2])
   go_enter Tryz.func50,Tryz.ntmps50
   go_wp2
   go_ret
   exact ⟨ret_int hr.out.symm,rfl⟩
open Go.RowKit
open Brood
section
variable {α:Type}
structure Els (f:α→List Value) (m:Nat):Prop where
 len:∀ x,(f x).length=m
 one:∀ x,∀ u∈f x,u.oneCell'=true
theorem els_length {f:α→List Value} {m:Nat} (hf:∀ x,(f x).length=m) (xs:List α):(xs.flatMap f).length=xs.length*m:=by
 induction xs with
 | nil=>simp
 | cons x l ih=>rw [List.flatMap_cons,List.length_append,ih,hf,List.length_cons,Nat.add_mul,Nat.one_mul,Nat.add_comm]
theorem els_set {f:α→List Value} {m:Nat} (hf:∀ x,(f x).length=m) {xs:List α} {k:Nat} (hk:k<xs.length) (x:α) {cur:Array Value} (h:cur.toList.take (xs.length*m)=xs.flatMap f) (hs:xs.length*m≤cur.size) :
  (patch cur (k*m) (f x)).toList.take (xs.length*m)=(xs.set k x).flatMap f:=by
 have hle:k*m+m≤xs.length*m:=by
  have:=Nat.mul_le_mul_right m (show k+1≤xs.length by omega)
  rwa [Nat.add_mul,Nat.one_mul] at this
 apply List.ext_getElem?
 intro j
 rw [List.getElem?_take]
 have hl2:((xs.set k x).flatMap f).length=xs.length*m:=by rw [els_length hf,List.length_set]
 split
 ·rename_i hj
  rw [Array.getElem?_toList]
  have hm:0<m:=by
   rcases Nat.eq_zero_or_pos m with h0 | h0
   ·subst h0;omega
   ·exact h0
  have hq:j / m<xs.length:=Nat.div_lt_of_lt_mul (by rw [Nat.mul_comm];exact hj)
  have hj2:j=(j / m)*m+j % m:=by rw [Nat.mul_comm];exact (Nat.div_add_mod j m).symm
  have hjm:=Nat.mod_lt j hm
  generalize j / m=q at hq hj2
  generalize j % m=t at hjm hj2
  subst hj2
  rw [flat_get hf _ q (by simpa using hq) t hjm]
  by_cases e:k=q
  ·subst e
   rw [List.getElem_set_self,patch_in _ _ _ _ (by rw [hf];exact hjm) (by rw [hf];omega)]
  ·rw [List.getElem_set_ne e]
   have hout:q*m+t<k*m∨k*m+(f x).length≤q*m+t:=by
    rw [hf]
    rcases Nat.lt_or_ge q k with hqk | hqk
    ·have:=Nat.mul_le_mul_right m (show q+1≤k by omega)
     rw [Nat.add_mul,Nat.one_mul] at this
     omega
    ·have:=Nat.mul_le_mul_right m (show k+1≤q by omega)
     rw [Nat.add_mul,Nat.one_mul] at this
     omega
   rw [patch_out _ _ _ _ hout,← flat_get hf xs q hq t hjm,← h,List.getElem?_take,if_pos hj,Array.getElem?_toList]
 ·rw [List.getElem?_eq_none (by omega)]
structure St (f:α→List Value) (m:Nat) (e:TypeId) (base g c:Nat) (w0 w:World) (xs:List α):Prop where
 grown:w0.grownBy w (some g)
 own:w.ownsRow base e m (.slice (some ⟨g,0,none⟩) xs.length c) xs.length (xs.flatMap f)
variable {f:α→List Value} {m:Nat} {e:TypeId} {base g c:Nat} {w0 w w':World} {xs:List α}
theorem St.start (h:w.ownsRow base e m (.slice (some ⟨g,0,none⟩) xs.length c) xs.length (xs.flatMap f)):St f m e base g c w w xs:=⟨grown_refl w _,h⟩
theorem St.range (h:St f m e base g c w0 w xs) (hf:Els f m) {k:Nat} {x:α} (hk:xs[k]?=some x):w.rangeAt g (k*m) (f x):=by
 intro j v hj
 obtain ⟨hk1,rfl⟩:=List.getElem?_eq_some_iff.1 hk
 have hjm:j<m:=by rw [← hf.len xs[k]];exact (List.getElem?_eq_some_iff.1 hj).1
 have:=h.own.cells (g:=g) rfl (k*m+j) v ((flat_get hf.len xs k hk1 j hjm).trans hj)
 rwa [add_mk,Nat.zero_add] at this
theorem St.there (h:St f m e base g c w0 w xs) (hf:Els f m) {k:Nat} (hk:k<xs.length):w.there g (k*m) m:=by
 intro j hj
 have h1:=h.range hf (List.getElem?_eq_getElem hk)
 refine ⟨h1.isSome j (by rw [hf.len];exact hj),?_⟩
 have:=h.own.frozenAt (k*m+j)
 exact this
theorem St.set (h:St f m e base g c w0 w xs) (hf:Els f m) {k:Nat} (hk:k<xs.length) (x:α):St f m e base g c w0 (w.setCells g (k*m) (f x)) (xs.set k x):=by
 obtain ⟨cur,hB,hb,h1,h2,h3,h4⟩:=own_blk h.own
 refine ⟨grown_grown h.grown (grown_sets g _ w _),?_⟩
 rw [List.length_set]
 exact own_of_blk (Blk.sets (f x) (k*m) hB) hb h1 h2 (by rw [patch_size];exact h3) (els_set hf.len hk x h4 (by rw [h3];exact Nat.mul_le_mul_right _ h1))
theorem St.self (h:St f m e base g c w0 w xs):St f m e base g c w w xs:=⟨grown_refl w _,h.own⟩
theorem St.below (h:St f m e base g c w0 w xs) (hb:Below w.heap.size w w'):St f m e base g c w0 w' xs:=⟨grown_then h.grown hb,own_below h.own hb⟩
theorem St.trans {w1:World} {ys:List α} (h:St f m e base g c w0 w xs) (k:St f m e base g c w w1 ys):St f m e base g c w0 w1 ys:=⟨grown_grown h.grown k.grown,k.own⟩
theorem St.drewN (h:St f m e base g c w0 w xs) (n:Nat):St f m e base g c w0 (w.drewN n) xs:=h.below (below_drewN (Below.refl _ _) n)
theorem St.drew (h:St f m e base g c w0 w xs):St f m e base g c w0 w.drew xs:=h.below (Below.refl _ _).drew
theorem St.lt (h:St f m e base g c w0 w xs):g<w.heap.size:=(h.own.lt g rfl).2
theorem cmpI_neg {a b:Int}:cmpI a b<0↔a<b:=by
 unfold cmpI
 split
 ·simp [*]
 ·split<;>simp [*]
end
def CmpF {α:Type} (f:α→List Value) (key:α→Int) (F:FuncId):Prop:=
 (∀ (w:World) (x y:α),Calls Tryz.prog F #[.agg (f x).toArray,.agg (f y).toArray] w fun e w'=>e=.returned (.int .i64 (cmpI (key x) (key y)))∧Below w.heap.size w w') ∧
 ∀ (args:Array Value) (W:World),(callFunc F args).run Tryz.prog W=.ok (.enter F args) W
open Go.RowKit
def upd {α:Type} (f:Nat→α) (i:Nat) (v:α):Nat→α:=fun j=>if j=i then v else f j
@[simp] theorem upd_same {α:Type} (f:Nat→α) (i:Nat) (v:α):upd f i v i=v:=by simp [upd]
theorem upd_ne {α:Type} (f:Nat→α) {i j:Nat} (v:α) (h:j≠i):upd f i v j=f j:=by simp [upd,h]
def dstAt (ops:Array Oper) (i:Nat):Option Tmp:=(ops[i]?).bind (·.dst)
def okOps (ops:Array Oper) (n:Nat):Bool:=
 (List.range ops.size).all fun i=>
  (match dstAt ops i with | none=>true | some d=>decide (d<n) && (List.range ops.size).all fun j=>i==j || !(dstAt ops j==some d)) &&
  (match ops[i]? with | none=>true | some o=>o.after.toList.all fun e=>!Region.binds .any e || decide (e.on<i))
structure Fr (ops:Array Oper) (a:Act) (l:Nat→Bool) (vs:Nat→Value) (act:Act):Prop where
 defers:act.defers=a.defers
 size:act.tmps.size=a.tmps.size
 done:∀ j d,dstAt ops j=some d→l j=true→act.tmps[d]?=some (vs j)
 old:∀ k,(∀ j,dstAt ops j=some k→l j=false)→act.tmps[k]?=a.tmps[k]?
section
variable {ops:Array Oper} {a act:Act} {l:Nat→Bool} {vs:Nat→Value} {n:Nat}
theorem okOps_dst (h:okOps ops n=true) {i:Nat} {d:Tmp} (hd:dstAt ops i=some d):d<n∧∀ j,dstAt ops j=some d→j=i:=by
 have hi:i<ops.size:=by
  rcases Nat.lt_or_ge i ops.size with h | h
  ·exact h
  ·simp [dstAt,Array.getElem?_eq_none h] at hd
 have h1:=List.all_eq_true.1 h i (List.mem_range.2 hi)
 rw [Bool.and_eq_true,hd] at h1
 have h2:=h1.1
 simp only [Bool.and_eq_true,decide_eq_true_eq] at h2
 refine ⟨h2.1,fun j hj=>?_⟩
 have hjs:j<ops.size:=by
  rcases Nat.lt_or_ge j ops.size with h | h
  ·exact h
  ·simp [dstAt,Array.getElem?_eq_none h] at hj
 have h3:=List.all_eq_true.1 h2.2 j (List.mem_range.2 hjs)
 rw [hj] at h3
 simp at h3
 exact h3.symm
theorem okOps_on (h:okOps ops n=true) {i:Nat} {o:Oper} (ho:ops[i]?=some o):∀ e∈o.after,Region.binds .any e=true→e.on<i:=by
 have hi:i<ops.size:=by
  rcases Nat.lt_or_ge i ops.size with h | h
  ·exact h
  ·simp [Array.getElem?_eq_none h] at ho
 have h1:=List.all_eq_true.1 h i (List.mem_range.2 hi)
 rw [Bool.and_eq_true,ho] at h1
 have h2:=h1.2
 intro e he hbd
 have:=List.all_eq_true.1 h2 e (Array.mem_toList_iff.2 he)
 rw [hbd] at this
 simpa using this
theorem Fr.val (h:Fr ops a l vs act) {j:Nat} {d:Tmp} (hd:dstAt ops j=some d) (hl:l j=true):act.tmps[d]?.getD undef=vs j:=by
 rw [h.done j d hd hl];rfl
def notDst (ops:Array Oper) (k:Tmp):Bool:=(List.range ops.size).all fun j=>!(dstAt ops j==some k)
theorem Fr.was (h:Fr ops a l vs act) {k:Tmp} (hk:notDst ops k=true):act.tmps[k]?.getD undef=a.tmps[k]?.getD undef:=by
 rw [h.old k]
 intro j hj
 have hjs:j<ops.size:=by
  rcases Nat.lt_or_ge j ops.size with h | h
  ·exact h
  ·simp [dstAt,Array.getElem?_eq_none h] at hj
 have:=List.all_eq_true.1 hk j (List.mem_range.2 hjs)
 rw [hj] at this
 simp at this
theorem put_size (d:Option Tmp) (v:Value) (a:Act):(a.put d v).tmps.size=a.tmps.size:=by
 cases d<;>simp [Act.put]
theorem put_defers (d:Option Tmp) (v:Value) (a:Act):(a.put d v).defers=a.defers:=by
 cases d<;>rfl
theorem put_same {d:Tmp} {v:Value} {a:Act} (h:d<a.tmps.size):(a.put (some d) v).tmps[d]?=some v:=by
 simp [Act.put,h]
theorem put_far {d:Option Tmp} {k:Tmp} {v:Value} {a:Act} (h:d≠some k):(a.put d v).tmps[k]?=a.tmps[k]?:=by
 cases d with
 | none=>rfl
 | some d=>
  have:d≠k:=fun e=>h (by rw [e])
  simp [Act.put,this]
theorem Fr.step (hk:okOps ops a.tmps.size=true) (h:Fr ops a l vs act) {i:Nat} {o:Oper} (ho:ops[i]?=some o) (v:Value) (hl:l i=false) :
  Fr ops a (upd l i true) (upd vs i v) (act.put o.dst v):=by
 have hdi:dstAt ops i=o.dst:=by simp [dstAt,ho]
 refine ⟨by rw [put_defers,h.defers],by rw [put_size,h.size],?_,?_⟩
 ·intro j d hj hlj
  by_cases e:j=i
  ·subst e
   rw [hdi] at hj
   rw [hj,upd_same]
   exact put_same (by rw [h.size];exact (okOps_dst hk (hdi.trans hj)).1)
  ·rw [upd_ne _ _ e] at hlj ⊢
   rw [put_far]
   ·exact h.done j d hj hlj
   ·intro e'
    exact e ((okOps_dst hk (hdi.trans e')).2 j hj)
 ·intro k hk'
  have hne:o.dst≠some k:=fun e=>by
   have:=hk' i (hdi.trans e)
   rw [upd_same] at this
   cases this
  rw [put_far hne]
  refine h.old k fun j hj=>?_
  by_cases e:j=i
  ·subst e;exact hl
  ·have:=hk' j hj
   rwa [upd_ne _ _ e] at this
theorem Fr.start:Fr ops a (fun _=>false) vs a:=⟨rfl,rfl,(fun _ _ _ h=>by cases h),(fun _ _=>rfl)⟩
def putAll:List Oper→Nat→(Nat→Value)→Act→Act
 | [],_,_,a=>a
 | o::os,i,vs,a=>putAll os (i+1) vs (a.put o.dst (vs i))
theorem putAll_defers:∀ (os:List Oper) (i:Nat) (vs:Nat→Value) (a:Act),(putAll os i vs a).defers=a.defers
 | [],_,_,_=>rfl
 | o::os,i,vs,a=>by rw [putAll,putAll_defers os,put_defers]
theorem putAll_ne {k:Tmp}:∀ (os:List Oper) (i:Nat) (vs:Nat→Value) (a:Act),(∀ o∈os,o.dst≠some k)→(putAll os i vs a).tmps[k]?=a.tmps[k]?
 | [],_,_,_,_=>rfl
 | o::os,i,vs,a,h=>by rw [putAll,putAll_ne os _ _ _ (fun o' ho=>h o' (by simp [ho])),put_far (h o (by simp))]
theorem putAll_at {d:Tmp}:∀ (os:List Oper) (i:Nat) (vs:Nat→Value) (a:Act) (j:Nat),(os[j]?).bind (·.dst)=some d→d<a.tmps.size →
  (∀ j',(os[j']?).bind (·.dst)=some d→j'=j)→(putAll os i vs a).tmps[d]?=some (vs (i+j))
 | [],_,_,_,_,h,_,_=>by simp at h
 | o::os,i,vs,a,0,h,hd,hu=>by
  rw [putAll,putAll_ne]
  ·simp at h
   rw [h]
   exact put_same hd
  ·intro o' ho' e
   obtain ⟨q,hq⟩:=List.getElem?_of_mem ho'
   have:=hu (q+1) (by simp [hq,e])
   omega
 | o::os,i,vs,a,j+1,h,hd,hu=>by
  rw [putAll,putAll_at os (i+1) vs _ j (by simpa using h) (by rw [put_size];exact hd) (fun j' h'=>by have:=hu (j'+1) (by simpa using h');omega)]
  rw [show i+1+j=i+(j+1) by omega]
theorem act_ext {a b:Act} (h1:a.tmps=b.tmps) (h2:a.defers=b.defers):a=b:=by
 cases a;cases b;simp only at h1 h2;rw [h1,h2]
theorem Fr.all (hk:okOps ops a.tmps.size=true) (h:Fr ops a l vs act) (hl:∀ j,j<ops.size→l j=true):act=putAll ops.toList 0 vs a:=by
 refine act_ext ?_ (by rw [putAll_defers,h.defers])
 refine Array.ext_getElem? fun k=>?_
 by_cases hx:∃ j,dstAt ops j=some k
 ·obtain ⟨j,hj⟩:=hx
  have hjs:j<ops.size:=by
   rcases Nat.lt_or_ge j ops.size with h | h
   ·exact h
   ·simp [dstAt,Array.getElem?_eq_none h] at hj
  obtain ⟨hkn,hun⟩:=okOps_dst hk hj
  rw [h.done j k hj (hl j hjs),putAll_at ops.toList 0 vs a j (by simpa [dstAt] using hj) hkn (fun j' h'=>hun j' (by simpa [dstAt] using h')),Nat.zero_add]
 ·rw [h.old k (fun j hj=>absurd ⟨j,hj⟩ hx),putAll_ne]
  intro o ho e
  obtain ⟨q,hq⟩:=List.getElem?_of_mem ho
  exact hx ⟨q,by simp at hq;simp [dstAt,hq,e]⟩
end
section
variable {P:Program} {ops:Array Oper} {Q:Exit→Act→World→Prop}
theorem wp_region_vals {id:Nat} {a:Act} {w:World} (hm:P.follows .mixedOrders=true) (hk:okOps ops a.tmps.size=true)
  (I:(Nat→Bool)→(Nat→Value)→World→Prop)
  (h0:I (fun _=>false) (fun _=>undef) w.drew)
  (hend:∀ vs w' l,I l vs w'→(∀ j,j<ops.size→l j=true)→Q .normal (putAll ops.toList 0 vs a) w')
  (hstep:∀ i o,ops[i]?=some o→∀ l vs act w',Fr ops a l vs act→I l vs w'→l i=false→(o.after.all fun e=>!Region.binds .any e || l e.on)=true →
   if Region.wanted o (yielded ops act.tmps) then ∀ K:Act→World→Prop,(∀ v w'',I (upd l i true) (upd vs i v) w''→K (act.put o.dst v) w'')→o.wp P act w' K Q
   else I (upd l i true) (upd vs i undef) w'):(Code.region id ops true).wp P Q a w:=by
 refine wp_region_inv hm (fun L act w'=>L.size=ops.size∧∃ l vs,(∀ j,L.getD j false=l j)∧Fr ops a l vs act∧I l vs w') ?_ ?_ ?_
 ·refine ⟨by simp,fun _=>false,fun _=>undef,fun j=>?_,Fr.start,h0⟩
  simp only [Array.getD_eq_getD_getElem?,Array.getElem?_replicate]
  split<;>rfl
 ·rintro L act w' ⟨hs,l,vs,hL,hF,hI⟩ hr
  have hall:∀ j,j<ops.size→l j=true:=by
   intro j
   induction j using Nat.strongRecOn with
   | _ j ih=>
    intro hj
    obtain ⟨o,ho⟩:∃ o,ops[j]?=some o:=⟨_,Array.getElem?_eq_getElem hj⟩
    have:=ready_out hr j hj (by
     rw [ho]
     simp only [Option.map_some,Option.getD_some]
     rw [Array.all_eq_true_iff_forall_mem]
     intro e he
     cases hbd:Region.binds .any e with
     | false=>rfl
     | true=>
      have hlt:=okOps_on hk ho e he hbd
      rw [hL,ih e.on hlt (by omega)]
      simp)
    rw [← hL]
    have hjL:j<L.size:=by omega
    simp [Array.getD_eq_getD_getElem?,hjL] at this ⊢
    exact this
  rw [hF.all hk hall]
  exact hend vs w' l hI hall
 ·rintro L act w' i ⟨hs,l,vs,hL,hF,hI⟩ hi hf hd
  obtain ⟨o,ho⟩:∃ o,ops[i]?=some o:=⟨_,Array.getElem?_eq_getElem hi⟩
  have hiL:i<L.size:=by omega
  have hli:l i=false:=by
   rw [← hL]
   simp [Array.getD_eq_getD_getElem?,hiL] at hf ⊢
   exact hf
  have hd':(o.after.all fun e=>!Region.binds .any e || l e.on)=true:=by
   rw [ho] at hd
   simp only [Option.map_some,Option.getD_some] at hd
   rw [Array.all_eq_true_iff_forall_mem] at hd ⊢
   intro e he
   rw [← hL]
   exact hd e he
  have hLs:∀ j,(L.setIfInBounds i true).getD j false=upd l i true j:=by
   intro j
   by_cases e:j=i
   ·subst e;simp [Array.getD_eq_getD_getElem?,hiL]
   ·rw [upd_ne _ _ e,← hL]
    simp [Array.getD_eq_getD_getElem?,Ne.symm e]
  have hst:=hstep i o ho l vs act w' hF hI hli hd'
  unfold wpOp
  simp only [ho]
  split at hst
  case isTrue hw=>
   rw [if_pos hw]
   exact .inl (hst _ fun v w'' hI'=>⟨by simpa using hs,_,_,hLs,hF.step hk ho v hli,hI'⟩)
  case isFalse hw=>
   rw [if_neg hw]
   exact ⟨by simpa using hs,_,_,hLs,hF.step hk ho undef hli,hst⟩
theorem lt_of_some {i:Nat} {o:Oper} (h:ops[i]?=some o):i<ops.size:=by
 rcases Nat.lt_or_ge i ops.size with h' | h'
 ·exact h'
 ·rw [Array.getElem?_eq_none h'] at h;cases h
end
open Go.RowKit
def tab (l:List Value) (j:Nat):Value:=l.getD j undef
def putL:List (Option Tmp×Value)→Act→Act
 | [],a=>a
 | (d,v)::l,a=>putL l (a.put d v)
def putT:List (Option Tmp×Value)→List Value→List Value
 | [],t=>t
 | (none,_)::l,t=>putT l t
 | (some d,v)::l,t=>putT l (t.set d v)
theorem putL_eq:∀ (l:List (Option Tmp×Value)) (ts:List Value) (df:List Deferred),putL l { tmps:=⟨ts⟩,defers:=df }={ tmps:=⟨putT l ts⟩,defers:=df }
 | [],_,_=>rfl
 | (none,_)::l,ts,df=>putL_eq l ts df
 | (some d,v)::l,ts,df=>by
  rw [putL,putT,← putL_eq l (ts.set d v) df]
  simp [Act.put]
theorem putAll_tab:∀ (os:List Oper) (i:Nat) (vs:Nat→Value) (a:Act) (ps:List (Option Tmp×Value)),ps=(os.zipIdx i).map (fun p=>(p.1.dst,vs p.2))→putAll os i vs a=putL ps a
 | [],_,_,_,_,h=>by subst h;rfl
 | o::os,i,vs,a,_,h=>by
  subst h
  rw [List.zipIdx_cons,List.map_cons,putL,putAll,putAll_tab os (i+1) vs (a.put o.dst (vs i)) _ rfl]
section
variable {P:Program} {ops:Array Oper} {Q:Exit→Act→World→Prop}
theorem putAll_congr {V V':Nat→Value}:∀ (os:List Oper) (i:Nat) (a:Act),(∀ j,j<i+os.length→V j=V' j)→putAll os i V a=putAll os i V' a:=by
 intro os
 induction os with
 | nil=>intro _ _ _;rfl
 | cons o os ih=>
  intro i a h
  simp only [List.length_cons] at h
  rw [putAll,putAll,h i (by omega),ih _ _ (fun j hj=>h j (by omega))]
theorem wp_region_known {id:Nat} {a:Act} {w:World} (hm:P.follows .mixedOrders=true) (hk:okOps ops a.tmps.size=true) (hg:(ops.toList.all fun o=>o.guard.isNone)=true) (V:Nat→Value)
  (J:(Nat→Bool)→World→Prop) (h0:J (fun _=>false) w.drew)
  (hend:∀ w' l,J l w'→(∀ j,j<ops.size→l j=true)→Q .normal (putAll ops.toList 0 V a) w')
  (hstep:∀ (i:Nat) (o:Oper),ops[i]?=some o→∀ (l:Nat→Bool) (act:Act) (w':World),J l w'→l i=false →
   (o.after.all fun e=>!Region.binds .any e || l e.on)=true →
   (∀ j d,dstAt ops j=some d→l j=true→act.tmps[d]?.getD undef=V j) →
   (∀ k,notDst ops k=true→act.tmps[k]?.getD undef=a.tmps[k]?.getD undef) →
   ∀ K:Act→World→Prop,(∀ w'',J (upd l i true) w''→K (act.put o.dst (V i)) w'')→o.wp P act w' K Q):(Code.region id ops true).wp P Q a w:=by
 refine wp_region_vals hm hk (fun l vs w'=>J l w'∧∀ j,l j=true→vs j=V j) ⟨h0,fun _ h=>by cases h⟩ ?_ ?_
 ·rintro vs w' l ⟨hb,hv⟩ hl
  rw [putAll_congr (V':=V) ops.toList 0 a (fun j hj=>hv j (hl j (by simpa using hj)))]
  exact hend w' l hb hl
 ·rintro i o ho l vs act w' hF ⟨hb,hv⟩ hl hd
  have hno:o.guard=none:=by
   have:=List.all_eq_true.1 hg o (Array.mem_toList_iff.2 (Array.mem_of_getElem? ho))
   simpa using this
  rw [if_pos (by unfold Region.wanted;rw [hno])]
  intro K hK
  refine hstep i o ho l act w' hb hl hd ?_ (fun k h=>hF.was h) K (fun w'' hb'=>hK _ w'' ⟨hb',fun j hj=>?_⟩)
  ·intro j d hj hlj
   rw [hF.val hj hlj,hv j hlj]
  ·by_cases e:j=i
   ·subst e;rw [upd_same]
   ·rw [upd_ne _ _ e] at hj ⊢
    exact hv j hj
end
open Go.RowKit
section
variable {P:Program} {ops:Array Oper} {Q:Exit→Act→World→Prop}
def guardOk (ops:Array Oper) (o:Oper):Bool:=
 match o.guard with
 | none=>true
 | some (j,_)=>(dstAt ops j).isSome && o.after.toList.any fun e=>e.on==j && Region.binds .any e
def isBl (v:Value) (b:Bool):Bool:=match v with | .bool c=>c==b | _=>false
theorem wp_region_pred {id:Nat} {a:Act} {w:World} (hm:P.follows .mixedOrders=true) (hk:okOps ops a.tmps.size=true) (hg:(ops.toList.all (guardOk ops))=true)
  (G:Nat→Bool) (C:Nat→World→Value→Prop)
  (hst:∀ j w' w'' v,C j w' v→Below w'.heap.size w' w''→C j w'' v)
  (hgd:∀ (i:Nat) (o:Oper),ops[i]?=some o→match o.guard with | none=>G i=true | some (j,b)=>∀ w' v,C j w' v→isBl v b=G i)
  (hno:∀ i w',G i=false→C i w' undef)
  (hend:∀ vs w',Below w.heap.size w w'→(∀ j,j<ops.size→C j w' (vs j))→Q .normal (putAll ops.toList 0 vs a) w')
  (hstep:∀ (i:Nat) (o:Oper),ops[i]?=some o→G i=true→∀ (act:Act) (w':World),Below w.heap.size w w' →
   (∀ j d,dstAt ops j=some d→(o.after.toList.any fun e=>e.on==j && Region.binds .any e)=true→C j w' (act.tmps[d]?.getD undef)) →
   (∀ k,notDst ops k=true→act.tmps[k]?.getD undef=a.tmps[k]?.getD undef) →
   ∀ K:Act→World→Prop,(∀ v w'',Below w'.heap.size w' w''→C i w'' v→K (act.put o.dst v) w'')→o.wp P act w' K Q):(Code.region id ops true).wp P Q a w:=by
 refine wp_region_vals hm hk (fun l vs w'=>Below w.heap.size w w'∧∀ j,l j=true→C j w' (vs j)) ⟨(Below.refl _ _).drew,fun _ h=>by cases h⟩ ?_ ?_
 ·rintro vs w' l ⟨hb,hv⟩ hl
  exact hend vs w' hb (fun j hj=>hv j (hl j hj))
 ·rintro i o ho l vs act w' hF ⟨hb,hv⟩ hl hd
  have hdep:∀ j d,dstAt ops j=some d→(o.after.toList.any fun e=>e.on==j && Region.binds .any e)=true→act.tmps[d]?=some (vs j)∧C j w' (vs j):=by
   intro j d hj he
   obtain ⟨q,hq,h2⟩:=List.any_eq_true.1 he
   rw [Bool.and_eq_true,beq_iff_eq] at h2
   have hlj:=(Array.all_eq_true_iff_forall_mem.1 hd) _ (Array.mem_toList_iff.1 hq)
   rw [h2.2,h2.1] at hlj
   have hlj':l j=true:=by simpa using hlj
   exact ⟨hF.done j d hj hlj',hv j hlj'⟩
  have hwant:Region.wanted o (yielded ops act.tmps)=G i:=by
   unfold Region.wanted
   have hgo:=List.all_eq_true.1 hg o (Array.mem_toList_iff.2 (Array.mem_of_getElem? ho))
   have hgo2:=hgd i o ho
   unfold guardOk at hgo
   cases hgd':o.guard with
   | none=>rw [hgd'] at hgo2;exact hgo2.symm
   | some p=>
    obtain ⟨j,b⟩:=p
    rw [hgd'] at hgo hgo2
    simp only [Bool.and_eq_true] at hgo hgo2
    obtain ⟨d,hd'⟩:=Option.isSome_iff_exists.1 hgo.1
    obtain ⟨ht,hc⟩:=hdep j d hd' hgo.2
    have e:((ops[j]?).bind fun x=>x.dst)=some d:=hd'
    rw [← hgo2 w' (vs j) hc]
    simp only [yielded,e,Option.bind_some,ht]
    cases vs j<;>rfl
  rw [hwant]
  split
  case isTrue hw=>
   intro K hK
   refine hstep i o ho hw act w' hb (fun j d hj he=>by rw [(hdep j d hj he).1];exact (hdep j d hj he).2) (fun k h=>hF.was h) K (fun v w'' hb' hc=>hK v w'' ⟨hb.trans (hb'.mono hb.size),fun j hj=>?_⟩)
   by_cases e:j=i
   ·subst e;rw [upd_same];exact hc
   ·rw [upd_ne _ _ e] at hj ⊢
    exact hst j w' w'' _ (hv j hj) hb'
  case isFalse hw=>
   refine ⟨hb,fun j hj=>?_⟩
   by_cases e:j=i
   ·subst e;rw [upd_same];exact hno _ w' (by simpa using hw)
   ·rw [upd_ne _ _ e] at hj ⊢
    exact hv j hj
end
open Go.RowKit
section
variable {P:Program} {ops:Array Oper} {Q:Exit→Act→World→Prop}
def isBlV (v:Value) (b:Bool):Bool:=match v with | .bool c=>c==b | _=>false
theorem wp_region_kg {id:Nat} {a:Act} {w:World} (hm:P.follows .mixedOrders=true) (hk:okOps ops a.tmps.size=true) (hg:(ops.toList.all (guardOk ops))=true)
  (G:Nat→Bool) (V:Nat→Value) (J:(Nat→Bool)→World→Prop)
  (hgd:∀ (i:Nat) (o:Oper),ops[i]?=some o→match o.guard with | none=>G i=true | some (j,b)=>isBlV (V j) b=G i)
  (h0:J (fun _=>false) w.drew)
  (hno:∀ i,i<ops.size→G i=false→V i=undef∧∀ l w',J l w'→J (upd l i true) w')
  (hend:∀ w' l,J l w'→(∀ j,j<ops.size→l j=true)→Q .normal (putAll ops.toList 0 V a) w')
  (hstep:∀ (i:Nat) (o:Oper),ops[i]?=some o→G i=true→∀ (l:Nat→Bool) (act:Act) (w':World),J l w'→l i=false →
   (o.after.all fun e=>!Region.binds .any e || l e.on)=true →
   (∀ j d,dstAt ops j=some d→l j=true→act.tmps[d]?.getD undef=V j) →
   (∀ k,notDst ops k=true→act.tmps[k]?.getD undef=a.tmps[k]?.getD undef) →
   ∀ K:Act→World→Prop,(∀ w'',J (upd l i true) w''→K (act.put o.dst (V i)) w'')→o.wp P act w' K Q):(Code.region id ops true).wp P Q a w:=by
 refine wp_region_vals hm hk (fun l vs w'=>J l w'∧∀ j,j<ops.size→l j=true→vs j=V j) ⟨h0,fun _ _ h=>by cases h⟩ ?_ ?_
 ·rintro vs w' l ⟨hb,hv⟩ hl
  rw [putAll_congr (V':=V) ops.toList 0 a (fun j hj=>hv j (by simpa using hj) (hl j (by simpa using hj)))]
  exact hend w' l hb hl
 ·rintro i o ho l vs act w' hF ⟨hb,hv⟩ hl hd
  have hsz:i<ops.size:=by
   rcases Nat.lt_or_ge i ops.size with h | h
   ·exact h
   ·simp [Array.getElem?_eq_none h] at ho
  have hdsz:∀ j d,dstAt ops j=some d→j<ops.size:=by
   intro j d hj
   rcases Nat.lt_or_ge j ops.size with h | h
   ·exact h
   ·simp [dstAt,Array.getElem?_eq_none h] at hj
  have hwant:Region.wanted o (yielded ops act.tmps)=G i:=by
   unfold Region.wanted
   have hgo:=List.all_eq_true.1 hg o (Array.mem_toList_iff.2 (Array.mem_of_getElem? ho))
   have hgo2:=hgd i o ho
   unfold guardOk at hgo
   cases hgd':o.guard with
   | none=>rw [hgd'] at hgo2;exact hgo2.symm
   | some p=>
    obtain ⟨j,b⟩:=p
    rw [hgd'] at hgo hgo2
    simp only [Bool.and_eq_true] at hgo hgo2
    obtain ⟨d,hd'⟩:=Option.isSome_iff_exists.1 hgo.1
    obtain ⟨q,hq,h2⟩:=List.any_eq_true.1 hgo.2
    rw [Bool.and_eq_true,beq_iff_eq] at h2
    have hlj:=(Array.all_eq_true_iff_forall_mem.1 hd) _ (Array.mem_toList_iff.1 hq)
    rw [h2.2,h2.1] at hlj
    have hlj':l j=true:=by simpa using hlj
    have ht:=hF.done j d hd' hlj'
    rw [hv j (hdsz j d hd') hlj'] at ht
    have e:((ops[j]?).bind fun x=>x.dst)=some d:=hd'
    rw [← hgo2]
    simp only [yielded,e,Option.bind_some,ht]
    cases V j<;>rfl
  rw [hwant]
  split
  case isTrue hw=>
   intro K hK
   refine hstep i o ho hw l act w' hb hl hd (fun j d hj hlj=>?_) (fun k h=>hF.was h) K (fun w'' hb'=>hK _ w'' ⟨hb',fun j hjs hj=>?_⟩)
   ·rw [hF.val hj hlj,hv j (hdsz j d hj) hlj]
   ·by_cases e:j=i
    ·subst e;rw [upd_same]
    ·rw [upd_ne _ _ e] at hj ⊢
     exact hv j hjs hj
  case isFalse hw=>
   have hn:=hno i hsz (by simpa using hw)
   refine ⟨hn.2 l w' hb,fun j hjs hj=>?_⟩
   by_cases e:j=i
   ·subst e;rw [upd_same];exact hn.1.symm
   ·rw [upd_ne _ _ e] at hj ⊢
    exact hv j hjs hj
end
end Go.Proofs.YtefdblaolmckmabGreat
