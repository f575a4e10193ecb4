/- Lemmas of the proof. -/
import Derived.Deep.RegionHeld3
import Derived.Test.YtefdblaolmckmabGreatRBStoBToKg
import Derived.Test.YtefdblaolmckmabGreatRBRef2MRToNumB
import Derived.Test.YtefdblaolmckmabGreatRRefSW
import Derived.Test.YtefdblaolmckmabGreatRBSortTRToStoO
import Derived.Test.YtefdblaolmckmabGreatRBStoFToPlainM
import Derived.Test.YtefdblaolmckmabGreatRBRef2MToRunG
import Derived.Test.YtefdblaolmckmabGreatRBSpecZAToRef3S
import Derived.Test.YtefdblaolmckmabGreatRBRef2AToAppOp
import Derived.Test.YtefdblaolmckmabGreatRRefSO
import Derived.Test.YtefdblaolmckmabGreatRRefRun
import Derived.Test.YtefdblaolmckmabGreatRBRef4AToRef4C
set_option linter.unusedVariables false
set_option linter.unusedSimpArgs false
set_option maxRecDepth 100000
set_option maxHeartbeats 12800000
namespace Go.Proofs.YtefdblaolmckmabGreat
open Go.RowKit
open Brood
theorem rtable_any (t:TabIn) (w:World) (hbs:Rd w w.heap.size 2 t.bA t.bs.length (t.bs.flatMap beC)) (hcs:Rd w w.heap.size 1 t.cA t.cols.length (t.cols.map colV)) (hzs:∀ c∈t.cols,Rd w w.heap.size 1 c.A c.zs.length (ints c.zs)) (hs:TabSmall t) :
  Calls Tryz.prog 104 #[.agg #[.int .i64 t.has,.slice t.bA t.bs.length t.bc,.slice t.cA t.cols.length t.cc]] w fun e w'=>e=.returned (.int .i64 (tabErr (tabOf t)))∧Below w.heap.size w w':=by
 obtain ⟨E,hE⟩:∃ E,E=tabErr (tabOf t):=⟨_,rfl⟩
 rw [← hE]
 obtain ⟨has,bA,bc,bs,cA,cc,cols⟩:=t
 replace hE:Hid (E=if isSet has=false then 3 else if bs.length=0∨cols.length≠(listS has).length then 4 else if colsErr bs.length (cols.map ColIn.zs)≠0 then colsErr bs.length (cols.map ColIn.zs) else bsErr none bs):=Lib.hid (by rw [hE];unfold tabErr tabOf;simp only [List.length_map])
 obtain ⟨s1,s2,s3⟩:=hs
 dsimp only at hbs hcs hzs s1 s2 s3 ⊢
 have hzsh:=Lib.hid hzs;have s3h:=Lib.hid s3
 clear hzs s3
 have H:=(Hp.start w).new w.heap.size rfl 100 [.int .i64 has,.slice bA bs.length bc,.slice cA cols.length cc]
 replace H:Hp w _ [.box w.heap.size 100 [.int .i64 has,.slice bA bs.length bc,.slice cA cols.length cc]]:=H
 have hset:=fun W=>rset_any has W
 cases hset1:isSet has with
 | false=>
  rw [hset1] at hset
  have hEf:Hid (E=3):=Lib.hid (by rw [hE.out,if_pos hset1])
  have hsch:=Lib.hid hset
  clear hset hset1 hE
  go_enter Tryz.func104,Tryz.ntmps104
  go_wp2_with fail
  refine (hsch.out _).mono ?_
  rintro e w2 ⟨rfl,rfl⟩
  go_wp2_with fail
  go_ret
  exact ⟨ret_int hEf.out.symm,H.bel⟩
 | true=>
  rw [hset1] at hset
  have hE2:Hid (E=if bs.length=0∨cols.length≠(listS has).length then 4 else if colsErr bs.length (cols.map ColIn.zs)≠0 then colsErr bs.length (cols.map ColIn.zs) else bsErr none bs):=Lib.hid (by rw [hE.out,if_neg (by rw [hset1];decide)])
  have hl8:=listS_len has
  have hsch:=Lib.hid hset
  obtain ⟨q,rfl,hq⟩:∃ q:Nat,has=(q:Int)∧q<256:=by
   have:=isSet_iff.1 hset1
   obtain ⟨q,rfl⟩:=nat_of this.1
   exact ⟨q,rfl,by omega⟩
  have hrl:=fun W=>rlist_any q hq W
  have hrlh:=Lib.hid hrl
  clear hset hset1 hE hrl
  by_cases hn:bs.length=0
  ·have hz:((bs.length:Int)==0)=true:=by simp [hn]
   have hEf:Hid (E=4):=Lib.hid (by rw [hE2.out,if_pos (.inl hn)])
   clear hE2
   have hnh:=Lib.hid hn
   clear hn
   go_enter Tryz.func104,Tryz.ntmps104
   go_wp2_with fail
   obtain ⟨w1,hw1,H⟩:=H.name
   rw [hw1]
   clear hw1
   have a0:=H.cell 0 0 rfl rfl;have a1:=H.cell 0 1 rfl rfl;have a2:=H.cell 0 2 rfl rfl
   have Hh:=Lib.hid H
   clear H
   refine (hsch.out _).mono ?_
   rintro e w2 ⟨rfl,rfl⟩
   go_wp2_with fail
   go_quiet (fail)
   go_wp2_with fail
   go_ret
   exact ⟨ret_int hEf.out.symm,below_drewN Hh.out.bel _⟩
  ·have hz:((bs.length:Int)==0)=false:=beq_false_of_ne (by omega)
   have hnh:=Lib.hid hn
   clear hn
   go_enter Tryz.func104,Tryz.ntmps104
   go_wp2_with fail
   obtain ⟨w1,hw1,H⟩:=H.name
   rw [hw1]
   clear hw1
   have a0:=H.cell 0 0 rfl rfl;have a1:=H.cell 0 1 rfl rfl;have a2:=H.cell 0 2 rfl rfl
   have Hh:=Lib.hid H
   clear H
   refine (hsch.out _).mono ?_
   rintro e w2 ⟨rfl,rfl⟩
   go_upto_region 3 with fail
   go_cut [25] (fun s wx=>s=.bool ((cols.length:Int) != ((listS q).length:Int))∧Hp w wx [.box w.heap.size 100 [.int .i64 q,.slice bA bs.length bc,.slice cA cols.length cc]])
   case first=>
    have hz2:=Lib.hid (hrlh.out w1.drew)
    have hdr:=Lib.hid Hh.out.drew
    go_region_held3 (fun w'=>w'.cell? ⟨w.heap.size,0,none⟩=some (.int .i64 q)∧w'.cell? ⟨w.heap.size,1,none⟩=some (.slice bA bs.length bc)∧w'.cell? ⟨w.heap.size,2,none⟩=some (.slice cA cols.length cc)) (first | exact ⟨a0,a1,a2⟩ | go_keep)
     (first
      | (go_at_call 120;refine hz2.out.mono ?_;rintro e w5 ⟨v,rfl,hol,hb5⟩;obtain ⟨Al,cl,rfl,_,_⟩:=own_shape hol;have H5:=hdr.out.grow hb5;have a0:=H5.cell 0 0 rfl rfl;have a1:=H5.cell 0 1 rfl rfl;have a2:=H5.cell 0 2 rfl rfl))
    go_wp2_with fail
    go_meet
    exact ⟨rfl,H5⟩
   case rest=>
   clear a0 a1 a2 Hh hrlh
   obtain ⟨rfl,H⟩:=hcut
   have a2:=H.cell 0 2 rfl rfl
   have Hh:=Lib.hid H
   clear H
   generalize (listS (q:Int)).length=L at *
   by_cases hm:cols.length=L
   case neg=>
    have hq2:((cols.length:Int) != (L:Int))=true:=bne_iff_ne.2 (by omega)
    have hEf:Hid (E=4):=Lib.hid (by rw [hE2.out,if_pos (.inr hm)])
    clear hE2 hm
    rw [hq2]
    go_wp2_with fail
    go_ret
    exact ⟨ret_int hEf.out.symm,Hh.out.bel⟩
   case pos=>
    have hq2:((cols.length:Int) != (L:Int))=false:=by simp [hm]
    have hE3:Hid (E=if colsErr bs.length (cols.map ColIn.zs)≠0 then colsErr bs.length (cols.map ColIn.zs) else bsErr none bs):=Lib.hid (by rw [hE2.out,if_neg (by simp [hnh.out,hm])])
    clear hE2 hm
    rw [hq2]
    clear hq2
    go_wp2_with fail
    clear a2
    go_loopw [29] (fun s wr=>∃ k:Nat,k≤cols.length∧s=.int .i64 k∧Hid (colsErr bs.length (cols.map ColIn.zs)=colsErr bs.length ((cols.drop k).map ColIn.zs))∧Hp w wr [.box w.heap.size 100 [.int .i64 q,.slice bA bs.length bc,.slice cA cols.length cc]]) (fun s _=>cols.length-(intOf s).toNat)
    case atStart=>exact ⟨0,by omega,rfl,Lib.hid (by simp),Hh.out⟩
    case round=>
     clear Hh
     obtain ⟨k,hk,rfl,hfr,H⟩:=hrel
     by_cases hkl:k<cols.length
     ·obtain ⟨b1,off,rfl,hb1,e0⟩:=rdC_at (Rd.under hcs H.bel (Nat.le_refl _)) hkl
      have hst:Hid ((cols.drop k).map ColIn.zs=cols[k].zs::(cols.drop (k+1)).map ColIn.zs):=Lib.hid (by rw [List.drop_eq_getElem_cons hkl];rfl)
      have hcol:=Lib.hid (hzsh.out _ (List.getElem_mem hkl))
      have hsm:=s3h.out _ (List.getElem_mem hkl)
      generalize cols[k]=C at *
      obtain ⟨CA,Cc,Cz⟩:=C
      dsimp only at e0 hst hsm hcol
      have i0:(0:Int)≤(k:Int):=by omega
      have i1:(k:Int)<(cols.length:Int):=by omega
      have a1:=H.cell 0 1 rfl rfl
      have Hh:=Lib.hid H
      clear H
      by_cases hcl:Cz.length=bs.length
      case neg=>
       have hq3:((Cz.length:Int) != (bs.length:Int))=true:=bne_iff_ne.2 (by omega)
       have hx:colsErr bs.length (cols.map ColIn.zs)=4:=by rw [hfr.out,hst.out,colsErr,if_pos hcl]
       have hEf:Hid (E=4):=Lib.hid (by rw [hE3.out,hx];rfl)
       clear hx hE3 hst hfr hcl
       go_wp2_with fail
       go_ret
       exact ⟨ret_int hEf.out.symm,Hh.out.bel⟩
      case pos=>
       have hq3:((Cz.length:Int) != (bs.length:Int))=false:=by simp [hcl]
       have hclh:=Lib.hid hcl
       clear hcl
       go_wp2_with fail
       clear a1 e0
       go_loopw [41] (fun s wr=>∃ i:Nat,i≤Cz.length∧s=.int .i64 i∧Hid (∀ v∈Cz.take i,isVal v=true)∧Hp w wr [.box w.heap.size 100 [.int .i64 q,.slice bA bs.length bc,.slice (some ⟨b1,off,none⟩) cols.length cc]]) (fun s _=>Cz.length-(intOf s).toNat)
       case atStart=>exact ⟨0,by omega,rfl,Lib.hid (by simp),Hh.out⟩
       case round=>
        clear Hh
        obtain ⟨i,hi,rfl,hok,H⟩:=hrel
        obtain ⟨wp,rfl⟩:∃ wp:World,wp=wr:=⟨_,rfl⟩
        by_cases hil:i<Cz.length
        ·obtain ⟨v1,p1,rfl,hv1,y0⟩:=rdZ_at (Rd.under hcol.out H.bel (Nat.le_refl _)) hil
         have htk:=Lib.hid (List.take_append_getElem hil)
         have hmem:Cz[i]∈Cz:=List.getElem_mem hil
         generalize Cz[i]=z at *
         have i4:(0:Int)≤(i:Int):=by omega
         have i5:(i:Int)<(Cz.length:Int):=by omega
         have hv:=fun W=>rvalue_any z W
         obtain ⟨V,hV⟩:∃ V,V=isVal z:=⟨_,rfl⟩
         rw [← hV] at hv
         have hvh:=Lib.hid hv
         have Hh:=Lib.hid H
         clear H hv
         cases V with
         | true=>
          have hok2:Hid (∀ v∈Cz.take (i+1),isVal v=true):=Lib.hid (by
           intro v hv
           rw [← htk.out] at hv
           rcases List.mem_append.1 hv with hv | hv
           ·exact hok.out v hv
           ·obtain rfl:v=z:=by simpa using hv
            exact hV.symm)
          clear hok hV htk hmem
          go_wp2_with fail
          refine (hvh.out _).mono ?_
          rintro e w5 ⟨rfl,rfl⟩
          go_wp2_with fail
          go_roundw
          case rel=>exact ⟨i+1,by omega,by go_num,hok2,Hh.out⟩
          case measure=>simp [intOf];omega
         | false=>
          have hx:colsErr bs.length (cols.map ColIn.zs)=3:=by
           rw [hfr.out,hst.out,colsErr,if_neg (fun e=>e hclh.out),if_pos]
           rw [List.any_eq_true]
           exact ⟨z,hmem,by rw [← hV];rfl⟩
          have hEf:Hid (E=3):=Lib.hid (by rw [hE3.out,hx];rfl)
          clear hok hV htk hmem hx hE3 hst hfr
          go_wp2_with fail
          refine (hvh.out _).mono ?_
          rintro e w5 ⟨rfl,rfl⟩
          go_wp2_with fail
          go_ret
          exact ⟨ret_int hEf.out.symm,Hh.out.bel⟩
        ·obtain rfl:i=Cz.length:=by omega
         have hf2:Hid (colsErr bs.length (cols.map ColIn.zs)=colsErr bs.length ((cols.drop (k+1)).map ColIn.zs)):=Lib.hid (by
          rw [hfr.out,hst.out,colsErr,if_neg (fun e=>e hclh.out),if_neg]
          rw [List.any_eq_true]
          rintro ⟨v,hv,hb⟩
          have:=hok.out v (by rw [List.take_length];exact hv)
          rw [this] at hb
          cases hb)
         have Hh:=Lib.hid H
         clear H
         go_wp2_with fail
         go_roundw
         case rel=>exact ⟨k+1,by omega,by go_num,hf2,Hh.out⟩
         case measure=>simp [intOf];omega
     ·obtain rfl:k=cols.length:=by omega
      have hE4:Hid (E=bsErr none bs):=Lib.hid (by rw [hE3.out,hfr.out,List.drop_length];rfl)
      have hE5:Hid (E=bsErr (prevB bs 1) (bs.drop 1)):=Lib.hid (by
       rw [hE4.out]
       cases bs with
       | nil=>exact absurd rfl hnh.out
       | cons r l=>rw [bsErr];simp [prevGe,prevB])
      have hn1:1≤bs.length:=by have:=hnh.out;omega
      clear hE3 hE4 hfr hcs hzsh s3h
      obtain ⟨wo,rfl⟩:∃ wo:World,wo=wr:=⟨_,rfl⟩
      have Hh:=Lib.hid H
      clear H
      go_wp2_with fail
      go_loopw [7] (fun s wr=>∃ k:Nat,1≤k∧k≤bs.length∧s=.int .i64 k∧Hid (E=bsErr (prevB bs k) (bs.drop k))∧Hp w wr [.box w.heap.size 100 [.int .i64 q,.slice bA bs.length bc,.slice cA cols.length cc]]) (fun s _=>bs.length-(intOf s).toNat)
      case atStart=>exact ⟨1,by omega,hn1,rfl,hE5,Hh.out⟩
      case round=>
       clear hE5 Hh
       obtain ⟨k,hk1,hk,rfl,hfr,H⟩:=hrel
       have d1:=H.cell 0 1 rfl rfl
       by_cases hkl:k<bs.length
       ·obtain ⟨k',hkk⟩:∃ k',Hid (k=k'+1):=⟨k-1,Lib.hid (by omega)⟩
        have hk':k' < bs.length:=by have:=hkk.out;omega
        obtain ⟨b1,off,rfl,hb1,e0,e1⟩:=rdBe_at (Rd.under hbs H.bel (Nat.le_refl _)) hkl
        obtain ⟨b',off',hbo,_,e0',_⟩:=rdBe_at (Rd.under hbs H.bel (Nat.le_refl _)) hk'
        injection hbo with hbo
        injection hbo with hbo1 hbo2
        subst hbo1 hbo2
        have hst:Hid (bs.drop k=bs[k]::bs.drop (k+1)):=Lib.hid (List.drop_eq_getElem_cons hkl)
        have hpn:Hid (prevB bs (k+1)=some bs[k].1):=Lib.hid (by simp [prevB,hkl])
        have hpp:Hid (prevB bs k=some bs[k'].1):=Lib.hid (by rw [hkk.out];simp [prevB,hk'])
        generalize bs[k]=r at *
        generalize bs[k']=r2 at *
        obtain ⟨ri,rg⟩:=r
        obtain ⟨si,sg⟩:=r2
        dsimp only at e0 e0' hst hpn hpp
        have i0:(0:Int)≤(k:Int):=by omega
        have i1:(k:Int)<(bs.length:Int):=by omega
        have j0:(0:Int)≤(k':Int):=by omega
        have j1:(k':Int)<(bs.length:Int):=by omega
        have hwrap:IntKind.i64.wrap ((k:Int)-1)=(k':Int):=by have:=hkk.out;rw [IntKind.wrap_i64];omega
        have hEq:Hid (E=if ri≤si then 2 else bsErr (some ri) (bs.drop (k+1))):=Lib.hid (by rw [hfr.out,hst.out,bsErr,hpp.out];simp [prevGe])
        have Hh:=Lib.hid H
        clear hbs hfr hst hpp H
        go_upto_region 20 with fail
        obtain ⟨P,hP⟩:∃ P,Hid (decide (ri≤si)=P):=⟨_,Lib.hid rfl⟩
        go_cut [70] (fun s wx=>s=.bool P∧∃ n,wx=wr.drewN n)
        case first=>
         go_quiet (fail)
         go_wp2_with fail
         go_meet
         exact ⟨by rw [← hP.out],_,rfl⟩
        case rest=>
         obtain ⟨rfl,n,rfl⟩:=hcut
         have H2:=Lib.hid (Hh.out.drewN n)
         cases P with
         | true=>
          have hle:ri≤si:=of_decide_eq_true hP.out
          have hEf:Hid (E=2):=Lib.hid (by rw [hEq.out,if_pos hle])
          clear hEq hle
          go_wp2_with fail
          go_ret
          exact ⟨ret_int hEf.out.symm,H2.out.bel⟩
         | false=>
          have hle:¬ ri≤si:=of_decide_eq_false hP.out
          have hE6:Hid (E=bsErr (prevB bs (k+1)) (bs.drop (k+1))):=Lib.hid (by rw [hEq.out,if_neg hle,hpn.out])
          clear hEq hle hpn
          go_wp2_with fail
          go_roundw
          case rel=>exact ⟨k+1,by omega,by omega,by go_num,hE6,H2.out⟩
          case measure=>simp [intOf];omega
       ·obtain rfl:k=bs.length:=by omega
        have hEf:Hid (E=0):=Lib.hid (by rw [hfr.out,List.drop_length,bsErr])
        have Hh:=Lib.hid H
        clear H hfr
        go_wp2_with fail
        go_ret
        exact ⟨ret_int hEf.out.symm,Hh.out.bel⟩
open Go.RowKit
open Brood
theorem rswrong_any (l:List TabIn) (A:Option Addr) (c:Nat) (gens:List Int) (Ag:Option Addr) (cg:Nat) (hs:StSmall l gens) (w:World) (hT:RdT w w.heap.size A l) (hg:RdG w w.heap.size Ag gens) (hng:Ag=none→cg=0∧gens=[]) :
  Calls Tryz.prog 68 #[.agg #[.slice A l.length c,.slice Ag gens.length cg]] w fun e w'=>e=.returned (.agg #[.int .i64 (storeErr (l.map tabOf) gens).1,.int .i64 (storeErr (l.map tabOf) gens).2])∧Below w.heap.size w w':=by
 obtain ⟨E,hE⟩:∃ E,E=storeErr (l.map tabOf) gens:=⟨_,rfl⟩
 rw [← hE]
 obtain ⟨s1,s2,s3,s4⟩:=hs
 have s2h:=Lib.hid s2;have s3h:=Lib.hid s3
 obtain ⟨T,hTe⟩:∃ T,T=tabsFrom 0 none (l.map tabOf):=⟨_,rfl⟩
 have hET:Hid (E=if T.1≠0 then T else ((worldErr ⟨worldT (l.map tabOf),gens⟩).1,0)):=Lib.hid (by rw [hE,hTe];rfl)
 have hok:Hid (T.1=0→∀ t∈l.map tabOf,TabOk t):=Lib.hid (fun h=>((tabsFrom_iff _ 0 none).1 (hTe ▸ h)).1)
 have hTh:=Lib.hid hTe
 clear s2 s3 hE hTe
 have H:=((Hp.start w).new w.heap.size rfl 40 [.slice A l.length c,.slice Ag gens.length cg]).new (w.heap.size+1) (by simp) 48 [.int .i64 0,.int .i64 0]
 replace H:Hp w _ [stBox w.heap.size A l.length c Ag gens.length cg,fBox (w.heap.size+1) 0 0]:=H
 have a0:=H.cell 0 0 rfl rfl;have a1:=H.cell 0 1 rfl rfl
 go_enter Tryz.func68,Tryz.ntmps68
 go_wp2_with fail
 go_loopw [10] (fun q wr=>∃ k:Nat,k≤l.length∧q=.int .i64 k∧Hid (T=tabsFrom k (prevT l k) ((l.drop k).map tabOf))∧Hp w wr [stBox w.heap.size A l.length c Ag gens.length cg,fBox (w.heap.size+1) 0 0]) (fun q _=>l.length-(intOf q).toNat)
 case atStart=>exact ⟨0,by omega,rfl,Lib.hid (by rw [hTh.out];simp [prevT]),H⟩
 case round=>
  clear H a0 a1
  obtain ⟨k,hk,rfl,hfr,H⟩:=hrel
  have a0:=H.cell 0 0 rfl rfl;have a1:=H.cell 0 1 rfl rfl;have f0:=H.cell 1 0 rfl rfl;have f1:=H.cell 1 1 rfl rfl
  have y0:=H.frozen 1 0 rfl;have y1:=H.frozen 1 1 rfl
  by_cases hlt:k<l.length
  ·obtain ⟨b,off,rfl,hb,hat⟩:=(RdT.more (hT.under H.bel (Nat.le_refl _)) H.bel.size).tab hlt
   have hst:Hid ((l.drop k).map tabOf=tabOf l[k]::(l.drop (k+1)).map tabOf):=Lib.hid (by rw [List.drop_eq_getElem_cons hlt];rfl)
   have hpn:Hid (prevT l (k+1)=some l[k].has):=Lib.hid (by simp [prevT,hlt])
   have hbs:=Lib.hid (hT.bs _ (List.getElem_mem hlt));have hcs:=Lib.hid (hT.cs _ (List.getElem_mem hlt));have hzs:=Lib.hid (hT.zs _ (List.getElem_mem hlt));have hsm:=Lib.hid (s2h.out _ (List.getElem_mem hlt))
   have hprev:∀ k',k=k'+1→∃ z:Int,prevT l k=some z∧w.cell? ⟨b,off+k'*3,none⟩=some (.int .i64 z):=by
    rintro k' rfl
    have hk':k' < l.length:=by omega
    obtain ⟨b',off',hbo,_,e0',_⟩:=hT.at_ hk'
    injection hbo with hbo
    injection hbo with hbo1 hbo2
    subst hbo1 hbo2
    exact ⟨l[k'].has,by simp [prevT,hk'],e0'⟩
   obtain ⟨_,_,he,hb2,e0,e1,e2⟩:=hT.at_ hlt
   injection he with he
   injection he with he1 he2
   subst he1 he2
   have hth:Hid ((tabOf l[k]).has=l[k].has):=Lib.hid rfl
   obtain ⟨P,hP⟩:∃ P,P=prevT l k:=⟨_,rfl⟩
   have hP0:Hid (k=0→P=none):=Lib.hid (by rintro rfl;rw [hP];rfl)
   rw [← hP] at hprev hfr
   clear hP
   generalize l[k]=t at *
   obtain ⟨er,her⟩:∃ er,er=tabErr (tabOf t):=⟨_,rfl⟩
   have hTq:Hid (T=if er≠0 then (er,(k:Int)) else if prevGe P t.has=true then (2,(k:Int)) else tabsFrom (k+1) (some t.has) ((l.drop (k+1)).map tabOf)):=Lib.hid (by rw [hfr.out,hst.out,tabsFrom,← her,hth.out])
   have hcallh:Hid (∀ W,Below w.heap.size w W→Calls Tryz.prog 104 #[.agg #[.int .i64 t.has,.slice t.bA t.bs.length t.bc,.slice t.cA t.cols.length t.cc]] W fun e w'=>e=.returned (.int .i64 er)∧Below W.heap.size W w'):=Lib.hid (fun W hbW=>by
    rw [her]
    exact rtable_any t W (Rd.grow hbs.out hbW) (Rd.grow hcs.out hbW) (fun x hx=>Rd.grow (hzs.out x hx) hbW) hsm.out)
   have i0:(0:Int)≤(k:Int):=by omega
   have i1:(k:Int)<(l.length:Int):=by omega
   have e0w:wr.cell? ⟨b,off+k*3,none⟩=some (.int .i64 t.has):=(H.bel.cell (by simpa using hb2)).trans e0
   have e1w:wr.cell? ⟨b,off+k*3+1,none⟩=some (.slice t.bA t.bs.length t.bc):=(H.bel.cell (by simpa using hb2)).trans e1
   have e2w:wr.cell? ⟨b,off+k*3+2,none⟩=some (.slice t.cA t.cols.length t.cc):=(H.bel.cell (by simpa using hb2)).trans e2
   have HN:=H.new wr.heap.size rfl 100 [.int .i64 t.has,.slice t.bA t.bs.length t.bc,.slice t.cA t.cols.length t.cc]
   have hHN:=Lib.hid HN
   have hl4:=HN.lt 0 rfl
   clear her hth hfr hst HN hl4 hbs hcs hzs hsm H
   go_upto_region 4 with fail
   clear e0w e1w e2w
   obtain ⟨w0,hw0,HN⟩:=hHN.out.name
   rw [hw0]
   clear hw0 hHN a0 a1 f0 f1 y0 y1
   obtain ⟨g4,hg4⟩:∃ g4,g4=wr.heap.size:=⟨_,rfl⟩
   rw [← hg4] at HN ⊢
   clear hg4
   have t0:=HN.cell 2 0 rfl rfl;have t1:=HN.cell 2 1 rfl rfl;have t2:=HN.cell 2 2 rfl rfl
   have hc0:=Lib.hid (hcallh.out w0 HN.bel)
   have hHN:=Lib.hid HN
   clear HN hcallh
   go_wp2_with fail
   refine hc0.out.mono ?_
   rintro e w1 ⟨rfl,hb1⟩
   have H2:=hHN.out.grow hb1
   clear hc0 hHN t0 t1 t2
   have t0:=H2.cell 2 0 rfl rfl
   have a0:=H2.cell 0 0 rfl rfl;have a1:=H2.cell 0 1 rfl rfl;have f0:=H2.cell 1 0 rfl rfl;have f1:=H2.cell 1 1 rfl rfl
   have y0:=H2.frozen 1 0 rfl;have y1:=H2.frozen 1 1 rfl
   by_cases her:er=0
   ·subst her
    have hTq2:Hid (T=if prevGe P t.has=true then (2,(k:Int)) else tabsFrom (k+1) (some t.has) ((l.drop (k+1)).map tabOf)):=Lib.hid (by rw [hTq.out,if_neg (by decide)])
    generalize t.has=ri at *
    have hprev':∀ k',k=k'+1→∃ z:Int,P=some z∧w1.cell? ⟨b,off+k'*3,none⟩=some (.int .i64 z):=fun k' h=>by
     obtain ⟨z,h1,h2⟩:=hprev k' h
     exact ⟨z,h1,(H2.bel.cell (by simpa using hb2)).trans h2⟩
    clear hTq e0 e1 e2 hprev hat
    go_upto_region 7 with fail
    go_cut [35] (fun s39 wx=>s39=.bool (prevGe P ri)∧∃ n,wx=w1.drewN n)
    case first=>
     clear hTq2
     cases k with
     | zero=>
      have hpz:Hid (prevGe P ri=false):=Lib.hid (by rw [hP0.out rfl];rfl)
      clear hprev'
      go_quiet (fail)
      go_wp2_with fail
      go_meet
      exact ⟨by rw [hpz.out],_,rfl⟩
     | succ k'=>
      obtain ⟨q,hq,hcq⟩:=hprev' k' rfl
      have hqv:Hid (prevGe P ri=decide (ri≤q)):=Lib.hid (by rw [hq];rfl)
      have hwrap:IntKind.i64.wrap (((k'+1:Nat):Int)-1)=(k':Int):=by rw [IntKind.wrap_i64];omega
      have hkp:(0:Int)<((k'+1:Nat):Int):=by omega
      have k0:(0:Int)≤(k':Int):=by omega
      have k1:(k':Int)<(l.length:Int):=by omega
      clear hprev' hq
      go_quiet (fail)
      go_wp2_with fail
      go_meet
      exact ⟨by rw [hqv.out],_,rfl⟩
    case rest=>
     obtain ⟨rfl,n,rfl⟩:=hcut
     have H3:=H2.drewN n
     clear hprev' hP0 H2 a0 a1 f0 f1 y0 y1 t0
     have f0:=H3.cell 1 0 rfl rfl;have f1:=H3.cell 1 1 rfl rfl
     have y0:=H3.frozen 1 0 rfl;have y1:=H3.frozen 1 1 rfl
     cases hpg:prevGe P ri with
     | true=>
      have hEf:Hid (E=(2,(k:Int))):=Lib.hid (by rw [hET.out,hTq2.out,if_pos hpg,if_pos (by simp)])
      have H4:=(H3.set 1 0 (.int .i64 2) rfl).set 1 1 (.int .i64 (k:Int)) rfl
      have p0:=H4.cell 1 0 rfl rfl;have p1:=H4.cell 1 1 rfl rfl
      clear hTq2 hET
      go_wp2_with fail
      refine bodyPost_ret (v:=.agg #[.int .i64 2,.int .i64 (k:Int)]) (by simp [results,Tryz.results68,go_sem,p0,p1]) rfl ⟨by rw [hEf.out],H4.bel⟩
     | false=>
      have hEf:Hid (T=tabsFrom (k+1) (prevT l (k+1)) ((l.drop (k+1)).map tabOf)):=Lib.hid (by rw [hTq2.out,if_neg (by rw [hpg];decide),hpn.out])
      clear hTq2 hpn
      go_wp2_with fail
      go_roundw
      case rel=>exact ⟨k+1,by omega,by go_num,hEf,H3.drop1 2⟩
      case measure=>simp [intOf];omega
   ·have her':(er != 0)=true:=bne_iff_ne.2 her
    have hEf:Hid (E=(er,(k:Int))):=Lib.hid (by rw [hET.out,hTq.out,if_pos her,if_pos her])
    have H4:=(H2.set 1 0 (.int .i64 er) rfl).set 1 1 (.int .i64 (k:Int)) rfl
    have p0:=H4.cell 1 0 rfl rfl;have p1:=H4.cell 1 1 rfl rfl
    clear hTq hET hprev hpn her
    go_wp2_with fail
    refine bodyPost_ret (v:=.agg #[.int .i64 er,.int .i64 (k:Int)]) (by simp [results,Tryz.results68,go_sem,p0,p1]) rfl ⟨by rw [hEf.out],H4.bel⟩
  ·obtain rfl:k=l.length:=by omega
   have hT0:T=(0,0):=by rw [hfr.out,List.drop_length];rfl
   have hEf:Hid (E=((worldErr ⟨worldT (l.map tabOf),gens⟩).1,0)):=Lib.hid (by rw [hET.out,hT0,if_neg (by decide)])
   have hokk:=hok.out (by rw [hT0])
   have hfit:l.map tabOf=((l.map tabOf).map grpOf).map tabG:=by
    rw [List.map_map]
    have:∀ t∈l.map tabOf,(tabG ∘ grpOf) t=id t:=fun t ht=>tabG_grpOf (hokk t ht).set_ (hokk t ht).many (hokk t ht).len
    rw [List.map_congr_left this,List.map_id]
   have hcln:∀ g∈(l.map tabOf).map grpOf,Clean g:=by
    intro g hg
    obtain ⟨t,ht,rfl⟩:=List.mem_map.1 hg
    exact grpOf_clean (hokk t ht).set_ (hokk t ht).many
   have hcall:=rworld_any l A c gens Ag cg _ hfit hcln s1 (by rw [flat_sum];exact s3h.out) s4 wr (RdT.more (hT.under H.bel (Nat.le_refl _)) H.bel.size)
   have hlw:(sortK BRow.idx (flatG ((l.map tabOf).map grpOf))).length≤1048576:=by rw [(sortK_stb (key:=BRow.idx) (flatG ((l.map tabOf).map grpOf))).2.1,flat_sum];exact s3h.out
   have hwT:Hid (worldT (l.map tabOf)=sortK BRow.idx (flatG ((l.map tabOf).map grpOf))):=Lib.hid rfl
   generalize sortK BRow.idx (flatG ((l.map tabOf).map grpOf))=R at *
   have hcallh:=Lib.hid hcall
   clear hT0 hcall hokk hfit hcln hfr hET hTh hok
   go_wp2_with fail
   refine hcallh.out.mono ?_
   rintro e w1 ⟨Ar,cr,rfl,HR⟩
   have H2:=H.join HR
   have hgr:RdG w1 w1.heap.size Ag gens:=H2.old hg
   clear H HR a0 a1 f0 f1 y0 y1
   go_wp2_with fail
   refine (rwrong2_any R gens Ar cr Ag cg (by omega) w1 (H2.rd 2 rfl) hgr).mono ?_
   rintro e w2 ⟨rfl,hb2⟩
   obtain ⟨F,hF⟩:∃ F,F=worldErr ⟨R,gens⟩:=⟨_,rfl⟩
   rw [← hF]
   have hEf2:Hid (E=(F.1,0)):=Lib.hid (by rw [hEf.out,hwT.out,hF])
   clear hF hEf hwT
   obtain ⟨x,y⟩:=F
   have H3:=H2.grow hb2
   have f0:=(H2.grow hb2).cell 1 0 rfl rfl;have f1:=(H2.grow hb2).cell 1 1 rfl rfl
   have y0:=(H2.grow hb2).frozen 1 0 rfl;have y1:=(H2.grow hb2).frozen 1 1 rfl
   have lt1:=(H2.grow hb2).lt 1 rfl
   clear H2 hb2
   dsimp only at hEf2
   by_cases hx:x=0
   ·subst hx
    have H4:=((H3.set 1 0 (.int .i64 0) rfl).set 1 1 (.int .i64 0) rfl).new w2.heap.size (by simp) 48 [.int .i64 0,.int .i64 y]
    have p0:=H4.cell 1 0 rfl rfl;have p1:=H4.cell 1 1 rfl rfl
    go_wp2_with fail
    refine bodyPost_ret (v:=.agg #[.int .i64 0,.int .i64 0]) (by simp [results,Tryz.results68,go_sem,p0,p1]) rfl ⟨by rw [hEf2.out],H4.bel⟩
   ·have hx':(x != 0)=true:=bne_iff_ne.2 hx
    have H4:=((H3.set 1 0 (.int .i64 x) rfl).set 1 1 (.int .i64 0) rfl).new w2.heap.size (by simp) 48 [.int .i64 x,.int .i64 y]
    have p0:=H4.cell 1 0 rfl rfl;have p1:=H4.cell 1 1 rfl rfl
    clear hx
    go_wp2_with fail
    refine bodyPost_ret (v:=.agg #[.int .i64 x,.int .i64 0]) (by simp [results,Tryz.results68,go_sem,p0,p1]) rfl ⟨by rw [hEf2.out],H4.bel⟩
open Go.RowKit
open Brood
theorem small_nil:StSmall [] []:=⟨by simp,fun t ht=>(by cases ht),by simp,by simp⟩
def SeenT (w:World) (v:Value) (T:List BTab) (gens:List Int):Prop:=∃ A c l Ag cg,v=.agg #[.slice A l.length c,.slice Ag gens.length cg]∧l.map tabOf=T∧RdSt w w.heap.size ⟨A,c,l,Ag,cg,gens⟩∧StSmall l gens
theorem SeenT.grow {w w':World} {v:Value} {T:List BTab} {gens:List Int} (h:SeenT w v T gens) (hb:Below w.heap.size w w'):SeenT w' v T gens:=by
 obtain ⟨A,c,l,Ag,cg,h1,h2,h3,h4⟩:=h
 exact ⟨A,c,l,Ag,cg,h1,h2,h3.grow hb,h4⟩
theorem SeenT.zero (w:World):SeenT w (.agg #[.slice none 0 0,.slice none 0 0]) [] []:=by
 have h0:Hp w w []:=⟨Below.refl _ _,by simp,by simp⟩
 obtain ⟨A,c,l,Ag,cg,h1,h2,h3⟩:=(GotSt.zero (w:=w) (w':=w) (Below.refl _ _)).rd
 have hl:l=[]:=List.map_eq_nil_iff.1 h2
 subst hl
 exact ⟨A,c,[],Ag,cg,h1,rfl,h3,small_nil⟩
theorem GotSt.seen {w w':World} {v:Value} {T:List BTab} {gens:List Int} (h:GotSt w w' v T gens) (hs:∀ l:List TabIn,l.map tabOf=T→StSmall l gens):SeenT w' v T gens:=by
 obtain ⟨A,c,l,Ag,cg,h1,h2,h3⟩:=h.rd
 exact ⟨A,c,l,Ag,cg,h1,h2,h3,hs l h2⟩
def SeenV (w:World) (v:Value) (rows:List BRow) (gens:List Int):Prop:=∃ A c A' c',v=.agg #[.slice A rows.length c,.slice A' gens.length c']∧RdR w w.heap.size A rows∧RdG w w.heap.size A' gens
theorem SeenV.grow {w w':World} {v:Value} {rows:List BRow} {gens:List Int} (h:SeenV w v rows gens) (hb:Below w.heap.size w w'):SeenV w' v rows gens:=by
 obtain ⟨A,c,A',c',h1,h2,h3⟩:=h
 exact ⟨A,c,A',c',h1,Rd.grow h2 hb,Rd.grow h3 hb⟩
theorem samest_seen {w:World} {v v':Value} {T:List BTab} {gens:List Int} (h:SeenT w v T gens) (h':SeenT w v' T gens) :
  Calls Tryz.prog 28 #[v,v'] w fun e w'=>e=.returned (.bool true)∧Below w.heap.size w w':=by
 obtain ⟨A,c,l,Ag,cg,rfl,h2,h3,h4⟩:=h
 obtain ⟨A',c',l',Ag',cg',rfl,h2',h3',h4'⟩:=h'
 exact rsamest_any l l' gens A c Ag cg A' c' Ag' cg' h4 (h2'.trans h2.symm) w h3 h3'
theorem rworld_seen {l:List TabIn} {A:Option Addr} {c:Nat} {gens:List Int} {Ag:Option Addr} {cg:Nat} {rows:List BRow} (hw:RightW rows gens) (hl:l.map tabOf=tabsW rows) {w:World} (h:RdSt w w.heap.size ⟨A,c,l,Ag,cg,gens⟩) :
  Calls Tryz.prog 74 #[.agg #[.slice A l.length c,.slice Ag gens.length cg]] w fun e w'=>∃ (Ar:Option Addr) (cr:Nat),e=.returned (.agg #[.slice Ar rows.length cr,.slice Ag gens.length cg])∧Hp w w' [pkR (.slice Ar rows.length cr) rows]:=by
 have hs:=right_small hw hl
 have hg:gens.length≤60:=hw.len
 have hr:rows.length≤60:=Nat.le_trans hw.rows_le hw.len
 have hx:=right_len hw
 refine (rworld_any l A c gens Ag cg (ofG rows) hl hw.rep.clean hs.tabs (by omega) hs.gens w h.tabs).mono ?_
 rintro e w' ⟨Ar,cr,h1,h2⟩
 rw [hw.rep.sorted] at h1 h2
 exact ⟨Ar,cr,h1,h2⟩
open Go.RowKit
open Brood
def GotT (Q:Nat→Prop) (w w':World) (v:Value) (T:List BTab) (gens:List Int):Prop:=∃ A c l Ag cg,v=.agg #[.slice A l.length c,.slice Ag gens.length cg]∧l.map tabOf=T∧Hp w w' (tabsE A c l)∧RdG w' w'.heap.size Ag gens∧On Q Ag gens.length∧(Ag=none→cg=0)∧StSmall l gens
theorem nil_of {w:World} {A:Option Addr} {gens:List Int} (h:RdG w w.heap.size A gens) (e:A=none):gens=[]:=by
 rcases Nat.eq_zero_or_pos gens.length with h4 | h4
 ·exact List.eq_nil_of_length_eq_zero h4
 ·obtain ⟨b,off,h5,_⟩:=h.2 h4
  rw [e] at h5
  cases h5
theorem GotT.seen {Q:Nat→Prop} {w w':World} {v:Value} {T:List BTab} {gens:List Int} (h:GotT Q w w' v T gens):SeenT w' v T gens:=by
 obtain ⟨A,c,l,Ag,cg,h0,h1,h2,h3,h4,h5,h6⟩:=h
 obtain ⟨r1,r2⟩:=h2.rdT (A:=A) (c:=c) (l:=l) (fun p hp=>hp)
 exact ⟨A,c,l,Ag,cg,h0,h1,⟨r1,h3,r2,fun e=>⟨h5 e,nil_of h3 e⟩⟩,h6⟩
theorem GotT.bel {Q:Nat→Prop} {w w':World} {v:Value} {T:List BTab} {gens:List Int} (h:GotT Q w w' v T gens):Below w.heap.size w w':=by
 obtain ⟨A,c,l,Ag,cg,h0,h1,h2,h3,h4,h5,h6⟩:=h
 exact h2.bel
theorem GotT.zero {Q:Nat→Prop} {w w':World} (h:Below w.heap.size w w'):GotT Q w w' (.agg #[.slice none 0 0,.slice none 0 0]) [] []:=by
 obtain ⟨A,c,l,Ag,cg,h1,h2,h3⟩:=GotSt.zero h
 have hl:l=[]:=List.map_eq_nil_iff.1 h2
 subst hl
 refine ⟨A,c,[],Ag,cg,h1,rfl,h3.sub (List.sublist_cons_self _ _),?_,fun h=>absurd h (by simp),?_,small_nil⟩
 ·exact Rd.of_own (h3.all _ (.head _))
 ·intro e
  exact (holds_nil (h3.all _ (.head _)) e).1
structure P7 (w1:World) (e:Int) (R0:List BRow) (Ag0:Option Addr) (m0 c0:Nat) (Q:Nat→Prop) (rows:List BRow) (gens:List Int) (l1 l3 l4 l5 l7 l8:Bool) (v1 v3 v4 v5 v7:Value) (w':World):Prop where
 bel:Below w1.heap.size w1 w'
 c1:l1=true→l8=false→∃ Av cv,v1=.agg #[.slice Av R0.length cv,.slice Ag0 m0 c0]∧RdR w' w'.heap.size Av R0∧On (fun b=>Q b∧(l7=true→v7≠.pointer (some ⟨b,0,none⟩))) Av R0.length
 c7:l7=true→∃ g,v7=.pointer (some ⟨g,0,none⟩)∧w1.heap.size≤g∧g<w'.heap.size∧(l8=false→Blk w' g 64 #[.slice none 0 0,.slice none 0 0])
 c3:l3=true→l8=false→∃ v,v3=.tuple #[v,.int .i64 e]∧GotQ True (fun b=>Q b∧(l7=true→v7≠.pointer (some ⟨b,0,none⟩))) w' v rows gens
 c4:l4=true→l3=true∧v4=v3
 c5:l5=true→l4=true∧∃ v,v5=v∧v3=.tuple #[v,.int .i64 e]
 c8:l8=true→∃ g A c A' c',v7=.pointer (some ⟨g,0,none⟩)∧g<w'.heap.size∧Blk w' g 64 #[.slice A rows.length c,.slice A' gens.length c']∧Got3 Q w' rows gens A A' c'
section
variable {w1:World} {e:Int} {R0:List BRow} {Ag0:Option Addr} {m0 c0:Nat} {Q:Nat→Prop} {rows:List BRow} {gens:List Int} {l1 l3 l4 l5 l7 l8:Bool} {v1 v3 v4 v5 v7:Value} {w':World}
theorem P7.start (h:Below w1.heap.size w1 w') (a b c d f:Value):P7 w1 e R0 Ag0 m0 c0 Q rows gens false false false false false false a b c d f w':=
 ⟨h,fun h=>(by cases h),fun h=>(by cases h),fun h=>(by cases h),fun h=>(by cases h),fun h=>(by cases h),fun h=>(by cases h)⟩
theorem GotQ.grow {N:Prop} {Q:Nat→Prop} {w w':World} {v:Value} {rows:List BRow} {gens:List Int} (h:GotQ N Q w v rows gens) (hb:Below w.heap.size w w'):GotQ N Q w' v rows gens:=by
 obtain ⟨A,c,A',c',h0,h1,h2,h3,h4,h5⟩:=h
 exact ⟨A,c,A',c',h0,Rd.grow h1 hb,Rd.grow h2 hb,h3,h4,h5⟩
theorem P7.call1 (h:P7 w1 e R0 Ag0 m0 c0 Q rows gens l1 l3 l4 l5 l7 l8 v1 v3 v4 v5 v7 w') (n3:l3=false) (n8:l8=false) {w'':World} (hb:Below w'.heap.size w' w'') {Av:Option Addr} {cv:Nat} (hC:RdR w'' w''.heap.size Av R0) (hO:On (fun b=>Q b∧w'.heap.size≤b) Av R0.length):P7 w1 e R0 Ag0 m0 c0 Q rows gens true l3 l4 l5 l7 l8 (.agg #[.slice Av R0.length cv,.slice Ag0 m0 c0]) v3 v4 v5 v7 w'':=
 ⟨h.bel.trans (hb.mono h.bel.size),fun _ _=>⟨Av,cv,rfl,hC,hO.mono (fun b hb=>⟨hb.1,fun h7 e=>by
  obtain ⟨g,h1,h2,h3,h4⟩:=h.c7 h7
  rw [h1] at e
  injection e with e;injection e with e;injection e with e
  omega⟩)⟩,fun h7=>by
  obtain ⟨g,h1,h2,h3,h4⟩:=h.c7 h7
  exact ⟨g,h1,h2,Nat.lt_of_lt_of_le h3 hb.size,fun h8=>(h4 h8).below hb h3⟩,fun h3=>by rw [n3] at h3;(cases h3),h.c4,h.c5,fun h8=>by rw [n8] at h8;(cases h8)⟩
theorem P7.call3 (h:P7 w1 e R0 Ag0 m0 c0 Q rows gens l1 l3 l4 l5 l7 l8 v1 v3 v4 v5 v7 w') (n3:l3=false) (n8:l8=false) {w'':World} (hb:Below w'.heap.size w' w'') {v:Value}
  (hC:GotQ True (fun b=>Q b∧(l7=true→v7≠.pointer (some ⟨b,0,none⟩))) w'' v rows gens):P7 w1 e R0 Ag0 m0 c0 Q rows gens l1 true l4 l5 l7 l8 v1 (.tuple #[v,.int .i64 e]) v4 v5 v7 w'':=by
 have n4:l4=false:=by
  cases l4 with
  | false=>rfl
  | true=>have:=(h.c4 rfl).1;rw [n3] at this;cases this
 have n5:l5=false:=by
  cases l5 with
  | false=>rfl
  | true=>have:=(h.c5 rfl).1;rw [n4] at this;cases this
 exact ⟨h.bel.trans (hb.mono h.bel.size),fun h1 h8=>by
  obtain ⟨Av,cv,k1,k2,k3⟩:=h.c1 h1 h8
  exact ⟨Av,cv,k1,Rd.grow k2 hb,k3⟩,fun h7=>by
  obtain ⟨g,h1,h2,h3,h4⟩:=h.c7 h7
  exact ⟨g,h1,h2,Nat.lt_of_lt_of_le h3 hb.size,fun h8=>(h4 h8).below hb h3⟩,fun _ _=>⟨v,rfl,hC⟩,fun h=>by rw [n4] at h;(cases h),fun h=>by rw [n5] at h;(cases h),fun h8=>by rw [n8] at h8;(cases h8)⟩
theorem P7.move (h:P7 w1 e R0 Ag0 m0 c0 Q rows gens l1 l3 l4 l5 l7 l8 v1 v3 v4 v5 v7 w') (n3:l3=true):P7 w1 e R0 Ag0 m0 c0 Q rows gens l1 l3 true l5 l7 l8 v1 v3 v3 v5 v7 w':=
 ⟨h.bel,h.c1,h.c7,h.c3,fun _=>⟨n3,rfl⟩,fun h5=>⟨rfl,(h.c5 h5).2⟩,h.c8⟩
theorem P7.tup4 (h:P7 w1 e R0 Ag0 m0 c0 Q rows gens l1 l3 l4 l5 l7 l8 v1 v3 v4 v5 v7 w') (n4:l4=true) (n5:l8=true→l5=true):∃ v,v4=.tuple #[v,.int .i64 e]:=by
 obtain ⟨h6,h7⟩:=h.c4 n4
 cases hl:l8 with
 | false=>obtain ⟨v,h1,_⟩:=h.c3 h6 hl;exact ⟨v,h7.trans h1⟩
 | true=>obtain ⟨_,v,_,h1⟩:=h.c5 (n5 hl);exact ⟨v,h7.trans h1⟩
theorem P7.ext (h:P7 w1 e R0 Ag0 m0 c0 Q rows gens l1 l3 l4 l5 l7 l8 v1 v3 v4 v5 v7 w') (n4:l4=true) (n8:l8=false):∃ v,v4=.tuple #[v,.int .i64 e]∧P7 w1 e R0 Ag0 m0 c0 Q rows gens l1 l3 l4 true l7 l8 v1 v3 v4 v v7 w':=by
 obtain ⟨h6,h7⟩:=h.c4 n4
 obtain ⟨v,h1,h2⟩:=h.c3 h6 n8
 exact ⟨v,h7.trans h1,h.bel,h.c1,h.c7,h.c3,h.c4,fun _=>⟨n4,v,rfl,h1⟩,h.c8⟩
theorem P7.alloc (h:P7 w1 e R0 Ag0 m0 c0 Q rows gens l1 l3 l4 l5 l7 l8 v1 v3 v4 v5 v7 w') (n8:l8=false) :
  P7 w1 e R0 Ag0 m0 c0 Q rows gens l1 l3 l4 l5 true l8 v1 v3 v4 v5 (.pointer (some ⟨w'.heap.size,0,none⟩)) (w'.alloc (.cells #[.slice none 0 0,.slice none 0 0] 64)):=by
 have hb:Below w'.heap.size w' (w'.alloc (.cells #[.slice none 0 0,.slice none 0 0] 64)):=(Below.refl _ _).alloc (Nat.le_refl _) _
 refine ⟨h.bel.trans (hb.mono h.bel.size),fun h1 h8=>by
  obtain ⟨Av,cv,k1,k2,k3⟩:=h.c1 h1 h8
  exact ⟨Av,cv,k1,Rd.grow k2 hb,(On.both k3 k2).mono (fun b hb=>⟨hb.1.1,fun _ e=>by injection e with e;injection e with e;injection e with e;omega⟩)⟩,fun _=>⟨_,rfl,h.bel.size,by simp,fun _=>Blk.new _ _ _⟩,?_,h.c4,h.c5,fun h8=>by rw [n8] at h8;(cases h8)⟩
 intro h3 h8
 obtain ⟨v,h1,A,c,A',c',g0,g1,g2,g3,g4,g5⟩:=h.c3 h3 h8
 refine ⟨v,h1,A,c,A',c',g0,Rd.grow g1 hb,Rd.grow g2 hb,?_,?_,g5⟩
 ·exact (On.both g3 g1).mono (fun b hb=>⟨hb.1.1,fun _ e=>by injection e with e;injection e with e;injection e with e;omega⟩)
 ·exact (On.both g4 g2).mono (fun b hb=>⟨hb.1.1,fun _ e=>by injection e with e;injection e with e;injection e with e;omega⟩)
theorem P7.store (h:P7 w1 e R0 Ag0 m0 c0 Q rows gens l1 l3 l4 l5 l7 l8 v1 v3 v4 v5 v7 w') (n5:l5=true) (n7:l7=true) (n8:l8=false) :
  ∃ g A c A' c',v7=.pointer (some ⟨g,0,none⟩)∧v5=.agg #[.slice A rows.length c,.slice A' gens.length c']∧Blk w' g 64 #[.slice none 0 0,.slice none 0 0] ∧
   P7 w1 e R0 Ag0 m0 c0 Q rows gens l1 l3 l4 l5 l7 true v1 v3 v4 v5 v7 ((w'.setCell ⟨g,0,none⟩ (.slice A rows.length c)).setCell ⟨g,1,none⟩ (.slice A' gens.length c')):=by
 obtain ⟨h4,v,e5,e3⟩:=h.c5 n5
 obtain ⟨h3,_⟩:=h.c4 h4
 obtain ⟨u,e3',A,c,A',c',g0,g1,g2,g3,g4,g5⟩:=h.c3 h3 n8
 have huv:u=v:=by rw [e3'] at e3;injection e3 with e3;injection e3 with e3;injection e3
 subst huv
 obtain ⟨g,e7,hg1,hg2,hB⟩:=h.c7 n7
 have hB:=hB n8
 subst e7
 refine ⟨g,A,c,A',c',rfl,e5.trans g0,hB,?_⟩
 have k1:=Got3.mk g1 g2 g3 g4 (g5 trivial)
 have k2:=(k1.set (p:=⟨g,0,none⟩) (fun h=>h.2 n7 rfl) (.slice A rows.length c)).set (p:=⟨g,1,none⟩) (fun h=>h.2 n7 rfl) (.slice A' gens.length c')
 have hb2:Below w1.heap.size w1 ((w'.setCell ⟨g,0,none⟩ (.slice A rows.length c)).setCell ⟨g,1,none⟩ (.slice A' gens.length c')):=(h.bel.setCell hg1 _).setCell hg1 _
 refine ⟨hb2,fun _ h=>(by cases h),fun _=>⟨g,rfl,hg1,by simpa using hg2,fun h=>(by cases h)⟩,fun _ h=>(by cases h),h.c4,fun _=>⟨h4,u,e5,e3'⟩,fun _=>⟨g,A,c,A',c',rfl,by simpa using hg2,?_,⟨k2.row,k2.gen,k2.onr.mono (fun b hb=>hb.1),k2.ong.mono (fun b hb=>hb.1),k2.nil_⟩⟩⟩
 exact (hB.set_ 0 _).set_ 1 _
end
def SysW (x:BSys):Prop:=(sysWrong x).1=0
theorem runM_bad {W:BWorld} {x:BSys} (h:(runM W x).err≠0):(runM W x).rows=[]∧(runM W x).gens=[]:=by
 unfold runM at h ⊢
 split
 ·exact ⟨rfl,rfl⟩
 ·split
  ·exact ⟨rfl,rfl⟩
  ·rename_i h1 h2
   rw [if_neg h1,if_neg h2] at h
   exact absurd rfl h
theorem rrunst_any (l:List TabIn) (A:Option Addr) (c:Nat) (gens:List Int) (Ag:Option Addr) (cg:Nat) (hs:StSmall l gens) (x:BSys) (xA:Option Addr) (xc:Nat) (Q:Nat→Prop) (w:World) (hQ:∀ b,w.heap.size≤b→Q b) (hx:RdAB w w.heap.size xA x.acts) (h:RdSt w w.heap.size ⟨A,c,l,Ag,cg,gens⟩) (hOn:On Q Ag gens.length) :
  Calls Tryz.prog 30 #[.agg #[.slice A l.length c,.slice Ag gens.length cg],.agg #[.int .i64 x.mod,.int .i64 x.all,.int .i64 x.non,.slice xA x.acts.length xc]] w fun e w'=>
   ∃ v,e=.returned (.tuple #[v,.int .i64 (runT (l.map tabOf) gens x).err])∧GotT Q w w' v (runT (l.map tabOf) gens x).tabs (runT (l.map tabOf) gens x).gens:=by
 have hE0:Hid (runT (l.map tabOf) gens x=if (storeErr (l.map tabOf) gens).1≠0 then ⟨[],[],(storeErr (l.map tabOf) gens).1⟩
  else ⟨tabsW (runM ⟨worldT (l.map tabOf),gens⟩ x).rows,(runM ⟨worldT (l.map tabOf),gens⟩ x).gens,(runM ⟨worldT (l.map tabOf),gens⟩ x).err⟩):=Lib.hid rfl
 generalize runT (l.map tabOf) gens x=E at *
 have hh:=Lib.hid h;have hsh:=Lib.hid hs;have hxh:=Lib.hid hx
 have hsw:=Lib.hid (fun W hA=>rwrong_any x xA xc W hA)
 have hM0:=Lib.hid (fun (W:BWorld) (h1:(sysWrong x).1≠0)=>(show runM W x=⟨[],[],(sysWrong x).1⟩ by unfold runM;rw [if_pos h1]))
 have hong:=Lib.hid hOn;have hgs:Hid (RdG w w.heap.size Ag gens):=Lib.hid h.gen;have hng:Hid (Ag=none→cg=0):=Lib.hid (fun e=>(h.ng e).1);have hQh:=Lib.hid hQ
 have hx1:Hid ((sysWrong x).1=0→SysW x):=Lib.hid id
 clear h hs hx hOn hQ
 have H0:=(((Hp.start w).new w.heap.size rfl 40 [.slice A l.length c,.slice Ag gens.length cg]).new (w.heap.size+1) (by simp) 29 [.int .i64 x.mod,.int .i64 x.all,.int .i64 x.non,.slice xA x.acts.length xc]).new (w.heap.size+1+1) (by simp) 40 [.slice none 0 0,.slice none 0 0]
 replace H0:Hp w _ [stBox w.heap.size A l.length c Ag gens.length cg,.box (w.heap.size+1) 29 [.int .i64 x.mod,.int .i64 x.all,.int .i64 x.non,.slice xA x.acts.length xc],.box (w.heap.size+1+1) 40 [.slice none 0 0,.slice none 0 0]]:=H0
 have a0:=H0.cell 0 0 rfl rfl;have a1:=H0.cell 0 1 rfl rfl
 generalize sysWrong x=F2 at *
 obtain ⟨mod,all,non,acts⟩:=x
 dsimp only at *
 go_enter Tryz.func30,Tryz.ntmps30
 go_wp2_with fail
 obtain ⟨w0,hw0,H0⟩:=H0.name
 rw [hw0];clear hw0 a0 a1
 have hg0:RdSt w0 w0.heap.size ⟨A,c,l,Ag,cg,gens⟩:=hh.out.hp H0
 refine (rswrong_any l A c gens Ag cg hsh.out w0 hg0.tabs hg0.gen hg0.ng).mono ?_
 rintro e w1 ⟨rfl,hb1⟩
 replace H0:=H0.grow hb1
 clear hb1 hg0
 have hrt:Hid ((storeErr (l.map tabOf) gens).1=0→RightW (worldT (l.map tabOf)) gens∧l.map tabOf=tabsW (worldT (l.map tabOf))):=Lib.hid store_right
 generalize storeErr (l.map tabOf) gens=F at *
 obtain ⟨f1,f2⟩:=F
 have H2:=H0.new _ rfl 48 [.int .i64 f1,.int .i64 f2]
 simp only at hE0 hrt ⊢
 by_cases hf:f1=0
 case neg=>
  clear H0
  have hf':(f1 != 0)=true:=by simpa using hf
  have hE:Hid (E=⟨[],[],f1⟩):=Lib.hid (by rw [hE0.out,if_pos hf])
  clear hE0 hrt
  go_upto_region 3 with fail
  obtain ⟨w2,hw2,H2⟩:=H2.name
  rw [hw2];clear hw2
  have n23:=H2.ne 2 3 rfl rfl (by omega);have n32:=n23.symm
  have q2:=H2.cell 2 0 rfl rfl;have q3:=H2.cell 2 1 rfl rfl
  have y2:=H2.frozen 2 0 rfl;have y3:=H2.frozen 2 1 rfl
  have c0:=H2.cell 3 0 rfl rfl
  have H4:=((H2.set 2 0 (.slice none 0 0) rfl).set 2 1 (.slice none 0 0) rfl).drew
  have H4h:=Lib.hid H4
  clear H4 H2
  go_region_held3 (fun w'=>w'.cell? ⟨w1.heap.size,0,none⟩=some (.int .i64 f1)) (go_keep) (fail)
  have H4:=H4h.out
  have p2:=H4.cell 2 0 rfl rfl;have p3:=H4.cell 2 1 rfl rfl
  go_wp2_with fail
  refine bodyPost_ret (v:=.tuple #[.agg #[.slice none 0 0,.slice none 0 0],.int .i64 f1]) (by simp [results,Tryz.results30,go_sem,p2,p3]) rfl ⟨_,by rw [hE.out],by rw [hE.out];exact GotT.zero H4.bel⟩
 case pos=>
  subst hf
  obtain ⟨hrw,hfit0⟩:=hrt.out rfl
  have hE1:Hid (E=⟨tabsW (runM ⟨worldT (l.map tabOf),gens⟩ ⟨mod,all,non,acts⟩).rows,(runM ⟨worldT (l.map tabOf),gens⟩ ⟨mod,all,non,acts⟩).gens,(runM ⟨worldT (l.map tabOf),gens⟩ ⟨mod,all,non,acts⟩).err⟩):=Lib.hid (by rw [hE0.out,if_neg (by simp)])
  clear hE0 hrt
  have hfit:=Lib.hid hfit0
  clear hfit0
  generalize hrows:worldT (l.map tabOf)=rows at *
  clear hrows
  have hrwh:=Lib.hid hrw
  have hlr:rows.length≤60:=Nat.le_trans hrw.rows_le hrw.len
  clear hrw
  have s0:=H2.cell 1 0 rfl rfl;have s1:=H2.cell 1 1 rfl rfl;have s2:=H2.cell 1 2 rfl rfl;have s3:=H2.cell 1 3 rfl rfl
  go_wp2_with fail
  clear H0
  obtain ⟨w2,hw2,H2⟩:=H2.name
  rw [hw2];clear hw2 s0 s1 s2 s3
  refine (hsw.out w2 (Rd.more (Rd.under hxh.out H2.bel (Nat.le_refl _)) H2.bel.size)).mono ?_
  rintro e w3 ⟨rfl,hb3⟩
  have H3:=(H2.grow hb3).drop1 3
  clear hb3 H2
  replace H3:=H3.new w3.heap.size rfl 48 [.int .i64 F2.1,.int .i64 F2.2]
  obtain ⟨g1,g2⟩:=F2
  dsimp only at *
  by_cases hf:g1=0
  case neg=>
   have hf':(g1 != 0)=true:=by simpa using hf
   have hE:Hid (E=⟨[],[],g1⟩):=Lib.hid (by rw [hE1.out,hM0.out _ hf];rfl)
   clear hE1 hM0
   go_upto_region 6 with fail
   obtain ⟨w4,hw4,H2⟩:=H3.name
   rw [hw4];clear hw4
   have n23:=H2.ne 2 3 rfl rfl (by omega);have n32:=n23.symm
   have q2:=H2.cell 2 0 rfl rfl;have q3:=H2.cell 2 1 rfl rfl
   have y2:=H2.frozen 2 0 rfl;have y3:=H2.frozen 2 1 rfl
   have c0:=H2.cell 3 0 rfl rfl
   have H4:=((H2.set 2 0 (.slice none 0 0) rfl).set 2 1 (.slice none 0 0) rfl).drew
   have H4h:=Lib.hid H4
   clear H4 H2 H3
   go_region_held3 (fun w'=>w'.cell? ⟨w3.heap.size,0,none⟩=some (.int .i64 g1)) (go_keep) (fail)
   have H4:=H4h.out
   have p2:=H4.cell 2 0 rfl rfl;have p3:=H4.cell 2 1 rfl rfl
   go_wp2_with fail
   refine bodyPost_ret (v:=.tuple #[.agg #[.slice none 0 0,.slice none 0 0],.int .i64 g1]) (by simp [results,Tryz.results30,go_sem,p2,p3]) rfl ⟨_,by rw [hE.out],by rw [hE.out];exact GotT.zero H4.bel⟩
  case pos=>
   subst hf
   have hsz4:w.heap.size+1+1<w3.heap.size+1:=by have:=H3.lt 2 rfl;simpa using this
   go_upto_region 7 with fail
   obtain ⟨w4,hw4,H4⟩:=H3.name
   rw [hw4]
   have hsz4:w.heap.size+1+1<w4.heap.size:=H4.lt 2 rfl
   have hHh:=Lib.hid H4
   have hrr:=Lib.hid (fun h=>runM_right (W:=⟨rows,gens⟩) (x:=⟨mod,all,non,acts⟩) h hrwh.out)
   have hbz:=Lib.hid (fun h=>runM_bad (W:=⟨rows,gens⟩) (x:=⟨mod,all,non,acts⟩) h)
   obtain ⟨X,hX0⟩:∃ X,runM ⟨rows,gens⟩ ⟨mod,all,non,acts⟩=X:=⟨_,rfl⟩
   have hX:=Lib.hid hX0
   rw [hX0] at hE1 hrr hbz
   obtain ⟨xr,xg,xe⟩:=X
   have hE:Hid (E=⟨tabsW xr,xg,xe⟩):=hE1
   clear hX0 hE1 hM0 hw4 H3 H4 H2 hsw
   dsimp only at hrr hbz
   refine wp_region_mx mixed (by kernel_rfl) (by kernel_rfl) (fun q=>!(q==1) && !(q==3) && !(q==4) && !(q==5) && !(q==7)) (tab [.agg #[.slice A l.length c,.slice Ag gens.length cg],undef,.agg #[.int .i64 mod,.int .i64 all,.int .i64 non,.slice xA acts.length xc],undef,undef,undef,.int .i64 xe,undef,undef,.int .i64 xe]) (fun u vs w'=>P7 w4 xe rows Ag gens.length cg (fun b=>Q b∧b≠w.heap.size+1+1) xr xg (u 1) (u 3) (u 4) (u 5) (u 7) (u 8) (vs 1) (vs 3) (vs 4) (vs 5) (vs 7) w') ?_ ?_ ?_
   ·exact P7.start ((Below.refl _ _).drew) _ _ _ _ _
   ·intro vs w' l1 hJ hl
    rw [putAll_tab _ _ _ _ [(some 27,.agg #[.slice A l.length c,.slice Ag gens.length cg]),(some 28,vs 1),(some 29,.agg #[.int .i64 mod,.int .i64 all,.int .i64 non,.slice xA acts.length xc]),(some 30,vs 3),(some 26,vs 4),(some 31,vs 5),(some 32,.int .i64 xe),(some 8,vs 7),(none,undef),(some 9,.int .i64 xe)] rfl]
    simp only [putL_eq,putT,List.set_cons_succ,List.set_cons_zero]
    obtain ⟨g8,A5,c5,A5',c5',hv7,hg8,hB8,hG8⟩:=hJ.c8 (hl 8 (by decide))
    rw [hv7]
    have hH8:=Lib.hid (hHh.out.grow hJ.bel);have hG8h:=Lib.hid hG8;have hB8h:=Lib.hid hB8
    have hge:=hJ.bel.size
    have hne8:w.heap.size+1+1<g8:=by
     obtain ⟨g,e1,e2,_⟩:=hJ.c7 (hl 7 (by decide))
     rw [hv7] at e1
     injection e1 with e1;injection e1 with e1;injection e1 with e1
     omega
    clear hJ hl hv7 hG8 hB8 hHh
    by_cases he:xe=0
    ·subst he
     have hXr:RightW xr xg:=hrr.out rfl
     have z0:=hB8h.out.cell 0;have z1:=hB8h.out.cell 1
     simp only [List.getElem?_toArray,List.getElem?_cons_zero,List.getElem?_cons_succ] at z0 z1
     have hXh:=Lib.hid hXr
     clear hXr hrr
     go_wp2_with fail
     refine (rof_any xr xg A5 c5 A5' c5' hXh.out w' hG8h.out.row).mono ?_
     rintro e w9 ⟨A6,c6,l6,rfl,hl6,H9⟩
     have HJ:=hH8.out.join H9
     have hG9:=hG8h.out.grow H9.bel
     have q0:=HJ.cell 2 0 rfl rfl;have q1:=HJ.cell 2 1 rfl rfl;have y0:=HJ.frozen 2 0 rfl;have y1:=HJ.frozen 2 1 rfl
     have H10:=(HJ.set 2 0 (.slice A6 l6.length c6) rfl).set 2 1 (.slice A5' xg.length c5') rfl
     have hG10:=Lib.hid ((hG9.set (p:=⟨w.heap.size+1+1,0,none⟩) (by simp) (.slice A6 l6.length c6)).set (p:=⟨w.heap.size+1+1,1,none⟩) (by simp) (.slice A5' xg.length c5'))
     have p2:=H10.cell 2 0 rfl rfl;have p3:=H10.cell 2 1 rfl rfl
     have hH10:Hid (Hp w _ (tabsE A6 c6 l6)):=Lib.hid ((((H10.drop1 3).drop1 2).drop1 1).drop1 0)
     have hl6h:=Lib.hid hl6
     clear hl6 HJ H9 H10 hG9 z0 z1
     go_wp2_with fail
     refine bodyPost_ret (v:=.tuple #[.agg #[.slice A6 l6.length c6,.slice A5' xg.length c5'],.int .i64 0]) (by simp [results,Tryz.results30,go_sem,p2,p3]) rfl ⟨_,by rw [hE.out],by rw [hE.out];exact ⟨A6,c6,l6,A5',c5',rfl,hl6h.out,hH10.out,hG10.out.gen,hG10.out.ong.mono (fun b hb=>hb.1),hG10.out.nil_,right_small hXh.out hl6h.out⟩⟩
    ·have he':(xe != 0)=true:=by simpa using he
     have hz:=Lib.hid (hbz.out he)
     have q0:=hH8.out.cell 2 0 rfl rfl;have q1:=hH8.out.cell 2 1 rfl rfl;have y0:=hH8.out.frozen 2 0 rfl;have y1:=hH8.out.frozen 2 1 rfl
     have H10:=(hH8.out.set 2 0 (.slice none 0 0) rfl).set 2 1 (.slice none 0 0) rfl
     have p2:=H10.cell 2 0 rfl rfl;have p3:=H10.cell 2 1 rfl rfl
     have hH10:=Lib.hid H10
     clear H10 hH8 hrr
     go_wp2_with fail
     refine bodyPost_ret (v:=.tuple #[.agg #[.slice none 0 0,.slice none 0 0],.int .i64 xe]) (by simp [results,Tryz.results30,go_sem,p2,p3]) rfl ⟨_,by rw [hE.out],by rw [hE.out,hz.out.1,hz.out.2];exact GotT.zero hH10.out.bel⟩
   ·intro qq op ho u vs act w' hJ hsh hli hd hv hwas K hK
    have hiq:qq<10:=lt_of_some ho
    have s2_:=hwas 2 rfl
    have s3_:=hwas 3 rfl
    simp at s2_ s3_
    match qq,hiq,ho,hli,hK with
    | 0,_,ho,hli,hK=>
     obtain rfl:=sj ho
     have H:=hHh.out.grow hJ.bel
     have q0:=H.cell 0 0 rfl rfl;have q1:=H.cell 0 1 rfl rfl
     clear H
     clear hv hwas
     go_simp
     exact hK _ _ (fun _=>rfl) hJ
    | 1,_,ho,hli,hK=>
     obtain rfl:=sj ho
     have x27:act.tmps[27]?.getD undef=.agg #[.slice A l.length c,.slice Ag gens.length cg]:=hv 0 27 rfl (rb hd rfl)
     have n3:=hsh.not (i:=3) (j:=1) (by rfl) hli
     have n4:=hsh.not (i:=4) (j:=3) (by rfl) n3
     have n5:=hsh.not (i:=5) (j:=4) (by rfl) n4
     have n8:=hsh.not (i:=8) (j:=5) (by rfl) n5
     have hS:=hh.out.hp (hHh.out.grow hJ.bel)
     have hsz:=hJ.bel.size
     clear hv hwas
     go_simp
     refine (rworld_seen hrwh.out hfit.out hS).mono ?_
     rintro e w5 ⟨Av,cv,rfl,hG⟩
     exact hK _ _ (fun h=>by cases h) (P7.call1 hJ n3 n8 hG.bel (hG.rd 0 rfl) (own_on (hG.owns 0 rfl) (fun b hb=>⟨⟨hQh.out b (by have:=hsz4;omega),by have:=hsz4;omega⟩,hb⟩)))
    | 2,_,ho,hli,hK=>
     obtain rfl:=sj ho
     have H:=hHh.out.grow hJ.bel
     have q0:=H.cell 1 0 rfl rfl;have q1:=H.cell 1 1 rfl rfl;have q2:=H.cell 1 2 rfl rfl;have q3:=H.cell 1 3 rfl rfl
     clear H
     clear hv hwas
     go_simp
     exact hK _ _ (fun _=>rfl) hJ
    | 3,_,ho,hli,hK=>
     obtain rfl:=sj ho
     have x28:act.tmps[28]?.getD undef=vs 1:=hv 1 28 rfl (rb hd rfl)
     have x29:act.tmps[29]?.getD undef=.agg #[.int .i64 mod,.int .i64 all,.int .i64 non,.slice xA acts.length xc]:=hv 2 29 rfl (rb hd rfl)
     have l1:u 1=true:=by simp [Region.binds] at hd;simp [hd]
     have n4:=hsh.not (i:=4) (j:=3) (by rfl) hli
     have n5:=hsh.not (i:=5) (j:=4) (by rfl) n4
     have n8:=hsh.not (i:=8) (j:=5) (by rfl) n5
     obtain ⟨Av,cv,hv1,hRv,hOv⟩:=hJ.c1 l1 n8
     have hb:=hJ.bel
     have hsz:=hb.size
     have h7:=hJ.c7
     rw [hv1] at x28
     clear hv hwas
     go_simp
     have hGv:Got3 (fun b=>(fun b=>Q b∧b≠w.heap.size+1+1) b∧(u 7=true→vs 7≠.pointer (some ⟨b,0,none⟩))) w' rows gens Av Ag cg:=⟨hRv,Rd.grow (Rd.grow hgs.out hHh.out.bel) hb,hOv,(On.both hong.out hgs.out).mono (fun b hb=>⟨⟨hb.1,by omega⟩,fun l7 e=>by
      obtain ⟨g,e1,e2,_⟩:=h7 l7
      rw [e1] at e
      injection e with e;injection e with e;injection e with e
      omega⟩),hng.out⟩
     refine (rrun_any rows gens Av cv Ag cg ⟨mod,all,non,acts⟩ xA xc hrwh.out (hx1.out rfl) _ w' (fun b hb2=>⟨⟨hQh.out b (by have:=hsz4;omega),by have:=hsz4;omega⟩,fun l7 e=>by
      obtain ⟨g,e1,e2,e3,_⟩:=h7 l7
      rw [e1] at e
      injection e with e;injection e with e;injection e with e
      omega⟩) hGv (Rd.grow (Rd.grow hxh.out hHh.out.bel) hb)).mono ?_
     rintro e w5 ⟨v,rfl,hG,hb5⟩
     rw [hX.out] at hG ⊢
     exact hK _ _ (fun h=>by cases h) (P7.call3 hJ hli n8 hb5 hG)
    | 4,_,ho,hli,hK=>
     obtain rfl:=sj ho
     have x30:act.tmps[30]?.getD undef=vs 3:=hv 3 30 rfl (rb hd rfl)
     have l3:u 3=true:=by simp [Region.binds] at hd;simp [hd]
     clear hv hwas
     go_simp
     exact hK _ _ (fun h=>by cases h) (P7.move hJ l3)
    | 5,_,ho,hli,hK=>
     obtain rfl:=sj ho
     have x26:act.tmps[26]?.getD undef=vs 4:=hv 4 26 rfl (rb hd rfl)
     have l4:u 4=true:=by simp [Region.binds] at hd;simp [hd]
     have n8:=hsh.not (i:=8) (j:=5) (by rfl) hli
     obtain ⟨v,hv4,hJ2⟩:=P7.ext hJ l4 n8
     rw [hv4] at x26
     clear hv hwas
     go_simp
     exact hK _ _ (fun h=>by cases h) hJ2
    | 6,_,ho,hli,hK=>
     obtain rfl:=sj ho
     have x26:act.tmps[26]?.getD undef=vs 4:=hv 4 26 rfl (rb hd rfl)
     have l4:u 4=true:=by simp [Region.binds] at hd;simp [hd]
     obtain ⟨v,hv4⟩:=P7.tup4 hJ l4 (fun h8=>hsh 8 5 (by rfl) h8)
     rw [hv4] at x26
     clear hv hwas
     go_simp
     exact hK _ _ (fun _=>rfl) hJ
    | 7,_,ho,hli,hK=>
     obtain rfl:=sj ho
     have n8:=hsh.not (i:=8) (j:=7) (by rfl) hli
     clear hv hwas
     go_simp
     exact hK _ _ (fun h=>by cases h) (P7.alloc hJ n8)
    | 8,_,ho,hli,hK=>
     obtain rfl:=sj ho
     have x8:act.tmps[8]?.getD undef=vs 7:=hv 7 8 rfl (rb hd rfl)
     have x31:act.tmps[31]?.getD undef=vs 5:=hv 5 31 rfl (rb hd rfl)
     have l5:u 5=true:=by simp [Region.binds] at hd;simp [hd]
     have l7:u 7=true:=by simp [Region.binds] at hd;simp [hd]
     obtain ⟨g,A5,c5,A5',c5',hv7,hv5,hB,hJ2⟩:=P7.store hJ l5 l7 hli
     rw [hv7] at x8;rw [hv5] at x31
     have z0:=hB.cell 0;have z1:=hB.cell 1;have y0:=hB.frozen 0;have y1:=hB.frozen 1
     simp only [List.getElem?_toArray,List.getElem?_cons_zero,List.getElem?_cons_succ] at z0 z1
     clear hv hwas hB
     go_simp
     exact hK _ _ (fun _=>rfl) hJ2
    | 9,_,ho,hli,hK=>
     obtain rfl:=sj ho
     have x32:act.tmps[32]?.getD undef=.int .i64 xe:=hv 6 32 rfl (rb hd rfl)
     clear hv hwas
     go_simp
     exact hK _ _ (fun _=>rfl) hJ
end Go.Proofs.YtefdblaolmckmabGreat
