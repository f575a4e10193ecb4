/- Lemmas of the proof. -/
import Derived.Deep.RegionHeld3
import Derived.Deep.AppendLies
import Derived.Deep.DeepCutAuto
import Derived.Test.YtefdblaolmckmabGreatRSortYR
import Derived.Test.YtefdblaolmckmabGreatRBRowToInv
import Derived.Test.YtefdblaolmckmabGreatRBStoBToKg
import Derived.Test.YtefdblaolmckmabGreatRBSpecVToStoA
import Derived.Test.YtefdblaolmckmabGreatRBPlainAToHp
set_option linter.unusedVariables false
set_option linter.unusedSimpArgs false
set_option maxRecDepth 100000
set_option maxHeartbeats 12800000
namespace Go.Proofs.YtefdblaolmckmabGreat
open Go.RowKit
open Brood
theorem symMergeSR {α:Type} (f:α→List Value) (hf:Els f 11) (key:α→Int) (F:FuncId) (hF:CmpF f key F) (base g c N:Nat) (hl:N≤1000000000) (cur:List α) (a m b:Nat) (h1:a<m) (h2:m<b) (hb:b≤N) (hsL:Sg key cur a m) (hsR:Sg key cur m b) (hN:cur.length=N) (w:World) (hS:St f 11 114 base g c w w cur) :
  Calls Tryz.prog 142 #[.slice (some ⟨g,0,none⟩) N c,.int .i64 (a:Int),.int .i64 (m:Int),.int .i64 (b:Int),.func (.func F) #[] #[]] w fun e w'=>e=.returned (.tuple #[])∧∃ ys,PartI key a b cur ys∧St f 11 114 base g c w w' ys:=by
 obtain ⟨P,L,R,Q,e,l1,l2,l3,l4,l5⟩:=cut4 cur (a:=a) (m:=m) (b:=b) (by omega) (by omega) (by omega)
 refine (symMergeR_any f hf key F hF base g c N hl (L.length+R.length) P L R Q cur a m b (Nat.le_refl _) (Lib.hid e) (Lib.hid l1.symm) (Lib.hid l2.symm) (Lib.hid l3.symm) h1 h2 (Lib.hid (by rw [l4];exact hsL)) (Lib.hid (by rw [l5];exact hsR)) hN w hS).mono ?_
 rintro e' w' ⟨rfl,Y,hY,hS2⟩
 exact ⟨rfl,_,⟨P,L++R,Q,Y,by rw [e];simp,l1,by simp;omega,rfl,hY⟩,hS2⟩
theorem stableR_any {α:Type} (f:α→List Value) (hf:Els f 11) (key:α→Int) (F:FuncId) (hF:CmpF f key F) (base g c N:Nat) (hl:N≤1000000000) (xs:List α) (hN:xs.length=N) (w:World) (hS:St f 11 114 base g c w w xs) :
  Calls Tryz.prog 103 #[.slice (some ⟨g,0,none⟩) N c,.int .i64 (N:Int),.func (.func F) #[] #[]] w fun e w'=>e=.returned (.tuple #[])∧St f 11 114 base g c w w' (sortK key xs):=by
 go_enter Tryz.func103,Tryz.ntmps103
 go_wp2_with fail
 go_loopw [7,8] (fun s t wr=>∃ (a:Nat) (cur:List α),s=.int .i64 a∧t=.int .i64 ((a:Int)+20)∧a≤N∧Hid (OneA key 20 a cur∧Eqf key xs cur)∧St f 11 114 base g c w wr cur) (fun s _ _=>N-(intOf s).toNat)
 case atStart=>exact ⟨0,xs,rfl,rfl,Nat.zero_le _,Lib.hid ⟨OneA.begin,Eqf.refl _⟩,hS⟩
 case round=>
  clear hS
  obtain ⟨a,cur,rfl,rfl,ha,hI,hS1⟩:=hrel
  have hcl:cur.length=N:=by rw [hI.out.2.1];exact hN
  by_cases hlt:a+20≤N
  ·have hb:=Lib.hid (show (a:Int)+20=((a+20:Nat):Int) by omega)
   have hlt2:(a:Int)+20≤(N:Int):=by omega
   go_wp2_with fail
   rw [hb.out]
   refine (insertionR_any f hf key F hF cur a (a+20) N (by omega) hlt hcl hl base g c wr hS1.self).mono ?_
   rintro e w1 ⟨rfl,ys,hp,hS2⟩
   rw [← hb.out]
   clear hb
   go_wp2_with fail
   go_roundw
   case rel=>exact ⟨a+20,ys,by go_num,by go_num,hlt,Lib.hid ⟨hI.out.1.step hp,hI.out.2.trans hp.eqf⟩,hS1.trans hS2⟩
   case measure=>simp [intOf];omega
  ·have hlt2:¬ (a:Int)+20≤(N:Int):=by omega
   go_wp2_with fail
   refine (insertionR_any f hf key F hF cur a N N ha (Nat.le_refl _) hcl hl base g c wr hS1.self).mono ?_
   rintro e w1 ⟨rfl,ys,hp,hS2⟩
   have hI2:Hid (AllB key 20 ys∧Eqf key xs ys):=Lib.hid ⟨hI.out.1.last hcl.symm (by omega) hp,hI.out.2.trans hp.eqf⟩
   have hS3:=hS1.trans hS2
   clear hp hI hS1 hS2 hlt hlt2
   go_wp2_with fail
   go_loopw [6] (fun s wr2=>∃ (B:Nat) (cur:List α),s=.int .i64 B∧20≤B∧B≤2*N+20∧Hid (AllB key B cur∧Eqf key xs cur)∧St f 11 114 base g c w wr2 cur) (fun s _=>N-(intOf s).toNat)
   case atStart=>exact ⟨20,ys,rfl,Nat.le_refl _,by omega,hI2,hS3⟩
   case round=>
   clear hI2 hS3
   obtain ⟨B,cur2,rfl,hB1,hB2,hI,hS1⟩:=hrel
   by_cases hlt:B<N
   ·go_wp2_with fail
    go_loopw [7,8] (fun s t wr3=>∃ (d:Nat) (cur:List α),s=.int .i64 d∧t=.int .i64 ((d:Int)+2*(B:Int))∧d≤N∧Hid (MidA key B d cur∧Eqf key xs cur)∧St f 11 114 base g c w wr3 cur) (fun s _ _=>N-(intOf s).toNat)
    case atStart=>exact ⟨0,cur2,rfl,by congr 1;omega,Nat.zero_le _,Lib.hid ⟨hI.out.1.begin,hI.out.2⟩,hS1⟩
    case round=>
    clear hI hS1
    obtain ⟨d,cur3,rfl,rfl,hd,hI,hS1⟩:=hrel
    have hcl3:cur3.length=N:=by rw [hI.out.2.1];exact hN
    have hpre:=Lib.hid hI.out.1.pre
    by_cases hlt3:d+2*B≤N
    ·have hb:=Lib.hid (show (d:Int)+2*(B:Int)=((d+2*B:Nat):Int) by omega)
     have hm:=Lib.hid (show (d:Int)+(B:Int)=((d+B:Nat):Int) by omega)
     have hlt2:(d:Int)+2*(B:Int)≤(N:Int):=by omega
     go_wp2_with fail
     rw [hb.out,hm.out]
     refine (symMergeSR f hf key F hF base g c N hl cur3 d (d+B) (d+2*B) (by omega) (by omega) hlt3 hpre.out.1 hpre.out.2 hcl3 _ hS1.self).mono ?_
     rintro e w2 ⟨rfl,zs,hp,hS2⟩
     rw [← hb.out]
     clear hm hb
     go_wp2_with fail
     go_roundw
     case rel=>exact ⟨d+2*B,zs,by go_num,by go_num,hlt3,Lib.hid ⟨hI.out.1.step hp,hI.out.2.trans hp.eqf⟩,hS1.trans hS2⟩
     case measure=>simp [intOf];omega
    ·have hlt2:¬ (d:Int)+2*(B:Int)≤(N:Int):=by omega
     by_cases hmN:d+B<N
     ·have hm:=Lib.hid (show (d:Int)+(B:Int)=((d+B:Nat):Int) by omega)
      have hmN2:(d:Int)+(B:Int)<(N:Int):=by omega
      go_wp2_with fail
      rw [hm.out]
      refine (symMergeSR f hf key F hF base g c N hl cur3 d (d+B) N (by omega) hmN (Nat.le_refl _) hpre.out.1 (hpre.out.2.cut (by omega)) hcl3 _ hS1.self).mono ?_
      rintro e w2 ⟨rfl,zs,hp,hS2⟩
      clear hm
      go_wp2_with fail
      go_roundw
      case rel=>exact ⟨2*B,zs,by go_num,by omega,by omega,Lib.hid ⟨hI.out.1.last hcl3.symm (by omega) hp,hI.out.2.trans hp.eqf⟩,hS1.trans hS2⟩
      case measure=>simp [intOf];omega
     ·have hmN2:¬ (d:Int)+(B:Int)<(N:Int):=by omega
      go_wp2_with fail
      go_roundw
      case rel=>exact ⟨2*B,cur3,by go_num,by omega,by omega,Lib.hid ⟨hI.out.1.skip (by omega),hI.out.2⟩,hS1⟩
      case measure=>simp [intOf];omega
   ·go_wp2_with fail
    go_end0
    refine ⟨rfl,?_⟩
    have hcl2:cur2.length=N:=by rw [hI.out.2.1];exact hN
    have hst:Stb key xs cur2:=⟨hI.out.1.whole (by omega),hI.out.2⟩
    rw [← hst.sortK]
    exact hS1
theorem stableR_nil {α:Type} (key:α→Int) (F:FuncId) (w:World) :
  Calls Tryz.prog 103 #[.slice none 0 0,.int .i64 0,.func (.func F) #[] #[]] w fun e w'=>e=.returned (.tuple #[])∧w=w':=by
 have hins:∀ (a b:Int),a=0→b=0→∀ w,Calls Tryz.prog 141 #[.slice none 0 0,.int .i64 a,.int .i64 b,.func (.func F) #[] #[]] w fun e w'=>e=.returned (.tuple #[])∧w=w':=by
  rintro a b rfl rfl w
  go_enter Tryz.func141,Tryz.ntmps141
  go_wp2_with fail
  refine wp_loop_rounds 1 ?_
  rw [rounds_succ]
  go_wp2_with fail
  go_end0
  exact ⟨rfl,rfl⟩
 go_enter Tryz.func103,Tryz.ntmps103
 go_wp2_with fail
 refine wp_loop_rounds 1 ?_
 rw [rounds_succ]
 go_wp2_with fail
 refine (hins 0 0 rfl rfl w).mono ?_
 rintro e w1 ⟨rfl,rfl⟩
 go_wp2_with fail
 refine wp_loop_rounds 1 ?_
 rw [rounds_succ]
 go_wp2_with fail
 go_end0
 exact ⟨rfl,rfl⟩
theorem sortStableR_any {α:Type} (f:α→List Value) (hf:Els f 11) (key:α→Int) (F:FuncId) (hF:CmpF f key F) (base:Nat) (xs:List α) (hl:xs.length≤1000000000) (v:Value) (w:World) (hown:w.ownsRow base 114 11 v xs.length (xs.flatMap f)) :
  Calls Tryz.prog 66 #[v,.func (.func F) #[] #[]] w fun e w'=>e=.returned (.tuple #[])∧w.grownBy w' v.ownBlock∧w'.ownsRow base 114 11 v (sortK key xs).length ((sortK key xs).flatMap f):=by
 obtain ⟨A,c,rfl,hnc,hcm⟩:=own_shape hown
 cases A with
 | none=>
  have hx:xs=[]:=by
   rcases hown.2 with ⟨_,h⟩ | ⟨g,cap,cur,h,_⟩
   ·exact List.eq_nil_of_length_eq_zero h
   ·cases h
  subst hx
  have hc:c=0:=by
   rcases hown.2 with ⟨h,_⟩ | ⟨g,cap,cur,h,_⟩
   ·injection h
   ·cases h
  subst hc
  go_enter Tryz.func66,Tryz.ntmps66
  go_wp2_with fail
  refine (stableR_nil key F _).mono ?_
  rintro e w1 ⟨rfl,rfl⟩
  go_wp2_with fail
  go_end0
  exact ⟨rfl,grown_refl _ _,hown⟩
 | some p=>
  obtain ⟨g,c',hv,_,_⟩:∃ g c',Value.slice (some p) xs.length c=.slice (some ⟨g,0,none⟩) xs.length c'∧True∧True:=by
   rcases hown.2 with ⟨h,_⟩ | ⟨g,cap,cur,h,_⟩
   ·cases h
   ·exact ⟨g,cap,h,trivial,trivial⟩
  injection hv with e1 _ e3
  injection e1 with e1
  subst e1 e3
  have hS:=St.start hown
  have hst:=Lib.hid (stableR_any f hf key F hF base g c xs.length hl xs rfl w hS)
  go_enter Tryz.func66,Tryz.ntmps66
  go_wp2_with fail
  refine hst.out.mono ?_
  rintro e w1 ⟨rfl,hS2⟩
  go_wp2_with fail
  go_end0
  have hlen:(sortK key xs).length=xs.length:=(sortK_stb xs).2.1
  refine ⟨rfl,hS2.grown,?_⟩
  have:=hS2.own
  rw [hlen] at this ⊢
  exact this
open Go.RowKit
theorem infoRow:(Tryz.prog.info? 114).map (fun i=>(i.zero,i.size,i.bytes))=some (some (.agg #[.int .i64 0,.int .i64 0,.int .i64 0,.int .i64 0,.int .i64 0,.int .i64 0,.int .i64 0,.int .i64 0,.int .i64 0,.int .i64 0,.int .i64 0]),11,88):=by kernel_rfl
open Go.RowKit
open Brood
theorem elsRow:Els rowCells 11:=⟨rowCells_length,rowCells_one⟩
theorem cmpW_any (a b:BRow) (w:World):Calls Tryz.prog 67 #[.agg (rowCells a).toArray,.agg (rowCells b).toArray] w fun e w'=>e=.returned (.int .i64 (cmpI a.idx b.idx))∧Below w.heap.size w w':=by
 obtain ⟨ai,ag,ah,avs,a8⟩:=a
 obtain ⟨a0,a1,a2,a3,a4,a5,a6,a7,rfl⟩:=vals_eight a8
 obtain ⟨bi,bg,bh,bvs,b8⟩:=b
 obtain ⟨b0,b1,b2,b3,b4,b5,b6,b7,rfl⟩:=vals_eight b8
 have e1:(rowCells ⟨ai,ag,ah,[a0,a1,a2,a3,a4,a5,a6,a7],a8⟩).toArray=#[.int .i64 ai,.int .i64 ag,.int .i64 ah,.int .i64 a0,.int .i64 a1,.int .i64 a2,.int .i64 a3,.int .i64 a4,.int .i64 a5,.int .i64 a6,.int .i64 a7]:=rfl
 have e2:(rowCells ⟨bi,bg,bh,[b0,b1,b2,b3,b4,b5,b6,b7],b8⟩).toArray=#[.int .i64 bi,.int .i64 bg,.int .i64 bh,.int .i64 b0,.int .i64 b1,.int .i64 b2,.int .i64 b3,.int .i64 b4,.int .i64 b5,.int .i64 b6,.int .i64 b7]:=rfl
 rw [e1,e2]
 clear e1 e2
 go_enter Tryz.func67,Tryz.ntmps67
 go_wp2_with fail
 refine (cmp_any ai bi _).mono ?_
 rintro e w' ⟨rfl,rfl⟩
 go_wp2_with fail
 go_ret
 exact ⟨rfl,((Below.refl _ _).alloc (Nat.le_refl _) _).alloc (by simp) _⟩
theorem cmpW:CmpF rowCells BRow.idx 67:=⟨fun w x y=>cmpW_any x y w,fun args W=>by kernel_rfl⟩
def wlE (w:World) (A:Option Addr) (n c:Nat) (Ag:Option Addr) (m cg:Nat) (b3:Nat) (Ag2:Option Addr) (cg2:Nat) (gens:List Int) (Ar:Option Addr) (cr:Nat) (rows:List BRow):List Ent:=
 [.box w.heap.size 40 [.slice A n c,.slice Ag m cg],.box (w.heap.size+1) 64 [.slice none 0 0,.slice none 0 0],.own (.slice Ag2 gens.length cg2) 3 1 gens.length (ints gens),
  .box b3 64 [.slice Ar rows.length cr,.slice Ag2 gens.length cg2],.own (.slice Ar rows.length cr) 114 11 rows.length (rows.flatMap rowCells)]
theorem world_any (l:List TabIn) (A:Option Addr) (c:Nat) (gens:List Int) (Ag:Option Addr) (cg:Nat) (G:List Grp) (hfit:l.map tabOf=G.map tabG) (hcl:∀ g∈G,Clean g) (hl:l.length≤1048576) (hn:(flatG G).length≤1048576) (hlg:gens.length≤1048576)
  (w:World) (hT:RdT w w.heap.size A l) (hg:RdG w w.heap.size Ag gens) (hng:Ag=none→cg=0∧gens=[]) :
  Calls Tryz.prog 25 #[.agg #[.slice A l.length c,.slice Ag gens.length cg]] w fun e w'=>∃ v,e=.returned v∧GotW w' w.heap.size v (sortK BRow.idx (flatG G)) gens∧Below w.heap.size w w':=by
 have hfith:=Lib.hid hfit;have hclh:=Lib.hid hcl
 have hlG:=Lib.hid (fit_len hfit)
 clear hfit hcl
 have H:=((Hp.start w).new w.heap.size rfl 40 [.slice A l.length c,.slice Ag gens.length cg]).new (w.heap.size+1) (by simp) 64 [.slice none 0 0,.slice none 0 0]
 replace H:Hp w _ [.box w.heap.size 40 [.slice A l.length c,.slice Ag gens.length cg],.box (w.heap.size+1) 64 [.slice none 0 0,.slice none 0 0]]:=H
 have a0:=H.cell 0 0 rfl rfl;have a1:=H.cell 0 1 rfl rfl
 go_enter Tryz.func25,Tryz.ntmps25
 go_wp2_with fail
 obtain ⟨w1,hw1,H⟩:=H.name
 rw [hw1]
 clear hw1 a0 a1
 refine (cloneG_any gens Ag cg (by omega) hng w1 (H.old hg)).mono ?_
 rintro e w2 ⟨v,rfl,hown,hb⟩
 obtain ⟨Ag2,cg2,rfl,_,_⟩:=own_shape hown
 have H2:Hp w w2 [.box w.heap.size 40 [.slice A l.length c,.slice Ag gens.length cg],.box (w.heap.size+1) 64 [.slice none 0 0,.slice none 0 0],.own (.slice Ag2 gens.length cg2) 3 1 gens.length (ints gens)]:=H.got hb hown
 have H3:=(H2.new w2.heap.size rfl 64 [.slice none 0 0,.slice Ag2 gens.length cg2]).nil_ 114 11
 replace H3:Hp w _ (wlE w A l.length c Ag gens.length cg w2.heap.size Ag2 cg2 gens none 0 []):=H3
 have a0:=H2.cell 0 0 rfl rfl;have a1:=H2.cell 0 1 rfl rfl
 have l0:=H2.lt 0 rfl
 clear H hown hb
 go_wp2_with fail
 go_loopw [18] (fun q wr=>∃ k:Nat,k≤l.length∧q=.int .i64 k∧∃ Ar cr,Hp w wr (wlE w A l.length c Ag gens.length cg w2.heap.size Ag2 cg2 gens Ar cr (flatG (G.take k)))) (fun q _=>l.length-(intOf q).toNat)
 case atStart=>exact ⟨0,by omega,rfl,none,0,H3⟩
 case round=>
  clear H3 H2 a0 a1 l0
  obtain ⟨k,hk,rfl,Ar,cr,H⟩:=hrel
  obtain ⟨wo,rfl⟩:∃ wo:World,wo=wr:=⟨_,rfl⟩
  by_cases hlt:k<l.length
  ·have hkG:k<G.length:=by have:=hlG.out;omega
   have hF:=fit_at hfith.out hlt hkG
   have hfl:=flatG_le hkG
   have hft:=Lib.hid (flatG_take hkG)
   have hC:=Lib.hid (hclh.out _ (List.getElem_mem hkG))
   obtain ⟨b1,off,rfl,hb1,e0,e1,e2⟩:=(hT.under H.bel (Nat.le_refl _)).at_ hlt
   have hrb:=hT.bs _ (List.getElem_mem hlt);have hrc:=hT.cs _ (List.getElem_mem hlt);have hrz:=Lib.hid (hT.zs _ (List.getElem_mem hlt))
   generalize G[k]=g at *
   generalize l[k]=t at *
   generalize hrows:flatG (G.take k)=rows at *
   have hrowsh:=Lib.hid hrows
   clear hrows
   have hlen:=Lib.hid hF.len
   have hcln:=Lib.hid hF.clen
   obtain ⟨has,bA,bc,bs,cA,cc,cols⟩:=t
   obtain ⟨gh,rs⟩:=g
   obtain rfl:has=gh:=hF.has
   have hFh:=Lib.hid hF
   dsimp only at e0 e1 e2 hrb hrc hrz hfl
   clear hF
   have i0:(0:Int)≤(k:Int):=by omega
   have i1:(k:Int)<(l.length:Int):=by omega
   have H4:=H.new wo.heap.size rfl 100 [.int .i64 has,.slice bA bs.length bc,.slice cA cols.length cc]
   have a0:=H4.cell 5 1 rfl rfl
   go_wp2_with fail
   clear a0 e0 e1 e2 H
   go_loopw [25] (fun q wr=>∃ i:Nat,i≤bs.length∧q=.int .i64 i∧∃ Ar cr,Hp w wr (wlE w (some ⟨b1,off,none⟩) l.length c Ag gens.length cg w2.heap.size Ag2 cg2 gens Ar cr (rows++rs.take i)++[.box wo.heap.size 100 [.int .i64 has,.slice bA bs.length bc,.slice cA cols.length cc]])) (fun q _=>bs.length-(intOf q).toNat)
   case atStart=>exact ⟨0,by omega,rfl,Ar,cr,by simpa using H4⟩
   case round=>
    clear H4
    obtain ⟨i,hi,rfl,Ar,cr,H⟩:=hrel
    obtain ⟨wp,rfl⟩:∃ wp:World,wp=wr:=⟨_,rfl⟩
    by_cases hil:i<bs.length
    ·have hirs:i<rs.length:=by have:=hlen.out;omega
     obtain ⟨b2,off2,rfl,hb2,f0,f1⟩:=rdBe_at (Rd.under hrb H.bel (Nat.le_refl _)) hil
     rw [hFh.out.be hil hirs] at f0 f1
     have hrz2:=Lib.hid (hC.out.zero _ (List.getElem_mem hirs))
     have hrh:=Lib.hid (hC.out.has _ (List.getElem_mem hirs))
     have htk:=Lib.hid (List.take_append_getElem hirs)
     have hcol:Hid (∀ j (h1:j<cols.length) (h2:j<(listS has).length) (h3:i<cols[j].zs.length),cols[j].zs[i]=rs[i].vals.getD (listS has)[j].toNat 0):=Lib.hid (fun j h1 h2 h3=>by
      have e:=hFh.out.col h1 h2
      have h4:i<(colOf rs (listS has)[j]).length:=by rw [colOf_len];exact hirs
      have:cols[j].zs[i]=(colOf rs (listS has)[j])[i]:=by simp only [e]
      rw [this,colOf_get _ _ hirs])
     have hzl:Hid (∀ j (h1:j<cols.length),cols[j].zs.length=rs.length):=Lib.hid (fun j h1=>by rw [hFh.out.col h1 (by have h5:cols.length=(listS has).length:=hcln.out;show j<(listS has).length;omega),colOf_len])
     generalize rs[i]=r at *
     simp only [beOf] at f0 f1
     have i2:(0:Int)≤(i:Int):=by omega
     have i3:(i:Int)<(bs.length:Int):=by omega
     have H5:=(H.new wp.heap.size rfl 24 [.int .i64 r.idx,.int .i64 r.gen]).new (wp.heap.size+1) (by simp) 114 [.int .i64 r.idx,.int .i64 r.gen,.int .i64 has,.int .i64 0,.int .i64 0,.int .i64 0,.int .i64 0,.int .i64 0,.int .i64 0,.int .i64 0,.int .i64 0]
     have a0:=H.cell 5 0 rfl rfl;have a1:=H.cell 5 1 rfl rfl
     have l5:=H.lt 5 rfl
     go_wp2_with fail
     obtain ⟨w3,hw3,H5⟩:=H5.name
     rw [hw3]
     clear hw3 a0 a1 l5 f0 f1
     obtain ⟨b7,hb7⟩:∃ b7,b7=wp.heap.size+1:=⟨_,rfl⟩
     rw [← hb7] at H5 ⊢
     clear hb7
     refine (list_any has hC.out.set_ w3).mono ?_
     rintro e w4 ⟨vl,rfl,hol,hb9⟩
     obtain ⟨Al,cl,rfl,hlc,hlm⟩:=own_shape hol
     have H6:=H5.got hb9 hol
     clear H5 hol hb9 H
     have hl8:=listS_len has
     go_wp2_with fail
     go_loopw [38] (fun q wr=>∃ j:Nat,j≤(listS has).length∧q=.int .i64 j∧Hp w wr (wlE w (some ⟨b1,off,none⟩) l.length c Ag gens.length cg w2.heap.size Ag2 cg2 gens Ar cr (rows++rs.take i)++[.box wo.heap.size 100 [.int .i64 has,.slice (some ⟨b2,off2,none⟩) bs.length bc,.slice cA cols.length cc],.box wp.heap.size 24 [.int .i64 r.idx,.int .i64 r.gen],.box b7 114 (rowL r.idx r.gen has (valsUp r has j)),.own (.slice Al (listS has).length cl) 3 1 (listS has).length (ints (listS has))])) (fun q _=>(listS has).length-(intOf q).toNat)
     case atStart=>exact ⟨0,by omega,rfl,H6⟩
     case round=>
      clear H6
      obtain ⟨j,hj,rfl,H6⟩:=hrel
      by_cases hjl:j<(listS has).length
      ·obtain ⟨gl,rfl⟩:=own_some (H6.owns 8 rfl) (by omega)
       have z0:=H6.ownCell 8 j rfl (ints_get hjl)
       obtain ⟨k0,k8⟩:=listS_range (listS has)[j] (List.getElem_mem hjl)
       have hvs:=Lib.hid (valsUp_succ r hjl)
       have hjc:j<cols.length:=by have h5:cols.length=(listS has).length:=hcln.out;omega
       obtain ⟨b4,off4,rfl,hb4,g0⟩:=rdC_at (Rd.under hrc H6.bel (Nat.le_refl _)) hjc
       have hzj:=hzl.out j hjc
       have hiz:i<cols[j].zs.length:=by omega
       obtain ⟨b5,off5,hA5,hb5,g1⟩:=rdZ_at (Rd.under (hrz.out _ (List.getElem_mem hjc)) H6.bel (Nat.le_refl _)) hiz
       rw [hcol.out j hjc hjl hiz] at g1
       rw [hA5] at g0
       generalize cols[j].zs.length=zl at *
       generalize cols[j].c=zc at *
       clear hA5 hzj
       obtain ⟨q,hq⟩:=nat_of k0
       rw [hq] at z0 hvs k0 k8 g1
       clear hq
       have hv8:=Lib.hid (valsUp_len r has j)
       rw [Int.toNat_natCast] at hvs g1
       generalize r.vals.getD q 0=z at *
       have hrs:=Lib.hid (rowL_set r.idx r.gen has (valsUp r has j) q z)
       have i4:(0:Int)≤(j:Int):=by omega
       have i5:(j:Int)<((listS has).length:Int):=by omega
       have i6:(j:Int)<(cols.length:Int):=by omega
       have i7:(i:Int)<(zl:Int):=by omega
       have c2:=H6.cell 5 2 rfl rfl
       obtain ⟨u,hu⟩:∃ u,wr.cell? ⟨b7,3+q,none⟩=some u:=by
        obtain ⟨u,hu⟩:∃ u,(rowL r.idx r.gen has (valsUp r has j))[3+q]?=some u:=⟨_,List.getElem?_eq_getElem (by simp [rowL,ints,hv8.out];omega)⟩
        exact ⟨u,H6.cell 7 (3+q) rfl hu⟩
       have z6:=H6.frozen 7 (3+q) rfl
       have H7:=H6.set 7 (3+q) (.int .i64 z) rfl
       rw [hrs.out,← hvs.out] at H7
       replace H7:Hp w _ (wlE w (some ⟨b1,off,none⟩) l.length c Ag gens.length cg w2.heap.size Ag2 cg2 gens Ar cr (rows++rs.take i)++[.box wo.heap.size 100 [.int .i64 has,.slice (some ⟨b2,off2,none⟩) bs.length bc,.slice (some ⟨b4,off4,none⟩) cols.length cc],.box wp.heap.size 24 [.int .i64 r.idx,.int .i64 r.gen],.box b7 114 (rowL r.idx r.gen has (valsUp r has (j+1))),.own (.slice (some ⟨gl,0,none⟩) (listS has).length cl) 3 1 (listS has).length (ints (listS has))]):=H7
       have H8:=Lib.hid H7
       clear H6 H7 hrs hvs hv8
       go_wp2_with fail
       go_roundw
       case rel=>exact ⟨j+1,by omega,by go_num,H8.out⟩
       case measure=>simp [intOf];omega
      ·obtain rfl:j=(listS has).length:=by omega
       replace H6:=H6.drop1 8
       rw [valsUp_all hC.out.set_ hrz2.out] at H6
       obtain ⟨ri,rg,rh,rv,r8⟩:=r
       obtain rfl:rh=has:=hrh.out
       obtain ⟨a0,a1,a2,a3,a4,a5,a6,a7,rfl⟩:=vals_eight r8
       generalize hR:rows++rs.take i=R at *
       have hRl:R.length≤1048576:=by rw [← hR];simp;omega
       have hR2:Hid (rows++rs.take (i+1)=R++[⟨ri,rg,rh,[a0,a1,a2,a3,a4,a5,a6,a7],r8⟩]):=Lib.hid (by rw [← htk.out,← hR,List.append_assoc])
       clear hR hcol hzl htk hrz2 hrz hrh
       replace H6:Hp w wr (wlE w (some ⟨b1,off,none⟩) l.length c Ag gens.length cg w2.heap.size Ag2 cg2 gens Ar cr R++[.box wo.heap.size 100 [.int .i64 rh,.slice (some ⟨b2,off2,none⟩) bs.length bc,.slice cA cols.length cc],.box wp.heap.size 24 [.int .i64 ri,.int .i64 rg],.box b7 114 [.int .i64 ri,.int .i64 rg,.int .i64 rh,.int .i64 a0,.int .i64 a1,.int .i64 a2,.int .i64 a3,.int .i64 a4,.int .i64 a5,.int .i64 a6,.int .i64 a7]]):=H6
       obtain ⟨i0',hi0,hz0a,hz0b,hz0c⟩:=info_parts infoRow
       have c0:=H6.cell 7 0 rfl rfl;have c1:=H6.cell 7 1 rfl rfl;have c2:=H6.cell 7 2 rfl rfl;have c3:=H6.cell 7 3 rfl rfl;have c4:=H6.cell 7 4 rfl rfl;have c5:=H6.cell 7 5 rfl rfl;have c6:=H6.cell 7 6 rfl rfl;have c7:=H6.cell 7 7 rfl rfl;have c8:=H6.cell 7 8 rfl rfl;have c9:=H6.cell 7 9 rfl rfl;have c10:=H6.cell 7 10 rfl rfl
       have d0:=H6.cell 3 0 rfl rfl
       have HN:=H6.new wr.heap.size rfl 114 [.int .i64 ri,.int .i64 rg,.int .i64 rh,.int .i64 a0,.int .i64 a1,.int .i64 a2,.int .i64 a3,.int .i64 a4,.int .i64 a5,.int .i64 a6,.int .i64 a7]
       clear H6
       go_wp2_with (at_builtin;refine wpList_append_own_at _ rfl _ _ 62 rfl w.heap.size 114 i0' (.agg #[.int .i64 0,.int .i64 0,.int .i64 0,.int .i64 0,.int .i64 0,.int .i64 0,.int .i64 0,.int .i64 0,.int .i64 0,.int .i64 0,.int .i64 0]) 11 88 Tryz.underlying62 hi0 hz0a hz0b hz0c rfl (by decide) _ _ _ rfl (HN.owns 4 rfl) ⟨wr.heap.size,0,none⟩ 1 1 [.int .i64 ri,.int .i64 rg,.int .i64 rh,.int .i64 a0,.int .i64 a1,.int .i64 a2,.int .i64 a3,.int .i64 a4,.int .i64 a5,.int .i64 a6,.int .i64 a7] rfl rfl ?c1 ?c2 ?c3 ?c4 ?c5 ?_;rotate_left 5;intro v' w7 hown7 hgrow7 _ hat7;have H8:=HN.app 4 rfl hgrow7 hown7 (hat7.imp id (fun e g hg=>by rw [e] at hg;injection hg with hg;omega));have z0:=H8.cell 3 0 rfl rfl;have z3:=H8.frozen 3 0 rfl;obtain ⟨A3,c3,rfl,hs1,hs2⟩:=own_shape hown7)
       case c2=>simp [Value.oneCell']
       case c3=>unfold maxLen;omega
       case c4=>omega
       case c5=>simpa using HN.bel.size
       go_roundw
       case rel=>
        refine ⟨i+1,by omega,by go_num,A3,c3,?_⟩
        rw [hR2.out]
        unfold wlE
        rw [show (R++[(⟨ri,rg,rh,[a0,a1,a2,a3,a4,a5,a6,a7],r8⟩:BRow)]).length=R.length+1 by simp,flat_snoc]
        exact (((H8.set 3 0 (.slice A3 (R.length+1) c3) rfl).drop1 8).drop1 7).drop1 6
       case measure=>simp [intOf];omega
    ·obtain rfl:i=bs.length:=by omega
     have hk2:Hid (flatG (G.take (k+1))=rows++rs.take bs.length):=Lib.hid (by rw [hft.out,List.take_of_length_le (by have h5:bs.length=rs.length:=hlen.out;omega)])
     have H9:=H.drop1 5
     clear H
     go_wp2_with fail
     go_roundw
     case rel=>exact ⟨k+1,by omega,by go_num,Ar,cr,by rw [hk2.out];exact H9⟩
     case measure=>simp [intOf];omega
  ·obtain rfl:k=l.length:=by omega
   have hall:Hid (flatG (G.take l.length)=flatG G):=Lib.hid (by rw [List.take_of_length_le (by have:=hlG.out;omega)])
   rw [hall.out] at H
   obtain ⟨R,hR⟩:∃ R,Hid (R=flatG G):=⟨_,Lib.hid rfl⟩
   rw [← hR.out] at H hn
   clear hall
   have d0:=H.cell 3 0 rfl rfl
   go_wp2_with fail
   refine (sortStableR_any rowCells elsRow BRow.idx _ cmpW w.heap.size R (by omega) (.slice Ar R.length cr) wo (H.owns 4 rfl)).mono ?_
   rintro e w5 ⟨rfl,hgr,hown⟩
   have hsl:(sortK BRow.idx R).length=R.length:=(sortK_stb R).2.1
   rw [hsl] at hown
   have H2:=H.app 4 rfl hgr hown (.inl rfl)
   clear d0 H hgr hown
   have x0:=H2.cell 3 0 rfl rfl;have x1:=H2.cell 3 1 rfl rfl;have x2:=H2.cell 1 0 rfl rfl;have x3:=H2.cell 1 1 rfl rfl
   have y2:=H2.frozen 1 0 rfl;have y3:=H2.frozen 1 1 rfl
   have H3:=(H2.set 1 0 (.slice Ar R.length cr) rfl).set 1 1 (.slice Ag2 gens.length cg2) rfl
   have p0:=H3.cell 1 0 rfl rfl;have p1:=H3.cell 1 1 rfl rfl
   go_wp2_with fail
   refine bodyPost_ret (v:=.agg #[.slice Ar R.length cr,.slice Ag2 gens.length cg2]) (by simp [results,Tryz.results25,go_sem,p0,p1]) rfl ⟨_,rfl,⟨_,_,rfl,⟨by rw [← hR.out,hsl];exact H3.owns 4 rfl,H3.owns 2 rfl⟩⟩,H3.bel⟩
open Go.RowKit
open Brood
structure StSmall (l:List TabIn) (gens:List Int):Prop where
 tabs:l.length≤1048576
 tab:∀ t∈l,TabSmall t
 sum:(l.map fun t=>t.bs.length).sum≤1048576
 gens:gens.length≤1048576
theorem flat_sum:∀ l:List TabIn,(flatG ((l.map tabOf).map grpOf)).length=(l.map fun t=>t.bs.length).sum
 | []=>rfl
 | t::l=>by
  have ih:=flat_sum l
  unfold flatG at ih ⊢
  rw [List.map_cons,List.map_cons,List.flatMap_cons,List.length_append,ih,List.map_cons,List.sum_cons]
  congr 1
  exact rowsT_len _
def prevT (l:List TabIn) (k:Nat):Option Int:=match k with | 0=>none | k+1=>(l[k]?).map TabIn.has
def stBox (B:Nat) (A:Option Addr) (n c:Nat) (Ag:Option Addr) (m cg:Nat):Ent:=.box B 40 [.slice A n c,.slice Ag m cg]
def fBox (B:Nat) (e a:Int):Ent:=.box B 48 [.int .i64 e,.int .i64 a]
theorem swrong_any (l:List TabIn) (A:Option Addr) (c:Nat) (gens:List Int) (Ag:Option Addr) (cg:Nat) (hs:StSmall l gens) (w:World) (hT:RdT w w.heap.size A l) (hg:RdG w w.heap.size Ag gens) (hng:Ag=none→cg=0∧gens=[]) :
  Calls Tryz.prog 23 #[.agg #[.slice A l.length c,.slice Ag gens.length cg]] w fun e w'=>e=.returned (.agg #[.int .i64 (storeErr (l.map tabOf) gens).1,.int .i64 (storeErr (l.map tabOf) gens).2])∧Below w.heap.size w w':=by
 obtain ⟨E,hE⟩:∃ E,E=storeErr (l.map tabOf) gens:=⟨_,rfl⟩
 rw [← hE]
 obtain ⟨s1,s2,s3,s4⟩:=hs
 have s2h:=Lib.hid s2;have s3h:=Lib.hid s3
 obtain ⟨T,hTe⟩:∃ T,T=tabsFrom 0 none (l.map tabOf):=⟨_,rfl⟩
 have hET:Hid (E=if T.1≠0 then T else ((worldErr ⟨worldT (l.map tabOf),gens⟩).1,0)):=Lib.hid (by rw [hE,hTe];rfl)
 have hok:Hid (T.1=0→∀ t∈l.map tabOf,TabOk t):=Lib.hid (fun h=>((tabsFrom_iff _ 0 none).1 (hTe ▸ h)).1)
 have hTh:=Lib.hid hTe
 clear s2 s3 hE hTe
 have H:=((Hp.start w).new w.heap.size rfl 40 [.slice A l.length c,.slice Ag gens.length cg]).new (w.heap.size+1) (by simp) 48 [.int .i64 0,.int .i64 0]
 replace H:Hp w _ [stBox w.heap.size A l.length c Ag gens.length cg,fBox (w.heap.size+1) 0 0]:=H
 have a0:=H.cell 0 0 rfl rfl;have a1:=H.cell 0 1 rfl rfl
 go_enter Tryz.func23,Tryz.ntmps23
 go_wp2_with fail
 go_loopw [9] (fun q wr=>∃ k:Nat,k≤l.length∧q=.int .i64 k∧Hid (T=tabsFrom k (prevT l k) ((l.drop k).map tabOf))∧Hp w wr [stBox w.heap.size A l.length c Ag gens.length cg,fBox (w.heap.size+1) 0 0]) (fun q _=>l.length-(intOf q).toNat)
 case atStart=>exact ⟨0,by omega,rfl,Lib.hid (by rw [hTh.out];simp [prevT]),H⟩
 case round=>
  clear H a0 a1
  obtain ⟨k,hk,rfl,hfr,H⟩:=hrel
  have a0:=H.cell 0 0 rfl rfl;have a1:=H.cell 0 1 rfl rfl;have f0:=H.cell 1 0 rfl rfl;have f1:=H.cell 1 1 rfl rfl
  have y0:=H.frozen 1 0 rfl;have y1:=H.frozen 1 1 rfl
  by_cases hlt:k<l.length
  ·obtain ⟨b,off,rfl,hb,hat⟩:=(RdT.more (hT.under H.bel (Nat.le_refl _)) H.bel.size).tab hlt
   have hst:Hid ((l.drop k).map tabOf=tabOf l[k]::(l.drop (k+1)).map tabOf):=Lib.hid (by rw [List.drop_eq_getElem_cons hlt];rfl)
   have hpn:Hid (prevT l (k+1)=some l[k].has):=Lib.hid (by simp [prevT,hlt])
   have hcall:=table_any l[k] b (off+k*3) wr hat (s2h.out _ (List.getElem_mem hlt))
   have hprev:∀ k',k=k'+1→∃ z:Int,prevT l k=some z∧w.cell? ⟨b,off+k'*3,none⟩=some (.int .i64 z):=by
    rintro k' rfl
    have hk':k' < l.length:=by omega
    obtain ⟨b',off',hbo,_,e0',_⟩:=hT.at_ hk'
    injection hbo with hbo
    injection hbo with hbo1 hbo2
    subst hbo1 hbo2
    exact ⟨l[k'].has,by simp [prevT,hk'],e0'⟩
   obtain ⟨_,_,he,hb2,e0,_,_⟩:=hT.at_ hlt
   injection he with he
   injection he with he1 he2
   subst he1 he2
   have hth:Hid ((tabOf l[k]).has=l[k].has):=Lib.hid rfl
   obtain ⟨P,hP⟩:∃ P,P=prevT l k:=⟨_,rfl⟩
   have hP0:Hid (k=0→P=none):=Lib.hid (by rintro rfl;rw [hP];rfl)
   rw [← hP] at hprev hfr
   clear hP
   generalize l[k]=t at *
   obtain ⟨er,her⟩:∃ er,er=tabErr (tabOf t):=⟨_,rfl⟩
   rw [← her] at hcall
   have hTq:Hid (T=if er≠0 then (er,(k:Int)) else if prevGe P t.has=true then (2,(k:Int)) else tabsFrom (k+1) (some t.has) ((l.drop (k+1)).map tabOf)):=Lib.hid (by rw [hfr.out,hst.out,tabsFrom,← her,hth.out])
   have hcallh:=Lib.hid hcall
   have i0:(0:Int)≤(k:Int):=by omega
   have i1:(k:Int)<(l.length:Int):=by omega
   clear hcall her hth hfr hst
   go_wp2_with fail
   refine hcallh.out.mono ?_
   rintro e w1 ⟨rfl,hb1⟩
   have H2:=H.grow hb1
   clear hcallh a0 a1 f0 f1 y0 y1
   have a0:=H2.cell 0 0 rfl rfl;have a1:=H2.cell 0 1 rfl rfl;have f0:=H2.cell 1 0 rfl rfl;have f1:=H2.cell 1 1 rfl rfl
   have y0:=H2.frozen 1 0 rfl;have y1:=H2.frozen 1 1 rfl
   by_cases her:er=0
   ·subst her
    have hTq2:Hid (T=if prevGe P t.has=true then (2,(k:Int)) else tabsFrom (k+1) (some t.has) ((l.drop (k+1)).map tabOf)):=Lib.hid (by rw [hTq.out,if_neg (by decide)])
    generalize t.has=ri at *
    have e0':w1.cell? ⟨b,off+k*3,none⟩=some (.int .i64 ri):=(H2.bel.cell (by simpa using hb2)).trans e0
    have hprev':∀ k',k=k'+1→∃ z:Int,P=some z∧w1.cell? ⟨b,off+k'*3,none⟩=some (.int .i64 z):=fun k' h=>by
     obtain ⟨z,h1,h2⟩:=hprev k' h
     exact ⟨z,h1,(H2.bel.cell (by simpa using hb2)).trans h2⟩
    clear hTq e0 hprev H hat
    go_upto_region 7 with fail
    go_cut [39] (fun s39 wx=>s39=.bool (prevGe P ri)∧∃ n,wx=w1.drewN n)
    case first=>
     clear hTq2
     cases k with
     | zero=>
      have hpz:Hid (prevGe P ri=false):=Lib.hid (by rw [hP0.out rfl];rfl)
      clear hprev'
      go_quiet (fail)
      go_wp2_with fail
      go_meet
      exact ⟨by rw [hpz.out],_,rfl⟩
     | succ k'=>
      obtain ⟨q,hq,hcq⟩:=hprev' k' rfl
      have hqv:Hid (prevGe P ri=decide (ri≤q)):=Lib.hid (by rw [hq];rfl)
      have hwrap:IntKind.i64.wrap (((k'+1:Nat):Int)-1)=(k':Int):=by rw [IntKind.wrap_i64];omega
      have hkp:(0:Int)<((k'+1:Nat):Int):=by omega
      have k0:(0:Int)≤(k':Int):=by omega
      have k1:(k':Int)<(l.length:Int):=by omega
      clear hprev' hq
      go_quiet (fail)
      go_wp2_with fail
      go_meet
      exact ⟨by rw [hqv.out],_,rfl⟩
    case rest=>
     obtain ⟨rfl,n,rfl⟩:=hcut
     have H3:=H2.drewN n
     clear hprev' hP0 H2 a0 a1 f0 f1 y0 y1 e0'
     have f0:=H3.cell 1 0 rfl rfl;have f1:=H3.cell 1 1 rfl rfl
     have y0:=H3.frozen 1 0 rfl;have y1:=H3.frozen 1 1 rfl
     cases hpg:prevGe P ri with
     | true=>
      have hEf:Hid (E=(2,(k:Int))):=Lib.hid (by rw [hET.out,hTq2.out,if_pos hpg,if_pos (by simp)])
      have H4:=(H3.set 1 0 (.int .i64 2) rfl).set 1 1 (.int .i64 (k:Int)) rfl
      have p0:=H4.cell 1 0 rfl rfl;have p1:=H4.cell 1 1 rfl rfl
      clear hTq2 hET
      go_wp2_with fail
      refine bodyPost_ret (v:=.agg #[.int .i64 2,.int .i64 (k:Int)]) (by simp [results,Tryz.results23,go_sem,p0,p1]) rfl ⟨by rw [hEf.out],H4.bel⟩
     | false=>
      have hEf:Hid (T=tabsFrom (k+1) (prevT l (k+1)) ((l.drop (k+1)).map tabOf)):=Lib.hid (by rw [hTq2.out,if_neg (by rw [hpg];decide),hpn.out])
      clear hTq2 hpn
      go_wp2_with fail
      go_roundw
      case rel=>exact ⟨k+1,by omega,by go_num,hEf,H3⟩
      case measure=>simp [intOf];omega
   ·have her':(er != 0)=true:=bne_iff_ne.2 her
    have hEf:Hid (E=(er,(k:Int))):=Lib.hid (by rw [hET.out,hTq.out,if_pos her,if_pos her])
    have H4:=(H2.set 1 0 (.int .i64 er) rfl).set 1 1 (.int .i64 (k:Int)) rfl
    have p0:=H4.cell 1 0 rfl rfl;have p1:=H4.cell 1 1 rfl rfl
    clear hTq hET hprev hpn her
    go_wp2_with fail
    refine bodyPost_ret (v:=.agg #[.int .i64 er,.int .i64 (k:Int)]) (by simp [results,Tryz.results23,go_sem,p0,p1]) rfl ⟨by rw [hEf.out],H4.bel⟩
  ·obtain rfl:k=l.length:=by omega
   have hT0:T=(0,0):=by rw [hfr.out,List.drop_length];rfl
   have hEf:Hid (E=((worldErr ⟨worldT (l.map tabOf),gens⟩).1,0)):=Lib.hid (by rw [hET.out,hT0,if_neg (by decide)])
   have hokk:=hok.out (by rw [hT0])
   have hfit:l.map tabOf=((l.map tabOf).map grpOf).map tabG:=by
    rw [List.map_map]
    have:∀ t∈l.map tabOf,(tabG ∘ grpOf) t=id t:=fun t ht=>tabG_grpOf (hokk t ht).set_ (hokk t ht).many (hokk t ht).len
    rw [List.map_congr_left this,List.map_id]
   have hcln:∀ g∈(l.map tabOf).map grpOf,Clean g:=by
    intro g hg
    obtain ⟨t,ht,rfl⟩:=List.mem_map.1 hg
    exact grpOf_clean (hokk t ht).set_ (hokk t ht).many
   have hcall:=world_any l A c gens Ag cg _ hfit hcln s1 (by rw [flat_sum];exact s3h.out) s4 wr (RdT.more (hT.under H.bel (Nat.le_refl _)) H.bel.size) (H.old hg) hng
   have hlw:(sortK BRow.idx (flatG ((l.map tabOf).map grpOf))).length≤1048576:=by rw [(sortK_stb (key:=BRow.idx) (flatG ((l.map tabOf).map grpOf))).2.1,flat_sum];exact s3h.out
   have hwT:Hid (worldT (l.map tabOf)=sortK BRow.idx (flatG ((l.map tabOf).map grpOf))):=Lib.hid rfl
   generalize sortK BRow.idx (flatG ((l.map tabOf).map grpOf))=R at *
   have hcallh:=Lib.hid hcall
   clear hT0 hcall hokk hfit hcln hfr hET hTh hok
   go_wp2_with fail
   refine hcallh.out.mono ?_
   rintro e w1 ⟨v,rfl,hG,hb1⟩
   obtain ⟨Ar,cr,Ag2,cg2,rfl,H2⟩:=GotW.got' H hb1 hG
   clear H hG hb1 a0 a1 f0 f1 y0 y1
   go_wp2_with fail
   refine (pwrong_any R gens Ar cr Ag2 cg2 (by omega) w1 (H2.rd 2 rfl) (H2.rd 3 rfl)).mono ?_
   rintro e w2 ⟨rfl,hb2⟩
   obtain ⟨F,hF⟩:∃ F,F=worldErr ⟨R,gens⟩:=⟨_,rfl⟩
   rw [← hF]
   have hEf2:Hid (E=(F.1,0)):=Lib.hid (by rw [hEf.out,hwT.out,hF])
   clear hF hEf hwT
   obtain ⟨x,y⟩:=F
   have H3:=H2.grow hb2
   have f0:=(H2.grow hb2).cell 1 0 rfl rfl;have f1:=(H2.grow hb2).cell 1 1 rfl rfl
   have y0:=(H2.grow hb2).frozen 1 0 rfl;have y1:=(H2.grow hb2).frozen 1 1 rfl
   have lt1:=(H2.grow hb2).lt 1 rfl
   clear H2 hb2
   dsimp only at hEf2
   by_cases hx:x=0
   ·subst hx
    have H4:=((H3.set 1 0 (.int .i64 0) rfl).set 1 1 (.int .i64 0) rfl).new w2.heap.size (by simp) 48 [.int .i64 0,.int .i64 y]
    have p0:=H4.cell 1 0 rfl rfl;have p1:=H4.cell 1 1 rfl rfl
    go_wp2_with fail
    refine bodyPost_ret (v:=.agg #[.int .i64 0,.int .i64 0]) (by simp [results,Tryz.results23,go_sem,p0,p1]) rfl ⟨by rw [hEf2.out],H4.bel⟩
   ·have hx':(x != 0)=true:=bne_iff_ne.2 hx
    have H4:=((H3.set 1 0 (.int .i64 x) rfl).set 1 1 (.int .i64 0) rfl).new w2.heap.size (by simp) 48 [.int .i64 x,.int .i64 y]
    have p0:=H4.cell 1 0 rfl rfl;have p1:=H4.cell 1 1 rfl rfl
    clear hx
    go_wp2_with fail
    refine bodyPost_ret (v:=.agg #[.int .i64 x,.int .i64 0]) (by simp [results,Tryz.results23,go_sem,p0,p1]) rfl ⟨by rw [hEf2.out],H4.bel⟩
open Go.RowKit
open Brood
theorem infoTab:(Tryz.prog.info? 100).map (fun i=>(i.zero,i.size,i.bytes))=some (some (.agg #[.int .i64 0,.slice none 0 0,.slice none 0 0]),3,56):=by kernel_rfl
theorem infoSl:(Tryz.prog.info? 38).map (fun i=>(i.zero,i.size,i.bytes))=some (some (.slice none 0 0),1,24):=by kernel_rfl
def owE (w:World) (A:Option Addr) (n c:Nat) (Ag:Option Addr) (m cg:Nat) (b3:Nat) (Ag2:Option Addr) (cg2:Nat) (gens:List Int) (A2:Option Addr) (c2:Nat) (l2:List TabIn):List Ent:=
 [stBox w.heap.size A n c Ag m cg,.box (w.heap.size+1) 40 [.slice none 0 0,.slice none 0 0],.own (.slice Ag2 gens.length cg2) 3 1 gens.length (ints gens),stBox b3 A2 l2.length c2 Ag2 gens.length cg2,outE A2 c2 l2]
def tBox (b:Nat) (x:TabIn):Ent:=.box b 100 (tabCells x)
theorem tabE_snoc (l:List TabIn) (x:TabIn):(l++[x]).flatMap tabE=l.flatMap tabE++tabE x:=by simp
theorem outE_snoc (A:Option Addr) (c:Nat) (l:List TabIn) (x:TabIn):outE A c (l++[x])=.own (.slice A (l.length+1) c) 100 3 (l.length+1) (l.flatMap tabCells++tabCells x):=by
 unfold outE;simp
theorem Hp.push1 {w0 w:World} {E L:List Ent} {p:Ent} (h:Hp w0 w (E++L++[p])):Hp w0 w (E++[p]++L):=by
 refine h.perm ?_
 rw [List.append_assoc,List.append_assoc]
 exact List.Perm.append_left _ List.perm_append_comm
theorem Hp.swap2 {w0 w:World} {E L:List Ent} {p q:Ent} (h:Hp w0 w (E++[p]++[q]++L)):Hp w0 w (E++[q]++[p]++L):=by
 refine h.perm (List.Perm.append_right _ ?_)
 rw [List.append_assoc,List.append_assoc]
 exact List.Perm.append_left _ (List.Perm.swap q p [])
theorem Hp.swap3 {w0 w:World} {E L:List Ent} {p q r:Ent} (h:Hp w0 w (E++[p]++[q]++[r]++L)):Hp w0 w (E++[q]++[p]++[r]++L):=by
 have h':Hp w0 w (E++[p]++[q]++([r]++L)):=by rw [← List.append_assoc];exact h
 have:=h'.swap2
 rwa [← List.append_assoc] at this
theorem Hp.pushC {w0 w:World} {E C L:List Ent} {p q:Ent} (h:Hp w0 w (E++(C++L)++[p]++[q])):Hp w0 w (E++((C++[p])++L)):=by
 have h1:=h.sub (List.sublist_append_left _ [q])
 refine h1.perm ?_
 rw [List.append_assoc,List.append_assoc,List.append_assoc]
 exact List.Perm.append_left _ (List.Perm.append_left _ List.perm_append_comm)
theorem Hp.pushT {w0 w:World} {E L C:List Ent} {p q r:Ent} (h:Hp w0 w (E++[p,q]++(C++L)++[r])):Hp w0 w (E++(L++(p::q::C))):=by
 refine (h.sub (List.sublist_append_left _ [r])).perm ?_
 rw [List.append_assoc,← List.append_assoc [p,q]]
 exact List.Perm.append_left _ List.perm_append_comm
theorem lies_at {v:Value} {g n cap H:Nat} {w:World} (hH:w.heap.size=H) (h:v.ownBlock=some g∨g=H):(Value.slice (some ⟨g,0,none⟩) n cap).ownBlock=v.ownBlock∨∀ q,(Value.slice (some ⟨g,0,none⟩) n cap).ownBlock=some q→w.heap.size≤q:=by
 rcases h with h | h
 ·exact .inl h.symm
 ·refine .inr fun q hq=>?_
  have:g=q:=by simpa [Value.ownBlock] using hq
  omega
theorem csE_snoc (has:Int) (bA:Option Addr) (bc:Nat) (bs:List (Int×Int)) (cA:Option Addr) (cc:Nat) (cols:List ColIn) (x:ColIn) :
  csE ⟨has,bA,bc,bs,cA,cc,cols++[x]⟩=.own (.slice cA (cols.length+1) cc) 38 1 (cols.length+1) (cols.map colV++[colV x]):=by unfold csE;simp
theorem sown_any (l:List TabIn) (A:Option Addr) (c:Nat) (gens:List Int) (Ag:Option Addr) (cg:Nat) (hs:StSmall l gens) (w:World) (h:RdSt w w.heap.size ⟨A,c,l,Ag,cg,gens⟩) :
  Calls Tryz.prog 46 #[.agg #[.slice A l.length c,.slice Ag gens.length cg]] w fun e w'=>∃ A2 c2 l2 Ag2 cg2,e=.returned (.agg #[.slice A2 l2.length c2,.slice Ag2 gens.length cg2])∧l2.map tabOf=l.map tabOf ∧
   Hp w w' (.own (.slice Ag2 gens.length cg2) 3 1 gens.length (ints gens)::tabsE A2 c2 l2):=by
 obtain ⟨hT,hg,hnt,hng⟩:=h
 dsimp only at hT hg hnt hng
 obtain ⟨s1,s2,s3,s4⟩:=hs
 have s2h:=Lib.hid s2;have hnth:=Lib.hid hnt
 clear s2 s3 hnt
 have H:=((Hp.start w).new w.heap.size rfl 40 [.slice A l.length c,.slice Ag gens.length cg]).new (w.heap.size+1) (by simp) 40 [.slice none 0 0,.slice none 0 0]
 replace H:Hp w _ [stBox w.heap.size A l.length c Ag gens.length cg,.box (w.heap.size+1) 40 [.slice none 0 0,.slice none 0 0]]:=H
 have a0:=H.cell 0 0 rfl rfl;have a1:=H.cell 0 1 rfl rfl
 go_enter Tryz.func46,Tryz.ntmps46
 go_wp2_with fail
 obtain ⟨w1,hw1,H⟩:=H.name
 rw [hw1]
 clear hw1 a0 a1
 refine (cloneG_any gens Ag cg (by omega) hng w1 (H.old hg)).mono ?_
 rintro e w2 ⟨v,rfl,hown,hb⟩
 obtain ⟨Ag2,cg2,rfl,_,_⟩:=own_shape hown
 have H2:=H.got hb hown
 have H3:=(H2.new w2.heap.size rfl 40 [.slice none 0 0,.slice Ag2 gens.length cg2]).nil_ 100 3
 replace H3:Hp w _ (owE w A l.length c Ag gens.length cg w2.heap.size Ag2 cg2 gens none 0 []++([]:List TabIn).flatMap tabE):=H3
 have a0:=H2.cell 0 0 rfl rfl;have a1:=H2.cell 0 1 rfl rfl
 have l0:=H2.lt 0 rfl
 clear H hown hb
 go_wp2_with fail
 go_loopw [16] (fun q wr=>∃ k:Nat,k≤l.length∧q=.int .i64 k∧∃ A2 c2 l2,Hid (l2.map tabOf=(l.take k).map tabOf)∧Hp w wr (owE w A l.length c Ag gens.length cg w2.heap.size Ag2 cg2 gens A2 c2 l2++l2.flatMap tabE)) (fun q _=>l.length-(intOf q).toNat)
 case atStart=>exact ⟨0,by omega,rfl,none,0,[],Lib.hid rfl,H3⟩
 case round=>
  clear H3 H2 a0 a1 l0
  obtain ⟨k,hk,rfl,A2,c2,l2,hl2,H⟩:=hrel
  have hll:Hid (l2.length=k):=Lib.hid (by have:=congrArg List.length hl2.out;simp at this;omega)
  obtain ⟨wo,rfl⟩:∃ wo:World,wo=wr:=⟨_,rfl⟩
  by_cases hlt:k<l.length
  ·obtain ⟨b1,off,rfl,hb1,e0,e1,e2⟩:=(hT.under H.bel (Nat.le_refl _)).at_ hlt
   have hrb:=hT.bs _ (List.getElem_mem hlt);have hrc:=hT.cs _ (List.getElem_mem hlt);have hrz:=Lib.hid (hT.zs _ (List.getElem_mem hlt))
   have hnb:=hnth.out.bs _ (List.getElem_mem hlt);have hnz:=Lib.hid (hnth.out.zs _ (List.getElem_mem hlt))
   have hsm:=s2h.out _ (List.getElem_mem hlt)
   have htk:=Lib.hid (List.take_append_getElem hlt)
   generalize l[k]=t at *
   obtain ⟨has,bA,bc,bs,cA,cc,cols⟩:=t
   obtain ⟨m1,m2,m3⟩:=hsm
   have m3h:=Lib.hid m3
   dsimp only at e0 e1 e2 hrb hrc hnb m1 m2
   clear m3
   have i0:(0:Int)≤(k:Int):=by omega
   have i1:(k:Int)<(l.length:Int):=by omega
   have H4:=H.new wo.heap.size rfl 100 [.int .i64 has,.slice bA bs.length bc,.slice cA cols.length cc]
   go_upto_region 5 with fail
   clear e0 e1 e2 H
   obtain ⟨w4,hw4,H4⟩:=H4.name
   rw [hw4]
   obtain ⟨b5,hb5⟩:∃ b5,b5=wo.heap.size:=⟨_,rfl⟩
   rw [← hb5] at H4 ⊢
   clear hw4 hb5
   have hq:Hid (∀ W:World,Below w.heap.size w W→Calls Tryz.prog 93 #[.slice bA bs.length bc] W fun e w'=>∃ v,e=.returned v∧w'.ownsRow W.heap.size 24 2 v bs.length (bs.flatMap beC)∧Below W.heap.size W w'):=Lib.hid fun W hW=>cloneB_any bs bA bc (by omega) hnb W (Rd.more (Rd.under hrb hW (Nat.le_refl _)) hW.size)
   replace H4:=H4.push1
   have c0:=H4.cell 5 0 rfl rfl;have c1:=H4.cell 5 1 rfl rfl
   go_cut [6] (fun s6 wx=>∃ b6 bA2 bc2,s6=.pointer (some ⟨b6,0,none⟩)∧Hp w wx (owE w (some ⟨b1,off,none⟩) l.length c Ag gens.length cg w2.heap.size Ag2 cg2 gens A2 c2 l2++[.box b5 100 [.int .i64 has,.slice bA bs.length bc,.slice cA cols.length cc]]++[tBox b6 ⟨has,bA2,bc2,bs,none,0,[]⟩,bsE ⟨has,bA2,bc2,bs,none,0,[]⟩,csE ⟨has,bA2,bc2,bs,none,0,[]⟩]++l2.flatMap tabE))
   case first=>
    have hlt5:=H4.lt 5 rfl
    have hn1:b5≠w4.heap.size:=by omega
    have hn2:w4.heap.size≠b5:=by omega
    go_region_held3 (fun w'=>w'.cell? ⟨b5,0,none⟩=some (.int .i64 has)∧w'.cell? ⟨b5,1,none⟩=some (.slice bA bs.length bc))
     (first | exact ⟨c0,c1⟩ | go_keep)
     (first
      | (go_at_call 93;refine (hq.out _ H4.bel.drew).mono ?_;rintro e w5 ⟨v,rfl,hown,hb⟩;obtain ⟨bA2,bc2,rfl,_,_⟩:=own_shape hown;have c0:=(hb.cell (p:=⟨b5,0,none⟩) (H4.lt 5 rfl)).trans c0;have c1:=(hb.cell (p:=⟨b5,1,none⟩) (H4.lt 5 rfl)).trans c1;have hl5:b5<w5.heap.size:=Nat.lt_of_lt_of_le (H4.lt 5 rfl) hb.size;have hn3:b5≠w5.heap.size:=Nat.ne_of_lt hl5;have hn4:w5.heap.size≠b5:=hn3.symm)
      | (go_at_call 93;refine (hq.out _ (H4.bel.alloc H4.bel.size _).drew).mono ?_;rintro e w5 ⟨v,rfl,hown,hb⟩;obtain ⟨bA2,bc2,rfl,_,_⟩:=own_shape hown;have c0:=(hb.cell (p:=⟨b5,0,none⟩) (Nat.lt_of_lt_of_le (H4.lt 5 rfl) (by simp))).trans ((World.cell?_alloc_lt _ _ _ (H4.lt 5 rfl)).trans c0);have c1:=(hb.cell (p:=⟨b5,1,none⟩) (Nat.lt_of_lt_of_le (H4.lt 5 rfl) (by simp))).trans ((World.cell?_alloc_lt _ _ _ (H4.lt 5 rfl)).trans c1);have HZ:=(Blk.new w4 100 #[.int .i64 0,.slice none 0 0,.slice none 0 0]).drew.below hb (by simp);have z0:=HZ.cell 0;have z1:=HZ.cell 1;have z2:=HZ.cell 2;have y0:=HZ.frozen 0;have y1:=HZ.frozen 1;have y2:=HZ.frozen 2;simp at z0 z1 z2))
    all_goals (go_wp2_with fail;go_meet)
    ·refine ⟨_,bA2,bc2,rfl,?_⟩
     exact ((((((H4.drew.got hb hown).push1).new w5.heap.size rfl 100 [.int .i64 has,.slice bA2 bs.length bc2,.slice none 0 0]).push1).nil_ 38 1).push1 (E:=_++[_]++[_])).swap3
    ·refine ⟨_,bA2,bc2,rfl,?_⟩
     exact (((((((((H4.new w4.heap.size rfl 100 [.int .i64 0,.slice none 0 0,.slice none 0 0]).push1).drew.got hb hown).push1).nil_ 38 1).push1).set 6 0 (.int .i64 has) rfl).set 6 1 (.slice bA2 bs.length bc2) rfl).set 6 2 (.slice none 0 0) rfl)
   case rest=>
    clear H4 c0 c1 hq hrb hnb
    obtain ⟨b6,bA2,bc2,rfl,H4⟩:=hcut
    replace H4:Hp w wc (owE w (some ⟨b1,off,none⟩) l.length c Ag gens.length cg w2.heap.size Ag2 cg2 gens A2 c2 l2++[.box b5 100 [.int .i64 has,.slice bA bs.length bc,.slice cA cols.length cc]]++[tBox b6 ⟨has,bA2,bc2,bs,none,0,[]⟩,bsE ⟨has,bA2,bc2,bs,none,0,[]⟩,csE ⟨has,bA2,bc2,bs,none,0,[]⟩]++(([]:List ColIn).map colE++l2.flatMap tabE)):=H4
    have d0:=H4.cell 5 2 rfl rfl
    go_wp2_with fail
    clear d0
    go_loopw [29] (fun q wr=>∃ j:Nat,j≤cols.length∧q=.int .i64 j∧∃ cA2 cc2 cols2,Hid (cols2.map ColIn.zs=(cols.take j).map ColIn.zs)∧Hp w wr (owE w (some ⟨b1,off,none⟩) l.length c Ag gens.length cg w2.heap.size Ag2 cg2 gens A2 c2 l2++[.box b5 100 [.int .i64 has,.slice bA bs.length bc,.slice cA cols.length cc]]++[tBox b6 ⟨has,bA2,bc2,bs,cA2,cc2,cols2⟩,bsE ⟨has,bA2,bc2,bs,cA2,cc2,cols2⟩,csE ⟨has,bA2,bc2,bs,cA2,cc2,cols2⟩]++(cols2.map colE++l2.flatMap tabE))) (fun q _=>cols.length-(intOf q).toNat)
    case atStart=>exact ⟨0,by omega,rfl,none,0,[],Lib.hid rfl,H4⟩
    case round=>
     clear H4
     obtain ⟨j,hj,rfl,cA2,cc2,cols2,hc2,H4⟩:=hrel
     have hcl2:Hid (cols2.length=j):=Lib.hid (by have:=congrArg List.length hc2.out;simp at this;omega)
     obtain ⟨wp,rfl⟩:∃ wp:World,wp=wr:=⟨_,rfl⟩
     by_cases hjl:j<cols.length
     ·obtain ⟨b4,off4,rfl,hb4,g0⟩:=rdC_at (Rd.under hrc H4.bel (Nat.le_refl _)) hjl
      have hrd:=hrz.out _ (List.getElem_mem hjl)
      have hnn:=hnz.out _ (List.getElem_mem hjl)
      have hmm:=m3h.out _ (List.getElem_mem hjl)
      have htj:=Lib.hid (List.take_append_getElem hjl)
      generalize cols[j]=C at *
      obtain ⟨zA,zc,zs⟩:=C
      dsimp only at g0 hrd hnn hmm
      have i2:(0:Int)≤(j:Int):=by omega
      have i3:(j:Int)<(cols.length:Int):=by omega
      have hq:Hid (∀ W:World,Below w.heap.size w W→Calls Tryz.prog 41 #[.slice zA zs.length zc] W fun e w'=>∃ v,e=.returned v∧w'.ownsRow W.heap.size 3 1 v zs.length (ints zs)∧Below W.heap.size W w'):=Lib.hid fun W hW=>cloneG_any zs zA zc (by omega) hnn W (Rd.more (Rd.under hrd hW (Nat.le_refl _)) hW.size)
      obtain ⟨i0',hi0,hz0a,hz0b,hz0c⟩:=info_parts infoSl
      have hcll:=hcl2.out
      have hcl3:cols2.length≤1048576:=by omega
      clear hcll hrd hnn
      have q2:=H4.cell 6 2 rfl rfl
      go_wp2_with fail
      go_region_law (first
       | (go_simp;go_at_call 41;refine (hq.out _ H4.bel.drew).mono ?_;rintro e w5 ⟨v,rfl,hown,hb⟩;obtain ⟨zA2,zc2,rfl,_,_⟩:=own_shape hown;have H5:=H4.drew.got hb hown;have q2:=H5.cell 6 2 rfl rfl;have f2:=H5.frozen 6 2 rfl;have l6:=H5.lt 6 rfl;have HN:=H5.new w5.heap.size rfl 38 [.slice zA2 zs.length zc2])
       | (refine step_append_lies _ rfl _ _ 98 rfl w.heap.size 38 i0' (.slice none 0 0) 1 24 Tryz.underlying98 hi0 hz0a hz0b hz0c rfl (by decide) (.slice cA2 cols2.length cc2) cols2.length (cols2.map colV) (by simp [Act.eval,Act.put]) (HN.owns 8 rfl) ⟨w5.heap.size,0,none⟩ 1 1 [.slice zA2 zs.length zc2] (by simp [Act.eval,Act.put]) rfl (news_blk (Blk.new w5 38 #[.slice zA2 zs.length zc2])) (by simp [Value.oneCell']) (by decide) (by unfold maxLen;omega) (by omega) HN.bel.size (w5.heap.size+1) (by simp) ?_;intro g6 cap6 w6 hown6 hgrow6 hat6 hlt6;have H6:=HN.app 8 rfl hgrow6 hown6 (lies_at (by simp) hat6);have z6:=H6.cell 6 2 rfl rfl;have y6:=H6.frozen 6 2 rfl))
      all_goals
       have H7:Hp w _ (owE w (some ⟨b1,off,none⟩) l.length c Ag gens.length cg w2.heap.size Ag2 cg2 gens A2 c2 l2++[.box b5 100 [.int .i64 has,.slice bA bs.length bc,.slice (some ⟨b4,off4,none⟩) cols.length cc]]++[.box b6 100 [.int .i64 has,.slice bA2 bs.length bc2,.slice (some ⟨g6,0,none⟩) (cols2.length+1) cap6],bsE ⟨has,bA2,bc2,bs,cA2,cc2,cols2⟩,.own (.slice (some ⟨g6,0,none⟩) (cols2.length+1) cap6) 38 1 (cols2.length+1) (cols2.map colV++[.slice zA2 zs.length zc2])]++(cols2.map colE++l2.flatMap tabE)++[colE ⟨zA2,zc2,zs⟩]++[.box w5.heap.size 38 [.slice zA2 zs.length zc2]]):=H6.set 6 2 (.slice (some ⟨g6,0,none⟩) (cols2.length+1) cap6) rfl
       replace H7:=H7.pushC
       go_wp2_with fail
       go_roundw
       case rel=>
        refine ⟨j+1,by omega,by go_num,some ⟨g6,0,none⟩,cap6,cols2++[⟨zA2,zc2,zs⟩],Lib.hid (by rw [← htj.out];simp [hc2.out]),?_⟩
        rw [csE_snoc,show (cols2++[(⟨zA2,zc2,zs⟩:ColIn)]).map colE=cols2.map colE++[colE ⟨zA2,zc2,zs⟩] by simp]
        unfold tBox tabCells
        simp only [List.length_append,List.length_cons,List.length_nil,Nat.zero_add]
        exact H7
       case measure=>simp [intOf];omega
     ·obtain rfl:j=cols.length:=by omega
      have hx2:Hid (tabOf ⟨has,bA2,bc2,bs,cA2,cc2,cols2⟩=tabOf ⟨has,bA,bc,bs,cA,cc,cols⟩):=Lib.hid (by unfold tabOf;simp only;rw [hc2.out,List.take_length])
      obtain ⟨i0',hi0,hz0a,hz0b,hz0c⟩:=info_parts infoTab
      have hl2n:l2.length≤1048576:=by have:=hll.out;omega
      have x0:=H4.cell 3 0 rfl rfl;have x1:=H4.cell 6 0 rfl rfl;have x2:=H4.cell 6 1 rfl rfl;have x3:=H4.cell 6 2 rfl rfl
      have HN:=H4.new wp.heap.size rfl 100 [.int .i64 has,.slice bA2 bs.length bc2,.slice cA2 cols2.length cc2]
      clear H4 hrc hrz hnz m3h hcl2
      go_wp2_with (at_builtin;refine wpList_append_own_at _ rfl _ _ 37 rfl w.heap.size 100 i0' (.agg #[.int .i64 0,.slice none 0 0,.slice none 0 0]) 3 56 Tryz.underlying37 hi0 hz0a hz0b hz0c rfl (by decide) _ _ _ rfl (HN.owns 4 rfl) ⟨wp.heap.size,0,none⟩ 1 1 [.int .i64 has,.slice bA2 bs.length bc2,.slice cA2 cols2.length cc2] rfl rfl ?g1 ?g2 ?g3 ?g4 ?g5 ?_;rotate_left 5;intro v' w7 hown7 hgrow7 _ hat7;have H8:=HN.app 4 rfl hgrow7 hown7 (hat7.imp id (fun e g hg=>by rw [e] at hg;injection hg with hg;omega));have z0:=H8.cell 3 0 rfl rfl;have z3:=H8.frozen 3 0 rfl;obtain ⟨A3,c3,rfl,hs1,hs2⟩:=own_shape hown7)
      case g2=>simp [Value.oneCell']
      case g3=>unfold maxLen;omega
      case g4=>omega
      case g5=>simpa using HN.bel.size
      have H9:Hp w (w7.setCell ⟨w2.heap.size,0,none⟩ (.slice A3 (l2.length+1) c3)) (owE w (some ⟨b1,off,none⟩) l.length c Ag gens.length cg w2.heap.size Ag2 cg2 gens A3 c3 (l2++[⟨has,bA2,bc2,bs,cA2,cc2,cols2⟩])++[bsE ⟨has,bA2,bc2,bs,cA2,cc2,cols2⟩,csE ⟨has,bA2,bc2,bs,cA2,cc2,cols2⟩]++(cols2.map colE++l2.flatMap tabE)++[.box wp.heap.size 100 [.int .i64 has,.slice bA2 bs.length bc2,.slice cA2 cols2.length cc2]]):=by
       unfold owE
       rw [outE_snoc,show (l2++[(⟨has,bA2,bc2,bs,cA2,cc2,cols2⟩:TabIn)]).length=l2.length+1 by simp]
       exact ((H8.set 3 0 (.slice A3 (l2.length+1) c3) rfl).drop1 6).drop1 5
      replace H9:=H9.pushT
      go_roundw
      case rel=>
       refine ⟨k+1,by omega,by go_num,A3,c3,l2++[⟨has,bA2,bc2,bs,cA2,cc2,cols2⟩],Lib.hid (by rw [← htk.out,List.map_append,List.map_append,hl2.out];simp [hx2.out]),?_⟩
       rw [tabE_snoc]
       exact H9
      case measure=>simp [intOf];omega
  ·obtain rfl:k=l.length:=by omega
   have x0:=H.cell 3 0 rfl rfl;have x1:=H.cell 3 1 rfl rfl;have x2:=H.cell 1 0 rfl rfl;have x3:=H.cell 1 1 rfl rfl
   have y2:=H.frozen 1 0 rfl;have y3:=H.frozen 1 1 rfl
   have H3:=(H.set 1 0 (.slice A2 l2.length c2) rfl).set 1 1 (.slice Ag2 gens.length cg2) rfl
   have p0:=H3.cell 1 0 rfl rfl;have p1:=H3.cell 1 1 rfl rfl
   have hlt2:Hid (l2.map tabOf=l.map tabOf):=Lib.hid (by rw [hl2.out,List.take_length])
   go_wp2_with fail
   refine bodyPost_ret (v:=.agg #[.slice A2 l2.length c2,.slice Ag2 gens.length cg2]) (by simp [results,Tryz.results46,go_sem,p0,p1]) rfl ⟨A2,c2,l2,Ag2,cg2,rfl,hlt2.out,?_⟩
   exact ((H3.drop1 3).drop1 1).drop1 0
end Go.Proofs.YtefdblaolmckmabGreat
