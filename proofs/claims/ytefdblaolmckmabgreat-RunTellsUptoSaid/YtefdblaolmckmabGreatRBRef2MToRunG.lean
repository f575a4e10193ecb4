/- Lemmas of the proof. -/
import Derived.Deep.RegionHeld3
import Derived.Test.YtefdblaolmckmabGreatRBStoFToPlainM
import Derived.Test.YtefdblaolmckmabGreatRBSortTBToRefW
import Derived.Test.YtefdblaolmckmabGreatRBSpecOToSpecR
import Derived.Test.YtefdblaolmckmabGreatRBRowToInv
import Derived.Test.YtefdblaolmckmabGreatRBStoMToStoQ
import Derived.Test.YtefdblaolmckmabGreatRStoS
import Derived.Test.YtefdblaolmckmabGreatRBSpecVToStoA
import Derived.Test.YtefdblaolmckmabGreatRBPlainAToHp
set_option linter.unusedVariables false
set_option linter.unusedSimpArgs false
set_option maxRecDepth 100000
set_option maxHeartbeats 12800000
namespace Go.Proofs.YtefdblaolmckmabGreat
open Go.RowKit
theorem bq14E {es:Array Edge} {l:Nat→Bool} {j:Nat} (hd:(es.all fun e=>!Region.binds .any e||l e.on)=true) (h:(es.toList.any fun e=>e.on==j&&Region.binds .any e)=true):l j=true:=rb hd h
end Go.Proofs.YtefdblaolmckmabGreat
namespace Go.Proofs.YtefdblaolmckmabGreat
open Go.RowKit
open Brood
theorem cmpM_any (a b:BRow) (w:World):Calls Tryz.prog 83 #[.agg (beCells a).toArray,.agg (beCells b).toArray] w fun e w'=>e=.returned (.int .i64 (cmpI a.idx b.idx))∧Below w.heap.size w w':=by
 have e1:(beCells a).toArray=#[.int .i64 a.idx,.int .i64 a.gen]:=rfl
 have e2:(beCells b).toArray=#[.int .i64 b.idx,.int .i64 b.gen]:=rfl
 rw [e1,e2]
 clear e1 e2
 go_enter Tryz.func83,Tryz.ntmps83
 go_wp2_with fail
 refine (cmp_any a.idx b.idx _).mono ?_
 rintro e w' ⟨rfl,rfl⟩
 go_wp2_with fail
 go_ret
 exact ⟨rfl,((Below.refl _ _).alloc (Nat.le_refl _) _).alloc (by simp) _⟩
theorem cmpM:CmpF beCells BRow.idx 83:=⟨fun w x y=>cmpM_any x y w,fun args W=>by kernel_rfl⟩
theorem elsBe:Els beCells 2:=⟨fun _=>rfl,fun x u hu=>by
 simp only [beCells,List.mem_cons,List.not_mem_nil,or_false] at hu
 rcases hu with rfl | rfl<;>rfl⟩
theorem matchG_take {fa fn:Int} {G:List Grp} {k:Nat} (hk:k<G.length):matchG fa fn (G.take (k+1))=matchG fa fn (G.take k)++if meetsB fa fn G[k].h then G[k].rs else []:=by
 unfold matchG
 rw [List.take_add_one,List.getElem?_eq_getElem hk,Option.toList_some,List.filter_append,List.flatMap_append]
 congr 1
 rw [List.filter_cons]
 split<;>simp
theorem matchG_le {fa fn:Int}:∀ G:List Grp,(matchG fa fn G).length≤(flatG G).length
 | []=>by simp [matchG,flatG]
 | g::l=>by
  have ih:=matchG_le (fa:=fa) (fn:=fn) l
  unfold matchG flatG at ih ⊢
  rw [List.filter_cons,List.flatMap_cons,List.length_append]
  split
  ·rw [List.flatMap_cons,List.length_append];omega
  ·omega
theorem smatch_any (l:List TabIn) (A:Option Addr) (c:Nat) (gens:List Int) (Ag:Option Addr) (cg:Nat) (rows:List BRow) (hw:RightW rows gens) (hfit:l.map tabOf=tabsW rows) (fa fn:Int) (hfa:isSet fa=true) (hfn:isSet fn=true) (w:World) (h:RdSt w w.heap.size ⟨A,c,l,Ag,cg,gens⟩) :
  Calls Tryz.prog 39 #[.agg #[.slice A l.length c,.slice Ag gens.length cg],.agg #[.int .i64 fa,.int .i64 fn]] w fun e w'=>
   (∃ A c,e=.returned (.slice A (matchV fa fn rows).length c)∧w'.ownsRow w.heap.size 24 2 (.slice A (matchV fa fn rows).length c) (matchV fa fn rows).length ((matchV fa fn rows).flatMap beCells))∧Below w.heap.size w w':=by
 obtain ⟨i0',hi0,hz0a,hz0b,hz0c⟩:=info_parts infoBe
 have hfith:=Lib.hid hfit;have hwh:=Lib.hid hw
 have hlen:l.length=(ofG rows).length:=fit_len (G:=ofG rows) hfit
 have hlens:=Lib.hid (right_len hw)
 have hll:l.length≤60:=by have:=hlens.out.1;omega
 have H0:=(((Hp.start w).new w.heap.size rfl 40 [.slice A l.length c,.slice Ag gens.length cg]).new (w.heap.size+1) (by simp) 26 [.int .i64 fa,.int .i64 fn]).nil_ 24 2
 replace H0:Hp w _ [.box w.heap.size 40 [.slice A l.length c,.slice Ag gens.length cg],.box (w.heap.size+1) 26 [.int .i64 fa,.int .i64 fn],.own (.slice none 0 0) 24 2 0 []]:=H0
 have hT:=h.tabs
 dsimp only at hT
 have hlenh:=Lib.hid hlen
 clear h hfit hw hlen
 go_enter Tryz.func39,Tryz.ntmps39
 go_wp2_with fail
 go_loopw [5,11] (fun s5 q wx=>∃ k:Nat,k≤l.length∧q=.int .i64 k∧∃ (A':Option Addr) (c':Nat) (cur:List BRow),s5=.slice A' cur.length c'∧cur.length≤60∧Hid (cur=matchG fa fn ((ofG rows).take k))∧Hp w wx [.box w.heap.size 40 [.slice A l.length c,.slice Ag gens.length cg],.box (w.heap.size+1) 26 [.int .i64 fa,.int .i64 fn],.own (.slice A' cur.length c') 24 2 cur.length (cur.flatMap beCells)]) (fun _ q _=>l.length-(intOf q).toNat)
 case atStart=>exact ⟨0,by omega,rfl,none,0,[],rfl,by simp,Lib.hid rfl,H0⟩
 case round=>
  clear H0
  obtain ⟨k,hk,rfl,A',c',cur,rfl,hcl,hcur,H⟩:=hrel
  by_cases hlt:k<l.length
  ·have hkG:k<(ofG rows).length:=by have:=hlenh.out;omega
   have hF:=fit_at (G:=ofG rows) hfith.out hlt hkG
   have hset:=(hwh.out.rep.clean _ (List.getElem_mem hkG)).set_
   have hfull:=hwh.out.rep.ok.full _ (List.getElem_mem hkG)
   have hkt:=Lib.hid (@matchG_take fa fn (ofG rows) k hkG)
   have hle2:(matchG fa fn ((ofG rows).take (k+1))).length≤60:=by
    have h1:=matchG_le (fa:=fa) (fn:=fn) ((ofG rows).take (k+1))
    have h2:=flatG_take hkG
    have h3:=flatG_le hkG
    have h4:=hlens.out.2.2
    have h5:=congrArg List.length h2
    rw [List.length_append] at h5
    omega
   have hle2h:=Lib.hid hle2
   obtain ⟨b1,off,rfl,hb1,e0,e1,e2⟩:=(hT.under H.bel (Nat.le_refl _)).at_ hlt
   have hrb:=hT.bs _ (List.getElem_mem hlt)
   clear hle2
   generalize (ofG rows)[k]=G at *
   generalize l[k]=T at *
   obtain ⟨has,bA,bc,bs,cA,cc,cols⟩:=T
   obtain ⟨gh,rs⟩:=G
   obtain rfl:has=gh:=hF.has
   have hbs:bs=rs.map beOf:=hF.bs
   have hbl:bs.length=rs.length:=hF.len
   dsimp only at e0 e1 e2 hrb hset hfull hkt
   rw [hbl] at e1 hrb
   rw [hbs,be_flat] at hrb
   have hpos:0<rs.length:=List.length_pos_iff.2 hfull
   obtain ⟨b2,o2,rfl,hb2,hcell⟩:=hrb.2 hpos
   have i0:(0:Int)≤(k:Int):=by omega
   have i1:(k:Int)<(l.length:Int):=by omega
   have H1:=H.new wr.heap.size rfl 100 [.int .i64 has,.slice (some ⟨b2,o2,none⟩) rs.length bc,.slice cA cols.length cc]
   have f0:=H.cell 1 0 rfl rfl;have f1:=H.cell 1 1 rfl rfl;have le:=H.lt 1 rfl
   clear hF hbs hbl hfull
   go_wp2_with fail
   obtain ⟨wa,hwa,H1⟩:=H1.name
   rw [hwa]
   clear hwa e0 e1 e2 f0 f1 le H
   refine (meets_any fa fn has hfa hfn hset wa).mono ?_
   rintro e wb ⟨rfl,hb⟩
   replace H1:=H1.grow hb
   clear hb
   have f0:=H1.cell 3 1 rfl rfl
   have hgw:wr.heap.size<wb.heap.size:=H1.lt 3 rfl
   generalize wr.heap.size=gx at *
   cases hB:meetsB fa fn has with
   | false=>
    have hcur2:Hid (cur=matchG fa fn ((ofG rows).take (k+1))):=Lib.hid (by rw [hkt.out,hB,← hcur.out];simp)
    have H2:=Lib.hid (H1.drop1 3)
    clear H1
    go_wp2_with fail
    go_roundw
    case rel=>exact ⟨k+1,by omega,by go_num,A',c',cur,rfl,by omega,hcur2,H2.out⟩
    case measure=>simp [intOf];omega
   | true=>
    have hcur2:Hid (cur++rs=matchG fa fn ((ofG rows).take (k+1))):=Lib.hid (by rw [hkt.out,hB,← hcur.out];simp)
    have hsum:cur.length+rs.length≤60:=by
     have:=hle2h.out
     rw [← hcur2.out,List.length_append] at this
     exact this
    have hrd:=(Rd.under hrb H1.bel (Nat.le_refl _))
    have hce:∀ j u,(rs.flatMap beCells)[j]?=some u→wb.cell? ((⟨b2,o2,none⟩:Addr).add j)=some u:=by
     intro j u hu
     obtain ⟨b,off,he,_,hc⟩:=hrd.2 hpos
     have he2:=Option.some.inj he
     injection he2 with h1 h2
     rw [add_mk,h1,h2]
     exact hc j u hu
    have hceh:=Lib.hid hce
    have hfl:(rs.flatMap beCells).length=rs.length*2:=els_length elsBe.len rs
    have hone:∀ u∈rs.flatMap beCells,u.oneCell'=true:=by
     intro u hu
     obtain ⟨x,_,hx⟩:=List.mem_flatMap.1 hu
     exact elsBe.one x u hx
    have honeh:=Lib.hid hone;have hflh:=Lib.hid hfl
    have H1h:=Lib.hid H1
    clear hce hrd hrb hcell hfl hone H1
    go_wp2_with (at_builtin;refine wpList_append_own_at _ rfl _ _ 58 rfl w.heap.size 24 i0' (.agg #[.int .i64 0,.int .i64 0]) 2 16 Tryz.underlying58 hi0 hz0a hz0b hz0c rfl (by decide) _ _ _ rfl (H1h.out.owns 2 rfl) ⟨b2,o2,none⟩ rs.length bc (rs.flatMap beCells) rfl hflh.out ?c1 ?c2 ?c3 ?c4 ?c5 ?_;rotate_left 5;intro v' w7 hown7 hgrow7 _ hat7;have H8:=H1h.out.app 2 rfl hgrow7 hown7 (hat7.imp id (fun e g hg=>by rw [e] at hg;injection hg with hg;omega));obtain ⟨A3,c3,rfl,hs1,hs2⟩:=own_shape hown7)
    case c1=>exact hceh.out
    case c2=>exact honeh.out
    case c3=>unfold maxLen;omega
    case c4=>omega
    case c5=>exact H1h.out.bel.size
    go_roundw
    have hl:(cur++rs).length=cur.length+rs.length:=by simp
    case rel=>
     refine ⟨k+1,by omega,by go_num,A3,c3,cur++rs,by rw [hl],by omega,hcur2,?_⟩
     rw [hl,List.flatMap_append]
     exact H8.drop1 3
    case measure=>simp [intOf];omega
  ·obtain rfl:k=l.length:=by omega
   rw [hlenh.out,List.take_length] at hcur
   obtain ⟨wo,rfl⟩:∃ wo:World,wo=wr:=⟨_,rfl⟩
   have hso:=Lib.hid (sortStableB_any beCells elsBe BRow.idx _ cmpM w.heap.size cur (by omega) (.slice A' cur.length c') wo (H.owns 2 rfl))
   have hsl:(sortK BRow.idx cur).length=cur.length:=(sortK_stb cur).2.1
   have hmt:Hid (sortK BRow.idx cur=matchV fa fn rows):=Lib.hid (by rw [hcur.out];exact hwh.out.rep.match_ fa fn)
   have hslh:=Lib.hid hsl
   have Hh:=Lib.hid H
   clear hsl H
   go_wp2_with fail
   refine hso.out.mono ?_
   rintro e w5 ⟨rfl,hgr,hown⟩
   have H2:=Hh.out.app 2 rfl hgr hown (.inl rfl)
   have hb:=H2.bel
   clear H2 hgr hso
   rw [hmt.out] at hown
   have hml:(matchV fa fn rows).length=cur.length:=by rw [← hmt.out,hslh.out]
   rw [← hml] at hown
   have hmlh:=Lib.hid hml;have hownh:=Lib.hid hown
   clear hml hown
   go_wp2_with fail
   go_ret
   exact ⟨⟨A',c',by rw [hmlh.out];rfl,hownh.out⟩,hb⟩
open Go.RowKit
open Brood
theorem idxQ_mem {z:Int}:∀ {zs:List Int},z∈zs→∃ n,idxQ (fun y=>z==y) zs=some n∧zs[n]?=some z
 | [],h=>by simp at h
 | a::l,h=>by
  unfold idxQ
  by_cases e:z=a
  ·subst e;exact ⟨0,by simp,by simp⟩
  ·have:z∈l:=by rcases List.mem_cons.1 h with h | h;exact absurd h e;exact h
   obtain ⟨n,h1,h2⟩:=idxQ_mem this
   exact ⟨n+1,by simp [e,h1],by simpa using h2⟩
theorem sget_any (l:List TabIn) (A:Option Addr) (c:Nat) (gens:List Int) (Ag:Option Addr) (cg:Nat) (rows:List BRow) (hw:RightW rows gens) (hfit:l.map tabOf=tabsW rows) (i g part:Int) (w:World) (h:RdSt w w.heap.size ⟨A,c,l,Ag,cg,gens⟩) :
  Calls Tryz.prog 12 #[.agg #[.slice A l.length c,.slice Ag gens.length cg],.agg #[.int .i64 i,.int .i64 g],.int .i64 part] w fun e w'=>e=.returned (.tuple #[.int .i64 (getP i g rows part).1,.bool (getP i g rows part).2])∧Below w.heap.size w w':=by
 obtain ⟨E,hE⟩:∃ E,Hid (E=getP i g rows part):=⟨_,Lib.hid rfl⟩
 rw [← hE.out]
 have hfith:=Lib.hid hfit;have hwh:=Lib.hid hw
 have hlen:l.length=(ofG rows).length:=fit_len (G:=ofG rows) hfit
 have hlens:=right_len hw
 have hpl:placeB i g 0 (l.map TabIn.bs)=placeG i g 0 (ofG rows):=by
  rw [← placeB_grps]
  congr 1
  have:=congrArg (List.map BTab.bs) hfit
  simpa [tabsW,List.map_map,Function.comp_def,tabOf,tabG] using this
 have hbl:∀ t∈l,t.bs.length≤1000000000:=fun t ht=>by
  obtain ⟨k,hk,rfl⟩:=List.getElem_of_mem ht
  have hF:=fit_at (G:=ofG rows) hfit hk (by omega)
  have:=hlens.2.1 _ (List.getElem_mem (show k<(ofG rows).length by omega))
  rw [hF.len];omega
 have hll:l.length≤60:=by omega
 have H:=((Hp.start w).new w.heap.size rfl 40 [.slice A l.length c,.slice Ag gens.length cg]).new (w.heap.size+1) (by simp) 24 [.int .i64 i,.int .i64 g]
 replace H:Hp w _ [.box w.heap.size 40 [.slice A l.length c,.slice Ag gens.length cg],.box (w.heap.size+1) 24 [.int .i64 i,.int .i64 g]]:=H
 have hT:=h.tabs
 dsimp only at hT
 have hlenh:=Lib.hid hlen;have hblh:=Lib.hid hbl
 clear h hfit hw hlen hlens hbl
 go_enter Tryz.func12,Tryz.ntmps12
 go_wp2_with fail
 obtain ⟨w0,hw0,H⟩:=H.name
 rw [hw0];clear hw0
 refine (place_any l A c (.slice Ag gens.length cg) i g (by omega) hblh.out w.heap.size w0 (H.blk 0 rfl) (RdT.more (hT.under H.bel (Nat.le_refl _)) H.bel.size)).mono ?_
 rw [hpl]
 rintro e w1 ⟨rfl,hb1⟩
 replace H:=H.grow hb1
 clear hb1 hblh
 have hplr:=fun k j=>@Rep.place_some (ofG rows) rows hwh.out.rep i g k j
 have hpln:=@Rep.place_none (ofG rows) rows hwh.out.rep i g
 generalize placeG i g 0 (ofG rows)=P at *
 clear hpl
 have a0:=H.cell 0 0 rfl rfl
 cases P with
 | none=>
  have hEf:Hid (E=(0,false)):=Lib.hid (by rw [hE.out,getP_none part (hpln rfl)])
  have Hh:=Lib.hid H
  clear hplr hpln hE H
  unfold placeV
  dsimp only
  go_wp2_with fail
  refine bodyPost_ret (v:=.tuple #[.int .i64 0,.bool false]) (by simp [results,Tryz.results12,go_sem]) rfl ⟨by rw [hEf.out],Hh.out.bel⟩
 | some kj=>
  obtain ⟨k,j⟩:=kj
  obtain ⟨t,hkt,hj,hb,hro⟩:=hplr k j rfl
  have hkG:k<(ofG rows).length:=(List.getElem?_eq_some_iff.1 hkt).1
  obtain rfl:(ofG rows)[k]=t:=(List.getElem?_eq_some_iff.1 hkt).2
  have hkl:k<l.length:=by have:=hlenh.out;omega
  have hF:=fit_at (G:=ofG rows) hfith.out hkl hkG
  have hC:=hwh.out.rep.clean _ (List.getElem_mem hkG)
  have hrh:=hC.has _ (List.getElem_mem hj)
  have hEs:Hid (E=if hasB (ofG rows)[k].rs[j].has part then ((ofG rows)[k].rs[j].vals.getD part.toNat 0,true) else (0,false)):=Lib.hid (by rw [hE.out,getP_some part hro])
  rw [hrh] at hEs
  have hset:=hC.set_
  clear hplr hpln hE hkt hb hro hC hrh
  generalize (ofG rows)[k]=G at *
  obtain ⟨b1,off,rfl,hb1,e0,e1,e2⟩:=(hT.under H.bel (Nat.le_refl _)).at_ hkl
  have hrc:=hT.cs _ (List.getElem_mem hkl);have hrz:=Lib.hid (hT.zs _ (List.getElem_mem hkl))
  generalize l[k]=T at *
  obtain ⟨has,bA,bc,bs,cA,cc,cols⟩:=T
  obtain ⟨gh,rs⟩:=G
  obtain rfl:has=gh:=hF.has
  dsimp only at hj e0 e1 e2 hrc hEs hset
  have i0:(0:Int)≤(k:Int):=by omega
  have i1:(k:Int)<(l.length:Int):=by omega
  have hha:=fun W=>has_any has part hset W
  have hcl:Hid (cols.length=(listS has).length):=Lib.hid hF.clen
  have hcol:Hid (∀ n (h1:n<cols.length) (h2:n<(listS has).length),cols[n].zs=colOf rs (listS has)[n]):=Lib.hid (fun n h1 h2=>hF.col h1 h2)
  have hm:=mem_listS (k:=part) hset
  have hseth:=Lib.hid hset
  clear hF hset
  cases hq:hasB has part with
  | false=>
   rw [hq] at hha
   have hEf:Hid (E=(0,false)):=Lib.hid (by rw [hEs.out,hq];rfl)
   have hhah:=Lib.hid hha
   have Hh:=Lib.hid H
   clear hha hq hEs hm H
   unfold placeV
   dsimp only
   go_wp2_with fail
   refine (hhah.out _).mono ?_
   rintro e w2 ⟨rfl,rfl⟩
   go_wp2_with fail
   refine bodyPost_ret (v:=.tuple #[.int .i64 0,.bool false]) (by simp [results,Tryz.results12,go_sem]) rfl ⟨by rw [hEf.out],Hh.out.bel⟩
  | true=>
   rw [hq] at hha
   have hEf:Hid (E=(rs[j].vals.getD part.toNat 0,true)):=Lib.hid (by rw [hEs.out,hq];rfl)
   obtain ⟨n,hn,hnz⟩:=idxQ_mem (hm.2 hq)
   obtain ⟨hnl,hne⟩:=List.getElem?_eq_some_iff.1 hnz
   have hnc:n<cols.length:=by have:=hcl.out;omega
   obtain ⟨d1,o1,rfl,hd1,f0⟩:=rdC_at (Rd.under hrc H.bel (Nat.le_refl _)) hnc
   have hz1:=hrz.out _ (List.getElem_mem hnc)
   have hzs:=hcol.out n hnc hnl
   rw [hne] at hzs
   have hhah:=Lib.hid hha
   have Hh:=Lib.hid H
   have hnh:=Lib.hid hn
   generalize cols[n]=X at *
   obtain ⟨zA,zc,zs⟩:=X
   dsimp only at f0 hz1 hzs
   have hjz:j<zs.length:=by rw [hzs,colOf_len];exact hj
   obtain ⟨v1,p1,rfl,hv1,y0⟩:=rdZ_at (Rd.under hz1 Hh.out.bel (Nat.le_refl _)) hjz
   have hzj:zs[j]=rs[j].vals.getD part.toNat 0:=by
    simp only [hzs]
    rw [colOf_get _ _ hj]
   rw [hzj] at y0
   generalize rs[j].vals.getD part.toNat 0=z at *
   have hl8:=listS_len has
   have i2:(0:Int)≤(n:Int):=by omega
   have i3:(n:Int)<(cols.length:Int):=by omega
   have i4:(0:Int)≤(j:Int):=by omega
   have i5:(j:Int)<(zs.length:Int):=by omega
   have j1:decide ((n:Int) ≥ (cols.length:Int))=false:=by simp;omega
   have j2:decide ((j:Int) ≥ (zs.length:Int))=false:=by simp;omega
   clear hha hq hEs hm H hn hnz hne hnl hzs hzj hz1 hjz hcol hrz hrc
   unfold placeV
   dsimp only
   go_wp2_with fail
   refine (hhah.out _).mono ?_
   rintro e w2 ⟨rfl,rfl⟩
   go_wp2_with fail
   refine (list_any has hseth.out w1).mono ?_
   rintro e w3 ⟨vl,rfl,hol,hb3⟩
   obtain ⟨Al,cl,rfl,_,_⟩:=own_shape hol
   have H3:=Hh.out.got hb3 hol
   have e0':=(hb3.cell (p:=⟨b1,off+k*3,none⟩) (by have:=Hh.out.bel.size;simp;omega)).trans e0
   have e2':=(hb3.cell (p:=⟨b1,off+k*3+2,none⟩) (by have:=Hh.out.bel.size;simp;omega)).trans e2
   have f0':=(hb3.cell (p:=⟨d1,o1+n,none⟩) (by have:=Hh.out.bel.size;simp;omega)).trans f0
   have y0':=(hb3.cell (p:=⟨v1,p1+j,none⟩) (by have:=Hh.out.bel.size;simp;omega)).trans y0
   have hix:=idxI_any (listS has) Al cl (by omega) part w3 (H3.rd 2 rfl)
   rw [hnh.out] at hix
   have hixh:=Lib.hid hix
   have H3h:=Lib.hid H3
   clear hix H3 hol hb3 e0 e1 e2 f0 y0 a0
   go_wp2_with fail
   refine hixh.out.mono ?_
   rintro e w4 ⟨rfl,rfl⟩
   unfold ixV
   dsimp only
   go_wp2_with fail
   refine bodyPost_ret (v:=.tuple #[.int .i64 z,.bool true]) (by simp [results,Tryz.results12,go_sem]) rfl ⟨by rw [hEf.out],H3h.out.bel⟩
open Brood
theorem erase_keep {rows:List BRow} (hr:Rise rows) {i g:Int} {m:Nat} (h:findR i g rows=some m):rows.eraseIdx m=keepR (isB i g) rows:=by
 obtain ⟨hm,hb⟩:=findR_spec h
 have e1:=isB_iff.1 hb
 refine rise_unique (rise_sub hr (List.eraseIdx_sublist _ _)) (rise_sub hr List.filter_sublist) ?_
 have h1:=(eraseIdx_perm hm).filter (fun r=>!isB i g r)
 have h2:(rows[m]::rows.eraseIdx m).filter (fun r=>!isB i g r)=rows.eraseIdx m:=by
  rw [List.filter_cons,hb]
  simp only [Bool.not_true,Bool.false_eq_true,if_false]
  rw [List.filter_eq_self]
  intro q hq
  have:=erase_ne hr hm q hq
  cases hq2:isB i g q with
  | false=>rfl
  | true=>exact absurd ((isB_iff.1 hq2).1.trans e1.1.symm) this
 rw [h2] at h1
 exact h1.symm
theorem chgW_put {rows:List BRow} {gens:List Int} (hw:RightW rows gens) (i g:Int) (fr:BRow→BRow×Int) :
  chgW rows gens i g (fun r=>((fr r).1,true,(fr r).2))=⟨tabsW (changeV rows gens i g fr).rows,(changeV rows gens i g fr).gens,(changeV rows gens i g fr).err⟩:=by
 unfold chgW changeV
 rw [if_neg (by rw [(right_iff rows gens).2 hw];simp)]
 cases findR i g rows with
 | none=>rfl
 | some m=>
  dsimp only
  cases rows[m]? with
  | none=>rfl
  | some r=>
   dsimp only
   by_cases he:(fr r).2=0
   ·simp [he]
   ·rw [if_pos he,if_pos he];rfl
theorem chgW_kill {rows:List BRow} {gens:List Int} (hw:RightW rows gens) (i g:Int) :
  chgW rows gens i g keep3=⟨tabsW (killV rows gens i g).rows,(killV rows gens i g).gens,(killV rows gens i g).err⟩:=by
 cases hf:findR i g rows with
 | none=>
  have hk:killV rows gens i g=⟨[],[],5⟩:=by
   have hc:changeV rows gens i g keepF=⟨[],[],5⟩:=by
    unfold changeV
    rw [if_neg (by rw [(right_iff rows gens).2 hw];simp),hf]
   unfold killV
   rw [hc]
   rfl
  rw [hk]
  unfold chgW
  rw [hf]
  rfl
 | some m=>
  obtain ⟨hm,hb⟩:=findR_spec hf
  have hk:killV rows gens i g=⟨keepR (isB i g) rows,gens,0⟩:=by
   have hc:changeV rows gens i g keepF=⟨rows,gens,0⟩:=by
    unfold changeV
    rw [if_neg (by rw [(right_iff rows gens).2 hw];simp),hf]
    dsimp only
    rw [List.getElem?_eq_getElem hm]
    simp [keepF]
   unfold killV
   rw [hc]
   rfl
  rw [hk]
  unfold chgW
  rw [hf]
  dsimp only
  rw [List.getElem?_eq_getElem hm]
  simp [keep3,erase_keep hw.rise hf]
open Go.RowKit
open Brood
theorem right_small {l:List TabIn} {rows:List BRow} {gens:List Int} (hw:RightW rows gens) (hfit:l.map tabOf=tabsW rows):StSmall l gens:=by
 have hlen:l.length=(ofG rows).length:=fit_len (G:=ofG rows) hfit
 have hl:=right_len hw
 have hg:=hw.len
 refine ⟨by omega,?_,?_,by omega⟩
 ·intro t ht
  obtain ⟨k,hk,rfl⟩:=List.getElem_of_mem ht
  have hkG:k<(ofG rows).length:=by omega
  have hF:=fit_at (G:=ofG rows) hfit hk hkG
  have h1:=hl.2.1 _ (List.getElem_mem hkG)
  refine ⟨by rw [hF.len];omega,by rw [hF.clen];have:=listS_len (ofG rows)[k].h;omega,?_⟩
  intro c hc
  obtain ⟨j,hj,rfl⟩:=List.getElem_of_mem hc
  have:=hF.col hj (by rw [← hF.clen];exact hj)
  rw [this,colOf_len]
  omega
 ·rw [← flat_sum,hfit]
  show (flatG (((ofG rows).map tabG).map grpOf)).length≤_
  rw [hw.rep.back]
  omega
theorem GotSt.rd {w w':World} {v:Value} {T:List BTab} {gens:List Int} (h:GotSt w w' v T gens):∃ A c l Ag cg,v=.agg #[.slice A l.length c,.slice Ag gens.length cg]∧l.map tabOf=T∧RdSt w' w'.heap.size ⟨A,c,l,Ag,cg,gens⟩:=by
 obtain ⟨A,c,l,Ag,cg,rfl,hl,h⟩:=h
 obtain ⟨h1,h2⟩:=h.rdT (A:=A) (c:=c) (l:=l) (fun p hp=>.tail _ hp)
 have ho:w'.ownsRow w.heap.size 3 1 (.slice Ag gens.length cg) gens.length (ints gens):=h.all _ (.head _)
 exact ⟨A,c,l,Ag,cg,rfl,hl,⟨h1,Rd.of_own ho,h2,fun e=>by
  have:=holds_nil ho e
  exact ⟨this.1,List.eq_nil_of_length_eq_zero this.2⟩⟩⟩
theorem spawnT_right {rows:List BRow} {gens:List Int} (hw:RightW rows gens) (has n:Int):spawnT (tabsW rows) gens has n=⟨tabsW (spawnV rows gens has n).rows,(spawnV rows gens has n).gens,(spawnV rows gens has n).i,(spawnV rows gens has n).g,(spawnV rows gens has n).err⟩:=by
 unfold spawnT
 rw [hw.store,if_neg (by simp),hw.worldT]
theorem putT_right {rows:List BRow} {gens:List Int} (hw:RightW rows gens) (i g part n:Int):chgT (tabsW rows) gens i g (put3 part n)=⟨tabsW (putV rows gens i g part n).rows,(putV rows gens i g part n).gens,(putV rows gens i g part n).err⟩:=by
 unfold chgT
 rw [hw.store,if_neg (by simp),hw.worldT]
 exact chgW_put hw i g (putF part n)
theorem dropT_right {rows:List BRow} {gens:List Int} (hw:RightW rows gens) (i g part:Int):chgT (tabsW rows) gens i g (drop3 part)=⟨tabsW (dropV rows gens i g part).rows,(dropV rows gens i g part).gens,(dropV rows gens i g part).err⟩:=by
 unfold chgT
 rw [hw.store,if_neg (by simp),hw.worldT]
 exact chgW_put hw i g (dropF part)
theorem killT_right {rows:List BRow} {gens:List Int} (hw:RightW rows gens) (i g:Int):chgT (tabsW rows) gens i g keep3=⟨tabsW (killV rows gens i g).rows,(killV rows gens i g).gens,(killV rows gens i g).err⟩:=by
 unfold chgT
 rw [hw.store,if_neg (by simp),hw.worldT]
 exact chgW_kill hw i g
open Brood
def amountV (rows:List BRow) (i g:Int) (a:BAct):Int:=
 if a.kind=2 then (getP i g rows a.src).1
 else if a.kind=3 then (getP i g rows a.part).1+(getP i g rows a.src).1
 else if a.kind=4 then a.n+(getP i g rows a.part).1
 else a.n
def spawnC (rows:List BRow) (gens:List Int) (has n:Int):Changed:=⟨(spawnV rows gens has n).rows,(spawnV rows gens has n).gens,(spawnV rows gens has n).err⟩
def stepV (W:BWorld) (i g:Int) (a:BAct):Changed:=
 if a.kind=6 then killV W.rows W.gens i g
 else if a.kind=7 then spawnC W.rows W.gens a.part a.n
 else if a.kind=5 then (if (getP i g W.rows a.part).2 then dropV W.rows W.gens i g a.part else ⟨W.rows,W.gens,0⟩)
 else putV W.rows W.gens i g a.part (clip (amountV W.rows i g a))
def keepE (S:BWorld×Int) (X:Changed):BWorld×Int:=if X.err=0 then (⟨X.rows,X.gens⟩,S.2) else (S.1,X.err)
def oneM (S:BWorld×Int) (i g:Int) (a:BAct):BWorld×Int:=keepE S (stepV S.1 i g a)
def actsM (i g:Int):List BAct→BWorld×Int→(BWorld×Int)×Bool
 | [],S=>(S,false)
 | a::l,S=>if a.kind=6 then (oneM S i g a,false) else if (oneM S i g a).2≠0 then (oneM S i g a,true) else actsM i g l (oneM S i g a)
def besM (acts:List BAct):List BRow→BWorld×Int→(BWorld×Int)×Bool
 | [],S=>(S,false)
 | b::l,S=>if (actsM b.idx b.gen acts S).2 then actsM b.idx b.gen acts S else besM acts l (actsM b.idx b.gen acts S).1
def runM (W:BWorld) (x:BSys):Changed:=
 if (sysWrong x).1≠0 then ⟨[],[],(sysWrong x).1⟩
 else if (besM x.acts (matchV x.all x.non W.rows) (W,0)).2 then ⟨[],[],(besM x.acts (matchV x.all x.non W.rows) (W,0)).1.2⟩
 else ⟨(besM x.acts (matchV x.all x.non W.rows) (W,0)).1.1.rows,(besM x.acts (matchV x.all x.non W.rows) (W,0)).1.1.gens,0⟩
def okAct (a:BAct):Prop:=a.kind=6∨(a.kind=7∧isSet a.part=true∧isVal a.n=true)∨(isWrite a.kind=true∧isPart a.part=true∧(isFrom a=true→isPart a.src=true)∧(a.kind=1∨a.kind=4→isVal a.n=true))
theorem okAct_of {all:Int} {a:BAct} (h:actErr all a=0):okAct a:=by
 unfold actErr at h
 split at h
 ·rename_i h6;exact .inl h6
 ·split at h
  ·rename_i h7
   split at h
   ·simp at h
   ·rename_i hb
    simp only [Bool.or_eq_true,Bool.not_eq_true',not_or,Bool.not_eq_false] at hb
    exact .inr (.inl ⟨h7,hb.1,hb.2⟩)
  ·split at h
   ·rename_i hw
    split at h
    ·simp at h
    ·rename_i hb
     simp only [Bool.or_eq_true,Bool.and_eq_true,Bool.not_eq_true',not_or,not_and,Bool.not_eq_false,decide_eq_false_iff_not] at hb
     refine .inr (.inr ⟨hw,hb.1.1,hb.1.2,fun hk=>?_⟩)
     refine hb.2 ⟨?_,?_⟩
     ·unfold isFrom;rcases hk with hk | hk<;>simp [hk]
     ·rcases hk with hk | hk<;>simp [hk]
   ·simp at h
theorem wrongFrom_acts {all:Int}:∀ {l:List BAct} {g:Int} {i:Nat},(wrongFrom all g i l).1=0→∀ a∈l,actErr all a=0
 | [],_,_,_,a,ha=>by simp at ha
 | b::l,g,i,h,a,ha=>by
  rw [wrongFrom] at h
  split at h
  ·rename_i h1;exact absurd h h1
  ·rename_i h1
   split at h
   ·simp at h
   ·rcases List.mem_cons.1 ha with rfl | ha
    ·simpa using h1
    ·exact wrongFrom_acts h a ha
structure SysOk (x:BSys):Prop where
 mod0:0≤x.mod
 mod6:x.mod<6
 all:isSet x.all=true
 non:isSet x.non=true
 many:x.acts.length≤8
 acts:∀ a∈x.acts,actErr x.all a=0
 from_:(wrongFrom x.all 0 0 x.acts).1=0
theorem sysOk_of {x:BSys} (h:(sysWrong x).1=0):SysOk x:=by
 unfold sysWrong at h
 split at h
 ·rename_i hh
  simp only [sysHead,Bool.and_eq_true,decide_eq_true_eq] at hh
  split at h
  ·simp at h
  ·rename_i h8
   exact ⟨hh.1.1.1,hh.1.1.2,hh.1.2,hh.2,by omega,wrongFrom_acts h,h⟩
 ·simp at h
theorem clip_val (n:Int):isVal (clip n)=true:=by
 rw [isVal_iff]
 unfold clip
 split
 ·omega
 ·split<;>omega
def amountR (a:BAct) (r:BRow):Int:=
 if a.kind=2 then r.vals.getD a.src.toNat 0
 else if a.kind=3 then r.vals.getD a.part.toNat 0+r.vals.getD a.src.toNat 0
 else if a.kind=4 then a.n+r.vals.getD a.part.toNat 0
 else a.n
def actRow (a:BAct) (r:BRow):BRow:=if a.kind=5 then (if hasB r.has a.part then (dropF a.part r).1 else r) else (putF a.part (clip (amountR a r)) r).1
def updW (i g:Int) (f:BRow→BRow) (rows:List BRow):List BRow:=rows.map fun q=>if isB i g q then f q else q
theorem updW_get (i g:Int) (f:BRow→BRow) {rows:List BRow} {j:Nat} (h:j<rows.length):(updW i g f rows)[j]'(by simpa [updW] using h)=if isB i g rows[j] then f rows[j] else rows[j]:=by simp [updW]
theorem row_zero {r:BRow} (hr:rowErr r=0) {k:Int} (hk:isPart k=true) (hn:hasB r.has k=false):r.vals.getD k.toNat 0=0:=by
 rw [isPart_iff] at hk
 have h:=(((rowErr_iff r).1 hr).2 k.toNat (by omega)).2
 by_cases h0:r.vals.getD k.toNat 0=0
 ·exact h0
 ·have:=h h0
  rw [show ((k.toNat:Nat):Int)=k by omega,hn] at this
  cases this
theorem getP_val {rows:List BRow} {i g part:Int} {r:BRow} (h:rowOf i g rows=some r) (hr:rowErr r=0) (hk:isPart part=true):(getP i g rows part).1=r.vals.getD part.toNat 0:=by
 rw [getP_some part h]
 cases hh:hasB r.has part with
 | true=>rfl
 | false=>exact (row_zero hr hk hh).symm
theorem amount_row {rows:List BRow} {i g:Int} {r:BRow} (h:rowOf i g rows=some r) (hr:rowErr r=0) {a:BAct} (ha:okAct a) (h6:a.kind≠6) (h7:a.kind≠7):amountV rows i g a=amountR a r:=by
 rcases ha with ha | ⟨ha,_⟩ | ⟨_,hp,hs,_⟩
 ·exact absurd ha h6
 ·exact absurd ha h7
 ·have h2:a.kind=2∨a.kind=3→isPart a.src=true:=by
   intro hk
   refine hs ?_
   unfold isFrom
   rcases hk with hk | hk<;>simp [hk]
  unfold amountV amountR
  split
  ·rename_i hk;exact getP_val h hr (h2 (.inl hk))
  ·split
   ·rename_i hk;rw [getP_val h hr hp,getP_val h hr (h2 (.inr hk))]
   ·split
    ·rw [getP_val h hr hp]
    ·rfl
theorem set_updW {rows:List BRow} (hr:Rise rows) {i g:Int} {k:Nat} {r:BRow} (hk:k<rows.length) (e:rows[k]=r) (hb:isB i g r=true) (f:BRow→BRow):rows.set k (f r)=updW i g f rows:=by
 refine List.ext_getElem (by simp [updW]) fun j h1 h2=>?_
 have hj:j<rows.length:=by simpa using h1
 rw [List.getElem_set,updW_get _ _ _ hj]
 by_cases hjk:k=j
 ·subst hjk
  rw [if_pos rfl,e,if_pos hb]
 ·rw [if_neg hjk,if_neg]
  intro hb2
  have h1:=isB_iff.1 hb
  have h2:=isB_iff.1 hb2
  subst e
  rcases Nat.lt_or_gt_of_ne hjk with h | h
  ·have:=hr k j hk hj h;omega
  ·have:=hr j k hj hk h;omega
theorem change_upd {rows:List BRow} {gens:List Int} {i g:Int} {fr:BRow→BRow×Int} (hw:RightW rows gens) {r:BRow} (h:rowOf i g rows=some r) (he:(fr r).2=0):changeV rows gens i g fr=⟨updW i g (fun q=>(fr q).1) rows,gens,0⟩:=by
 obtain ⟨k,hk,h1,h2⟩:=findR_of_some h
 have hb:isB i g r=true:=by
  obtain ⟨_,hb⟩:=findR_spec h1
  rw [h2] at hb;exact hb
 rw [change_mk fr hw h1 (by rw [List.getElem?_eq_getElem hk,h2]),if_neg (by simpa using he),← set_updW hw.rise hk h2 hb]
theorem upd_congr {rows:List BRow} {i g:Int} {f f':BRow→BRow} (hr:Rise rows) {r:BRow} (h:rowOf i g rows=some r) (he:f r=f' r):updW i g f rows=updW i g f' rows:=by
 unfold updW
 refine List.map_congr_left fun q hq=>?_
 by_cases hb:isB i g q=true
 ·have h1:=(rowOf_some_iff hr).1 h
  have h2:=isB_iff.1 hb
  have:q=r:=rise_inj hr hq h1.1 (by omega)
  rw [if_pos hb,if_pos hb,this,he]
 ·rw [if_neg hb,if_neg hb]
theorem updw_same {rows:List BRow} {i g:Int} {f:BRow→BRow} (hr:Rise rows) {r:BRow} (h:rowOf i g rows=some r) (he:f r=r):updW i g f rows=rows:=by
 have e:=upd_congr (f:=f) (f':=id) hr h he
 rw [e]
 unfold updW
 have:∀ q∈rows,(if isB i g q=true then id q else q)=id q:=fun q _=>by split<;>rfl
 rw [List.map_congr_left this,List.map_id]
theorem step_upd {W:BWorld} {i g:Int} {a:BAct} (hw:RightW W.rows W.gens) {r:BRow} (h:rowOf i g W.rows=some r) (ha:okAct a) (h6:a.kind≠6) (h7:a.kind≠7) :
  stepV W i g a=⟨updW i g (actRow a) W.rows,W.gens,0⟩:=by
 have hm:=((rowOf_some_iff hw.rise).1 h).1
 have hre:=hw.row r hm
 have hp:isPart a.part=true:=by
  rcases ha with ha | ⟨ha,_⟩ | ⟨_,hp,_⟩
  ·exact absurd ha h6
  ·exact absurd ha h7
  ·exact hp
 unfold stepV
 rw [if_neg h6,if_neg h7]
 split
 ·rename_i h5
  rw [getP_some a.part h]
  cases hh:hasB r.has a.part with
  | true=>
   rw [if_pos rfl]
   simp only [if_true]
   unfold dropV
   rw [change_upd hw h (by unfold dropF;rw [if_pos hh]),upd_congr hw.rise h (f':=actRow a)]
   unfold actRow
   rw [if_pos h5,if_pos hh]
  | false=>
   simp only [Bool.false_eq_true,if_false]
   rw [updw_same hw.rise h]
   unfold actRow
   rw [if_pos h5,if_neg (by rw [hh];simp)]
 ·rename_i h5
  unfold putV
  rw [amount_row h hre ha h6 h7,change_upd hw h (by unfold putF;rw [hp,clip_val];rfl),upd_congr hw.rise h (f':=actRow a)]
  unfold actRow
  rw [if_neg h5]
open Go.RowKit
open Brood
def stE (A:Option Addr) (c:Nat) (l:List TabIn) (Ag:Option Addr) (cg:Nat) (gens:List Int):List Ent:=.own (.slice Ag gens.length cg) 3 1 gens.length (ints gens)::tabsE A c l
def rnBox (rb:Nat) (A:Option Addr) (n c:Nat) (Ag:Option Addr) (m cg:Nat) (err:Int):Ent:=.box rb 138 [.slice A n c,.slice Ag m cg,.int .i64 err]
def rnE (rb:Nat) (A:Option Addr) (c:Nat) (l:List TabIn) (Ag:Option Addr) (cg:Nat) (gens:List Int) (err:Int) (E:List Ent):List Ent:=[rnBox rb A l.length c Ag gens.length cg err]++(stE A c l Ag cg gens++E)
theorem Hp.stRd {w0 w:World} {E:List Ent} {A:Option Addr} {c:Nat} {l:List TabIn} {Ag:Option Addr} {cg:Nat} {gens:List Int} (h:Hp w0 w E) (hs:∀ p∈stE A c l Ag cg gens,p∈E):RdSt w w.heap.size ⟨A,c,l,Ag,cg,gens⟩:=by
 obtain ⟨h1,h2⟩:=h.rdT (A:=A) (c:=c) (l:=l) (fun p hp=>hs p (List.mem_cons_of_mem _ hp))
 have ho:w.ownsRow w0.heap.size 3 1 (.slice Ag gens.length cg) gens.length (ints gens):=h.all _ (hs _ (List.mem_cons_self ..))
 exact ⟨h1,Rd.of_own ho,h2,fun e=>by
  have:=holds_nil ho e
  exact ⟨this.1,List.eq_nil_of_length_eq_zero this.2⟩⟩
theorem rnE_rd {w0 w:World} {rb:Nat} {A:Option Addr} {c:Nat} {l:List TabIn} {Ag:Option Addr} {cg:Nat} {gens:List Int} {err:Int} {E:List Ent} (h:Hp w0 w (rnE rb A c l Ag cg gens err E)):RdSt w w.heap.size ⟨A,c,l,Ag,cg,gens⟩:=
 h.stRd (fun p hp=>by unfold rnE;simp [hp])
def setL (e:Int) (s0 s1 v0 v1 ve:Value):List Value:=if e=0 then [s0,s1,ve] else [v0,v1,.int .i64 e]
theorem rnset_any (rb:Nat) (A:Option Addr) (n c:Nat) (Ag:Option Addr) (m cg:Nat) (A':Option Addr) (n' c':Nat) (Ag':Option Addr) (m' cg':Nat) (ve:Value) (e:Int) (w0 w:World) (E:List Ent)
  (h:Hp w0 w (.box rb 138 [.slice A n c,.slice Ag m cg,ve]::E)) :
  Calls Tryz.prog 107 #[.pointer (some ⟨rb,0,none⟩),.agg #[.slice A' n' c',.slice Ag' m' cg'],.int .i64 e] w fun e' w'=>e'=.returned (.tuple #[]) ∧
   Hp w0 w' (.box rb 138 (setL e (.slice A' n' c') (.slice Ag' m' cg') (.slice A n c) (.slice Ag m cg) ve)::E):=by
 have hlt:=h.lt 0 rfl
 have hh:=Lib.hid h
 clear h
 by_cases he:e=0
 ·subst he
  have h:=hh.out
  have y0:=h.frozen 0 0 rfl;have y1:=h.frozen 0 1 rfl
  have q0:=h.cell 0 0 rfl rfl;have q1:=h.cell 0 1 rfl rfl
  clear h
  go_enter Tryz.func107,Tryz.ntmps107
  go_wp2_with fail
  go_end0
  refine ⟨rfl,?_⟩
  have H1:=((hh.out.set 0 0 (.slice A' n' c') rfl).set 0 1 (.slice Ag' m' cg') rfl).new w.heap.size (by simp) 40 [.slice A' n' c',.slice Ag' m' cg']
  have H2:=H1.sub (E':=.box rb 138 [.slice A' n' c',.slice Ag' m' cg',ve]::E) (by simp)
  exact H2
 ·have he':(e==0)=false:=by simpa using he
  have h:=hh.out
  have y2:=h.frozen 0 2 rfl;have q2:=h.cell 0 2 rfl rfl
  clear h
  have hs:Hid (setL e (.slice A' n' c') (.slice Ag' m' cg') (.slice A n c) (.slice Ag m cg) ve=[.slice A n c,.slice Ag m cg,.int .i64 e]):=Lib.hid (if_neg he)
  go_enter Tryz.func107,Tryz.ntmps107
  go_wp2_with fail
  go_end0
  refine ⟨rfl,?_⟩
  rw [hs.out]
  have H1:=(hh.out.set 0 2 (.int .i64 e) rfl).new w.heap.size (by simp) 40 [.slice A' n' c',.slice Ag' m' cg']
  have H2:=H1.sub (E':=.box rb 138 [.slice A n c,.slice Ag m cg,.int .i64 e]::E) (by simp)
  exact H2
open Brood
def RightB (W:BWorld):Prop:=RightW W.rows W.gens
def bw (X:Changed):BWorld:=⟨X.rows,X.gens⟩
theorem step_cases {W:BWorld} {i g:Int} {a:BAct} (h:(stepV W i g a).err=0) :
  (a.kind=6∧KillOk W.rows W.gens i g (stepV W i g a)) ∨
  (a.kind=7∧∃ E,SpawnOk W.rows W.gens a.part a.n E∧(stepV W i g a).rows=E.rows∧(stepV W i g a).gens=E.gens) ∨
  (a.kind≠6∧a.kind≠7∧∃ fr k r,(fr=dropF a.part∧a.kind=5∨fr=putF a.part (clip (amountV W.rows i g a))∧a.kind≠5)∧ChangeOk W.rows W.gens i g fr k r (stepV W i g a)) ∨
  (a.kind=5∧(stepV W i g a).rows=W.rows∧(stepV W i g a).gens=W.gens):=by
 unfold stepV at h ⊢
 by_cases h6:a.kind=6
 ·rw [if_pos h6] at h ⊢
  exact .inl ⟨h6,kill_ok h⟩
 ·rw [if_neg h6] at h ⊢
  by_cases h7:a.kind=7
  ·rw [if_pos h7] at h ⊢
   exact .inr (.inl ⟨h7,_,spawn_ok (show (spawnV W.rows W.gens a.part a.n).err=0 from h),rfl,rfl⟩)
  ·rw [if_neg h7] at h ⊢
   by_cases h5:a.kind=5
   ·rw [if_pos h5] at h ⊢
    by_cases hg:(getP i g W.rows a.part).2=true
    ·rw [if_pos hg] at h ⊢
     obtain ⟨k,r,H⟩:=change_ok (fr:=dropF a.part) h
     exact .inr (.inr (.inl ⟨h6,h7,_,k,r,.inl ⟨rfl,h5⟩,H⟩))
    ·rw [if_neg hg] at h ⊢
     exact .inr (.inr (.inr ⟨h5,rfl,rfl⟩))
   ·rw [if_neg h5] at h ⊢
    obtain ⟨k,r,H⟩:=change_ok (fr:=putF a.part (clip (amountV W.rows i g a))) h
    exact .inr (.inr (.inl ⟨h6,h7,_,k,r,.inr ⟨rfl,h5⟩,H⟩))
theorem step_right {W:BWorld} (hw:RightB W) {i g:Int} {a:BAct} (h:(stepV W i g a).err=0):RightB (bw (stepV W i g a)):=by
 unfold RightB bw
 rcases step_cases h with ⟨_,H⟩ | ⟨_,E,H,e1,e2⟩ | ⟨_,_,fr,k,r,hf,H⟩ | ⟨_,e1,e2⟩
 ·exact H.is
 ·dsimp only;rw [e1,e2];exact H.is
 ·refine H.is ?_
  rcases hf with ⟨rfl,_⟩ | ⟨rfl,_⟩
  ·exact dropF_ok _
  ·exact putF_ok _ _
 ·dsimp only;rw [e1,e2];exact hw
theorem oneM_ind {P:BWorld→Prop} {i g:Int} {a:BAct} {S:BWorld×Int} (hs:(stepV S.1 i g a).err=0→P (bw (stepV S.1 i g a))) (hw:RightB S.1) (hP:P S.1):RightB (oneM S i g a).1∧P (oneM S i g a).1:=by
 unfold oneM keepE
 by_cases h:(stepV S.1 i g a).err=0
 ·rw [if_pos h];exact ⟨step_right hw h,hs h⟩
 ·rw [if_neg h];exact ⟨hw,hP⟩
theorem actsM_ind {P:BWorld→Prop} {i g:Int}:∀ {acts:List BAct} {S:BWorld×Int},(∀ W a,a∈acts→RightB W→P W→(stepV W i g a).err=0→P (bw (stepV W i g a)))→RightB S.1→P S.1→RightB (actsM i g acts S).1.1∧P (actsM i g acts S).1.1
 | [],S,_,hw,hP=>⟨hw,hP⟩
 | a::l,S,hs,hw,hP=>by
  have h1:=oneM_ind (i:=i) (g:=g) (a:=a) (fun h=>hs S.1 a (by simp) hw hP h) hw hP
  rw [actsM]
  split
  ·exact h1
  ·split
   ·exact h1
   ·exact actsM_ind (fun W b hb=>hs W b (by simp [hb])) h1.1 h1.2
theorem besM_ind {P:BWorld→Prop} {acts:List BAct}:∀ {bs:List BRow} {S:BWorld×Int},(∀ W b a,b∈bs→a∈acts→RightB W→P W→(stepV W b.idx b.gen a).err=0→P (bw (stepV W b.idx b.gen a)))→RightB S.1→P S.1→RightB (besM acts bs S).1.1∧P (besM acts bs S).1.1
 | [],S,_,hw,hP=>⟨hw,hP⟩
 | b::l,S,hs,hw,hP=>by
  have h1:=actsM_ind (i:=b.idx) (g:=b.gen) (acts:=acts) (fun W a ha=>hs W b a (by simp) ha) hw hP
  rw [besM]
  split
  ·exact h1
  ·exact besM_ind (fun W c a hc=>hs W c a (by simp [hc])) h1.1 h1.2
theorem actsM_err {i g:Int}:∀ {acts:List BAct} {S:BWorld×Int},(actsM i g acts S).2=true→(actsM i g acts S).1.2≠0
 | [],S,h=>by cases h
 | a::l,S,h=>by
  rw [actsM] at h ⊢
  split
  ·rename_i h6;rw [if_pos h6] at h;cases h
  ·rename_i h6
   rw [if_neg h6] at h
   split
   ·rename_i he;exact he
   ·rename_i he
    rw [if_neg he] at h
    exact actsM_err h
theorem besM_err {acts:List BAct}:∀ {bs:List BRow} {S:BWorld×Int},(besM acts bs S).2=true→(besM acts bs S).1.2≠0
 | [],S,h=>by cases h
 | b::l,S,h=>by
  rw [besM] at h ⊢
  split
  ·rename_i h1;exact actsM_err h1
  ·rename_i h1
   rw [if_neg h1] at h
   exact besM_err h
theorem runM_ok {W:BWorld} {x:BSys} (h:(runM W x).err=0):(sysWrong x).1=0∧(besM x.acts (matchV x.all x.non W.rows) (W,0)).2=false∧bw (runM W x)=(besM x.acts (matchV x.all x.non W.rows) (W,0)).1.1:=by
 unfold runM at h ⊢
 by_cases h1:(sysWrong x).1=0
 ·rw [if_neg (by simpa using h1)] at h ⊢
  cases h2:(besM x.acts (matchV x.all x.non W.rows) (W,0)).2 with
  | true=>rw [h2,if_pos rfl] at h;exact absurd h (besM_err h2)
  | false=>exact ⟨h1,rfl,rfl⟩
 ·rw [if_pos h1] at h;exact absurd h h1
theorem runM_ind {P:BWorld→Prop} {W:BWorld} {x:BSys} (h:(runM W x).err=0) (hw:RightB W) (hP:P W)
  (hs:∀ V b a,b∈matchV x.all x.non W.rows→a∈x.acts→RightB V→P V→(stepV V b.idx b.gen a).err=0→P (bw (stepV V b.idx b.gen a))):RightB (bw (runM W x))∧P (bw (runM W x)):=by
 rw [(runM_ok h).2.2]
 exact besM_ind (S:=(W,0)) hs hw hP
theorem runM_right {W:BWorld} {x:BSys} (h:(runM W x).err=0) (hw:RightB W):RightB (bw (runM W x)):=(runM_ind (P:=fun _=>True) h hw trivial (fun _ _ _ _ _ _ _ _=>trivial)).1
theorem fr_ok {a:BAct} {z:Int} {fr:BRow→BRow×Int} (hf:fr=dropF a.part∧a.kind=5∨fr=putF a.part z∧a.kind≠5):FnOk fr:=by
 rcases hf with ⟨rfl,_⟩ | ⟨rfl,_⟩
 ·exact dropF_ok _
 ·exact putF_ok _ _
theorem asked_iff {all non:Int} {rows:List BRow} {b:BRow}:b∈matchV all non rows↔b∈rows∧meetsB all non b.has=true:=by
 unfold matchV
 rw [List.mem_filter]
def LeN (m n:BNeed):Prop:=(∀ k,hasB m.reads k=true→hasB n.reads k=true)∧(∀ k,hasB m.writes k=true→hasB n.writes k=true)∧(m.moves=true→n.moves=true)∧(m.life=true→n.life=true)
theorem LeN.refl (m:BNeed):LeN m m:=⟨fun _ h=>h,fun _ h=>h,fun h=>h,fun h=>h⟩
theorem LeN.trans {a b c:BNeed} (h:LeN a b) (h':LeN b c):LeN a c:=⟨fun k x=>h'.1 k (h.1 k x),fun k x=>h'.2.1 k (h.2.1 k x),fun x=>h'.2.2.1 (h.2.2.1 x),fun x=>h'.2.2.2 (h.2.2.2 x)⟩
theorem ChangeOk.new_ {rows:List BRow} {gens:List Int} {i g:Int} {fr:BRow→BRow×Int} {k:Nat} {r:BRow} {E:Changed} (h:ChangeOk rows gens i g fr k r E) (hf:FnOk fr):rowOf i g E.rows=some (fr r).1:=
 (rowOf_some_iff (h.is hf).rise).2 ⟨List.mem_of_getElem? h.at2,by rw [hf.idx];exact h.isb.1,by rw [hf.gen];exact h.isb.2⟩
theorem has_part {s k:Int} (h:hasB s k=true):isPart k=true:=by unfold hasB at h;rw [Bool.and_eq_true] at h;exact h.1
structure WrOk (x:BSys) (r q:BRow):Prop where
 has:(needs x).moves=false→q.has=r.has
 val:∀ k:Nat,k<8→hasB (needs x).writes (k:Int)=false→q.vals.getD k 0=r.vals.getD k 0∧hasB q.has (k:Int)=hasB r.has (k:Int)
theorem WrOk.refl (x:BSys) (r:BRow):WrOk x r r:=⟨fun _=>rfl,fun _ _ _=>⟨rfl,rfl⟩⟩
open Go.RowKit
open Brood
theorem getP_bd {rows:List BRow} {gens:List Int} (hw:RightW rows gens) (i g p:Int):-1000000≤(getP i g rows p).1∧(getP i g rows p).1≤1000000:=by
 cases h:rowOf i g rows with
 | none=>rw [getP_none p h];simp
 | some r=>
  rw [getP_some p h]
  have hm:=((rowOf_some_iff hw.rise).1 h).1
  have hr:=(rowErr_iff r).1 (hw.row r hm)
  split
  ·rename_i hh
   have hp:=isPart_iff.1 (has_part hh)
   exact isVal_iff.1 (hr.2 p.toNat (by omega)).1
  ·simp
theorem Hp.newer {w0 w:World} {P O E N:List Ent} (h:Hp w0 w (P++(O++E)++N)):Hp w0 w (P++(N++E)):=by
 have hp:(P++(O++E)++N).Perm ((P++(N++E))++O):=by
  simp only [List.append_assoc]
  refine List.Perm.append_left P ?_
  refine (List.perm_append_comm (l₁:=O) (l₂:=E++N)).trans ?_
  refine (List.Perm.append_right O (List.perm_append_comm (l₁:=E) (l₂:=N))).trans ?_
  rw [List.append_assoc]
 exact (h.perm hp).sub (List.sublist_append_left _ _)
theorem Hp.elder {w0 w:World} {P N:List Ent} (h:Hp w0 w (P++N)):Hp w0 w P:=h.sub (List.sublist_append_left _ _)
theorem rn_close {w0 w:World} {rb:Nat} {A:Option Addr} {c:Nat} {l:List TabIn} {Ag:Option Addr} {cg:Nat} {rows:List BRow} {gens:List Int} {err:Int} {A':Option Addr} {c':Nat} {l':List TabIn} {Ag':Option Addr} {cg':Nat} {X:Changed} {E:List Ent}
  (hl:l.map tabOf=tabsW rows) (hl':l'.map tabOf=tabsW X.rows)
  (h:Hp w0 w (.box rb 138 (setL X.err (.slice A' l'.length c') (.slice Ag' X.gens.length cg') (.slice A l.length c) (.slice Ag gens.length cg) (.int .i64 err))::((stE A c l Ag cg gens++E)++stE A' c' l' Ag' cg' X.gens))) :
  ∃ A2 c2 l2 Ag2 cg2,l2.map tabOf=tabsW (keepE (⟨rows,gens⟩,err) X).1.rows∧Hp w0 w (rnE rb A2 c2 l2 Ag2 cg2 (keepE (⟨rows,gens⟩,err) X).1.gens (keepE (⟨rows,gens⟩,err) X).2 E):=by
 unfold setL at h
 unfold keepE
 by_cases he:X.err=0
 ·rw [if_pos he] at h ⊢
  exact ⟨A',c',l',Ag',cg',hl',Hp.newer (P:=[rnBox rb A' l'.length c' Ag' X.gens.length cg' err]) (O:=stE A c l Ag cg gens) (E:=E) (N:=stE A' c' l' Ag' cg' X.gens) h⟩
 ·rw [if_neg he] at h ⊢
  exact ⟨A,c,l,Ag,cg,hl,Hp.elder (P:=[rnBox rb A l.length c Ag gens.length cg X.err]++(stE A c l Ag cg gens++E)) (N:=stE A' c' l' Ag' cg' X.gens) h⟩
theorem rnget_any (rb:Nat) (A:Option Addr) (c:Nat) (l:List TabIn) (Ag:Option Addr) (cg:Nat) (rows:List BRow) (gens:List Int) (err:Int) (hw:RightW rows gens) (hfit:l.map tabOf=tabsW rows) (i g part:Int) (w0 w:World) (E:List Ent) (h:Hp w0 w (rnE rb A c l Ag cg gens err E)) :
  Calls Tryz.prog 108 #[.pointer (some ⟨rb,0,none⟩),.agg #[.int .i64 i,.int .i64 g],.int .i64 part] w fun e w'=>e=.returned (.int .i64 (getP i g rows part).1)∧Below w.heap.size w w':=by
 have hget:=Lib.hid (fun W hR=>sget_any l A c gens Ag cg rows hw hfit i g part W hR)
 generalize getP i g rows part=P at *
 obtain ⟨p1,p2⟩:=P
 have H:=h.newL w.heap.size rfl 24 [.int .i64 i,.int .i64 g]
 have hst:=Lib.hid (rnE_rd h)
 have B0:Below w.heap.size w (w.alloc (.cells #[.int .i64 i,.int .i64 g] 24)):=(Below.refl _ _).alloc (Nat.le_refl _) _
 have Hh:=Lib.hid H;have Bh:=Lib.hid B0
 clear h hw hfit H B0
 go_enter Tryz.func108,Tryz.ntmps108
 go_upto_region 1 with fail
 obtain ⟨w1,hw1⟩:∃ w1,w1=w.alloc (.cells #[.int .i64 i,.int .i64 g] 24):=⟨_,rfl⟩
 rw [← hw1] at Hh Bh ⊢
 clear hw1
 have H:=Hh.out
 have r0:=H.cell 1 0 rfl rfl;have r1:=H.cell 1 1 rfl rfl;have b0:=H.cell 0 0 rfl rfl;have b1:=H.cell 0 1 rfl rfl
 have Hd:=Lib.hid H.drew;have Bd:=Lib.hid Bh.out.drew
 clear H Hh Bh
 go_region_held3 (fun w'=>w'.cell? ⟨rb,0,none⟩=some (.slice A l.length c)∧w'.cell? ⟨rb,1,none⟩=some (.slice Ag gens.length cg)∧w'.cell? ⟨w.heap.size,0,none⟩=some (.int .i64 i)∧w'.cell? ⟨w.heap.size,1,none⟩=some (.int .i64 g))
  (first | exact ⟨r0,r1,b0,b1⟩ | go_keep)
  ((go_at_call 12;refine (hget.out w1.drew (hst.out.grow Bd.out)).mono ?_;rintro e w2 ⟨rfl,hb⟩;have H2:=Hd.out.grow hb;have B2:=Lib.hid (Bd.out.trans (hb.mono Bd.out.size));have r0:=H2.cell 1 0 rfl rfl;have r1:=H2.cell 1 1 rfl rfl;have b0:=H2.cell 0 0 rfl rfl;have b1:=H2.cell 0 1 rfl rfl))
 all_goals go_wp2_with fail
 all_goals go_ret
 all_goals exact ⟨rfl,B2.out⟩
end Go.Proofs.YtefdblaolmckmabGreat
