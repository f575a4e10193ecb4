/- Lemmas of the proof. -/
import Derived.Test.YtefdblaolmckmabGreatRStoI
import Derived.Test.YtefdblaolmckmabGreatRBSortTRToStoO
import Derived.Test.YtefdblaolmckmabGreatRBDelBToDelT
set_option linter.unusedVariables false
set_option linter.unusedSimpArgs false
set_option maxRecDepth 100000
set_option maxHeartbeats 12800000
namespace Go.Proofs.YtefdblaolmckmabGreat
open Go.RowKit
open Brood
theorem remG_eq {G:List Grp} {k at_:Nat} (hk:k<G.length):remG k at_ G=if G[k].rs.eraseIdx at_=[] then G.eraseIdx k else G.set k ⟨G[k].h,G[k].rs.eraseIdx at_⟩:=by
 unfold remG
 rw [List.getD_eq_getElem?_getD,List.getElem?_eq_getElem hk]
 rfl
theorem erase_set {α:Type} (l:List α) (k:Nat) (a:α):(l.set k a).eraseIdx k=l.eraseIdx k:=by
 rw [List.eraseIdx_eq_take_drop_succ,List.eraseIdx_eq_take_drop_succ,List.take_set_of_le (Nat.le_refl _),List.drop_set_of_lt (Nat.lt_succ_self _)]
theorem Hp.swapB {w0 w:World} {E L:List Ent} {a b c:Ent} (h:Hp w0 w (E++[a,b]++[c]++L)):Hp w0 w (E++[c]++[a,b]++L):=
 h.perm (by
  refine List.Perm.append_right _ ?_
  rw [List.append_assoc,List.append_assoc]
  refine List.Perm.append_left _ ?_
  exact List.perm_append_comm (l₁:=[a,b]) (l₂:=[c]))
theorem map_erase {α β:Type} (f:α→β) (l:List α) (k:Nat):(l.eraseIdx k).map f=(l.map f).eraseIdx k:=by
 rw [List.eraseIdx_eq_take_drop_succ,List.eraseIdx_eq_take_drop_succ];simp [List.map_take,List.map_drop]
theorem kremove_any (G:List Grp) (hcl:∀ g∈G,Clean g) (hgl:G.length≤1048576) (hbl:∀ g∈G,g.rs.length≤1048576) (k at_:Nat) (hkG:k<G.length) (hatG:at_<G[k].rs.length)
  (l:List TabIn) (A:Option Addr) (c:Nat) (vg:Value) (kb:Nat) (E0:List Ent) (hfit:l.map tabOf=G.map tabG) (w0 w:World) (h:Hp w0 w (kE kb A c l vg E0)) :
  Calls Tryz.prog 98 #[.pointer (some ⟨kb,0,none⟩),.int .i64 (k:Int),.int .i64 (at_:Int)] w fun e w'=>e=.returned (.agg (rowCells G[k].rs[at_]).toArray)∧∃ A' c' l',l'.map tabOf=(remG k at_ G).map tabG∧Hp w0 w' (kE kb A' c' l' vg E0):=by
 have hll:l.length≤1048576:=by rw [fit_len hfit];exact hgl
 have hkl:k<l.length:=by rw [fit_len hfit];exact hkG
 have hFk:=fit_at hfit hkl hkG
 have hC:=Lib.hid (hcl _ (List.getElem_mem hkG))
 have hgr2:=hbl _ (List.getElem_mem hkG)
 have hfin:Hid (∀ t:TabIn,G[k].rs.eraseIdx at_≠[]→FitAt t ⟨G[k].h,G[k].rs.eraseIdx at_⟩→(l.set k t).map tabOf=(remG k at_ G).map tabG):=Lib.hid (fun t hne ht=>by
  rw [remG_eq hkG,if_neg hne,List.map_set,hfit,ht.tab,List.map_set])
 have hfin0:Hid (G[k].rs.eraseIdx at_=[]→(l.eraseIdx k).map tabOf=(remG k at_ G).map tabG):=Lib.hid (fun he=>by
  rw [remG_eq hkG,if_pos he,map_erase,hfit,map_erase])
 clear hcl hbl
 generalize G[k]=g at *
 obtain ⟨gh,rs⟩:=g
 dsimp only at hatG hgr2 hfin hfin0 ⊢
 obtain ⟨tg,rfl⟩:=own_some (h.owns 1 rfl) (by omega)
 have H:=(h.new w.heap.size rfl 114 [.int .i64 0,.int .i64 0,.int .i64 0,.int .i64 0,.int .i64 0,.int .i64 0,.int .i64 0,.int .i64 0,.int .i64 0,.int .i64 0,.int .i64 0])
 replace H:=Hp.push1 (E:=[kBox kb (some ⟨tg,0,none⟩) l.length c vg,outE (some ⟨tg,0,none⟩) c l]) (L:=l.flatMap tabE++E0) H
 replace H:=H.tabF hkl
 have k0:=h.cell 0 0 rfl rfl
 have hkb:=h.lt 0 rfl
 have i0:(0:Int)≤(k:Int):=by omega
 have i1:(k:Int)<(l.length:Int):=by omega
 have htc0:=flat_get tabCells_len l k hkl 0 (by omega)
 have htc1:=flat_get tabCells_len l k hkl 1 (by omega)
 have htc2:=flat_get tabCells_len l k hkl 2 (by omega)
 generalize htk:l[k]=t at *
 have htkh:=Lib.hid htk
 clear htk
 obtain ⟨has,bA,bc,bs,cA,cc,cols⟩:=t
 obtain rfl:has=gh:=hFk.has
 replace htc0:(l.flatMap tabCells)[k*3]?=some (.int .i64 has):=htc0
 replace htc1:(l.flatMap tabCells)[k*3+1]?=some (.slice bA bs.length bc):=htc1
 replace htc2:(l.flatMap tabCells)[k*3+2]?=some (.slice cA cols.length cc):=htc2
 have hFh:=Lib.hid hFk
 have hbl:bs.length=rs.length:=hFk.len
 have hcl0:Hid (cols.length=(listS has).length):=Lib.hid hFk.clen
 have hbe:=hFk.be (i:=at_) (by show at_<bs.length;omega) hatG
 clear hFk hfit hgl hkG
 go_enter Tryz.func98,Tryz.ntmps98
 go_upto_region 2 with fail
 obtain ⟨w1,hw1,H⟩:=H.name
 rw [hw1]
 obtain ⟨b6,hb6⟩:∃ b6,b6=w.heap.size:=⟨_,rfl⟩
 rw [← hb6] at H ⊢
 clear hw1 hb6 k0 hkb h
 obtain ⟨bg,rfl⟩:=own_some (H.owns 3 rfl) (by show 0<bs.length;omega)
 have e0:=H.ownCell 1 (k*3) rfl htc0
 have e1:=H.ownCell 1 (k*3+1) rfl htc1
 have htl:=H.lt1 1 rfl;have hbgl:=H.lt1 3 rfl
 have f0:w1.cell? ⟨bg,at_*2,none⟩=some (.int .i64 rs[at_].idx):=H.ownCell 3 (at_*2) rfl (((flat_get beC_len bs at_ (by omega) 0 (by omega)).trans (by rw [hbe];rfl)))
 have f1:w1.cell? ⟨bg,at_*2+1,none⟩=some (.int .i64 rs[at_].gen):=H.ownCell 3 (at_*2+1) rfl (((flat_get beC_len bs at_ (by omega) 1 (by omega)).trans (by rw [hbe];rfl)))
 have i2:(0:Int)≤(at_:Int):=by omega
 have i3:(at_:Int)<(bs.length:Int):=by omega
 have htc0h:=Lib.hid htc0;have htc1h:=Lib.hid htc1;have htc2h:=Lib.hid htc2
 have H1:=(Hp.push1 (E:=[_,_,_]++[_,_]) ((H.new w1.heap.size rfl 114 [.int .i64 rs[at_].idx,.int .i64 rs[at_].gen,.int .i64 has,.int .i64 0,.int .i64 0,.int .i64 0,.int .i64 0,.int .i64 0,.int .i64 0,.int .i64 0,.int .i64 0]).drew))
 have H1h:=Lib.hid H1
 have hHh:=Lib.hid H
 clear htc0 htc1 htc2 hbe H H1 hHh
 generalize hR:rs[at_]=R at *
 have hRh:=Lib.hid hR
 clear hR
 have hblh:=Lib.hid hbl
 have hat2:at_<bs.length:=by omega
 have hbs6:bs.length≤1048576:=by omega
 clear hbl
 go_cut [8] (fun s8 wx=>∃ b8,s8=.pointer (some ⟨b8,0,none⟩)∧Hp w0 wx ([kBox kb (some ⟨tg,0,none⟩) l.length c vg,outE (some ⟨tg,0,none⟩) c l,.box b6 114 [.int .i64 0,.int .i64 0,.int .i64 0,.int .i64 0,.int .i64 0,.int .i64 0,.int .i64 0,.int .i64 0,.int .i64 0,.int .i64 0,.int .i64 0]]++[bsE ⟨has,some ⟨bg,0,none⟩,bc,bs,cA,cc,cols⟩,csE ⟨has,some ⟨bg,0,none⟩,bc,bs,cA,cc,cols⟩]++[.box b8 114 (rowL R.idx R.gen has (valsUp R has 0))]++(cols.map colE++((l.eraseIdx k).flatMap tabE++E0))))
 case first=>
  go_region_held3 (fun w'=>w'.cell? ⟨tg,k*3,none⟩=some (.int .i64 has)∧w'.cell? ⟨tg,k*3+1,none⟩=some (.slice (some ⟨bg,0,none⟩) bs.length bc)∧w'.cell? ⟨bg,at_*2,none⟩=some (.int .i64 R.idx)∧w'.cell? ⟨bg,at_*2+1,none⟩=some (.int .i64 R.gen)) (first | exact ⟨e0,e1,f0,f1⟩ | go_keep) (fail)
  go_wp2_with fail
  go_meet
  exact ⟨_,rfl,H1h.out⟩
 case rest=>
 clear e0 e1 f0 f1 H1h
 obtain ⟨b8,rfl,H1⟩:=hcut
 clear H
 have e1:=H1.ownCell 1 (k*3+1) rfl htc1h.out
 have hdel:=Lib.hid (delB_any bs.length (bs.flatMap beC) (be_one bs) at_ (by omega) (by omega) (.slice (some ⟨bg,0,none⟩) bs.length bc) w0.heap.size wc (H1.owns 3 rfl))
 have H1h:=Lib.hid H1
 clear H1
 go_wp2_with fail
 refine hdel.out.mono ?_
 rintro e w3 ⟨v',rfl,hown3,hgr3,hat3⟩
 obtain ⟨bA3,bc3,rfl,_,_⟩:=own_shape hown3
 rw [← flat_beerase] at hown3
 have hbl':(bs.eraseIdx at_).length=bs.length-1:=by rw [List.length_eraseIdx];rw [if_pos (by omega)]
 rw [← hbl'] at hown3 hat3 ⊢
 generalize hbs':bs.eraseIdx at_=bs' at *
 have hbs'h:=Lib.hid hbs'
 have hblh':=Lib.hid hbl'
 clear hbs' hbl'
 have H3:=H1h.out.step (p':=.own (.slice bA3 bs'.length bc3) 24 2 bs'.length (bs'.flatMap beC)) 3 rfl hgr3 hown3 (fun g hg=>.inl (by rw [← hg];exact hat3.symm))
 have z0:=H3.ownCell 1 (k*3+1) rfl htc1h.out
 have y0:=H3.ownFrozen 1 (k*3+1) rfl
 have H4:=H3.put 1 (k*3+1) (.slice bA3 bs'.length bc3) rfl
 rw [← flat_tabset hkl ⟨has,bA3,bc3,bs',cA,cc,cols⟩ 1 (by omega) (.slice bA3 bs'.length bc3) (by rw [htkh.out];rfl)] at H4
 have H5:Hp w0 (w3.setCell ⟨tg,k*3+1,none⟩ (.slice bA3 bs'.length bc3)) ([kBox kb (some ⟨tg,0,none⟩) l.length c vg,outE (some ⟨tg,0,none⟩) c (l.set k ⟨has,bA3,bc3,bs',cA,cc,cols⟩),.box b6 114 [.int .i64 0,.int .i64 0,.int .i64 0,.int .i64 0,.int .i64 0,.int .i64 0,.int .i64 0,.int .i64 0,.int .i64 0,.int .i64 0,.int .i64 0]]++[bsE ⟨has,bA3,bc3,bs',cA,cc,cols⟩,csE ⟨has,bA3,bc3,bs',cA,cc,cols⟩]++[.box b8 114 (rowL R.idx R.gen has (valsUp R has 0))]++(cols.map colE++((l.eraseIdx k).flatMap tabE++E0))):=by
  unfold outE
  rw [List.length_set]
  exact H4
 clear hdel e1 H1h hown3 hgr3 hat3 H3 H4
 obtain ⟨rs',hrs'⟩:∃ rs',Hid (rs'=rs.eraseIdx at_):=⟨_,Lib.hid rfl⟩
 have hxc:∀ i u,i<3→(tabCells ⟨has,bA3,bc3,bs',cA,cc,cols⟩)[i]?=some u→((l.set k ⟨has,bA3,bc3,bs',cA,cc,cols⟩).flatMap tabCells)[k*3+i]?=some u:=fun i u hi hu=>by
  rw [flat_get tabCells_len _ k (by simpa using hkl) i hi,List.getElem_set_self];exact hu
 have hsame:Hid (∀ x:List ColIn,x.length=cols.length→(l.set k ⟨has,bA3,bc3,bs',cA,cc,cols⟩).flatMap tabCells=(l.set k ⟨has,bA3,bc3,bs',cA,cc,x⟩).flatMap tabCells):=Lib.hid (fun x hx=>by
  refine flat_set_same _ _ ?_
  simp only [tabCells,hx])
 have hcz:Hid (cols.map ColIn.zs=(listS has).map (colOf rs)):=Lib.hid hFh.out.cols
 have hbsr:Hid (bs'=rs'.map beOf):=Lib.hid (by
  have h5:bs=rs.map beOf:=hFh.out.bs
  rw [← hbs'h.out,hrs'.out,h5,map_erase])
 rw [← hrs'.out] at hfin hfin0
 obtain ⟨O,hO⟩:∃ O,O=outE (some ⟨tg,0,none⟩) c (l.set k ⟨has,bA3,bc3,bs',cA,cc,cols⟩):=⟨_,rfl⟩
 have htO:∃ xs,O=.own (.slice (some ⟨tg,0,none⟩) l.length c) 100 3 l.length xs∧xs[k*3]?=some (.int .i64 has)∧xs[k*3+1]?=some (.slice bA3 bs'.length bc3)∧xs[k*3+2]?=some (.slice cA cols.length cc)∧xs.take (k*3)++xs.drop ((k+1)*3)=(l.eraseIdx k).flatMap tabCells∧∀ u∈xs,u.oneCell'=true:=⟨_,by rw [hO];unfold outE;rw [List.length_set],hxc 0 _ (by omega) rfl,hxc 1 _ (by omega) rfl,hxc 2 _ (by omega) rfl,by rw [← flat_taberase,erase_set],tab_one _⟩
 rw [← hO] at H5
 have hOh:=Lib.hid hO
 have htOh:=Lib.hid htO
 clear hO htO hFh htc0h htc1h htc2h hxc
 have hl8:=listS_len has
 have H5h:=Lib.hid H5
 have e0:Hid (∀ W E,Hp w0 W (kBox kb (some ⟨tg,0,none⟩) l.length c vg::O::E)→W.cell? ⟨tg,k*3,none⟩=some (.int .i64 has)):=Lib.hid (fun W E hW=>by
  obtain ⟨xs,h1,h2,_⟩:=htOh.out
  exact hW.ownCell 1 (k*3) (by rw [h1];rfl) h2)
 have q0:=e0.out _ _ H5
 clear H5 hgr2 i0 i1
 go_wp2_with fail
 refine (list_any has hC.out.set_ _).mono ?_
 rintro e w4 ⟨vl,rfl,hol,hb⟩
 obtain ⟨Al,cl,rfl,_,_⟩:=own_shape hol
 have H6:=Hp.push1 (E:=[_,_,_]++[_,_]++[_]) (H5h.out.got hb hol)
 replace H6:Hp w0 w4 (([kBox kb (some ⟨tg,0,none⟩) l.length c vg,O,.box b6 114 [.int .i64 0,.int .i64 0,.int .i64 0,.int .i64 0,.int .i64 0,.int .i64 0,.int .i64 0,.int .i64 0,.int .i64 0,.int .i64 0,.int .i64 0]]++[bsE ⟨has,bA3,bc3,bs',cA,cc,cols⟩,csE ⟨has,bA3,bc3,bs',cA,cc,cols⟩]++[.box b8 114 (rowL R.idx R.gen has (valsUp R has 0)),.own (.slice Al (listS has).length cl) 3 1 (listS has).length (ints (listS has))])++(cols.map colE++((l.eraseIdx k).flatMap tabE++E0))):=H6
 have H6h:=Lib.hid H6
 clear H6 H5h hol hb q0 z0 y0
 go_wp2_with fail
 go_loopw [47] (fun s wr=>∃ j:Nat,j≤(listS has).length∧s=.int .i64 j∧∃ cj:List ColIn,Hid (cj.map ColIn.zs=colsJ has rs rs' j)∧cj.length=cols.length∧Hp w0 wr (([kBox kb (some ⟨tg,0,none⟩) l.length c vg,O,.box b6 114 [.int .i64 0,.int .i64 0,.int .i64 0,.int .i64 0,.int .i64 0,.int .i64 0,.int .i64 0,.int .i64 0,.int .i64 0,.int .i64 0,.int .i64 0]]++[bsE ⟨has,bA3,bc3,bs',cA,cc,cols⟩,csE ⟨has,bA3,bc3,bs',cA,cc,cj⟩]++[.box b8 114 (rowL R.idx R.gen has (valsUp R has j)),.own (.slice Al (listS has).length cl) 3 1 (listS has).length (ints (listS has))])++(cj.map colE++((l.eraseIdx k).flatMap tabE++E0)))) (fun s _=>(listS has).length-(intOf s).toNat)
 case atStart=>exact ⟨0,by omega,rfl,cols,Lib.hid (by rw [colsJ_zero];exact hcz.out),rfl,H6h.out⟩
 case round=>
  clear H6h
  obtain ⟨j,hj,rfl,cj,hcj,hcjl,H⟩:=hrel
  by_cases hjl:j<(listS has).length
  ·have hjc:j<cj.length:=by have:=hcl0.out;omega
   obtain ⟨cg,rfl⟩:=own_some (H.owns 4 rfl) (by show 0<cj.length;omega)
   obtain ⟨gl,rfl⟩:=own_some (H.owns 6 rfl) (by omega)
   have z4:=H.ownCell 6 j rfl (ints_get hjl)
   have HF:=H.colF hjc
   have hzs:cj[j].zs=colOf rs (listS has)[j]:=by
    have h1:(cj.map ColIn.zs)[j]?=some (colOf rs (listS has)[j]):=by rw [hcj.out];exact colsJ_at rs rs' hjl
    rw [List.getElem?_map,List.getElem?_eq_getElem hjc] at h1
    exact Option.some.inj h1
   have hzn:cj[j].zs.length=rs.length:=by rw [hzs,colOf_len]
   obtain ⟨hk0,hk8⟩:=listS_range (listS has)[j] (List.getElem_mem hjl)
   have hnew:Hid (cj[j].zs.eraseIdx at_=colOf rs' (listS has)[j]):=Lib.hid (by rw [hzs,hrs'.out,colOf_erase])
   have hza:cj[j].zs[at_]?=some (R.vals.getD (listS has)[j].toNat 0):=by
    rw [hzs,List.getElem?_eq_getElem (by rw [colOf_len];exact hatG),colOf_get _ _ hatG,hRh.out]
   have hcs0:=@colsJ_succ has rs rs' j hjl
   have hvs0:=@valsUp_succ R has j hjl
   obtain ⟨q,hq⟩:=nat_of hk0
   have hq8:q<8:=by omega
   rw [hq] at z4 hcs0 hza hvs0 hnew
   rw [Int.toNat_natCast] at hza hvs0
   have hcs:=Lib.hid hcs0
   clear hcs0
   have hv8:=Lib.hid (valsUp_len R has j)
   generalize R.vals.getD q 0=z at *
   generalize (listS has)[j]=kk at *
   generalize hcx:cj[j]=X at *
   have hcxh:=Lib.hid hcx
   obtain ⟨zA,zc,zs⟩:=X
   dsimp only at hnew hzn hza
   have hvs:=Lib.hid hvs0
   have hzl:at_<zs.length:=by omega
   have hz9:zs.length≤1000000000:=by have:=hblh.out;omega
   obtain ⟨zg,rfl⟩:=own_some (HF.owns 7 rfl) (by show 0<zs.length;omega)
   have g0:wr.cell? ⟨zg,at_,none⟩=some (.int .i64 z):=HF.ownCell 7 at_ rfl (by unfold ints;rw [List.getElem?_map,hza];rfl)
   replace HF:Hp w0 wr (([kBox kb (some ⟨tg,0,none⟩) l.length c vg,O,.box b6 114 [.int .i64 0,.int .i64 0,.int .i64 0,.int .i64 0,.int .i64 0,.int .i64 0,.int .i64 0,.int .i64 0,.int .i64 0,.int .i64 0,.int .i64 0]]++[bsE ⟨has,bA3,bc3,bs',(some ⟨cg,0,none⟩),cc,cols⟩,csE ⟨has,bA3,bc3,bs',(some ⟨cg,0,none⟩),cc,cj⟩]++[.box b8 114 (rowL R.idx R.gen has (valsUp R has j)),.own (.slice (some ⟨gl,0,none⟩) (listS has).length cl) 3 1 (listS has).length (ints (listS has))])++[colE ⟨some ⟨zg,0,none⟩,zc,zs⟩]++((cj.eraseIdx j).map colE++((l.eraseIdx k).flatMap tabE++E0))):=HF
   obtain ⟨xs0,hOe,_,_,hx0,_⟩:=htOh.out
   have e2:wr.cell? ⟨tg,k*3+2,none⟩=some (.slice (some ⟨cg,0,none⟩) cols.length cc):=HF.ownCell 1 (k*3+2) (by rw [hOe];rfl) hx0
   have e3:wr.cell? ⟨cg,j,none⟩=some (.slice (some ⟨zg,0,none⟩) zs.length zc):=HF.ownCell 4 j rfl (by simp [hjc,hcx,colV])
   have i2:(0:Int)≤(j:Int):=by omega
   have i3:(j:Int)<(cols.length:Int):=by omega
   have i4:(j:Int)<((listS has).length:Int):=by omega
   have i5:(0:Int)≤(q:Int):=by omega
   have i6:(q:Int)<8:=by omega
   have i7:(0:Int)≤(at_:Int):=by omega
   have i8:(at_:Int)<(zs.length:Int):=by omega
   obtain ⟨u,hu⟩:∃ u,wr.cell? ⟨b8,3+q,none⟩=some u:=by
    obtain ⟨u,hu⟩:∃ u,(rowL R.idx R.gen has (valsUp R has j))[3+q]?=some u:=⟨_,List.getElem?_eq_getElem (by simp [rowL,ints,hv8.out];omega)⟩
    exact ⟨u,HF.cell 5 (3+q) rfl hu⟩
   have y6:=HF.frozen 5 (3+q) rfl
   have H7:=HF.set 5 (3+q) (.int .i64 z) rfl
   rw [rowL_set,← hvs.out] at H7
   replace H7:Hp w0 (wr.setCell ⟨b8,3+q,none⟩ (.int .i64 z)) (([kBox kb (some ⟨tg,0,none⟩) l.length c vg,O,.box b6 114 [.int .i64 0,.int .i64 0,.int .i64 0,.int .i64 0,.int .i64 0,.int .i64 0,.int .i64 0,.int .i64 0,.int .i64 0,.int .i64 0,.int .i64 0]]++[bsE ⟨has,bA3,bc3,bs',(some ⟨cg,0,none⟩),cc,cols⟩,csE ⟨has,bA3,bc3,bs',(some ⟨cg,0,none⟩),cc,cj⟩]++[.box b8 114 (rowL R.idx R.gen has (valsUp R has (j+1))),.own (.slice (some ⟨gl,0,none⟩) (listS has).length cl) 3 1 (listS has).length (ints (listS has))])++[colE ⟨some ⟨zg,0,none⟩,zc,zs⟩]++((cj.eraseIdx j).map colE++((l.eraseIdx k).flatMap tabE++E0))):=H7
   have hstep:Hid (∀ x:ColIn,x.zs=zs.eraseIdx at_→(cj.set j x).map ColIn.zs=colsJ has rs rs' (j+1)):=Lib.hid (fun x hx=>by rw [List.map_set,hx,hnew.out,hcj.out,hcs.out])
   have H7h:=Lib.hid H7
   have hOeh:=Lib.hid hOe;have hx0h:=Lib.hid hx0;have hcjh:=Lib.hid hcj
   clear hcx hzs HF H hq hk0 hk8 hOe hx0 hcj hnew hzn hza hvs0 H7
   go_wp2_with fail
   obtain ⟨w7,hw7,H7⟩:=H7h.out.name
   rw [hw7]
   clear hw7 H7h e2 e3 g0 z4 hu y6
   have e2:w7.cell? ⟨tg,k*3+2,none⟩=some (.slice (some ⟨cg,0,none⟩) cols.length cc):=H7.ownCell 1 (k*3+2) (by rw [hOeh.out];rfl) hx0h.out
   have e3:w7.cell? ⟨cg,j,none⟩=some (.slice (some ⟨zg,0,none⟩) zs.length zc):=H7.ownCell 4 j rfl (by simp [hjc,hcxh.out,colV])
   have hdl:=delI_any zs.length (ints zs) (ints_one zs) at_ hzl hz9 (.slice (some ⟨zg,0,none⟩) zs.length zc) w0.heap.size w7.drew (H7.drew.owns 7 rfl)
   rw [← ints_erase] at hdl
   have hdelh:=Lib.hid hdl
   have HNh:=Lib.hid H7.drew
   have hil:Hid ((zs.eraseIdx at_).length=zs.length-1):=Lib.hid (by rw [List.length_eraseIdx];rw [if_pos hzl])
   clear H7 hdl
   have hw14:IntKind.i64.wrap ((at_:Int)+1)=(at_:Int)+1:=by rw [IntKind.wrap_i64];omega
   refine wp_region_mx mixed (by kernel_rfl) (by kernel_rfl) (fun q=>!(q==15)) (tab [.pointer (some ⟨tg,k*3,none⟩),.pointer (some ⟨tg,k*3,none⟩),.pointer (some ⟨tg,k*3+2,none⟩),.slice (some ⟨cg,0,none⟩) cols.length cc,.int .i64 j,.pointer (some ⟨tg,k*3,none⟩),.pointer (some ⟨tg,k*3,none⟩),.pointer (some ⟨tg,k*3+2,none⟩),.slice (some ⟨cg,0,none⟩) cols.length cc,.int .i64 j,.pointer (some ⟨cg,j,none⟩),.slice (some ⟨zg,0,none⟩) zs.length zc,.int .i64 at_,.int .i64 at_,.int .i64 ((at_:Int)+1),undef,.pointer (some ⟨cg,j,none⟩),undef]) (fun u vs w'=>(u 17=false→w'.cell? ⟨tg,k*3+2,none⟩=some (.slice (some ⟨cg,0,none⟩) cols.length cc))∧(u 15=false→w'.cell? ⟨cg,j,none⟩=some (.slice (some ⟨zg,0,none⟩) zs.length zc))∧(if u 17 then ∃ A3 c3,Hp w0 w' ([kBox kb (some ⟨tg,0,none⟩) l.length c vg,O,.box b6 114 [.int .i64 0,.int .i64 0,.int .i64 0,.int .i64 0,.int .i64 0,.int .i64 0,.int .i64 0,.int .i64 0,.int .i64 0,.int .i64 0,.int .i64 0]]++[bsE ⟨has,bA3,bc3,bs',(some ⟨cg,0,none⟩),cc,cols⟩,csE ⟨has,bA3,bc3,bs',(some ⟨cg,0,none⟩),cc,cj.set j ⟨A3,c3,zs.eraseIdx at_⟩⟩]++[.box b8 114 (rowL R.idx R.gen has (valsUp R has (j+1))),.own (.slice (some ⟨gl,0,none⟩) (listS has).length cl) 3 1 (listS has).length (ints (listS has))]++[.own (.slice A3 (zs.length-1) c3) 3 1 (zs.length-1) (ints (zs.eraseIdx at_))]++((cj.eraseIdx j).map colE++((l.eraseIdx k).flatMap tabE++E0))) else if u 15 then ∃ A3 c3,vs 15=.slice A3 (zs.length-1) c3∧Hp w0 w' ([kBox kb (some ⟨tg,0,none⟩) l.length c vg,O,.box b6 114 [.int .i64 0,.int .i64 0,.int .i64 0,.int .i64 0,.int .i64 0,.int .i64 0,.int .i64 0,.int .i64 0,.int .i64 0,.int .i64 0,.int .i64 0]]++[bsE ⟨has,bA3,bc3,bs',(some ⟨cg,0,none⟩),cc,cols⟩,csE ⟨has,bA3,bc3,bs',(some ⟨cg,0,none⟩),cc,cj⟩]++[.box b8 114 (rowL R.idx R.gen has (valsUp R has (j+1))),.own (.slice (some ⟨gl,0,none⟩) (listS has).length cl) 3 1 (listS has).length (ints (listS has))]++[.own (.slice A3 (zs.length-1) c3) 3 1 (zs.length-1) (ints (zs.eraseIdx at_))]++((cj.eraseIdx j).map colE++((l.eraseIdx k).flatMap tabE++E0))) else w'=w7.drew)) ?_ ?_ ?_
   ·exact ⟨fun _=>e2,fun _=>e3,rfl⟩
   ·intro vs w' u hJ hl
    rw [putAll_tab _ _ _ _ [(some 65,.pointer (some ⟨tg,k*3,none⟩)),(some 66,.pointer (some ⟨tg,k*3,none⟩)),(some 67,.pointer (some ⟨tg,k*3+2,none⟩)),(some 68,.slice (some ⟨cg,0,none⟩) cols.length cc),(some 69,.int .i64 j),(some 70,.pointer (some ⟨tg,k*3,none⟩)),(some 71,.pointer (some ⟨tg,k*3,none⟩)),(some 72,.pointer (some ⟨tg,k*3+2,none⟩)),(some 73,.slice (some ⟨cg,0,none⟩) cols.length cc),(some 74,.int .i64 j),(some 75,.pointer (some ⟨cg,j,none⟩)),(some 76,.slice (some ⟨zg,0,none⟩) zs.length zc),(some 77,.int .i64 at_),(some 78,.int .i64 at_),(some 79,.int .i64 ((at_:Int)+1)),(some 80,vs 15),(some 81,.pointer (some ⟨cg,j,none⟩)),(none,undef)] rfl]
    simp only [putL_eq,putT,List.set_cons_succ,List.set_cons_zero]
    have l17:u 17=true:=hl 17 (by decide)
    have hJ2:=hJ.2.2
    rw [l17,if_pos rfl] at hJ2
    obtain ⟨A3,c3,H5⟩:=hJ2
    have H6:Hp w0 w' ([kBox kb (some ⟨tg,0,none⟩) l.length c vg,O,.box b6 114 [.int .i64 0,.int .i64 0,.int .i64 0,.int .i64 0,.int .i64 0,.int .i64 0,.int .i64 0,.int .i64 0,.int .i64 0,.int .i64 0,.int .i64 0]]++[bsE ⟨has,bA3,bc3,bs',some ⟨cg,0,none⟩,cc,cols⟩,csE ⟨has,bA3,bc3,bs',some ⟨cg,0,none⟩,cc,cj.set j ⟨A3,c3,zs.eraseIdx at_⟩⟩]++[.box b8 114 (rowL R.idx R.gen has (valsUp R has (j+1))),.own (.slice (some ⟨gl,0,none⟩) (listS has).length cl) 3 1 (listS has).length (ints (listS has))]++[colE ⟨A3,c3,zs.eraseIdx at_⟩]++((cj.eraseIdx j).map colE++((l.eraseIdx k).flatMap tabE++E0))):=by
     unfold colE colV
     dsimp only
     rw [hil.out]
     exact H5
    have H7:=Lib.hid (H6.colB hjc)
    have hx2:=Lib.hid (hstep.out ⟨A3,c3,zs.eraseIdx at_⟩ rfl)
    clear H5 H6 e2 e3 hJ
    go_wp2_with fail
    go_roundw
    case rel=>exact ⟨j+1,by omega,by go_num,cj.set j ⟨A3,c3,zs.eraseIdx at_⟩,hx2,by rw [List.length_set];exact hcjl,H7.out⟩
    case measure=>simp [intOf];omega
   ·intro qq op ho u vs act w' hJ hsh hli hd hv hwas K hK
    have hiq:qq<18:=lt_of_some ho
    have s2_:=hwas 2 rfl
    have s7_:=hwas 7 rfl
    have s9_:=hwas 9 rfl
    simp at s2_ s7_ s9_
    match qq,hiq,ho,hli,hK with
    | 0,_,ho,hli,hK=>
     obtain rfl:=sj ho
     clear hv hwas
     go_simp
     exact hK _ _ (fun _=>rfl) hJ
    | 1,_,ho,hli,hK=>
     obtain rfl:=sj ho
     have x65:act.tmps[65]?.getD undef=.pointer (some ⟨tg,k*3,none⟩):=hv 0 65 rfl (rb hd rfl)
     clear hv hwas
     go_simp
     exact hK _ _ (fun _=>rfl) hJ
    | 2,_,ho,hli,hK=>
     obtain rfl:=sj ho
     have x66:act.tmps[66]?.getD undef=.pointer (some ⟨tg,k*3,none⟩):=hv 1 66 rfl (rb hd rfl)
     clear hv hwas
     go_simp
     exact hK _ _ (fun _=>rfl) hJ
    | 3,_,ho,hli,hK=>
     obtain rfl:=sj ho
     have x67:act.tmps[67]?.getD undef=.pointer (some ⟨tg,k*3+2,none⟩):=hv 2 67 rfl (rb hd rfl)
     have n16:=hsh.not (i:=16) (j:=3) (by rfl) hli
     have n17:=hsh.not (i:=17) (j:=16) (by rfl) n16
     have g0:=hJ.1 n17
     clear hv hwas
     go_simp
     exact hK _ _ (fun _=>rfl) hJ
    | 4,_,ho,hli,hK=>
     obtain rfl:=sj ho
     clear hv hwas
     go_simp
     exact hK _ _ (fun _=>rfl) hJ
    | 5,_,ho,hli,hK=>
     obtain rfl:=sj ho
     clear hv hwas
     go_simp
     exact hK _ _ (fun _=>rfl) hJ
    | 6,_,ho,hli,hK=>
     obtain rfl:=sj ho
     have x70:act.tmps[70]?.getD undef=.pointer (some ⟨tg,k*3,none⟩):=hv 5 70 rfl (rb hd rfl)
     clear hv hwas
     go_simp
     exact hK _ _ (fun _=>rfl) hJ
    | 7,_,ho,hli,hK=>
     obtain rfl:=sj ho
     have x71:act.tmps[71]?.getD undef=.pointer (some ⟨tg,k*3,none⟩):=hv 6 71 rfl (rb hd rfl)
     clear hv hwas
     go_simp
     exact hK _ _ (fun _=>rfl) hJ
    | 8,_,ho,hli,hK=>
     obtain rfl:=sj ho
     have x72:act.tmps[72]?.getD undef=.pointer (some ⟨tg,k*3+2,none⟩):=hv 7 72 rfl (rb hd rfl)
     have n10:=hsh.not (i:=10) (j:=8) (by rfl) hli
     have n11:=hsh.not (i:=11) (j:=10) (by rfl) n10
     have n15:=hsh.not (i:=15) (j:=11) (by rfl) n11
     have n17:=hsh.not (i:=17) (j:=15) (by rfl) n15
     have g0:=hJ.1 n17
     clear hv hwas
     go_simp
     exact hK _ _ (fun _=>rfl) hJ
    | 9,_,ho,hli,hK=>
     obtain rfl:=sj ho
     clear hv hwas
     go_simp
     exact hK _ _ (fun _=>rfl) hJ
    | 10,_,ho,hli,hK=>
     obtain rfl:=sj ho
     have x73:act.tmps[73]?.getD undef=.slice (some ⟨cg,0,none⟩) cols.length cc:=hv 8 73 rfl (rb hd rfl)
     have x74:act.tmps[74]?.getD undef=.int .i64 j:=hv 9 74 rfl (rb hd rfl)
     clear hv hwas
     go_simp
     exact hK _ _ (fun _=>rfl) hJ
    | 11,_,ho,hli,hK=>
     obtain rfl:=sj ho
     have x75:act.tmps[75]?.getD undef=.pointer (some ⟨cg,j,none⟩):=hv 10 75 rfl (rb hd rfl)
     have n15:=hsh.not (i:=15) (j:=11) (by rfl) hli
     have g0:=hJ.2.1 n15
     clear hv hwas
     go_simp
     exact hK _ _ (fun _=>rfl) hJ
    | 12,_,ho,hli,hK=>
     obtain rfl:=sj ho
     clear hv hwas
     go_simp
     exact hK _ _ (fun _=>rfl) hJ
    | 13,_,ho,hli,hK=>
     obtain rfl:=sj ho
     clear hv hwas
     go_simp
     exact hK _ _ (fun _=>rfl) hJ
    | 14,_,ho,hli,hK=>
     obtain rfl:=sj ho
     have x78:act.tmps[78]?.getD undef=.int .i64 at_:=hv 13 78 rfl (rb hd rfl)
     clear hv hwas
     go_simp
     exact hK _ _ (fun _=>rfl) hJ
    | 15,_,ho,hli,hK=>
     obtain rfl:=sj ho
     have x76:act.tmps[76]?.getD undef=.slice (some ⟨zg,0,none⟩) zs.length zc:=hv 11 76 rfl (rb hd rfl)
     have x77:act.tmps[77]?.getD undef=.int .i64 at_:=hv 12 77 rfl (rb hd rfl)
     have x79:act.tmps[79]?.getD undef=.int .i64 ((at_:Int)+1):=hv 14 79 rfl (rb hd rfl)
     have n17:=hsh.not (i:=17) (j:=15) (by rfl) hli
     obtain ⟨hJ0,hJ1,hJ2⟩:=hJ
     simp only [n17,hli,Bool.false_eq_true,if_false,if_true] at hJ2
     subst hJ2
     clear hv hwas hJ1 hJ0
     go_simp
     refine hdelh.out.mono ?_
     rintro e w4 ⟨v4,rfl,hown4,hgr4,hat4⟩
     obtain ⟨A3,c3,rfl,_,_⟩:=own_shape hown4
     have H4:Hp w0 w4 ([kBox kb (some ⟨tg,0,none⟩) l.length c vg,O,.box b6 114 [.int .i64 0,.int .i64 0,.int .i64 0,.int .i64 0,.int .i64 0,.int .i64 0,.int .i64 0,.int .i64 0,.int .i64 0,.int .i64 0,.int .i64 0]]++[bsE ⟨has,bA3,bc3,bs',(some ⟨cg,0,none⟩),cc,cols⟩,csE ⟨has,bA3,bc3,bs',(some ⟨cg,0,none⟩),cc,cj⟩]++[.box b8 114 (rowL R.idx R.gen has (valsUp R has (j+1))),.own (.slice (some ⟨gl,0,none⟩) (listS has).length cl) 3 1 (listS has).length (ints (listS has))]++[.own (.slice A3 (zs.length-1) c3) 3 1 (zs.length-1) (ints (zs.eraseIdx at_))]++((cj.eraseIdx j).map colE++((l.eraseIdx k).flatMap tabE++E0))):=HNh.out.step (p':=.own (.slice A3 (zs.length-1) c3) 3 1 (zs.length-1) _) 7 rfl hgr4 hown4 (fun g hg=>.inl (by rw [← hg];exact hat4.symm))
     refine hK _ _ (fun h=>by cases h) ⟨fun _=>H4.ownCell 1 (k*3+2) (by rw [hOeh.out];rfl) hx0h.out,fun h=>by simp [upd] at h,?_⟩
     simp only [upd,n17,if_true,Bool.false_eq_true,if_false,show (17:Nat)=15↔False by decide]
     exact ⟨A3,c3,rfl,H4⟩
    | 16,_,ho,hli,hK=>
     obtain rfl:=sj ho
     have x68:act.tmps[68]?.getD undef=.slice (some ⟨cg,0,none⟩) cols.length cc:=hv 3 68 rfl (rb hd rfl)
     have x69:act.tmps[69]?.getD undef=.int .i64 j:=hv 4 69 rfl (rb hd rfl)
     clear hv hwas
     go_simp
     exact hK _ _ (fun _=>rfl) hJ
    | 17,_,ho,hli,hK=>
     obtain rfl:=sj ho
     have x80:act.tmps[80]?.getD undef=vs 15:=hv 15 80 rfl (rb hd rfl)
     have x81:act.tmps[81]?.getD undef=.pointer (some ⟨cg,j,none⟩):=hv 16 81 rfl (rb hd rfl)
     have l15:u 15=true:=by simp [Region.binds] at hd;simp [hd]
     obtain ⟨hJ0,hJ1,hJ2⟩:=hJ
     simp only [hli,l15,Bool.false_eq_true,if_false,if_true] at hJ2
     obtain ⟨A3,c3,hv15,H4⟩:=hJ2
     rw [hv15] at x80
     have z0:=H4.ownCell 4 j rfl (u:=.slice (some ⟨zg,0,none⟩) zs.length zc) (by simp only [List.getElem?_map,List.getElem?_eq_getElem hjc,hcxh.out];rfl)
     have y0:=H4.ownFrozen 4 j rfl
     have H5:=H4.put 4 j (.slice A3 (zs.length-1) c3) rfl
     have H6:Hp w0 (w'.setCell ⟨cg,j,none⟩ (.slice A3 (zs.length-1) c3)) ([kBox kb (some ⟨tg,0,none⟩) l.length c vg,O,.box b6 114 [.int .i64 0,.int .i64 0,.int .i64 0,.int .i64 0,.int .i64 0,.int .i64 0,.int .i64 0,.int .i64 0,.int .i64 0,.int .i64 0,.int .i64 0]]++[bsE ⟨has,bA3,bc3,bs',(some ⟨cg,0,none⟩),cc,cols⟩,csE ⟨has,bA3,bc3,bs',(some ⟨cg,0,none⟩),cc,cj.set j ⟨A3,c3,zs.eraseIdx at_⟩⟩]++[.box b8 114 (rowL R.idx R.gen has (valsUp R has (j+1))),.own (.slice (some ⟨gl,0,none⟩) (listS has).length cl) 3 1 (listS has).length (ints (listS has))]++[.own (.slice A3 (zs.length-1) c3) 3 1 (zs.length-1) (ints (zs.eraseIdx at_))]++((cj.eraseIdx j).map colE++((l.eraseIdx k).flatMap tabE++E0))):=by
      unfold csE
      rw [List.length_set,List.map_set,show colV ⟨A3,c3,zs.eraseIdx at_⟩=.slice A3 (zs.length-1) c3 by unfold colV;rw [hil.out]]
      exact H5
     clear hv hwas hJ1 hJ0 H5
     go_simp
     refine hK _ _ (fun _=>rfl) ⟨fun h=>by simp [upd] at h,fun h=>by simp [upd,l15] at h,?_⟩
     simp only [upd,if_true]
     exact ⟨A3,c3,H6⟩
  ·obtain rfl:j=(listS has).length:=by omega
   have hall:Hid (cj.map ColIn.zs=(listS has).map (colOf rs')):=Lib.hid (by rw [hcj.out,colsJ_all])
   have hRm:R∈rs:=by rw [← hRh.out];exact List.getElem_mem _
   have hval:=valsUp_all hC.out.set_ (hC.out.zero R hRm)
   have hhas:=hC.out.has R hRm
   rw [hval] at H
   obtain ⟨ri,rg,rh,rv,r8⟩:=R
   obtain rfl:rh=has:=hhas
   obtain ⟨a0,a1,a2,a3,a4,a5,a6,a7,rfl⟩:=vals_eight r8
   have hsm:=Lib.hid (hsame.out cj hcjl)
   have H9:=(H.drop1 6)
   replace H9:Hp w0 wr ([kBox kb (some ⟨tg,0,none⟩) l.length c vg,O,.box b6 114 [.int .i64 0,.int .i64 0,.int .i64 0,.int .i64 0,.int .i64 0,.int .i64 0,.int .i64 0,.int .i64 0,.int .i64 0,.int .i64 0,.int .i64 0]]++[bsE ⟨rh,bA3,bc3,bs',cA,cc,cj⟩,csE ⟨rh,bA3,bc3,bs',cA,cc,cj⟩]++[.box b8 114 [.int .i64 ri,.int .i64 rg,.int .i64 rh,.int .i64 a0,.int .i64 a1,.int .i64 a2,.int .i64 a3,.int .i64 a4,.int .i64 a5,.int .i64 a6,.int .i64 a7]]++(cj.map colE++((l.eraseIdx k).flatMap tabE++E0))):=H9
   obtain ⟨xs0,hOe,_,hx1,_,hxe,hxo⟩:=htOh.out
   have e1:wr.cell? ⟨tg,k*3+1,none⟩=some (.slice bA3 bs'.length bc3):=H9.ownCell 1 (k*3+1) (by rw [hOe];rfl) hx1
   have hkb1:IntKind.i64.wrap ((k:Int)+1)=(k:Int)+1:=by rw [IntKind.wrap_i64];omega
   have hrl:rs'.length=bs'.length:=by rw [hbsr.out,List.length_map]
   have k0:=H9.cell 0 0 rfl rfl
   have hdl:=delT_any l.length xs0 hxo k hkl (by omega) (.slice (some ⟨tg,0,none⟩) l.length c) w0.heap.size wr (H9.owns 1 (by rw [hOe];rfl))
   rw [hxe] at hdl
   have hdlh:=Lib.hid hdl;have H9h:=Lib.hid H9;have hxoh:=Lib.hid hxo;have hOeh:=Lib.hid hOe
   have hlel:Hid ((l.eraseIdx k).length=l.length-1):=Lib.hid (by rw [List.length_eraseIdx];rw [if_pos hkl])
   clear hdl H9 H hxo hxe hOe
   obtain ⟨F,hF⟩:∃ F,((bs'.length:Int)==0)=F:=⟨_,rfl⟩
   have hFh:=Lib.hid hF
   go_upto_if 88 with fail
   clear hF
   go_cut [] from 102 (fun wx=>∃ A' c' l',Hid (l'.map tabOf=(remG k at_ G).map tabG)∧Hp w0 wx ([kBox kb A' l'.length c' vg,outE A' c' l',.box b6 114 [.int .i64 0,.int .i64 0,.int .i64 0,.int .i64 0,.int .i64 0,.int .i64 0,.int .i64 0,.int .i64 0,.int .i64 0,.int .i64 0,.int .i64 0],.box b8 114 [.int .i64 ri,.int .i64 rg,.int .i64 rh,.int .i64 a0,.int .i64 a1,.int .i64 a2,.int .i64 a3,.int .i64 a4,.int .i64 a5,.int .i64 a6,.int .i64 a7]]++(l'.flatMap tabE++E0)))
   case first=>
    cases F with
    | true=>
     have hz:rs'=[]:=by
      have:=hFh.out
      have:(bs'.length:Int)=0:=by simpa using this
      exact List.eq_nil_of_length_eq_zero (by omega)
     have hzh:=Lib.hid hz
     clear hz hrl
     go_wp2_with fail
     refine hdlh.out.mono ?_
     rintro e w5 ⟨v5,rfl,hown5,hgr5,hat5⟩
     obtain ⟨A5,c5,rfl,_,_⟩:=own_shape hown5
     have H5:=H9h.out.step (p:=.own (.slice (some ⟨tg,0,none⟩) l.length c) 100 3 l.length xs0) (p':=.own (.slice A5 (l.length-1) c5) 100 3 (l.length-1) ((l.eraseIdx k).flatMap tabCells)) 1 (by rw [hOeh.out];rfl) hgr5 hown5 (fun g hg=>.inl (by rw [← hg];exact hat5.symm))
     have z0:=H5.cell 0 0 rfl rfl;have y0:=H5.frozen 0 0 rfl
     have H6:=H5.set 0 0 (.slice A5 (l.length-1) c5) rfl
     rw [← hlel.out] at H6
     have H7:Hp w0 (w5.setCell ⟨kb,0,none⟩ (.slice A5 (l.eraseIdx k).length c5)) ([kBox kb A5 (l.eraseIdx k).length c5 vg,outE A5 c5 (l.eraseIdx k),.box b6 114 [.int .i64 0,.int .i64 0,.int .i64 0,.int .i64 0,.int .i64 0,.int .i64 0,.int .i64 0,.int .i64 0,.int .i64 0,.int .i64 0,.int .i64 0]]++[bsE ⟨rh,bA3,bc3,bs',cA,cc,cj⟩,csE ⟨rh,bA3,bc3,bs',cA,cc,cj⟩]++[.box b8 114 [.int .i64 ri,.int .i64 rg,.int .i64 rh,.int .i64 a0,.int .i64 a1,.int .i64 a2,.int .i64 a3,.int .i64 a4,.int .i64 a5,.int .i64 a6,.int .i64 a7]]++(cj.map colE++((l.eraseIdx k).flatMap tabE++E0))):=H6
     have H8:=Lib.hid (Hp.tabD (t:=⟨rh,bA3,bc3,bs',cA,cc,cj⟩) H7.swapB)
     rw [hlel.out] at H8
     have hl9:=hlel.out
     clear H5 H6 H7 hown5 hgr5 hat5
     go_wp2_with fail
     go_meet
     refine ⟨A5,c5,l.eraseIdx k,Lib.hid (hfin0.out hzh.out),?_⟩
     rw [hl9]
     exact H8.out
    | false=>
     have hne:rs'≠[]:=by
      intro e
      have:=hFh.out
      rw [e] at hrl
      rw [← hrl] at this
      simp at this
     have hneh:=Lib.hid hne
     clear hne hrl
     have H9:=H9h.out.swapB
     have H10:=H9.tabB (t:=⟨rh,bA3,bc3,bs',cA,cc,cj⟩) hkl
     rw [hOh.out] at H10
     unfold outE at H10
     rw [hsm.out,List.length_set] at H10
     have H10h:=Lib.hid H10
     clear H9 H10
     go_wp2_with fail
     go_meet
     refine ⟨some ⟨tg,0,none⟩,c,l.set k ⟨rh,bA3,bc3,bs',cA,cc,cj⟩,Lib.hid (hfin.out _ hneh.out ⟨rfl,hbsr.out,hall.out⟩),?_⟩
     unfold outE
     rw [List.length_set]
     exact H10h.out
   case rest=>
    obtain ⟨A',c',l',hfit,H⟩:=hcut
    clear H9h e1 k0
    have c0:=H.cell 3 0 rfl rfl;have o0:=H.cell 2 0 rfl rfl;have y0:=H.frozen 2 0 rfl
    have c1:=H.cell 3 1 rfl rfl;have o1:=H.cell 2 1 rfl rfl;have y1:=H.frozen 2 1 rfl
    have c2:=H.cell 3 2 rfl rfl;have o2:=H.cell 2 2 rfl rfl;have y2:=H.frozen 2 2 rfl
    have c3:=H.cell 3 3 rfl rfl;have o3:=H.cell 2 3 rfl rfl;have y3:=H.frozen 2 3 rfl
    have c4:=H.cell 3 4 rfl rfl;have o4:=H.cell 2 4 rfl rfl;have y4:=H.frozen 2 4 rfl
    have c5:=H.cell 3 5 rfl rfl;have o5:=H.cell 2 5 rfl rfl;have y5:=H.frozen 2 5 rfl
    have c6:=H.cell 3 6 rfl rfl;have o6:=H.cell 2 6 rfl rfl;have y6:=H.frozen 2 6 rfl
    have c7:=H.cell 3 7 rfl rfl;have o7:=H.cell 2 7 rfl rfl;have y7:=H.frozen 2 7 rfl
    have c8:=H.cell 3 8 rfl rfl;have o8:=H.cell 2 8 rfl rfl;have y8:=H.frozen 2 8 rfl
    have c9:=H.cell 3 9 rfl rfl;have o9:=H.cell 2 9 rfl rfl;have y9:=H.frozen 2 9 rfl
    have c10:=H.cell 3 10 rfl rfl;have o10:=H.cell 2 10 rfl rfl;have y10:=H.frozen 2 10 rfl
    have n23:=H.ne 2 3 rfl rfl (by omega);have n32:=n23.symm
    have HS:=(((((((((((H.set 2 0 (.int .i64 ri) rfl).set 2 1 (.int .i64 rg) rfl).set 2 2 (.int .i64 rh) rfl).set 2 3 (.int .i64 a0) rfl).set 2 4 (.int .i64 a1) rfl).set 2 5 (.int .i64 a2) rfl).set 2 6 (.int .i64 a3) rfl).set 2 7 (.int .i64 a4) rfl).set 2 8 (.int .i64 a5) rfl).set 2 9 (.int .i64 a6) rfl).set 2 10 (.int .i64 a7) rfl)
    have d0:=HS.cell 2 0 rfl rfl
    have d1:=HS.cell 2 1 rfl rfl
    have d2:=HS.cell 2 2 rfl rfl
    have d3:=HS.cell 2 3 rfl rfl
    have d4:=HS.cell 2 4 rfl rfl
    have d5:=HS.cell 2 5 rfl rfl
    have d6:=HS.cell 2 6 rfl rfl
    have d7:=HS.cell 2 7 rfl rfl
    have d8:=HS.cell 2 8 rfl rfl
    have d9:=HS.cell 2 9 rfl rfl
    have d10:=HS.cell 2 10 rfl rfl
    have HSh:=Lib.hid HS
    clear HS H
    go_wp2_with fail
    refine bodyPost_ret (v:=.agg #[.int .i64 ri,.int .i64 rg,.int .i64 rh,.int .i64 a0,.int .i64 a1,.int .i64 a2,.int .i64 a3,.int .i64 a4,.int .i64 a5,.int .i64 a6,.int .i64 a7]) (by simp [results,Tryz.results98,go_sem,d0,d1,d2,d3,d4,d5,d6,d7,d8,d9,d10]) rfl ⟨?_,A',c',l',hfit.out,?_⟩
    ·rw [hRh.out];rfl
    ·exact (HSh.out.drop1 3).drop1 2
end Go.Proofs.YtefdblaolmckmabGreat
