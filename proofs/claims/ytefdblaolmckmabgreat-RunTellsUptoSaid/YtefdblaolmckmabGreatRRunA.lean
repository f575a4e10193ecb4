/- Lemmas of the proof. -/
import Derived.IntWalk
import Derived.Test.YtefdblaolmckmabGreatRBRef2MToRunG
import Derived.Test.YtefdblaolmckmabGreatRRuleA
import Derived.Test.YtefdblaolmckmabGreatRBInsIToMx
set_option linter.unusedVariables false
set_option linter.unusedSimpArgs false
set_option maxRecDepth 100000
set_option maxHeartbeats 12800000
namespace Go.Proofs.YtefdblaolmckmabGreat
open Go.RowKit
theorem bq28E {es:Array Edge} {l:Nat→Bool} {j:Nat} (hd:(es.all fun e=>!Region.binds .any e||l e.on)=true) (h:(es.toList.any fun e=>e.on==j&&Region.binds .any e)=true):l j=true:=rb hd h
end Go.Proofs.YtefdblaolmckmabGreat
namespace Go.Proofs.YtefdblaolmckmabGreat
open Go.RowKit
open Brood
def ActPost (w0 w':World) (rb:Nat) (E:List Ent) (S:BWorld×Int):Prop:=∃ A c l Ag cg,l.map tabOf=tabsW S.1.rows∧Hp w0 w' (rnE rb A c l Ag cg S.1.gens S.2 E)
def bEnt (b:Nat) (i g:Int):Ent:=.box b 24 [.int .i64 i,.int .i64 g]
def J4 (w0:World) (P:List Ent) (X:Changed) (Q:World→Prop) (bc bx bs:Bool) (vc vx:Value) (w':World):Prop:=
 (bc=false→Hp w0 w' P)∧(bc=true→bs=false→∃ A' c' l' Ag' cg',vc=.tuple #[.agg #[.slice A' l'.length c',.slice Ag' X.gens.length cg'],.int .i64 X.err]∧(bx=true→vx=.agg #[.slice A' l'.length c',.slice Ag' X.gens.length cg'])∧l'.map tabOf=tabsW X.rows∧Hp w0 w' (P++stE A' c' l' Ag' cg' X.gens))∧(bs=true→Q w')
theorem J4.start {w0:World} {P:List Ent} {X:Changed} {Q:World→Prop} {vc vx:Value} {w:World} (h:Hp w0 w P):J4 w0 P X Q false false false vc vx w:=⟨fun _=>h,(fun h=>by cases h),(fun h=>by cases h)⟩
theorem rn_front (rb:Nat) (A:Option Addr) (c:Nat) (l:List TabIn) (Ag:Option Addr) (cg:Nat) (gens:List Int) (err:Int) (E:List Ent) (b:Nat) (i g:Int):(rnE rb A c l Ag cg gens err (bEnt b i g::E)).Perm (bEnt b i g::rnE rb A c l Ag cg gens err E):=by
 unfold rnE
 exact (List.perm_middle (l₁:=rnBox rb A l.length c Ag gens.length cg err::stE A c l Ag cg gens) (l₂:=E)).trans (List.Perm.refl _)
theorem kill_st {rows:List BRow} {gens:List Int} (hw:RightW rows gens) {l:List TabIn} (hfit:l.map tabOf=tabsW rows) (A:Option Addr) (c:Nat) (Ag:Option Addr) (cg:Nat) (i g part n:Int):∀ W,RdSt W W.heap.size ⟨A,c,l,Ag,cg,gens⟩ →
  Calls Tryz.prog 17 #[.agg #[.slice A l.length c,.slice Ag gens.length cg],.agg #[.int .i64 i,.int .i64 g]] W fun e w'=>∃ A' c' l' Ag' cg',e=.returned (.tuple #[.agg #[.slice A' l'.length c',.slice Ag' (killV rows gens i g).gens.length cg'],.int .i64 (killV rows gens i g).err])∧l'.map tabOf=tabsW (killV rows gens i g).rows∧Hp W w' (stE A' c' l' Ag' cg' (killV rows gens i g).gens):=by
 intro W hR
 have:=skill_any l A c gens Ag cg i g (right_small hw hfit) W hR
 rw [hfit,killT_right hw] at this
 refine this.mono ?_
 rintro e w' ⟨v,rfl,A',c',l',Ag',cg',rfl,hl',hN⟩
 exact ⟨A',c',l',Ag',cg',rfl,hl',hN⟩
theorem put_st {rows:List BRow} {gens:List Int} (hw:RightW rows gens) {l:List TabIn} (hfit:l.map tabOf=tabsW rows) (A:Option Addr) (c:Nat) (Ag:Option Addr) (cg:Nat) (i g part n:Int):∀ W,RdSt W W.heap.size ⟨A,c,l,Ag,cg,gens⟩ →
  Calls Tryz.prog 19 #[.agg #[.slice A l.length c,.slice Ag gens.length cg],.agg #[.int .i64 i,.int .i64 g],.int .i64 part,.int .i64 n] W fun e w'=>∃ A' c' l' Ag' cg',e=.returned (.tuple #[.agg #[.slice A' l'.length c',.slice Ag' (putV rows gens i g part n).gens.length cg'],.int .i64 (putV rows gens i g part n).err])∧l'.map tabOf=tabsW (putV rows gens i g part n).rows∧Hp W w' (stE A' c' l' Ag' cg' (putV rows gens i g part n).gens):=by
 intro W hR
 have:=sput_any l A c gens Ag cg i g part n (right_small hw hfit) W hR
 rw [hfit,putT_right hw] at this
 refine this.mono ?_
 rintro e w' ⟨v,rfl,A',c',l',Ag',cg',rfl,hl',hN⟩
 exact ⟨A',c',l',Ag',cg',rfl,hl',hN⟩
theorem drop_st {rows:List BRow} {gens:List Int} (hw:RightW rows gens) {l:List TabIn} (hfit:l.map tabOf=tabsW rows) (A:Option Addr) (c:Nat) (Ag:Option Addr) (cg:Nat) (i g part n:Int):∀ W,RdSt W W.heap.size ⟨A,c,l,Ag,cg,gens⟩ →
  Calls Tryz.prog 21 #[.agg #[.slice A l.length c,.slice Ag gens.length cg],.agg #[.int .i64 i,.int .i64 g],.int .i64 part] W fun e w'=>∃ A' c' l' Ag' cg',e=.returned (.tuple #[.agg #[.slice A' l'.length c',.slice Ag' (dropV rows gens i g part).gens.length cg'],.int .i64 (dropV rows gens i g part).err])∧l'.map tabOf=tabsW (dropV rows gens i g part).rows∧Hp W w' (stE A' c' l' Ag' cg' (dropV rows gens i g part).gens):=by
 intro W hR
 have:=sdrop_any l A c gens Ag cg i g part (right_small hw hfit) W hR
 rw [hfit,dropT_right hw] at this
 refine this.mono ?_
 rintro e w' ⟨v,rfl,A',c',l',Ag',cg',rfl,hl',hN⟩
 exact ⟨A',c',l',Ag',cg',rfl,hl',hN⟩
theorem ract6 (rb:Nat) (A:Option Addr) (c:Nat) (l:List TabIn) (Ag:Option Addr) (cg:Nat) (rows:List BRow) (gens:List Int) (err:Int) (hw:RightW rows gens) (hfit:l.map tabOf=tabsW rows) (i g part src n:Int) (ab ao:Nat) (w0 w:World) (E:List Ent) (h:Hp w0 w (rnE rb A c l Ag cg gens err E))
  (hab:ab<w0.heap.size) (hat:ActAt w0 ab ao ⟨6,part,src,n⟩) :
  Calls Tryz.prog 71 #[.pointer (some ⟨rb,0,none⟩),.agg #[.int .i64 i,.int .i64 g],.pointer (some ⟨ab,ao,none⟩)] w fun e w'=>e=.returned (.bool false)∧ActPost w0 w' rb E (keepE (⟨rows,gens⟩,err) (killV rows gens i g)):=by
 have hk:=Lib.hid (kill_st hw hfit A c Ag cg i g 0 0)
 generalize killV rows gens i g=X at *
 have H:=h.newL w.heap.size rfl 24 [.int .i64 i,.int .i64 g]
 have hst:=Lib.hid (rnE_rd h)
 have B0:Below w.heap.size w (w.alloc (.cells #[.int .i64 i,.int .i64 g] 24)):=(Below.refl _ _).alloc (Nat.le_refl _) _
 obtain ⟨c0,c1,c2,c3⟩:=hat.below h.bel hab
 have hab1:ab<w.heap.size:=Nat.lt_of_lt_of_le hab h.bel.size
 have Hh:=Lib.hid H;have Bh:=Lib.hid B0;have hfith:=Lib.hid hfit;have hwh:=Lib.hid hw
 dsimp only at c0 c1 c2 c3
 clear h hw hfit H B0
 go_enter Tryz.func71,Tryz.ntmps71
 go_upto_region 4 with fail
 obtain ⟨w1,hw1,Hh⟩:∃ w1,w.alloc (.cells #[.int .i64 i,.int .i64 g] 24)=w1∧Hid (Hp w0 w1 (bEnt w.heap.size i g::rnE rb A c l Ag cg gens err E)):=⟨_,rfl,Hh⟩
 rw [hw1]
 clear hw1 Bh c0 c1 c2 c3
 obtain ⟨b,hb⟩:∃ b,b=w.heap.size:=⟨_,rfl⟩
 rw [← hb] at Hh ⊢
 clear hb
 have Hd:Hid (Hp w0 w1.drew (bEnt b i g::rnE rb A c l Ag cg gens err E)):=Lib.hid Hh.out.drew
 refine wp_region_mx mixed (by kernel_rfl) (by kernel_rfl) (fun q=>!(q==6) && !(q==7)) (tab [.pointer (some ⟨rb,0,none⟩),.pointer (some ⟨rb,0,none⟩),.pointer (some ⟨rb,0,none⟩),.pointer (some ⟨rb,0,none⟩),.agg #[.slice A l.length c,.slice Ag gens.length cg],.agg #[.int .i64 i,.int .i64 g],undef,undef,.int .i64 X.err,.tuple #[]]) (fun u vs w'=>J4 w0 (bEnt b i g::rnE rb A c l Ag cg gens err E) X (fun w'=>ActPost w0 w' rb E (keepE (⟨rows,gens⟩,err) X)) (u 6) (u 7) (u 9) (vs 6) (vs 7) w') ?_ ?_ ?_
 ·exact J4.start Hd.out
 ·intro vs w' l1 hJ hl
  rw [putAll_tab _ _ _ _ [(some 23,.pointer (some ⟨rb,0,none⟩)),(some 24,.pointer (some ⟨rb,0,none⟩)),(some 25,.pointer (some ⟨rb,0,none⟩)),(some 26,.pointer (some ⟨rb,0,none⟩)),(some 27,.agg #[.slice A l.length c,.slice Ag gens.length cg]),(some 28,.agg #[.int .i64 i,.int .i64 g]),(some 29,vs 6),(some 30,vs 7),(some 31,.int .i64 X.err),(some 32,.tuple #[])] rfl]
  simp only [putL_eq,putT,List.set_cons_succ,List.set_cons_zero]
  have hQ:=hJ.2.2 (hl 9 (by decide))
  clear hJ
  go_wp2_with fail
  go_ret
  exact ⟨rfl,hQ⟩
 ·intro qq op ho u vs act w' hJ hsh hli hd hv hwas K hK
  have hiq:qq<10:=lt_of_some ho
  have s0_:=hwas 0 rfl
  have s4_:=hwas 4 rfl
  simp at s0_ s4_
  match qq,hiq,ho,hli,hK with
  | 0,_,ho,hli,hK=>
   obtain rfl:=sj ho
   clear hv hwas
   go_simp
   exact hK _ _ (fun _=>rfl) hJ
  | 1,_,ho,hli,hK=>
   obtain rfl:=sj ho
   clear hv hwas
   go_simp
   exact hK _ _ (fun _=>rfl) hJ
  | 2,_,ho,hli,hK=>
   obtain rfl:=sj ho
   have x24:act.tmps[24]?.getD undef=.pointer (some ⟨rb,0,none⟩):=hv 1 24 rfl (bq28E hd rfl)
   clear hv hwas
   go_simp
   exact hK _ _ (fun _=>rfl) hJ
  | 3,_,ho,hli,hK=>
   obtain rfl:=sj ho
   have x25:act.tmps[25]?.getD undef=.pointer (some ⟨rb,0,none⟩):=hv 2 25 rfl (bq28E hd rfl)
   clear hv hwas
   go_simp
   exact hK _ _ (fun _=>rfl) hJ
  | 4,_,ho,hli,hK=>
   obtain rfl:=sj ho
   have x26:act.tmps[26]?.getD undef=.pointer (some ⟨rb,0,none⟩):=hv 3 26 rfl (bq28E hd rfl)
   have nc:=hsh.not (i:=6) (j:=4) (by rfl) hli
   have hp:=hJ.1 nc
   have r0:=hp.cell 1 0 rfl rfl;have r1:=hp.cell 1 1 rfl rfl
   clear hv hwas hp
   go_simp
   exact hK _ _ (fun _=>rfl) hJ
  | 5,_,ho,hli,hK=>
   obtain rfl:=sj ho
   have nc:=hsh.not (i:=6) (j:=5) (by rfl) hli
   have hp:=hJ.1 nc
   have b0:=hp.cell 0 0 rfl rfl;have b1:=hp.cell 0 1 rfl rfl
   clear hv hwas hp
   go_simp
   exact hK _ _ (fun _=>rfl) hJ
  | 6,_,ho,hli,hK=>
   obtain rfl:=sj ho
   have x27:act.tmps[27]?.getD undef=.agg #[.slice A l.length c,.slice Ag gens.length cg]:=hv 4 27 rfl (bq28E hd rfl)
   have x28:act.tmps[28]?.getD undef=.agg #[.int .i64 i,.int .i64 g]:=hv 5 28 rfl (bq28E hd rfl)
   have nx:=hsh.not (i:=7) (j:=6) (by rfl) hli
   have ns:=hsh.not (i:=9) (j:=7) (by rfl) nx
   have hp:=hJ.1 hli
   clear hv hwas
   go_simp
   refine (hk.out w' (hp.stRd (fun p hp=>by unfold rnE;simp [hp]))).mono ?_
   rintro e w4 ⟨A',c',l',Ag',cg',rfl,hl',hN⟩
   have H4:=hp.join hN
   refine hK _ _ (fun h=>by cases h) ⟨fun h=>by simp [upd] at h,fun _ _=>⟨A',c',l',Ag',cg',rfl,fun h=>?_,hl',H4⟩,fun h=>?_⟩
   ·simp [upd,nx] at h
   ·simp [upd,ns] at h
  | 7,_,ho,hli,hK=>
   obtain rfl:=sj ho
   have x29:act.tmps[29]?.getD undef=vs 6:=hv 6 29 rfl (bq28E hd rfl)
   have lc:u 6=true:=by simp [Region.binds] at hd;simp [hd]
   have ns:=hsh.not (i:=9) (j:=7) (by rfl) hli
   obtain ⟨A',c',l',Ag',cg',hvc,_,hl',H4⟩:=hJ.2.1 lc ns
   rw [hvc] at x29
   clear hv hwas
   go_simp
   refine hK _ _ (fun h=>by cases h) ⟨fun h=>by simp [upd,lc] at h,fun _ _=>⟨A',c',l',Ag',cg',hvc,fun _=>rfl,hl',H4⟩,fun h=>by simp [upd,ns] at h⟩
  | 8,_,ho,hli,hK=>
   obtain rfl:=sj ho
   have x29:act.tmps[29]?.getD undef=vs 6:=hv 6 29 rfl (bq28E hd rfl)
   have lc:u 6=true:=by simp [Region.binds] at hd;simp [hd]
   have ns:=hsh.not (i:=9) (j:=8) (by rfl) hli
   obtain ⟨A',c',l',Ag',cg',hvc,_,hl',H4⟩:=hJ.2.1 lc ns
   rw [hvc] at x29
   clear hv hwas
   go_simp
   exact hK _ _ (fun _=>rfl) hJ
  | 9,_,ho,hli,hK=>
   obtain rfl:=sj ho
   have x23:act.tmps[23]?.getD undef=.pointer (some ⟨rb,0,none⟩):=hv 0 23 rfl (bq28E hd rfl)
   have x30:act.tmps[30]?.getD undef=vs 7:=hv 7 30 rfl (bq28E hd rfl)
   have x31:act.tmps[31]?.getD undef=.int .i64 X.err:=hv 8 31 rfl (bq28E hd rfl)
   have lx:u 7=true:=by simp [Region.binds] at hd;simp [hd]
   have lc:u 6=true:=hsh 7 6 (by rfl) lx
   obtain ⟨A',c',l',Ag',cg',hvc,hvx,hl',H4⟩:=hJ.2.1 lc hli
   rw [hvx lx] at x30
   have H5:Hp w0 w' (rnBox rb A l.length c Ag gens.length cg err::bEnt b i g::((stE A c l Ag cg gens++E)++stE A' c' l' Ag' cg' X.gens)):=Hp.perm (E:=bEnt b i g::rnBox rb A l.length c Ag gens.length cg err::((stE A c l Ag cg gens++E)++stE A' c' l' Ag' cg' X.gens)) H4 (List.Perm.swap _ _ _)
   clear hv hwas H4
   go_simp
   refine (rnset_any rb A l.length c Ag gens.length cg A' l'.length c' Ag' X.gens.length cg' (.int .i64 err) X.err w0 w' _ H5).mono ?_
   rintro e w5 ⟨rfl,H6⟩
   refine hK _ _ (fun _=>rfl) ⟨fun h=>?_,fun _ h=>?_,fun _=>?_⟩
   ·simp [upd,lc] at h
   ·simp [upd] at h
   ·exact rn_close hfith.out hl' (H6.drop1 1)
theorem ract1 (rb:Nat) (A:Option Addr) (c:Nat) (l:List TabIn) (Ag:Option Addr) (cg:Nat) (rows:List BRow) (gens:List Int) (err:Int) (hw:RightW rows gens) (hfit:l.map tabOf=tabsW rows) (i g part src n:Int) (ab ao:Nat) (w0 w:World) (E:List Ent) (h:Hp w0 w (rnE rb A c l Ag cg gens err E))
  (hab:ab<w0.heap.size) (hat:ActAt w0 ab ao ⟨1,part,src,n⟩) :
  Calls Tryz.prog 71 #[.pointer (some ⟨rb,0,none⟩),.agg #[.int .i64 i,.int .i64 g],.pointer (some ⟨ab,ao,none⟩)] w fun e w'=>e=.returned (.bool true)∧ActPost w0 w' rb E (keepE (⟨rows,gens⟩,err) (putV rows gens i g part (clip n))):=by
 have hk:=Lib.hid (put_st hw hfit A c Ag cg i g part (clip n))
 generalize putV rows gens i g part (clip n)=X at *
 have H:=h.newL w.heap.size rfl 24 [.int .i64 i,.int .i64 g]
 have hst:=Lib.hid (rnE_rd h)
 have B0:Below w.heap.size w (w.alloc (.cells #[.int .i64 i,.int .i64 g] 24)):=(Below.refl _ _).alloc (Nat.le_refl _) _
 obtain ⟨c0,c1,c2,c3⟩:=hat.below h.bel hab
 have hab1:ab<w.heap.size:=Nat.lt_of_lt_of_le hab h.bel.size
 have Hh:=Lib.hid H;have Bh:=Lib.hid B0;have hfith:=Lib.hid hfit;have hwh:=Lib.hid hw
 dsimp only at c0 c1 c2 c3
 clear h hw hfit H B0
 go_enter Tryz.func71,Tryz.ntmps71
 go_upto_region 21 with fail
 obtain ⟨w1,hw1,Hh⟩:∃ w1,w.alloc (.cells #[.int .i64 i,.int .i64 g] 24)=w1∧Hid (Hp w0 w1 (bEnt w.heap.size i g::rnE rb A c l Ag cg gens err E)):=⟨_,rfl,Hh⟩
 rw [hw1]
 clear hw1 Bh c0 c1 c2 c3
 obtain ⟨b,hb⟩:∃ b,b=w.heap.size:=⟨_,rfl⟩
 rw [← hb] at Hh ⊢
 clear hb
 have Hd:Hid (Hp w0 w1.drew (bEnt b i g::rnE rb A c l Ag cg gens err E)):=Lib.hid Hh.out.drew
 obtain ⟨nn,hnn⟩:∃ nn,nn=n:=⟨_,rfl⟩
 rw [← hnn] at hk ⊢
 clear hnn
 refine wp_region_mx mixed (by kernel_rfl) (by kernel_rfl) (fun q=>!(q==12) && !(q==13)) (tab [.pointer (some ⟨rb,0,none⟩),.pointer (some ⟨rb,0,none⟩),.pointer (some ⟨rb,0,none⟩),.pointer (some ⟨rb,0,none⟩),.agg #[.slice A l.length c,.slice Ag gens.length cg],.agg #[.int .i64 i,.int .i64 g],.pointer (some ⟨ab,ao,none⟩),.pointer (some ⟨ab,ao,none⟩),.pointer (some ⟨ab,ao+1,none⟩),.int .i64 part,.int .i64 nn,.int .i64 (clip nn),undef,undef,.int .i64 X.err,.tuple #[]]) (fun u vs w'=>J4 w0 (bEnt b i g::rnE rb A c l Ag cg gens err E) X (fun w'=>ActPost w0 w' rb E (keepE (⟨rows,gens⟩,err) X)) (u 12) (u 13) (u 15) (vs 12) (vs 13) w') ?_ ?_ ?_
 ·exact J4.start Hd.out
 ·intro vs w' l1 hJ hl
  rw [putAll_tab _ _ _ _ [(some 123,.pointer (some ⟨rb,0,none⟩)),(some 124,.pointer (some ⟨rb,0,none⟩)),(some 125,.pointer (some ⟨rb,0,none⟩)),(some 126,.pointer (some ⟨rb,0,none⟩)),(some 127,.agg #[.slice A l.length c,.slice Ag gens.length cg]),(some 128,.agg #[.int .i64 i,.int .i64 g]),(some 129,.pointer (some ⟨ab,ao,none⟩)),(some 130,.pointer (some ⟨ab,ao,none⟩)),(some 131,.pointer (some ⟨ab,ao+1,none⟩)),(some 132,.int .i64 part),(some 133,.int .i64 nn),(some 134,.int .i64 (clip nn)),(some 135,vs 12),(some 136,vs 13),(some 137,.int .i64 X.err),(some 138,.tuple #[])] rfl]
  simp only [putL_eq,putT,List.set_cons_succ,List.set_cons_zero]
  have hQ:=hJ.2.2 (hl 15 (by decide))
  clear hJ
  go_wp2_with fail
  go_ret
  exact ⟨rfl,hQ⟩
 ·intro qq op ho u vs act w' hJ hsh hli hd hv hwas K hK
  have hiq:qq<16:=lt_of_some ho
  have s0_:=hwas 0 rfl
  have s2_:=hwas 2 rfl
  have s4_:=hwas 4 rfl
  have s7_:=hwas 7 rfl
  simp at s0_ s2_ s4_ s7_
  match qq,hiq,ho,hli,hK with
  | 0,_,ho,hli,hK=>
   obtain rfl:=sj ho
   clear hv hwas
   go_simp
   exact hK _ _ (fun _=>rfl) hJ
  | 1,_,ho,hli,hK=>
   obtain rfl:=sj ho
   clear hv hwas
   go_simp
   exact hK _ _ (fun _=>rfl) hJ
  | 2,_,ho,hli,hK=>
   obtain rfl:=sj ho
   have x124:act.tmps[124]?.getD undef=.pointer (some ⟨rb,0,none⟩):=hv 1 124 rfl (bq28E hd rfl)
   clear hv hwas
   go_simp
   exact hK _ _ (fun _=>rfl) hJ
  | 3,_,ho,hli,hK=>
   obtain rfl:=sj ho
   have x125:act.tmps[125]?.getD undef=.pointer (some ⟨rb,0,none⟩):=hv 2 125 rfl (bq28E hd rfl)
   clear hv hwas
   go_simp
   exact hK _ _ (fun _=>rfl) hJ
  | 4,_,ho,hli,hK=>
   obtain rfl:=sj ho
   have x126:act.tmps[126]?.getD undef=.pointer (some ⟨rb,0,none⟩):=hv 3 126 rfl (bq28E hd rfl)
   have nc:=hsh.not (i:=12) (j:=4) (by rfl) hli
   have hp:=hJ.1 nc
   have r0:=hp.cell 1 0 rfl rfl;have r1:=hp.cell 1 1 rfl rfl
   clear hv hwas hp
   go_simp
   exact hK _ _ (fun _=>rfl) hJ
  | 5,_,ho,hli,hK=>
   obtain rfl:=sj ho
   have nc:=hsh.not (i:=12) (j:=5) (by rfl) hli
   have hp:=hJ.1 nc
   have b0:=hp.cell 0 0 rfl rfl;have b1:=hp.cell 0 1 rfl rfl
   clear hv hwas hp
   go_simp
   exact hK _ _ (fun _=>rfl) hJ
  | 6,_,ho,hli,hK=>
   obtain rfl:=sj ho
   clear hv hwas
   go_simp
   exact hK _ _ (fun _=>rfl) hJ
  | 7,_,ho,hli,hK=>
   obtain rfl:=sj ho
   have x129:act.tmps[129]?.getD undef=.pointer (some ⟨ab,ao,none⟩):=hv 6 129 rfl (bq28E hd rfl)
   clear hv hwas
   go_simp
   exact hK _ _ (fun _=>rfl) hJ
  | 8,_,ho,hli,hK=>
   obtain rfl:=sj ho
   have x130:act.tmps[130]?.getD undef=.pointer (some ⟨ab,ao,none⟩):=hv 7 130 rfl (bq28E hd rfl)
   clear hv hwas
   go_simp
   exact hK _ _ (fun _=>rfl) hJ
  | 9,_,ho,hli,hK=>
   obtain rfl:=sj ho
   have x131:act.tmps[131]?.getD undef=.pointer (some ⟨ab,ao+1,none⟩):=hv 8 131 rfl (bq28E hd rfl)
   have nc:=hsh.not (i:=12) (j:=9) (by rfl) hli
   have hp:=hJ.1 nc
   obtain ⟨c0,c1,c2,c3⟩:=hat.below hp.bel hab;dsimp only at c0 c1 c2 c3
   clear hv hwas hp
   go_simp
   exact hK _ _ (fun _=>rfl) hJ
  | 10,_,ho,hli,hK=>
   obtain rfl:=sj ho
   clear hv hwas
   go_simp
   exact hK _ _ (fun _=>rfl) hJ
  | 11,_,ho,hli,hK=>
   obtain rfl:=sj ho
   have x133:act.tmps[133]?.getD undef=.int .i64 nn:=hv 10 133 rfl (bq28E hd rfl)
   clear hv hwas
   go_simp
   refine (clip_any nn w').mono ?_
   rintro e w4 ⟨rfl,rfl⟩
   exact hK _ _ (fun _=>rfl) hJ
  | 12,_,ho,hli,hK=>
   obtain rfl:=sj ho
   have x127:act.tmps[127]?.getD undef=.agg #[.slice A l.length c,.slice Ag gens.length cg]:=hv 4 127 rfl (bq28E hd rfl)
   have x128:act.tmps[128]?.getD undef=.agg #[.int .i64 i,.int .i64 g]:=hv 5 128 rfl (bq28E hd rfl)
   have x132:act.tmps[132]?.getD undef=.int .i64 part:=hv 9 132 rfl (bq28E hd rfl)
   have x134:act.tmps[134]?.getD undef=.int .i64 (clip nn):=hv 11 134 rfl (bq28E hd rfl)
   have nx:=hsh.not (i:=13) (j:=12) (by rfl) hli
   have ns:=hsh.not (i:=15) (j:=13) (by rfl) nx
   have hp:=hJ.1 hli
   clear hv hwas
   go_simp
   refine (hk.out w' (hp.stRd (fun p hp=>by unfold rnE;simp [hp]))).mono ?_
   rintro e w4 ⟨A',c',l',Ag',cg',rfl,hl',hN⟩
   have H4:=hp.join hN
   refine hK _ _ (fun h=>by cases h) ⟨fun h=>by simp [upd] at h,fun _ _=>⟨A',c',l',Ag',cg',rfl,fun h=>?_,hl',H4⟩,fun h=>?_⟩
   ·simp [upd,nx] at h
   ·simp [upd,ns] at h
  | 13,_,ho,hli,hK=>
   obtain rfl:=sj ho
   have x135:act.tmps[135]?.getD undef=vs 12:=hv 12 135 rfl (bq28E hd rfl)
   have lc:u 12=true:=by simp [Region.binds] at hd;simp [hd]
   have ns:=hsh.not (i:=15) (j:=13) (by rfl) hli
   obtain ⟨A',c',l',Ag',cg',hvc,_,hl',H4⟩:=hJ.2.1 lc ns
   rw [hvc] at x135
   clear hv hwas
   go_simp
   refine hK _ _ (fun h=>by cases h) ⟨fun h=>by simp [upd,lc] at h,fun _ _=>⟨A',c',l',Ag',cg',hvc,fun _=>rfl,hl',H4⟩,fun h=>by simp [upd,ns] at h⟩
  | 14,_,ho,hli,hK=>
   obtain rfl:=sj ho
   have x135:act.tmps[135]?.getD undef=vs 12:=hv 12 135 rfl (bq28E hd rfl)
   have lc:u 12=true:=by simp [Region.binds] at hd;simp [hd]
   have ns:=hsh.not (i:=15) (j:=14) (by rfl) hli
   obtain ⟨A',c',l',Ag',cg',hvc,_,hl',H4⟩:=hJ.2.1 lc ns
   rw [hvc] at x135
   clear hv hwas
   go_simp
   exact hK _ _ (fun _=>rfl) hJ
  | 15,_,ho,hli,hK=>
   obtain rfl:=sj ho
   have x123:act.tmps[123]?.getD undef=.pointer (some ⟨rb,0,none⟩):=hv 0 123 rfl (bq28E hd rfl)
   have x136:act.tmps[136]?.getD undef=vs 13:=hv 13 136 rfl (bq28E hd rfl)
   have x137:act.tmps[137]?.getD undef=.int .i64 X.err:=hv 14 137 rfl (bq28E hd rfl)
   have lx:u 13=true:=by simp [Region.binds] at hd;simp [hd]
   have lc:u 12=true:=hsh 13 12 (by rfl) lx
   obtain ⟨A',c',l',Ag',cg',hvc,hvx,hl',H4⟩:=hJ.2.1 lc hli
   rw [hvx lx] at x136
   have H5:Hp w0 w' (rnBox rb A l.length c Ag gens.length cg err::bEnt b i g::((stE A c l Ag cg gens++E)++stE A' c' l' Ag' cg' X.gens)):=Hp.perm (E:=bEnt b i g::rnBox rb A l.length c Ag gens.length cg err::((stE A c l Ag cg gens++E)++stE A' c' l' Ag' cg' X.gens)) H4 (List.Perm.swap _ _ _)
   clear hv hwas H4
   go_simp
   refine (rnset_any rb A l.length c Ag gens.length cg A' l'.length c' Ag' X.gens.length cg' (.int .i64 err) X.err w0 w' _ H5).mono ?_
   rintro e w5 ⟨rfl,H6⟩
   refine hK _ _ (fun _=>rfl) ⟨fun h=>?_,fun _ h=>?_,fun _=>?_⟩
   ·simp [upd,lc] at h
   ·simp [upd] at h
   ·exact rn_close hfith.out hl' (H6.drop1 1)
theorem ract5_no (rb:Nat) (A:Option Addr) (c:Nat) (l:List TabIn) (Ag:Option Addr) (cg:Nat) (rows:List BRow) (gens:List Int) (err:Int) (hw:RightW rows gens) (hfit:l.map tabOf=tabsW rows) (i g part src n:Int) (ab ao:Nat) (w0 w:World) (E:List Ent) (h:Hp w0 w (rnE rb A c l Ag cg gens err E))
  (hab:ab<w0.heap.size) (hat:ActAt w0 ab ao ⟨5,part,src,n⟩) (hh:(getP i g rows part).2=false) :
  Calls Tryz.prog 71 #[.pointer (some ⟨rb,0,none⟩),.agg #[.int .i64 i,.int .i64 g],.pointer (some ⟨ab,ao,none⟩)] w fun e w'=>e=.returned (.bool true)∧ActPost w0 w' rb E (keepE (⟨rows,gens⟩,err) ⟨rows,gens,0⟩):=by
 have hk:=Lib.hid (fun W hR=>sget_any l A c gens Ag cg rows hw hfit i g part W hR)
 generalize getP i g rows part=P at *
 obtain ⟨p1,p2⟩:=P
 dsimp only at hh hk
 subst hh
 have H:=h.newL w.heap.size rfl 24 [.int .i64 i,.int .i64 g]
 have hst:=Lib.hid (rnE_rd h)
 have B0:Below w.heap.size w (w.alloc (.cells #[.int .i64 i,.int .i64 g] 24)):=(Below.refl _ _).alloc (Nat.le_refl _) _
 obtain ⟨c0,c1,c2,c3⟩:=hat.below h.bel hab
 have hab1:ab<w.heap.size:=Nat.lt_of_lt_of_le hab h.bel.size
 have Hh:=Lib.hid H;have Bh:=Lib.hid B0;have hfith:=Lib.hid hfit;have hwh:=Lib.hid hw
 dsimp only at c0 c1 c2 c3
 clear h hw hfit H B0
 go_enter Tryz.func71,Tryz.ntmps71
 go_upto_region 11 with fail
 obtain ⟨w1,hw1,Hh⟩:∃ w1,w.alloc (.cells #[.int .i64 i,.int .i64 g] 24)=w1∧Hid (Hp w0 w1 (bEnt w.heap.size i g::rnE rb A c l Ag cg gens err E)):=⟨_,rfl,Hh⟩
 rw [hw1]
 clear hw1 Bh c0 c1 c2 c3
 obtain ⟨b,hb⟩:∃ b,b=w.heap.size:=⟨_,rfl⟩
 rw [← hb] at Hh ⊢
 clear hb
 have Hd:Hid (Hp w0 w1.drew (bEnt b i g::rnE rb A c l Ag cg gens err E)):=Lib.hid Hh.out.drew
 have r0:=Hd.out.cell 1 0 rfl rfl;have r1:=Hd.out.cell 1 1 rfl rfl;have b0:=Hd.out.cell 0 0 rfl rfl;have b1:=Hd.out.cell 0 1 rfl rfl
 obtain ⟨d0,d1,d2,d3⟩:=hat.below Hd.out.bel hab
 dsimp only at d0 d1 d2 d3
 have hrb:=Hd.out.lt 1 rfl;have hbl:=Hd.out.lt 0 rfl
 replace hab1:ab<w1.drew.heap.size:=Nat.lt_of_lt_of_le hab Hd.out.bel.size
 clear d0 d3
 refine wp_region_kg mixed (by kernel_rfl) (by kernel_rfl) (fun _=>true) (tab [.pointer (some ⟨rb,0,none⟩),.pointer (some ⟨rb,0,none⟩),.pointer (some ⟨rb,0,none⟩),.agg #[.slice A l.length c,.slice Ag gens.length cg],.agg #[.int .i64 i,.int .i64 g],.pointer (some ⟨ab,ao,none⟩),.pointer (some ⟨ab,ao,none⟩),.pointer (some ⟨ab,ao+1,none⟩),.int .i64 part,.tuple #[.int .i64 p1,.bool false],.tuple #[.int .i64 p1,.bool false],.int .i64 p1,.bool false,.int .i64 p1,.bool false]) (fun u wv=>Below w1.drew.heap.size w1.drew wv) ?_ ?_ ?_ ?_ ?_
 ·intro qq op ho
  have hiq:qq<15:=lt_of_some ho
  match qq,hiq,ho with
  | 0,_,ho | 1,_,ho | 2,_,ho | 3,_,ho | 4,_,ho | 5,_,ho | 6,_,ho | 7,_,ho | 8,_,ho | 9,_,ho | 10,_,ho | 11,_,ho | 12,_,ho | 13,_,ho | 14,_,ho=>
   obtain rfl:=sj ho
   rfl
 ·exact Below.refl _ _
 ·intro qq _ h;cases h
 ·intro w' l1 hJ hl
  rw [putAll_tab _ _ _ _ [(some 59,.pointer (some ⟨rb,0,none⟩)),(some 60,.pointer (some ⟨rb,0,none⟩)),(some 61,.pointer (some ⟨rb,0,none⟩)),(some 62,.agg #[.slice A l.length c,.slice Ag gens.length cg]),(some 63,.agg #[.int .i64 i,.int .i64 g]),(some 64,.pointer (some ⟨ab,ao,none⟩)),(some 65,.pointer (some ⟨ab,ao,none⟩)),(some 66,.pointer (some ⟨ab,ao+1,none⟩)),(some 67,.int .i64 part),(some 68,.tuple #[.int .i64 p1,.bool false]),(some 58,.tuple #[.int .i64 p1,.bool false]),(some 69,.int .i64 p1),(some 70,.bool false),(some 11,.int .i64 p1),(some 12,.bool false)] rfl]
  simp only [putL_eq,putT,List.set_cons_succ,List.set_cons_zero]
  have HQ:Hid (Hp w0 w' (bEnt b i g::rnE rb A c l Ag cg gens err E)):=Lib.hid (Hd.out.grow hJ)
  clear hJ r0 r1 b0 b1 d1 d2 hrb hbl
  go_wp2_with fail
  go_ret
  exact ⟨rfl,A,c,l,Ag,cg,hfith.out,HQ.out.drop1 0⟩
 ·intro qq op ho hG u act w' hJ hli hd hv hwas K hK
  have e0:=hwas 0 rfl
  have e2:=hwas 2 rfl
  have e4:=hwas 4 rfl
  simp at e0 e2 e4
  have r0:=(hJ.cell (p:=⟨rb,0,none⟩) hrb).trans r0;have r1:=(hJ.cell (p:=⟨rb,1,none⟩) hrb).trans r1
  have b0:=(hJ.cell (p:=⟨b,0,none⟩) hbl).trans b0;have b1:=(hJ.cell (p:=⟨b,1,none⟩) hbl).trans b1
  have d1:=(hJ.cell (p:=⟨ab,ao+1,none⟩) hab1).trans d1;have d2:=(hJ.cell (p:=⟨ab,ao+2,none⟩) hab1).trans d2
  have hiq:qq<15:=lt_of_some ho
  match qq,hiq,ho,hG,hli,hK with
  | 0,_,ho,hG,hli,hK=>
   obtain rfl:=sj ho
   clear hv hwas
   go_simp
   exact hK _ hJ
  | 1,_,ho,hG,hli,hK=>
   obtain rfl:=sj ho
   have x59:act.tmps[59]?.getD undef=.pointer (some ⟨rb,0,none⟩):=hv 0 59 rfl (bq28E hd rfl)
   clear hv hwas
   go_simp
   exact hK _ hJ
  | 2,_,ho,hG,hli,hK=>
   obtain rfl:=sj ho
   have x60:act.tmps[60]?.getD undef=.pointer (some ⟨rb,0,none⟩):=hv 1 60 rfl (bq28E hd rfl)
   clear hv hwas
   go_simp
   exact hK _ hJ
  | 3,_,ho,hG,hli,hK=>
   obtain rfl:=sj ho
   have x61:act.tmps[61]?.getD undef=.pointer (some ⟨rb,0,none⟩):=hv 2 61 rfl (bq28E hd rfl)
   clear hv hwas
   go_simp
   exact hK _ hJ
  | 4,_,ho,hG,hli,hK=>
   obtain rfl:=sj ho
   clear hv hwas
   go_simp
   exact hK _ hJ
  | 5,_,ho,hG,hli,hK=>
   obtain rfl:=sj ho
   clear hv hwas
   go_simp
   exact hK _ hJ
  | 6,_,ho,hG,hli,hK=>
   obtain rfl:=sj ho
   have x64:act.tmps[64]?.getD undef=.pointer (some ⟨ab,ao,none⟩):=hv 5 64 rfl (bq28E hd rfl)
   clear hv hwas
   go_simp
   exact hK _ hJ
  | 7,_,ho,hG,hli,hK=>
   obtain rfl:=sj ho
   have x65:act.tmps[65]?.getD undef=.pointer (some ⟨ab,ao,none⟩):=hv 6 65 rfl (bq28E hd rfl)
   clear hv hwas
   go_simp
   exact hK _ hJ
  | 8,_,ho,hG,hli,hK=>
   obtain rfl:=sj ho
   have x66:act.tmps[66]?.getD undef=.pointer (some ⟨ab,ao+1,none⟩):=hv 7 66 rfl (bq28E hd rfl)
   clear hv hwas
   go_simp
   exact hK _ hJ
  | 9,_,ho,hG,hli,hK=>
   obtain rfl:=sj ho
   have x62:act.tmps[62]?.getD undef=.agg #[.slice A l.length c,.slice Ag gens.length cg]:=hv 3 62 rfl (bq28E hd rfl)
   have x63:act.tmps[63]?.getD undef=.agg #[.int .i64 i,.int .i64 g]:=hv 4 63 rfl (bq28E hd rfl)
   have x67:act.tmps[67]?.getD undef=.int .i64 part:=hv 8 67 rfl (bq28E hd rfl)
   have hR:=(Hd.out.grow hJ).stRd (A:=A) (c:=c) (l:=l) (Ag:=Ag) (cg:=cg) (gens:=gens) (fun p hp=>by unfold rnE;simp [hp])
   clear hv hwas
   go_simp
   refine (hk.out w' hR).mono ?_
   rintro e w4 ⟨rfl,hb4⟩
   exact hK _ (hJ.trans (hb4.mono hJ.size))
  | 10,_,ho,hG,hli,hK=>
   obtain rfl:=sj ho
   have x68:act.tmps[68]?.getD undef=.tuple #[.int .i64 p1,.bool false]:=hv 9 68 rfl (bq28E hd rfl)
   clear hv hwas
   go_simp
   exact hK _ hJ
  | 11,_,ho,hG,hli,hK=>
   obtain rfl:=sj ho
   have x58:act.tmps[58]?.getD undef=.tuple #[.int .i64 p1,.bool false]:=hv 10 58 rfl (bq28E hd rfl)
   clear hv hwas
   go_simp
   exact hK _ hJ
  | 12,_,ho,hG,hli,hK=>
   obtain rfl:=sj ho
   have x58:act.tmps[58]?.getD undef=.tuple #[.int .i64 p1,.bool false]:=hv 10 58 rfl (bq28E hd rfl)
   clear hv hwas
   go_simp
   exact hK _ hJ
  | 13,_,ho,hG,hli,hK=>
   obtain rfl:=sj ho
   have x69:act.tmps[69]?.getD undef=.int .i64 p1:=hv 11 69 rfl (bq28E hd rfl)
   clear hv hwas
   go_simp
   exact hK _ hJ
  | 14,_,ho,hG,hli,hK=>
   obtain rfl:=sj ho
   have x70:act.tmps[70]?.getD undef=.bool false:=hv 12 70 rfl (bq28E hd rfl)
   clear hv hwas
   go_simp
   exact hK _ hJ
theorem ract5_yes (rb:Nat) (A:Option Addr) (c:Nat) (l:List TabIn) (Ag:Option Addr) (cg:Nat) (rows:List BRow) (gens:List Int) (err:Int) (hw:RightW rows gens) (hfit:l.map tabOf=tabsW rows) (i g part src n:Int) (ab ao:Nat) (w0 w:World) (E:List Ent) (h:Hp w0 w (rnE rb A c l Ag cg gens err E))
  (hab:ab<w0.heap.size) (hat:ActAt w0 ab ao ⟨5,part,src,n⟩) (hh:(getP i g rows part).2=true) :
  Calls Tryz.prog 71 #[.pointer (some ⟨rb,0,none⟩),.agg #[.int .i64 i,.int .i64 g],.pointer (some ⟨ab,ao,none⟩)] w fun e w'=>e=.returned (.bool true)∧ActPost w0 w' rb E (keepE (⟨rows,gens⟩,err) (dropV rows gens i g part)):=by
 have hkd:=Lib.hid (drop_st hw hfit A c Ag cg i g part 0)
 generalize dropV rows gens i g part=X at *
 have hk:=Lib.hid (fun W hR=>sget_any l A c gens Ag cg rows hw hfit i g part W hR)
 generalize getP i g rows part=P at *
 obtain ⟨p1,p2⟩:=P
 dsimp only at hh hk
 subst hh
 have H:=h.newL w.heap.size rfl 24 [.int .i64 i,.int .i64 g]
 have hst:=Lib.hid (rnE_rd h)
 have B0:Below w.heap.size w (w.alloc (.cells #[.int .i64 i,.int .i64 g] 24)):=(Below.refl _ _).alloc (Nat.le_refl _) _
 obtain ⟨c0,c1,c2,c3⟩:=hat.below h.bel hab
 have hab1:ab<w.heap.size:=Nat.lt_of_lt_of_le hab h.bel.size
 have Hh:=Lib.hid H;have Bh:=Lib.hid B0;have hfith:=Lib.hid hfit;have hwh:=Lib.hid hw
 dsimp only at c0 c1 c2 c3
 clear h hw hfit H B0
 go_enter Tryz.func71,Tryz.ntmps71
 go_upto_region 11 with fail
 obtain ⟨w1,hw1,Hh⟩:∃ w1,w.alloc (.cells #[.int .i64 i,.int .i64 g] 24)=w1∧Hid (Hp w0 w1 (bEnt w.heap.size i g::rnE rb A c l Ag cg gens err E)):=⟨_,rfl,Hh⟩
 rw [hw1]
 clear hw1 Bh c0 c1 c2 c3
 obtain ⟨b,hb⟩:∃ b,b=w.heap.size:=⟨_,rfl⟩
 rw [← hb] at Hh ⊢
 clear hb
 have Hd:Hid (Hp w0 w1.drew (bEnt b i g::rnE rb A c l Ag cg gens err E)):=Lib.hid Hh.out.drew
 have r0:=Hd.out.cell 1 0 rfl rfl;have r1:=Hd.out.cell 1 1 rfl rfl;have b0:=Hd.out.cell 0 0 rfl rfl;have b1:=Hd.out.cell 0 1 rfl rfl
 obtain ⟨d0,d1,d2,d3⟩:=hat.below Hd.out.bel hab
 dsimp only at d0 d1 d2 d3
 have hrb:=Hd.out.lt 1 rfl;have hbl:=Hd.out.lt 0 rfl
 replace hab1:ab<w1.drew.heap.size:=Nat.lt_of_lt_of_le hab Hd.out.bel.size
 clear d0 d3
 refine wp_region_kg mixed (by kernel_rfl) (by kernel_rfl) (fun _=>true) (tab [.pointer (some ⟨rb,0,none⟩),.pointer (some ⟨rb,0,none⟩),.pointer (some ⟨rb,0,none⟩),.agg #[.slice A l.length c,.slice Ag gens.length cg],.agg #[.int .i64 i,.int .i64 g],.pointer (some ⟨ab,ao,none⟩),.pointer (some ⟨ab,ao,none⟩),.pointer (some ⟨ab,ao+1,none⟩),.int .i64 part,.tuple #[.int .i64 p1,.bool true],.tuple #[.int .i64 p1,.bool true],.int .i64 p1,.bool true,.int .i64 p1,.bool true]) (fun u wv=>Below w1.drew.heap.size w1.drew wv) ?_ ?_ ?_ ?_ ?_
 ·intro qq op ho
  have hiq:qq<15:=lt_of_some ho
  match qq,hiq,ho with
  | 0,_,ho | 1,_,ho | 2,_,ho | 3,_,ho | 4,_,ho | 5,_,ho | 6,_,ho | 7,_,ho | 8,_,ho | 9,_,ho | 10,_,ho | 11,_,ho | 12,_,ho | 13,_,ho | 14,_,ho=>
   obtain rfl:=sj ho
   rfl
 ·exact Below.refl _ _
 ·intro qq _ h;cases h
 ·intro w' l1 hJ hl
  rw [putAll_tab _ _ _ _ [(some 59,.pointer (some ⟨rb,0,none⟩)),(some 60,.pointer (some ⟨rb,0,none⟩)),(some 61,.pointer (some ⟨rb,0,none⟩)),(some 62,.agg #[.slice A l.length c,.slice Ag gens.length cg]),(some 63,.agg #[.int .i64 i,.int .i64 g]),(some 64,.pointer (some ⟨ab,ao,none⟩)),(some 65,.pointer (some ⟨ab,ao,none⟩)),(some 66,.pointer (some ⟨ab,ao+1,none⟩)),(some 67,.int .i64 part),(some 68,.tuple #[.int .i64 p1,.bool true]),(some 58,.tuple #[.int .i64 p1,.bool true]),(some 69,.int .i64 p1),(some 70,.bool true),(some 11,.int .i64 p1),(some 12,.bool true)] rfl]
  simp only [putL_eq,putT,List.set_cons_succ,List.set_cons_zero]
  have Hd2:Hid (Hp w0 w'.drew (bEnt b i g::rnE rb A c l Ag cg gens err E)):=Lib.hid (Hd.out.grow hJ).drew
  clear hJ r0 r1 b0 b1 d1 d2 hrb hbl Hd Hh hab1 hst
  go_upto_region 13 with fail
  have Hd:=Hd2
  clear Hd2
  refine wp_region_mx mixed (by kernel_rfl) (by kernel_rfl) (fun q=>!(q==10) && !(q==11)) (tab [.pointer (some ⟨rb,0,none⟩),.pointer (some ⟨rb,0,none⟩),.pointer (some ⟨rb,0,none⟩),.pointer (some ⟨rb,0,none⟩),.agg #[.slice A l.length c,.slice Ag gens.length cg],.agg #[.int .i64 i,.int .i64 g],.pointer (some ⟨ab,ao,none⟩),.pointer (some ⟨ab,ao,none⟩),.pointer (some ⟨ab,ao+1,none⟩),.int .i64 part,undef,undef,.int .i64 X.err,.tuple #[]]) (fun u vs w'=>J4 w0 (bEnt b i g::rnE rb A c l Ag cg gens err E) X (fun w'=>ActPost w0 w' rb E (keepE (⟨rows,gens⟩,err) X)) (u 10) (u 11) (u 13) (vs 10) (vs 11) w') ?_ ?_ ?_
  ·exact J4.start Hd.out
  ·intro vs w' l1 hJ hl
   rw [putAll_tab _ _ _ _ [(some 72,.pointer (some ⟨rb,0,none⟩)),(some 73,.pointer (some ⟨rb,0,none⟩)),(some 74,.pointer (some ⟨rb,0,none⟩)),(some 75,.pointer (some ⟨rb,0,none⟩)),(some 76,.agg #[.slice A l.length c,.slice Ag gens.length cg]),(some 77,.agg #[.int .i64 i,.int .i64 g]),(some 78,.pointer (some ⟨ab,ao,none⟩)),(some 79,.pointer (some ⟨ab,ao,none⟩)),(some 80,.pointer (some ⟨ab,ao+1,none⟩)),(some 81,.int .i64 part),(some 82,vs 10),(some 83,vs 11),(some 84,.int .i64 X.err),(some 85,.tuple #[])] rfl]
   simp only [putL_eq,putT,List.set_cons_succ,List.set_cons_zero]
   have hQ:=hJ.2.2 (hl 13 (by decide))
   clear hJ
   go_wp2_with fail
   go_ret
   exact ⟨rfl,hQ⟩
  ·intro qq op ho u vs act w' hJ hsh hli hd hv hwas K hK
   have hiq:qq<14:=lt_of_some ho
   have s0_:=hwas 0 rfl
   have s2_:=hwas 2 rfl
   have s4_:=hwas 4 rfl
   simp at s0_ s2_ s4_
   match qq,hiq,ho,hli,hK with
   | 0,_,ho,hli,hK=>
    obtain rfl:=sj ho
    clear hv hwas
    go_simp
    exact hK _ _ (fun _=>rfl) hJ
   | 1,_,ho,hli,hK=>
    obtain rfl:=sj ho
    clear hv hwas
    go_simp
    exact hK _ _ (fun _=>rfl) hJ
   | 2,_,ho,hli,hK=>
    obtain rfl:=sj ho
    have x73:act.tmps[73]?.getD undef=.pointer (some ⟨rb,0,none⟩):=hv 1 73 rfl (bq28E hd rfl)
    clear hv hwas
    go_simp
    exact hK _ _ (fun _=>rfl) hJ
   | 3,_,ho,hli,hK=>
    obtain rfl:=sj ho
    have x74:act.tmps[74]?.getD undef=.pointer (some ⟨rb,0,none⟩):=hv 2 74 rfl (bq28E hd rfl)
    clear hv hwas
    go_simp
    exact hK _ _ (fun _=>rfl) hJ
   | 4,_,ho,hli,hK=>
    obtain rfl:=sj ho
    have x75:act.tmps[75]?.getD undef=.pointer (some ⟨rb,0,none⟩):=hv 3 75 rfl (bq28E hd rfl)
    have nc:=hsh.not (i:=10) (j:=4) (by rfl) hli
    have hp:=hJ.1 nc
    have r0:=hp.cell 1 0 rfl rfl;have r1:=hp.cell 1 1 rfl rfl
    clear hv hwas hp
    go_simp
    exact hK _ _ (fun _=>rfl) hJ
   | 5,_,ho,hli,hK=>
    obtain rfl:=sj ho
    have nc:=hsh.not (i:=10) (j:=5) (by rfl) hli
    have hp:=hJ.1 nc
    have b0:=hp.cell 0 0 rfl rfl;have b1:=hp.cell 0 1 rfl rfl
    clear hv hwas hp
    go_simp
    exact hK _ _ (fun _=>rfl) hJ
   | 6,_,ho,hli,hK=>
    obtain rfl:=sj ho
    clear hv hwas
    go_simp
    exact hK _ _ (fun _=>rfl) hJ
   | 7,_,ho,hli,hK=>
    obtain rfl:=sj ho
    have x78:act.tmps[78]?.getD undef=.pointer (some ⟨ab,ao,none⟩):=hv 6 78 rfl (bq28E hd rfl)
    clear hv hwas
    go_simp
    exact hK _ _ (fun _=>rfl) hJ
   | 8,_,ho,hli,hK=>
    obtain rfl:=sj ho
    have x79:act.tmps[79]?.getD undef=.pointer (some ⟨ab,ao,none⟩):=hv 7 79 rfl (bq28E hd rfl)
    clear hv hwas
    go_simp
    exact hK _ _ (fun _=>rfl) hJ
   | 9,_,ho,hli,hK=>
    obtain rfl:=sj ho
    have x80:act.tmps[80]?.getD undef=.pointer (some ⟨ab,ao+1,none⟩):=hv 8 80 rfl (bq28E hd rfl)
    have nc:=hsh.not (i:=10) (j:=9) (by rfl) hli
    have hp:=hJ.1 nc
    obtain ⟨c0,c1,c2,c3⟩:=hat.below hp.bel hab;dsimp only at c0 c1 c2 c3
    clear hv hwas hp
    go_simp
    exact hK _ _ (fun _=>rfl) hJ
   | 10,_,ho,hli,hK=>
    obtain rfl:=sj ho
    have x76:act.tmps[76]?.getD undef=.agg #[.slice A l.length c,.slice Ag gens.length cg]:=hv 4 76 rfl (bq28E hd rfl)
    have x77:act.tmps[77]?.getD undef=.agg #[.int .i64 i,.int .i64 g]:=hv 5 77 rfl (bq28E hd rfl)
    have x81:act.tmps[81]?.getD undef=.int .i64 part:=hv 9 81 rfl (bq28E hd rfl)
    have nx:=hsh.not (i:=11) (j:=10) (by rfl) hli
    have ns:=hsh.not (i:=13) (j:=11) (by rfl) nx
    have hp:=hJ.1 hli
    clear hv hwas
    go_simp
    refine (hkd.out w' (hp.stRd (fun p hp=>by unfold rnE;simp [hp]))).mono ?_
    rintro e w4 ⟨A',c',l',Ag',cg',rfl,hl',hN⟩
    have H4:=hp.join hN
    refine hK _ _ (fun h=>by cases h) ⟨fun h=>by simp [upd] at h,fun _ _=>⟨A',c',l',Ag',cg',rfl,fun h=>?_,hl',H4⟩,fun h=>?_⟩
    ·simp [upd,nx] at h
    ·simp [upd,ns] at h
   | 11,_,ho,hli,hK=>
    obtain rfl:=sj ho
    have x82:act.tmps[82]?.getD undef=vs 10:=hv 10 82 rfl (bq28E hd rfl)
    have lc:u 10=true:=by simp [Region.binds] at hd;simp [hd]
    have ns:=hsh.not (i:=13) (j:=11) (by rfl) hli
    obtain ⟨A',c',l',Ag',cg',hvc,_,hl',H4⟩:=hJ.2.1 lc ns
    rw [hvc] at x82
    clear hv hwas
    go_simp
    refine hK _ _ (fun h=>by cases h) ⟨fun h=>by simp [upd,lc] at h,fun _ _=>⟨A',c',l',Ag',cg',hvc,fun _=>rfl,hl',H4⟩,fun h=>by simp [upd,ns] at h⟩
   | 12,_,ho,hli,hK=>
    obtain rfl:=sj ho
    have x82:act.tmps[82]?.getD undef=vs 10:=hv 10 82 rfl (bq28E hd rfl)
    have lc:u 10=true:=by simp [Region.binds] at hd;simp [hd]
    have ns:=hsh.not (i:=13) (j:=12) (by rfl) hli
    obtain ⟨A',c',l',Ag',cg',hvc,_,hl',H4⟩:=hJ.2.1 lc ns
    rw [hvc] at x82
    clear hv hwas
    go_simp
    exact hK _ _ (fun _=>rfl) hJ
   | 13,_,ho,hli,hK=>
    obtain rfl:=sj ho
    have x72:act.tmps[72]?.getD undef=.pointer (some ⟨rb,0,none⟩):=hv 0 72 rfl (bq28E hd rfl)
    have x83:act.tmps[83]?.getD undef=vs 11:=hv 11 83 rfl (bq28E hd rfl)
    have x84:act.tmps[84]?.getD undef=.int .i64 X.err:=hv 12 84 rfl (bq28E hd rfl)
    have lx:u 11=true:=by simp [Region.binds] at hd;simp [hd]
    have lc:u 10=true:=hsh 11 10 (by rfl) lx
    obtain ⟨A',c',l',Ag',cg',hvc,hvx,hl',H4⟩:=hJ.2.1 lc hli
    rw [hvx lx] at x83
    have H5:Hp w0 w' (rnBox rb A l.length c Ag gens.length cg err::bEnt b i g::((stE A c l Ag cg gens++E)++stE A' c' l' Ag' cg' X.gens)):=Hp.perm (E:=bEnt b i g::rnBox rb A l.length c Ag gens.length cg err::((stE A c l Ag cg gens++E)++stE A' c' l' Ag' cg' X.gens)) H4 (List.Perm.swap _ _ _)
    clear hv hwas H4
    go_simp
    refine (rnset_any rb A l.length c Ag gens.length cg A' l'.length c' Ag' X.gens.length cg' (.int .i64 err) X.err w0 w' _ H5).mono ?_
    rintro e w5 ⟨rfl,H6⟩
    refine hK _ _ (fun _=>rfl) ⟨fun h=>?_,fun _ h=>?_,fun _=>?_⟩
    ·simp [upd,lc] at h
    ·simp [upd] at h
    ·exact rn_close hfith.out hl' (H6.drop1 1)
 ·intro qq op ho hG u act w' hJ hli hd hv hwas K hK
  have e0:=hwas 0 rfl
  have e2:=hwas 2 rfl
  have e4:=hwas 4 rfl
  simp at e0 e2 e4
  have r0:=(hJ.cell (p:=⟨rb,0,none⟩) hrb).trans r0;have r1:=(hJ.cell (p:=⟨rb,1,none⟩) hrb).trans r1
  have b0:=(hJ.cell (p:=⟨b,0,none⟩) hbl).trans b0;have b1:=(hJ.cell (p:=⟨b,1,none⟩) hbl).trans b1
  have d1:=(hJ.cell (p:=⟨ab,ao+1,none⟩) hab1).trans d1;have d2:=(hJ.cell (p:=⟨ab,ao+2,none⟩) hab1).trans d2
  have hiq:qq<15:=lt_of_some ho
  match qq,hiq,ho,hG,hli,hK with
  | 0,_,ho,hG,hli,hK=>
   obtain rfl:=sj ho
   clear hv hwas
   go_simp
   exact hK _ hJ
  | 1,_,ho,hG,hli,hK=>
   obtain rfl:=sj ho
   have x59:act.tmps[59]?.getD undef=.pointer (some ⟨rb,0,none⟩):=hv 0 59 rfl (bq28E hd rfl)
   clear hv hwas
   go_simp
   exact hK _ hJ
  | 2,_,ho,hG,hli,hK=>
   obtain rfl:=sj ho
   have x60:act.tmps[60]?.getD undef=.pointer (some ⟨rb,0,none⟩):=hv 1 60 rfl (bq28E hd rfl)
   clear hv hwas
   go_simp
   exact hK _ hJ
  | 3,_,ho,hG,hli,hK=>
   obtain rfl:=sj ho
   have x61:act.tmps[61]?.getD undef=.pointer (some ⟨rb,0,none⟩):=hv 2 61 rfl (bq28E hd rfl)
   clear hv hwas
   go_simp
   exact hK _ hJ
  | 4,_,ho,hG,hli,hK=>
   obtain rfl:=sj ho
   clear hv hwas
   go_simp
   exact hK _ hJ
  | 5,_,ho,hG,hli,hK=>
   obtain rfl:=sj ho
   clear hv hwas
   go_simp
   exact hK _ hJ
  | 6,_,ho,hG,hli,hK=>
   obtain rfl:=sj ho
   have x64:act.tmps[64]?.getD undef=.pointer (some ⟨ab,ao,none⟩):=hv 5 64 rfl (bq28E hd rfl)
   clear hv hwas
   go_simp
   exact hK _ hJ
  | 7,_,ho,hG,hli,hK=>
   obtain rfl:=sj ho
   have x65:act.tmps[65]?.getD undef=.pointer (some ⟨ab,ao,none⟩):=hv 6 65 rfl (bq28E hd rfl)
   clear hv hwas
   go_simp
   exact hK _ hJ
  | 8,_,ho,hG,hli,hK=>
   obtain rfl:=sj ho
   have x66:act.tmps[66]?.getD undef=.pointer (some ⟨ab,ao+1,none⟩):=hv 7 66 rfl (bq28E hd rfl)
   clear hv hwas
   go_simp
   exact hK _ hJ
  | 9,_,ho,hG,hli,hK=>
   obtain rfl:=sj ho
   have x62:act.tmps[62]?.getD undef=.agg #[.slice A l.length c,.slice Ag gens.length cg]:=hv 3 62 rfl (bq28E hd rfl)
   have x63:act.tmps[63]?.getD undef=.agg #[.int .i64 i,.int .i64 g]:=hv 4 63 rfl (bq28E hd rfl)
   have x67:act.tmps[67]?.getD undef=.int .i64 part:=hv 8 67 rfl (bq28E hd rfl)
   have hR:=(Hd.out.grow hJ).stRd (A:=A) (c:=c) (l:=l) (Ag:=Ag) (cg:=cg) (gens:=gens) (fun p hp=>by unfold rnE;simp [hp])
   clear hv hwas
   go_simp
   refine (hk.out w' hR).mono ?_
   rintro e w4 ⟨rfl,hb4⟩
   exact hK _ (hJ.trans (hb4.mono hJ.size))
  | 10,_,ho,hG,hli,hK=>
   obtain rfl:=sj ho
   have x68:act.tmps[68]?.getD undef=.tuple #[.int .i64 p1,.bool true]:=hv 9 68 rfl (bq28E hd rfl)
   clear hv hwas
   go_simp
   exact hK _ hJ
  | 11,_,ho,hG,hli,hK=>
   obtain rfl:=sj ho
   have x58:act.tmps[58]?.getD undef=.tuple #[.int .i64 p1,.bool true]:=hv 10 58 rfl (bq28E hd rfl)
   clear hv hwas
   go_simp
   exact hK _ hJ
  | 12,_,ho,hG,hli,hK=>
   obtain rfl:=sj ho
   have x58:act.tmps[58]?.getD undef=.tuple #[.int .i64 p1,.bool true]:=hv 10 58 rfl (bq28E hd rfl)
   clear hv hwas
   go_simp
   exact hK _ hJ
  | 13,_,ho,hG,hli,hK=>
   obtain rfl:=sj ho
   have x69:act.tmps[69]?.getD undef=.int .i64 p1:=hv 11 69 rfl (bq28E hd rfl)
   clear hv hwas
   go_simp
   exact hK _ hJ
  | 14,_,ho,hG,hli,hK=>
   obtain rfl:=sj ho
   have x70:act.tmps[70]?.getD undef=.bool true:=hv 12 70 rfl (bq28E hd rfl)
   clear hv hwas
   go_simp
   exact hK _ hJ
theorem ract2 (rb:Nat) (A:Option Addr) (c:Nat) (l:List TabIn) (Ag:Option Addr) (cg:Nat) (rows:List BRow) (gens:List Int) (err:Int) (hw:RightW rows gens) (hfit:l.map tabOf=tabsW rows) (i g part src n:Int) (ab ao:Nat) (w0 w:World) (E:List Ent) (h:Hp w0 w (rnE rb A c l Ag cg gens err E))
  (hab:ab<w0.heap.size) (hat:ActAt w0 ab ao ⟨2,part,src,n⟩) :
  Calls Tryz.prog 71 #[.pointer (some ⟨rb,0,none⟩),.agg #[.int .i64 i,.int .i64 g],.pointer (some ⟨ab,ao,none⟩)] w fun e w'=>e=.returned (.bool true)∧ActPost w0 w' rb E (keepE (⟨rows,gens⟩,err) (putV rows gens i g part (clip ((getP i g rows src).1)))):=by
 have hk:=Lib.hid (put_st hw hfit A c Ag cg i g part (clip ((getP i g rows src).1)))
 have hX:=Lib.hid (Eq.refl (putV rows gens i g part (clip ((getP i g rows src).1))))
 obtain ⟨X,hX2⟩:∃ X,X=putV rows gens i g part (clip ((getP i g rows src).1)):=⟨_,rfl⟩
 rw [← hX2] at hk ⊢
 clear hX hX2
 have bd0:=getP_bd hw i g src
 have H:=h.newL w.heap.size rfl 24 [.int .i64 i,.int .i64 g]
 have hst:=Lib.hid (rnE_rd h)
 have B0:Below w.heap.size w (w.alloc (.cells #[.int .i64 i,.int .i64 g] 24)):=(Below.refl _ _).alloc (Nat.le_refl _) _
 obtain ⟨c0,c1,c2,c3⟩:=hat.below h.bel hab
 have hab1:ab<w.heap.size:=Nat.lt_of_lt_of_le hab h.bel.size
 have Hh:=Lib.hid H;have Bh:=Lib.hid B0;have hfith:=Lib.hid hfit;have hwh:=Lib.hid hw
 dsimp only at c0 c1 c2 c3
 clear h hw hfit H B0
 go_enter Tryz.func71,Tryz.ntmps71
 go_upto_region 16 with fail
 obtain ⟨w1,hw1,Hh⟩:∃ w1,w.alloc (.cells #[.int .i64 i,.int .i64 g] 24)=w1∧Hid (Hp w0 w1 (bEnt w.heap.size i g::rnE rb A c l Ag cg gens err E)):=⟨_,rfl,Hh⟩
 rw [hw1]
 clear hw1 Bh c0 c1 c2 c3
 obtain ⟨b,hb⟩:∃ b,b=w.heap.size:=⟨_,rfl⟩
 rw [← hb] at Hh ⊢
 clear hb
 have Hd:Hid (Hp w0 w1.drew (bEnt b i g::rnE rb A c l Ag cg gens err E)):=Lib.hid Hh.out.drew
 have hg0:Hid (∀ W,Below w1.drew.heap.size w1.drew W→Calls Tryz.prog 108 #[.pointer (some ⟨rb,0,none⟩),.agg #[.int .i64 i,.int .i64 g],.int .i64 src] W fun e w'=>e=.returned (.int .i64 (getP i g rows src).1)∧Below W.heap.size W w'):=Lib.hid (fun W hW=>rnget_any rb A c l Ag cg rows gens err hwh.out hfith.out i g src w0 W (bEnt b i g::E) ((Hd.out.grow hW).perm (List.Perm.symm (rn_front rb A c l Ag cg gens err E b i g))))
 obtain ⟨p0,hp0⟩:∃ p,p=(getP i g rows src).1:=⟨_,rfl⟩
 rw [← hp0] at bd0 hk hg0
 clear hp0
 obtain ⟨nn,hnn⟩:∃ nn,nn=p0:=⟨_,rfl⟩
 rw [← hnn] at hk
 subst hnn
 have r0:=Hd.out.cell 1 0 rfl rfl;have r1:=Hd.out.cell 1 1 rfl rfl;have b0:=Hd.out.cell 0 0 rfl rfl;have b1:=Hd.out.cell 0 1 rfl rfl
 obtain ⟨d0,d1,d2,d3⟩:=hat.below Hd.out.bel hab
 dsimp only at d0 d1 d2 d3
 have hrb:=Hd.out.lt 1 rfl;have hbl:=Hd.out.lt 0 rfl
 replace hab1:ab<w1.drew.heap.size:=Nat.lt_of_lt_of_le hab Hd.out.bel.size
 clear d0 d3
 refine wp_region_kg mixed (by kernel_rfl) (by kernel_rfl) (fun _=>true) (tab [.pointer (some ⟨rb,0,none⟩),.agg #[.int .i64 i,.int .i64 g],.pointer (some ⟨ab,ao,none⟩),.pointer (some ⟨ab,ao,none⟩),.pointer (some ⟨ab,ao+2,none⟩),.int .i64 src,.int .i64 nn,.int .i64 nn]) (fun u wv=>Below w1.drew.heap.size w1.drew wv) ?_ ?_ ?_ ?_ ?_
 ·intro qq op ho
  have hiq:qq<8:=lt_of_some ho
  match qq,hiq,ho with
  | 0,_,ho | 1,_,ho | 2,_,ho | 3,_,ho | 4,_,ho | 5,_,ho | 6,_,ho | 7,_,ho=>
   obtain rfl:=sj ho
   rfl
 ·exact Below.refl _ _
 ·intro qq _ h;cases h
 ·intro w' l1 hJ hl
  rw [putAll_tab _ _ _ _ [(some 88,.pointer (some ⟨rb,0,none⟩)),(some 89,.agg #[.int .i64 i,.int .i64 g]),(some 90,.pointer (some ⟨ab,ao,none⟩)),(some 91,.pointer (some ⟨ab,ao,none⟩)),(some 92,.pointer (some ⟨ab,ao+2,none⟩)),(some 93,.int .i64 src),(some 94,.int .i64 nn),(some 7,.int .i64 nn)] rfl]
  simp only [putL_eq,putT,List.set_cons_succ,List.set_cons_zero]
  have Hd2:Hid (Hp w0 w'.drew (bEnt b i g::rnE rb A c l Ag cg gens err E)):=Lib.hid (Hd.out.grow hJ).drew
  clear hJ r0 r1 b0 b1 d1 d2 hrb hbl Hd Hh hab1 hst
  go_upto_region 21 with fail
  have Hd:=Hd2
  clear Hd2
  refine wp_region_mx mixed (by kernel_rfl) (by kernel_rfl) (fun q=>!(q==12) && !(q==13)) (tab [.pointer (some ⟨rb,0,none⟩),.pointer (some ⟨rb,0,none⟩),.pointer (some ⟨rb,0,none⟩),.pointer (some ⟨rb,0,none⟩),.agg #[.slice A l.length c,.slice Ag gens.length cg],.agg #[.int .i64 i,.int .i64 g],.pointer (some ⟨ab,ao,none⟩),.pointer (some ⟨ab,ao,none⟩),.pointer (some ⟨ab,ao+1,none⟩),.int .i64 part,.int .i64 nn,.int .i64 (clip nn),undef,undef,.int .i64 X.err,.tuple #[]]) (fun u vs w'=>J4 w0 (bEnt b i g::rnE rb A c l Ag cg gens err E) X (fun w'=>ActPost w0 w' rb E (keepE (⟨rows,gens⟩,err) X)) (u 12) (u 13) (u 15) (vs 12) (vs 13) w') ?_ ?_ ?_
  ·exact J4.start Hd.out
  ·intro vs w' l1 hJ hl
   rw [putAll_tab _ _ _ _ [(some 123,.pointer (some ⟨rb,0,none⟩)),(some 124,.pointer (some ⟨rb,0,none⟩)),(some 125,.pointer (some ⟨rb,0,none⟩)),(some 126,.pointer (some ⟨rb,0,none⟩)),(some 127,.agg #[.slice A l.length c,.slice Ag gens.length cg]),(some 128,.agg #[.int .i64 i,.int .i64 g]),(some 129,.pointer (some ⟨ab,ao,none⟩)),(some 130,.pointer (some ⟨ab,ao,none⟩)),(some 131,.pointer (some ⟨ab,ao+1,none⟩)),(some 132,.int .i64 part),(some 133,.int .i64 nn),(some 134,.int .i64 (clip nn)),(some 135,vs 12),(some 136,vs 13),(some 137,.int .i64 X.err),(some 138,.tuple #[])] rfl]
   simp only [putL_eq,putT,List.set_cons_succ,List.set_cons_zero]
   have hQ:=hJ.2.2 (hl 15 (by decide))
   clear hJ
   go_wp2_with fail
   go_ret
   exact ⟨rfl,hQ⟩
  ·intro qq op ho u vs act w' hJ hsh hli hd hv hwas K hK
   have hiq:qq<16:=lt_of_some ho
   have s0_:=hwas 0 rfl
   have s2_:=hwas 2 rfl
   have s4_:=hwas 4 rfl
   have s7_:=hwas 7 rfl
   simp at s0_ s2_ s4_ s7_
   match qq,hiq,ho,hli,hK with
   | 0,_,ho,hli,hK=>
    obtain rfl:=sj ho
    clear hv hwas
    go_simp
    exact hK _ _ (fun _=>rfl) hJ
   | 1,_,ho,hli,hK=>
    obtain rfl:=sj ho
    clear hv hwas
    go_simp
    exact hK _ _ (fun _=>rfl) hJ
   | 2,_,ho,hli,hK=>
    obtain rfl:=sj ho
    have x124:act.tmps[124]?.getD undef=.pointer (some ⟨rb,0,none⟩):=hv 1 124 rfl (bq28E hd rfl)
    clear hv hwas
    go_simp
    exact hK _ _ (fun _=>rfl) hJ
   | 3,_,ho,hli,hK=>
    obtain rfl:=sj ho
    have x125:act.tmps[125]?.getD undef=.pointer (some ⟨rb,0,none⟩):=hv 2 125 rfl (bq28E hd rfl)
    clear hv hwas
    go_simp
    exact hK _ _ (fun _=>rfl) hJ
   | 4,_,ho,hli,hK=>
    obtain rfl:=sj ho
    have x126:act.tmps[126]?.getD undef=.pointer (some ⟨rb,0,none⟩):=hv 3 126 rfl (bq28E hd rfl)
    have nc:=hsh.not (i:=12) (j:=4) (by rfl) hli
    have hp:=hJ.1 nc
    have r0:=hp.cell 1 0 rfl rfl;have r1:=hp.cell 1 1 rfl rfl
    clear hv hwas hp
    go_simp
    exact hK _ _ (fun _=>rfl) hJ
   | 5,_,ho,hli,hK=>
    obtain rfl:=sj ho
    have nc:=hsh.not (i:=12) (j:=5) (by rfl) hli
    have hp:=hJ.1 nc
    have b0:=hp.cell 0 0 rfl rfl;have b1:=hp.cell 0 1 rfl rfl
    clear hv hwas hp
    go_simp
    exact hK _ _ (fun _=>rfl) hJ
   | 6,_,ho,hli,hK=>
    obtain rfl:=sj ho
    clear hv hwas
    go_simp
    exact hK _ _ (fun _=>rfl) hJ
   | 7,_,ho,hli,hK=>
    obtain rfl:=sj ho
    have x129:act.tmps[129]?.getD undef=.pointer (some ⟨ab,ao,none⟩):=hv 6 129 rfl (bq28E hd rfl)
    clear hv hwas
    go_simp
    exact hK _ _ (fun _=>rfl) hJ
   | 8,_,ho,hli,hK=>
    obtain rfl:=sj ho
    have x130:act.tmps[130]?.getD undef=.pointer (some ⟨ab,ao,none⟩):=hv 7 130 rfl (bq28E hd rfl)
    clear hv hwas
    go_simp
    exact hK _ _ (fun _=>rfl) hJ
   | 9,_,ho,hli,hK=>
    obtain rfl:=sj ho
    have x131:act.tmps[131]?.getD undef=.pointer (some ⟨ab,ao+1,none⟩):=hv 8 131 rfl (bq28E hd rfl)
    have nc:=hsh.not (i:=12) (j:=9) (by rfl) hli
    have hp:=hJ.1 nc
    obtain ⟨c0,c1,c2,c3⟩:=hat.below hp.bel hab;dsimp only at c0 c1 c2 c3
    clear hv hwas hp
    go_simp
    exact hK _ _ (fun _=>rfl) hJ
   | 10,_,ho,hli,hK=>
    obtain rfl:=sj ho
    clear hv hwas
    go_simp
    exact hK _ _ (fun _=>rfl) hJ
   | 11,_,ho,hli,hK=>
    obtain rfl:=sj ho
    have x133:act.tmps[133]?.getD undef=.int .i64 nn:=hv 10 133 rfl (bq28E hd rfl)
    clear hv hwas
    go_simp
    refine (clip_any nn w').mono ?_
    rintro e w4 ⟨rfl,rfl⟩
    exact hK _ _ (fun _=>rfl) hJ
   | 12,_,ho,hli,hK=>
    obtain rfl:=sj ho
    have x127:act.tmps[127]?.getD undef=.agg #[.slice A l.length c,.slice Ag gens.length cg]:=hv 4 127 rfl (bq28E hd rfl)
    have x128:act.tmps[128]?.getD undef=.agg #[.int .i64 i,.int .i64 g]:=hv 5 128 rfl (bq28E hd rfl)
    have x132:act.tmps[132]?.getD undef=.int .i64 part:=hv 9 132 rfl (bq28E hd rfl)
    have x134:act.tmps[134]?.getD undef=.int .i64 (clip nn):=hv 11 134 rfl (bq28E hd rfl)
    have nx:=hsh.not (i:=13) (j:=12) (by rfl) hli
    have ns:=hsh.not (i:=15) (j:=13) (by rfl) nx
    have hp:=hJ.1 hli
    clear hv hwas
    go_simp
    refine (hk.out w' (hp.stRd (fun p hp=>by unfold rnE;simp [hp]))).mono ?_
    rintro e w4 ⟨A',c',l',Ag',cg',rfl,hl',hN⟩
    have H4:=hp.join hN
    refine hK _ _ (fun h=>by cases h) ⟨fun h=>by simp [upd] at h,fun _ _=>⟨A',c',l',Ag',cg',rfl,fun h=>?_,hl',H4⟩,fun h=>?_⟩
    ·simp [upd,nx] at h
    ·simp [upd,ns] at h
   | 13,_,ho,hli,hK=>
    obtain rfl:=sj ho
    have x135:act.tmps[135]?.getD undef=vs 12:=hv 12 135 rfl (bq28E hd rfl)
    have lc:u 12=true:=by simp [Region.binds] at hd;simp [hd]
    have ns:=hsh.not (i:=15) (j:=13) (by rfl) hli
    obtain ⟨A',c',l',Ag',cg',hvc,_,hl',H4⟩:=hJ.2.1 lc ns
    rw [hvc] at x135
    clear hv hwas
    go_simp
    refine hK _ _ (fun h=>by cases h) ⟨fun h=>by simp [upd,lc] at h,fun _ _=>⟨A',c',l',Ag',cg',hvc,fun _=>rfl,hl',H4⟩,fun h=>by simp [upd,ns] at h⟩
   | 14,_,ho,hli,hK=>
    obtain rfl:=sj ho
    have x135:act.tmps[135]?.getD undef=vs 12:=hv 12 135 rfl (bq28E hd rfl)
    have lc:u 12=true:=by simp [Region.binds] at hd;simp [hd]
    have ns:=hsh.not (i:=15) (j:=14) (by rfl) hli
    obtain ⟨A',c',l',Ag',cg',hvc,_,hl',H4⟩:=hJ.2.1 lc ns
    rw [hvc] at x135
    clear hv hwas
    go_simp
    exact hK _ _ (fun _=>rfl) hJ
   | 15,_,ho,hli,hK=>
    obtain rfl:=sj ho
    have x123:act.tmps[123]?.getD undef=.pointer (some ⟨rb,0,none⟩):=hv 0 123 rfl (bq28E hd rfl)
    have x136:act.tmps[136]?.getD undef=vs 13:=hv 13 136 rfl (bq28E hd rfl)
    have x137:act.tmps[137]?.getD undef=.int .i64 X.err:=hv 14 137 rfl (bq28E hd rfl)
    have lx:u 13=true:=by simp [Region.binds] at hd;simp [hd]
    have lc:u 12=true:=hsh 13 12 (by rfl) lx
    obtain ⟨A',c',l',Ag',cg',hvc,hvx,hl',H4⟩:=hJ.2.1 lc hli
    rw [hvx lx] at x136
    have H5:Hp w0 w' (rnBox rb A l.length c Ag gens.length cg err::bEnt b i g::((stE A c l Ag cg gens++E)++stE A' c' l' Ag' cg' X.gens)):=Hp.perm (E:=bEnt b i g::rnBox rb A l.length c Ag gens.length cg err::((stE A c l Ag cg gens++E)++stE A' c' l' Ag' cg' X.gens)) H4 (List.Perm.swap _ _ _)
    clear hv hwas H4
    go_simp
    refine (rnset_any rb A l.length c Ag gens.length cg A' l'.length c' Ag' X.gens.length cg' (.int .i64 err) X.err w0 w' _ H5).mono ?_
    rintro e w5 ⟨rfl,H6⟩
    refine hK _ _ (fun _=>rfl) ⟨fun h=>?_,fun _ h=>?_,fun _=>?_⟩
    ·simp [upd,lc] at h
    ·simp [upd] at h
    ·exact rn_close hfith.out hl' (H6.drop1 1)
 ·intro qq op ho hG u act w' hJ hli hd hv hwas K hK
  have e0:=hwas 0 rfl
  have e2:=hwas 2 rfl
  have e4:=hwas 4 rfl
  simp at e0 e2 e4
  have r0:=(hJ.cell (p:=⟨rb,0,none⟩) hrb).trans r0;have r1:=(hJ.cell (p:=⟨rb,1,none⟩) hrb).trans r1
  have b0:=(hJ.cell (p:=⟨b,0,none⟩) hbl).trans b0;have b1:=(hJ.cell (p:=⟨b,1,none⟩) hbl).trans b1
  have d1:=(hJ.cell (p:=⟨ab,ao+1,none⟩) hab1).trans d1;have d2:=(hJ.cell (p:=⟨ab,ao+2,none⟩) hab1).trans d2
  have hiq:qq<8:=lt_of_some ho
  match qq,hiq,ho,hG,hli,hK with
  | 0,_,ho,hG,hli,hK=>
   obtain rfl:=sj ho
   clear hv hwas
   go_simp
   exact hK _ hJ
  | 1,_,ho,hG,hli,hK=>
   obtain rfl:=sj ho
   clear hv hwas
   go_simp
   exact hK _ hJ
  | 2,_,ho,hG,hli,hK=>
   obtain rfl:=sj ho
   clear hv hwas
   go_simp
   exact hK _ hJ
  | 3,_,ho,hG,hli,hK=>
   obtain rfl:=sj ho
   have x90:act.tmps[90]?.getD undef=.pointer (some ⟨ab,ao,none⟩):=hv 2 90 rfl (bq28E hd rfl)
   clear hv hwas
   go_simp
   exact hK _ hJ
  | 4,_,ho,hG,hli,hK=>
   obtain rfl:=sj ho
   have x91:act.tmps[91]?.getD undef=.pointer (some ⟨ab,ao,none⟩):=hv 3 91 rfl (bq28E hd rfl)
   clear hv hwas
   go_simp
   exact hK _ hJ
  | 5,_,ho,hG,hli,hK=>
   obtain rfl:=sj ho
   have x92:act.tmps[92]?.getD undef=.pointer (some ⟨ab,ao+2,none⟩):=hv 4 92 rfl (bq28E hd rfl)
   clear hv hwas
   go_simp
   exact hK _ hJ
  | 6,_,ho,hG,hli,hK=>
   obtain rfl:=sj ho
   have x88:act.tmps[88]?.getD undef=.pointer (some ⟨rb,0,none⟩):=hv 0 88 rfl (bq28E hd rfl)
   have x89:act.tmps[89]?.getD undef=.agg #[.int .i64 i,.int .i64 g]:=hv 1 89 rfl (bq28E hd rfl)
   have x93:act.tmps[93]?.getD undef=.int .i64 src:=hv 5 93 rfl (bq28E hd rfl)
   clear hv hwas
   go_simp
   refine (hg0.out w' hJ).mono ?_
   rintro e w4 ⟨rfl,hb4⟩
   exact hK _ (hJ.trans (hb4.mono hJ.size))
  | 7,_,ho,hG,hli,hK=>
   obtain rfl:=sj ho
   have x94:act.tmps[94]?.getD undef=.int .i64 nn:=hv 6 94 rfl (bq28E hd rfl)
   clear hv hwas
   go_simp
   exact hK _ hJ
theorem ract3 (rb:Nat) (A:Option Addr) (c:Nat) (l:List TabIn) (Ag:Option Addr) (cg:Nat) (rows:List BRow) (gens:List Int) (err:Int) (hw:RightW rows gens) (hfit:l.map tabOf=tabsW rows) (i g part src n:Int) (ab ao:Nat) (w0 w:World) (E:List Ent) (h:Hp w0 w (rnE rb A c l Ag cg gens err E))
  (hab:ab<w0.heap.size) (hat:ActAt w0 ab ao ⟨3,part,src,n⟩) :
  Calls Tryz.prog 71 #[.pointer (some ⟨rb,0,none⟩),.agg #[.int .i64 i,.int .i64 g],.pointer (some ⟨ab,ao,none⟩)] w fun e w'=>e=.returned (.bool true)∧ActPost w0 w' rb E (keepE (⟨rows,gens⟩,err) (putV rows gens i g part (clip ((getP i g rows part).1+(getP i g rows src).1)))):=by
 have hk:=Lib.hid (put_st hw hfit A c Ag cg i g part (clip ((getP i g rows part).1+(getP i g rows src).1)))
 have hX:=Lib.hid (Eq.refl (putV rows gens i g part (clip ((getP i g rows part).1+(getP i g rows src).1))))
 obtain ⟨X,hX2⟩:∃ X,X=putV rows gens i g part (clip ((getP i g rows part).1+(getP i g rows src).1)):=⟨_,rfl⟩
 rw [← hX2] at hk ⊢
 clear hX hX2
 have bd0:=getP_bd hw i g part
 have bd1:=getP_bd hw i g src
 have H:=h.newL w.heap.size rfl 24 [.int .i64 i,.int .i64 g]
 have hst:=Lib.hid (rnE_rd h)
 have B0:Below w.heap.size w (w.alloc (.cells #[.int .i64 i,.int .i64 g] 24)):=(Below.refl _ _).alloc (Nat.le_refl _) _
 obtain ⟨c0,c1,c2,c3⟩:=hat.below h.bel hab
 have hab1:ab<w.heap.size:=Nat.lt_of_lt_of_le hab h.bel.size
 have Hh:=Lib.hid H;have Bh:=Lib.hid B0;have hfith:=Lib.hid hfit;have hwh:=Lib.hid hw
 dsimp only at c0 c1 c2 c3
 clear h hw hfit H B0
 go_enter Tryz.func71,Tryz.ntmps71
 go_upto_region 18 with fail
 obtain ⟨w1,hw1,Hh⟩:∃ w1,w.alloc (.cells #[.int .i64 i,.int .i64 g] 24)=w1∧Hid (Hp w0 w1 (bEnt w.heap.size i g::rnE rb A c l Ag cg gens err E)):=⟨_,rfl,Hh⟩
 rw [hw1]
 clear hw1 Bh c0 c1 c2 c3
 obtain ⟨b,hb⟩:∃ b,b=w.heap.size:=⟨_,rfl⟩
 rw [← hb] at Hh ⊢
 clear hb
 have Hd:Hid (Hp w0 w1.drew (bEnt b i g::rnE rb A c l Ag cg gens err E)):=Lib.hid Hh.out.drew
 have hg0:Hid (∀ W,Below w1.drew.heap.size w1.drew W→Calls Tryz.prog 108 #[.pointer (some ⟨rb,0,none⟩),.agg #[.int .i64 i,.int .i64 g],.int .i64 part] W fun e w'=>e=.returned (.int .i64 (getP i g rows part).1)∧Below W.heap.size W w'):=Lib.hid (fun W hW=>rnget_any rb A c l Ag cg rows gens err hwh.out hfith.out i g part w0 W (bEnt b i g::E) ((Hd.out.grow hW).perm (List.Perm.symm (rn_front rb A c l Ag cg gens err E b i g))))
 have hg1:Hid (∀ W,Below w1.drew.heap.size w1.drew W→Calls Tryz.prog 108 #[.pointer (some ⟨rb,0,none⟩),.agg #[.int .i64 i,.int .i64 g],.int .i64 src] W fun e w'=>e=.returned (.int .i64 (getP i g rows src).1)∧Below W.heap.size W w'):=Lib.hid (fun W hW=>rnget_any rb A c l Ag cg rows gens err hwh.out hfith.out i g src w0 W (bEnt b i g::E) ((Hd.out.grow hW).perm (List.Perm.symm (rn_front rb A c l Ag cg gens err E b i g))))
 obtain ⟨p0,hp0⟩:∃ p,p=(getP i g rows part).1:=⟨_,rfl⟩
 rw [← hp0] at bd0 hk hg0
 clear hp0
 obtain ⟨p1,hp1⟩:∃ p,p=(getP i g rows src).1:=⟨_,rfl⟩
 rw [← hp1] at bd1 hk hg1
 clear hp1
 obtain ⟨nn,hnn⟩:∃ nn,nn=p0+p1:=⟨_,rfl⟩
 have hsum:IntKind.i64.wrap (p0+p1)=nn:=by rw [hnn];exact IntWalk.i64_in _ (by omega)
 rw [← hnn] at hk
 clear hnn
 have r0:=Hd.out.cell 1 0 rfl rfl;have r1:=Hd.out.cell 1 1 rfl rfl;have b0:=Hd.out.cell 0 0 rfl rfl;have b1:=Hd.out.cell 0 1 rfl rfl
 obtain ⟨d0,d1,d2,d3⟩:=hat.below Hd.out.bel hab
 dsimp only at d0 d1 d2 d3
 have hrb:=Hd.out.lt 1 rfl;have hbl:=Hd.out.lt 0 rfl
 replace hab1:ab<w1.drew.heap.size:=Nat.lt_of_lt_of_le hab Hd.out.bel.size
 clear d0 d3
 refine wp_region_kg mixed (by kernel_rfl) (by kernel_rfl) (fun _=>true) (tab [.pointer (some ⟨rb,0,none⟩),.agg #[.int .i64 i,.int .i64 g],.pointer (some ⟨ab,ao,none⟩),.pointer (some ⟨ab,ao,none⟩),.pointer (some ⟨ab,ao+1,none⟩),.int .i64 part,.int .i64 p0,.pointer (some ⟨rb,0,none⟩),.agg #[.int .i64 i,.int .i64 g],.pointer (some ⟨ab,ao,none⟩),.pointer (some ⟨ab,ao,none⟩),.pointer (some ⟨ab,ao+2,none⟩),.int .i64 src,.int .i64 p1,.int .i64 nn,.int .i64 nn]) (fun u wv=>Below w1.drew.heap.size w1.drew wv) ?_ ?_ ?_ ?_ ?_
 ·intro qq op ho
  have hiq:qq<16:=lt_of_some ho
  match qq,hiq,ho with
  | 0,_,ho | 1,_,ho | 2,_,ho | 3,_,ho | 4,_,ho | 5,_,ho | 6,_,ho | 7,_,ho | 8,_,ho | 9,_,ho | 10,_,ho | 11,_,ho | 12,_,ho | 13,_,ho | 14,_,ho | 15,_,ho=>
   obtain rfl:=sj ho
   rfl
 ·exact Below.refl _ _
 ·intro qq _ h;cases h
 ·intro w' l1 hJ hl
  rw [putAll_tab _ _ _ _ [(some 97,.pointer (some ⟨rb,0,none⟩)),(some 98,.agg #[.int .i64 i,.int .i64 g]),(some 99,.pointer (some ⟨ab,ao,none⟩)),(some 100,.pointer (some ⟨ab,ao,none⟩)),(some 101,.pointer (some ⟨ab,ao+1,none⟩)),(some 102,.int .i64 part),(some 103,.int .i64 p0),(some 104,.pointer (some ⟨rb,0,none⟩)),(some 105,.agg #[.int .i64 i,.int .i64 g]),(some 106,.pointer (some ⟨ab,ao,none⟩)),(some 107,.pointer (some ⟨ab,ao,none⟩)),(some 108,.pointer (some ⟨ab,ao+2,none⟩)),(some 109,.int .i64 src),(some 110,.int .i64 p1),(some 111,.int .i64 nn),(some 7,.int .i64 nn)] rfl]
  simp only [putL_eq,putT,List.set_cons_succ,List.set_cons_zero]
  have Hd2:Hid (Hp w0 w'.drew (bEnt b i g::rnE rb A c l Ag cg gens err E)):=Lib.hid (Hd.out.grow hJ).drew
  clear hJ r0 r1 b0 b1 d1 d2 hrb hbl Hd Hh hab1 hst
  clear hsum
  go_upto_region 21 with fail
  have Hd:=Hd2
  clear Hd2
  refine wp_region_mx mixed (by kernel_rfl) (by kernel_rfl) (fun q=>!(q==12) && !(q==13)) (tab [.pointer (some ⟨rb,0,none⟩),.pointer (some ⟨rb,0,none⟩),.pointer (some ⟨rb,0,none⟩),.pointer (some ⟨rb,0,none⟩),.agg #[.slice A l.length c,.slice Ag gens.length cg],.agg #[.int .i64 i,.int .i64 g],.pointer (some ⟨ab,ao,none⟩),.pointer (some ⟨ab,ao,none⟩),.pointer (some ⟨ab,ao+1,none⟩),.int .i64 part,.int .i64 nn,.int .i64 (clip nn),undef,undef,.int .i64 X.err,.tuple #[]]) (fun u vs w'=>J4 w0 (bEnt b i g::rnE rb A c l Ag cg gens err E) X (fun w'=>ActPost w0 w' rb E (keepE (⟨rows,gens⟩,err) X)) (u 12) (u 13) (u 15) (vs 12) (vs 13) w') ?_ ?_ ?_
  ·exact J4.start Hd.out
  ·intro vs w' l1 hJ hl
   rw [putAll_tab _ _ _ _ [(some 123,.pointer (some ⟨rb,0,none⟩)),(some 124,.pointer (some ⟨rb,0,none⟩)),(some 125,.pointer (some ⟨rb,0,none⟩)),(some 126,.pointer (some ⟨rb,0,none⟩)),(some 127,.agg #[.slice A l.length c,.slice Ag gens.length cg]),(some 128,.agg #[.int .i64 i,.int .i64 g]),(some 129,.pointer (some ⟨ab,ao,none⟩)),(some 130,.pointer (some ⟨ab,ao,none⟩)),(some 131,.pointer (some ⟨ab,ao+1,none⟩)),(some 132,.int .i64 part),(some 133,.int .i64 nn),(some 134,.int .i64 (clip nn)),(some 135,vs 12),(some 136,vs 13),(some 137,.int .i64 X.err),(some 138,.tuple #[])] rfl]
   simp only [putL_eq,putT,List.set_cons_succ,List.set_cons_zero]
   have hQ:=hJ.2.2 (hl 15 (by decide))
   clear hJ
   go_wp2_with fail
   go_ret
   exact ⟨rfl,hQ⟩
  ·intro qq op ho u vs act w' hJ hsh hli hd hv hwas K hK
   have hiq:qq<16:=lt_of_some ho
   have s0_:=hwas 0 rfl
   have s2_:=hwas 2 rfl
   have s4_:=hwas 4 rfl
   have s7_:=hwas 7 rfl
   simp at s0_ s2_ s4_ s7_
   match qq,hiq,ho,hli,hK with
   | 0,_,ho,hli,hK=>
    obtain rfl:=sj ho
    clear hv hwas
    go_simp
    exact hK _ _ (fun _=>rfl) hJ
   | 1,_,ho,hli,hK=>
    obtain rfl:=sj ho
    clear hv hwas
    go_simp
    exact hK _ _ (fun _=>rfl) hJ
   | 2,_,ho,hli,hK=>
    obtain rfl:=sj ho
    have x124:act.tmps[124]?.getD undef=.pointer (some ⟨rb,0,none⟩):=hv 1 124 rfl (bq28E hd rfl)
    clear hv hwas
    go_simp
    exact hK _ _ (fun _=>rfl) hJ
   | 3,_,ho,hli,hK=>
    obtain rfl:=sj ho
    have x125:act.tmps[125]?.getD undef=.pointer (some ⟨rb,0,none⟩):=hv 2 125 rfl (bq28E hd rfl)
    clear hv hwas
    go_simp
    exact hK _ _ (fun _=>rfl) hJ
   | 4,_,ho,hli,hK=>
    obtain rfl:=sj ho
    have x126:act.tmps[126]?.getD undef=.pointer (some ⟨rb,0,none⟩):=hv 3 126 rfl (bq28E hd rfl)
    have nc:=hsh.not (i:=12) (j:=4) (by rfl) hli
    have hp:=hJ.1 nc
    have r0:=hp.cell 1 0 rfl rfl;have r1:=hp.cell 1 1 rfl rfl
    clear hv hwas hp
    go_simp
    exact hK _ _ (fun _=>rfl) hJ
   | 5,_,ho,hli,hK=>
    obtain rfl:=sj ho
    have nc:=hsh.not (i:=12) (j:=5) (by rfl) hli
    have hp:=hJ.1 nc
    have b0:=hp.cell 0 0 rfl rfl;have b1:=hp.cell 0 1 rfl rfl
    clear hv hwas hp
    go_simp
    exact hK _ _ (fun _=>rfl) hJ
   | 6,_,ho,hli,hK=>
    obtain rfl:=sj ho
    clear hv hwas
    go_simp
    exact hK _ _ (fun _=>rfl) hJ
   | 7,_,ho,hli,hK=>
    obtain rfl:=sj ho
    have x129:act.tmps[129]?.getD undef=.pointer (some ⟨ab,ao,none⟩):=hv 6 129 rfl (bq28E hd rfl)
    clear hv hwas
    go_simp
    exact hK _ _ (fun _=>rfl) hJ
   | 8,_,ho,hli,hK=>
    obtain rfl:=sj ho
    have x130:act.tmps[130]?.getD undef=.pointer (some ⟨ab,ao,none⟩):=hv 7 130 rfl (bq28E hd rfl)
    clear hv hwas
    go_simp
    exact hK _ _ (fun _=>rfl) hJ
   | 9,_,ho,hli,hK=>
    obtain rfl:=sj ho
    have x131:act.tmps[131]?.getD undef=.pointer (some ⟨ab,ao+1,none⟩):=hv 8 131 rfl (bq28E hd rfl)
    have nc:=hsh.not (i:=12) (j:=9) (by rfl) hli
    have hp:=hJ.1 nc
    obtain ⟨c0,c1,c2,c3⟩:=hat.below hp.bel hab;dsimp only at c0 c1 c2 c3
    clear hv hwas hp
    go_simp
    exact hK _ _ (fun _=>rfl) hJ
   | 10,_,ho,hli,hK=>
    obtain rfl:=sj ho
    clear hv hwas
    go_simp
    exact hK _ _ (fun _=>rfl) hJ
   | 11,_,ho,hli,hK=>
    obtain rfl:=sj ho
    have x133:act.tmps[133]?.getD undef=.int .i64 nn:=hv 10 133 rfl (bq28E hd rfl)
    clear hv hwas
    go_simp
    refine (clip_any nn w').mono ?_
    rintro e w4 ⟨rfl,rfl⟩
    exact hK _ _ (fun _=>rfl) hJ
   | 12,_,ho,hli,hK=>
    obtain rfl:=sj ho
    have x127:act.tmps[127]?.getD undef=.agg #[.slice A l.length c,.slice Ag gens.length cg]:=hv 4 127 rfl (bq28E hd rfl)
    have x128:act.tmps[128]?.getD undef=.agg #[.int .i64 i,.int .i64 g]:=hv 5 128 rfl (bq28E hd rfl)
    have x132:act.tmps[132]?.getD undef=.int .i64 part:=hv 9 132 rfl (bq28E hd rfl)
    have x134:act.tmps[134]?.getD undef=.int .i64 (clip nn):=hv 11 134 rfl (bq28E hd rfl)
    have nx:=hsh.not (i:=13) (j:=12) (by rfl) hli
    have ns:=hsh.not (i:=15) (j:=13) (by rfl) nx
    have hp:=hJ.1 hli
    clear hv hwas
    go_simp
    refine (hk.out w' (hp.stRd (fun p hp=>by unfold rnE;simp [hp]))).mono ?_
    rintro e w4 ⟨A',c',l',Ag',cg',rfl,hl',hN⟩
    have H4:=hp.join hN
    refine hK _ _ (fun h=>by cases h) ⟨fun h=>by simp [upd] at h,fun _ _=>⟨A',c',l',Ag',cg',rfl,fun h=>?_,hl',H4⟩,fun h=>?_⟩
    ·simp [upd,nx] at h
    ·simp [upd,ns] at h
   | 13,_,ho,hli,hK=>
    obtain rfl:=sj ho
    have x135:act.tmps[135]?.getD undef=vs 12:=hv 12 135 rfl (bq28E hd rfl)
    have lc:u 12=true:=by simp [Region.binds] at hd;simp [hd]
    have ns:=hsh.not (i:=15) (j:=13) (by rfl) hli
    obtain ⟨A',c',l',Ag',cg',hvc,_,hl',H4⟩:=hJ.2.1 lc ns
    rw [hvc] at x135
    clear hv hwas
    go_simp
    refine hK _ _ (fun h=>by cases h) ⟨fun h=>by simp [upd,lc] at h,fun _ _=>⟨A',c',l',Ag',cg',hvc,fun _=>rfl,hl',H4⟩,fun h=>by simp [upd,ns] at h⟩
   | 14,_,ho,hli,hK=>
    obtain rfl:=sj ho
    have x135:act.tmps[135]?.getD undef=vs 12:=hv 12 135 rfl (bq28E hd rfl)
    have lc:u 12=true:=by simp [Region.binds] at hd;simp [hd]
    have ns:=hsh.not (i:=15) (j:=14) (by rfl) hli
    obtain ⟨A',c',l',Ag',cg',hvc,_,hl',H4⟩:=hJ.2.1 lc ns
    rw [hvc] at x135
    clear hv hwas
    go_simp
    exact hK _ _ (fun _=>rfl) hJ
   | 15,_,ho,hli,hK=>
    obtain rfl:=sj ho
    have x123:act.tmps[123]?.getD undef=.pointer (some ⟨rb,0,none⟩):=hv 0 123 rfl (bq28E hd rfl)
    have x136:act.tmps[136]?.getD undef=vs 13:=hv 13 136 rfl (bq28E hd rfl)
    have x137:act.tmps[137]?.getD undef=.int .i64 X.err:=hv 14 137 rfl (bq28E hd rfl)
    have lx:u 13=true:=by simp [Region.binds] at hd;simp [hd]
    have lc:u 12=true:=hsh 13 12 (by rfl) lx
    obtain ⟨A',c',l',Ag',cg',hvc,hvx,hl',H4⟩:=hJ.2.1 lc hli
    rw [hvx lx] at x136
    have H5:Hp w0 w' (rnBox rb A l.length c Ag gens.length cg err::bEnt b i g::((stE A c l Ag cg gens++E)++stE A' c' l' Ag' cg' X.gens)):=Hp.perm (E:=bEnt b i g::rnBox rb A l.length c Ag gens.length cg err::((stE A c l Ag cg gens++E)++stE A' c' l' Ag' cg' X.gens)) H4 (List.Perm.swap _ _ _)
    clear hv hwas H4
    go_simp
    refine (rnset_any rb A l.length c Ag gens.length cg A' l'.length c' Ag' X.gens.length cg' (.int .i64 err) X.err w0 w' _ H5).mono ?_
    rintro e w5 ⟨rfl,H6⟩
    refine hK _ _ (fun _=>rfl) ⟨fun h=>?_,fun _ h=>?_,fun _=>?_⟩
    ·simp [upd,lc] at h
    ·simp [upd] at h
    ·exact rn_close hfith.out hl' (H6.drop1 1)
 ·intro qq op ho hG u act w' hJ hli hd hv hwas K hK
  have e0:=hwas 0 rfl
  have e2:=hwas 2 rfl
  have e4:=hwas 4 rfl
  simp at e0 e2 e4
  have r0:=(hJ.cell (p:=⟨rb,0,none⟩) hrb).trans r0;have r1:=(hJ.cell (p:=⟨rb,1,none⟩) hrb).trans r1
  have b0:=(hJ.cell (p:=⟨b,0,none⟩) hbl).trans b0;have b1:=(hJ.cell (p:=⟨b,1,none⟩) hbl).trans b1
  have d1:=(hJ.cell (p:=⟨ab,ao+1,none⟩) hab1).trans d1;have d2:=(hJ.cell (p:=⟨ab,ao+2,none⟩) hab1).trans d2
  have hiq:qq<16:=lt_of_some ho
  match qq,hiq,ho,hG,hli,hK with
  | 0,_,ho,hG,hli,hK=>
   obtain rfl:=sj ho
   clear hv hwas
   go_simp
   exact hK _ hJ
  | 1,_,ho,hG,hli,hK=>
   obtain rfl:=sj ho
   clear hv hwas
   go_simp
   exact hK _ hJ
  | 2,_,ho,hG,hli,hK=>
   obtain rfl:=sj ho
   clear hv hwas
   go_simp
   exact hK _ hJ
  | 3,_,ho,hG,hli,hK=>
   obtain rfl:=sj ho
   have x99:act.tmps[99]?.getD undef=.pointer (some ⟨ab,ao,none⟩):=hv 2 99 rfl (bq28E hd rfl)
   clear hv hwas
   go_simp
   exact hK _ hJ
  | 4,_,ho,hG,hli,hK=>
   obtain rfl:=sj ho
   have x100:act.tmps[100]?.getD undef=.pointer (some ⟨ab,ao,none⟩):=hv 3 100 rfl (bq28E hd rfl)
   clear hv hwas
   go_simp
   exact hK _ hJ
  | 5,_,ho,hG,hli,hK=>
   obtain rfl:=sj ho
   have x101:act.tmps[101]?.getD undef=.pointer (some ⟨ab,ao+1,none⟩):=hv 4 101 rfl (bq28E hd rfl)
   clear hv hwas
   go_simp
   exact hK _ hJ
  | 6,_,ho,hG,hli,hK=>
   obtain rfl:=sj ho
   have x97:act.tmps[97]?.getD undef=.pointer (some ⟨rb,0,none⟩):=hv 0 97 rfl (bq28E hd rfl)
   have x98:act.tmps[98]?.getD undef=.agg #[.int .i64 i,.int .i64 g]:=hv 1 98 rfl (bq28E hd rfl)
   have x102:act.tmps[102]?.getD undef=.int .i64 part:=hv 5 102 rfl (bq28E hd rfl)
   clear hv hwas
   go_simp
   refine (hg0.out w' hJ).mono ?_
   rintro e w4 ⟨rfl,hb4⟩
   exact hK _ (hJ.trans (hb4.mono hJ.size))
  | 7,_,ho,hG,hli,hK=>
   obtain rfl:=sj ho
   clear hv hwas
   go_simp
   exact hK _ hJ
  | 8,_,ho,hG,hli,hK=>
   obtain rfl:=sj ho
   clear hv hwas
   go_simp
   exact hK _ hJ
  | 9,_,ho,hG,hli,hK=>
   obtain rfl:=sj ho
   clear hv hwas
   go_simp
   exact hK _ hJ
  | 10,_,ho,hG,hli,hK=>
   obtain rfl:=sj ho
   have x106:act.tmps[106]?.getD undef=.pointer (some ⟨ab,ao,none⟩):=hv 9 106 rfl (bq28E hd rfl)
   clear hv hwas
   go_simp
   exact hK _ hJ
  | 11,_,ho,hG,hli,hK=>
   obtain rfl:=sj ho
   have x107:act.tmps[107]?.getD undef=.pointer (some ⟨ab,ao,none⟩):=hv 10 107 rfl (bq28E hd rfl)
   clear hv hwas
   go_simp
   exact hK _ hJ
  | 12,_,ho,hG,hli,hK=>
   obtain rfl:=sj ho
   have x108:act.tmps[108]?.getD undef=.pointer (some ⟨ab,ao+2,none⟩):=hv 11 108 rfl (bq28E hd rfl)
   clear hv hwas
   go_simp
   exact hK _ hJ
  | 13,_,ho,hG,hli,hK=>
   obtain rfl:=sj ho
   have x104:act.tmps[104]?.getD undef=.pointer (some ⟨rb,0,none⟩):=hv 7 104 rfl (bq28E hd rfl)
   have x105:act.tmps[105]?.getD undef=.agg #[.int .i64 i,.int .i64 g]:=hv 8 105 rfl (bq28E hd rfl)
   have x109:act.tmps[109]?.getD undef=.int .i64 src:=hv 12 109 rfl (bq28E hd rfl)
   clear hv hwas
   go_simp
   refine (hg1.out w' hJ).mono ?_
   rintro e w4 ⟨rfl,hb4⟩
   exact hK _ (hJ.trans (hb4.mono hJ.size))
  | 14,_,ho,hG,hli,hK=>
   obtain rfl:=sj ho
   have x103:act.tmps[103]?.getD undef=.int .i64 p0:=hv 6 103 rfl (bq28E hd rfl)
   have x110:act.tmps[110]?.getD undef=.int .i64 p1:=hv 13 110 rfl (bq28E hd rfl)
   clear hv hwas
   go_simp
   exact hK _ hJ
  | 15,_,ho,hG,hli,hK=>
   obtain rfl:=sj ho
   have x111:act.tmps[111]?.getD undef=.int .i64 nn:=hv 14 111 rfl (bq28E hd rfl)
   clear hv hwas
   go_simp
   exact hK _ hJ
theorem ract4 (rb:Nat) (A:Option Addr) (c:Nat) (l:List TabIn) (Ag:Option Addr) (cg:Nat) (rows:List BRow) (gens:List Int) (err:Int) (hw:RightW rows gens) (hfit:l.map tabOf=tabsW rows) (i g part src n:Int) (ab ao:Nat) (w0 w:World) (E:List Ent) (h:Hp w0 w (rnE rb A c l Ag cg gens err E))
  (hab:ab<w0.heap.size) (hat:ActAt w0 ab ao ⟨4,part,src,n⟩) (hn1:-1000000≤n) (hn2:n≤1000000) :
  Calls Tryz.prog 71 #[.pointer (some ⟨rb,0,none⟩),.agg #[.int .i64 i,.int .i64 g],.pointer (some ⟨ab,ao,none⟩)] w fun e w'=>e=.returned (.bool true)∧ActPost w0 w' rb E (keepE (⟨rows,gens⟩,err) (putV rows gens i g part (clip (n+(getP i g rows part).1)))):=by
 have hk:=Lib.hid (put_st hw hfit A c Ag cg i g part (clip (n+(getP i g rows part).1)))
 have hX:=Lib.hid (Eq.refl (putV rows gens i g part (clip (n+(getP i g rows part).1))))
 obtain ⟨X,hX2⟩:∃ X,X=putV rows gens i g part (clip (n+(getP i g rows part).1)):=⟨_,rfl⟩
 rw [← hX2] at hk ⊢
 clear hX hX2
 have bd0:=getP_bd hw i g part
 have H:=h.newL w.heap.size rfl 24 [.int .i64 i,.int .i64 g]
 have hst:=Lib.hid (rnE_rd h)
 have B0:Below w.heap.size w (w.alloc (.cells #[.int .i64 i,.int .i64 g] 24)):=(Below.refl _ _).alloc (Nat.le_refl _) _
 obtain ⟨c0,c1,c2,c3⟩:=hat.below h.bel hab
 have hab1:ab<w.heap.size:=Nat.lt_of_lt_of_le hab h.bel.size
 have Hh:=Lib.hid H;have Bh:=Lib.hid B0;have hfith:=Lib.hid hfit;have hwh:=Lib.hid hw
 dsimp only at c0 c1 c2 c3
 clear h hw hfit H B0
 go_enter Tryz.func71,Tryz.ntmps71
 go_upto_region 20 with fail
 obtain ⟨w1,hw1,Hh⟩:∃ w1,w.alloc (.cells #[.int .i64 i,.int .i64 g] 24)=w1∧Hid (Hp w0 w1 (bEnt w.heap.size i g::rnE rb A c l Ag cg gens err E)):=⟨_,rfl,Hh⟩
 rw [hw1]
 clear hw1 Bh c0 c1 c2 c3
 obtain ⟨b,hb⟩:∃ b,b=w.heap.size:=⟨_,rfl⟩
 rw [← hb] at Hh ⊢
 clear hb
 have Hd:Hid (Hp w0 w1.drew (bEnt b i g::rnE rb A c l Ag cg gens err E)):=Lib.hid Hh.out.drew
 have hg0:Hid (∀ W,Below w1.drew.heap.size w1.drew W→Calls Tryz.prog 108 #[.pointer (some ⟨rb,0,none⟩),.agg #[.int .i64 i,.int .i64 g],.int .i64 part] W fun e w'=>e=.returned (.int .i64 (getP i g rows part).1)∧Below W.heap.size W w'):=Lib.hid (fun W hW=>rnget_any rb A c l Ag cg rows gens err hwh.out hfith.out i g part w0 W (bEnt b i g::E) ((Hd.out.grow hW).perm (List.Perm.symm (rn_front rb A c l Ag cg gens err E b i g))))
 obtain ⟨p0,hp0⟩:∃ p,p=(getP i g rows part).1:=⟨_,rfl⟩
 rw [← hp0] at bd0 hk hg0
 clear hp0
 obtain ⟨nn,hnn⟩:∃ nn,nn=n+p0:=⟨_,rfl⟩
 have hsum:IntKind.i64.wrap (n+p0)=nn:=by rw [hnn];exact IntWalk.i64_in _ (by omega)
 rw [← hnn] at hk
 clear hnn
 have r0:=Hd.out.cell 1 0 rfl rfl;have r1:=Hd.out.cell 1 1 rfl rfl;have b0:=Hd.out.cell 0 0 rfl rfl;have b1:=Hd.out.cell 0 1 rfl rfl
 obtain ⟨d0,d1,d2,d3⟩:=hat.below Hd.out.bel hab
 dsimp only at d0 d1 d2 d3
 have hrb:=Hd.out.lt 1 rfl;have hbl:=Hd.out.lt 0 rfl
 replace hab1:ab<w1.drew.heap.size:=Nat.lt_of_lt_of_le hab Hd.out.bel.size
 clear d0 d3
 go_region_held3 (fun w'=>w'.cell? ⟨b,0,none⟩=some (.int .i64 i)∧w'.cell? ⟨b,1,none⟩=some (.int .i64 g)∧w'.cell? ⟨ab,ao+1,none⟩=some (.int .i64 part))
  (first | exact ⟨b0,b1,d1⟩ | go_keep)
  ((go_at_call 108;refine (hg0.out w1.drew (Below.refl _ _)).mono ?_;rintro e w' ⟨rfl,hJ⟩;have Hd2:Hid (Hp w0 w'.drew (bEnt b i g::rnE rb A c l Ag cg gens err E)):=Lib.hid (Hd.out.grow hJ).drew;have b0:=(hJ.cell (p:=⟨b,0,none⟩) hbl).trans b0;have b1:=(hJ.cell (p:=⟨b,1,none⟩) hbl).trans b1;have d1:=(hJ.cell (p:=⟨ab,ao+1,none⟩) hab1).trans d1))
 clear hJ r0 r1 b0 b1 d1 d2 hrb hbl Hd Hh hab1 hst
 clear hsum
 go_upto_region 21 with fail
 have Hd:=Hd2
 clear Hd2
 refine wp_region_mx mixed (by kernel_rfl) (by kernel_rfl) (fun q=>!(q==12) && !(q==13)) (tab [.pointer (some ⟨rb,0,none⟩),.pointer (some ⟨rb,0,none⟩),.pointer (some ⟨rb,0,none⟩),.pointer (some ⟨rb,0,none⟩),.agg #[.slice A l.length c,.slice Ag gens.length cg],.agg #[.int .i64 i,.int .i64 g],.pointer (some ⟨ab,ao,none⟩),.pointer (some ⟨ab,ao,none⟩),.pointer (some ⟨ab,ao+1,none⟩),.int .i64 part,.int .i64 nn,.int .i64 (clip nn),undef,undef,.int .i64 X.err,.tuple #[]]) (fun u vs w'=>J4 w0 (bEnt b i g::rnE rb A c l Ag cg gens err E) X (fun w'=>ActPost w0 w' rb E (keepE (⟨rows,gens⟩,err) X)) (u 12) (u 13) (u 15) (vs 12) (vs 13) w') ?_ ?_ ?_
 ·exact J4.start Hd.out
 ·intro vs w' l1 hJ hl
  rw [putAll_tab _ _ _ _ [(some 123,.pointer (some ⟨rb,0,none⟩)),(some 124,.pointer (some ⟨rb,0,none⟩)),(some 125,.pointer (some ⟨rb,0,none⟩)),(some 126,.pointer (some ⟨rb,0,none⟩)),(some 127,.agg #[.slice A l.length c,.slice Ag gens.length cg]),(some 128,.agg #[.int .i64 i,.int .i64 g]),(some 129,.pointer (some ⟨ab,ao,none⟩)),(some 130,.pointer (some ⟨ab,ao,none⟩)),(some 131,.pointer (some ⟨ab,ao+1,none⟩)),(some 132,.int .i64 part),(some 133,.int .i64 nn),(some 134,.int .i64 (clip nn)),(some 135,vs 12),(some 136,vs 13),(some 137,.int .i64 X.err),(some 138,.tuple #[])] rfl]
  simp only [putL_eq,putT,List.set_cons_succ,List.set_cons_zero]
  have hQ:=hJ.2.2 (hl 15 (by decide))
  clear hJ
  go_wp2_with fail
  go_ret
  exact ⟨rfl,hQ⟩
 ·intro qq op ho u vs act w' hJ hsh hli hd hv hwas K hK
  have hiq:qq<16:=lt_of_some ho
  have s0_:=hwas 0 rfl
  have s2_:=hwas 2 rfl
  have s4_:=hwas 4 rfl
  have s7_:=hwas 7 rfl
  simp at s0_ s2_ s4_ s7_
  match qq,hiq,ho,hli,hK with
  | 0,_,ho,hli,hK=>
   obtain rfl:=sj ho
   clear hv hwas
   go_simp
   exact hK _ _ (fun _=>rfl) hJ
  | 1,_,ho,hli,hK=>
   obtain rfl:=sj ho
   clear hv hwas
   go_simp
   exact hK _ _ (fun _=>rfl) hJ
  | 2,_,ho,hli,hK=>
   obtain rfl:=sj ho
   have x124:act.tmps[124]?.getD undef=.pointer (some ⟨rb,0,none⟩):=hv 1 124 rfl (bq28E hd rfl)
   clear hv hwas
   go_simp
   exact hK _ _ (fun _=>rfl) hJ
  | 3,_,ho,hli,hK=>
   obtain rfl:=sj ho
   have x125:act.tmps[125]?.getD undef=.pointer (some ⟨rb,0,none⟩):=hv 2 125 rfl (bq28E hd rfl)
   clear hv hwas
   go_simp
   exact hK _ _ (fun _=>rfl) hJ
  | 4,_,ho,hli,hK=>
   obtain rfl:=sj ho
   have x126:act.tmps[126]?.getD undef=.pointer (some ⟨rb,0,none⟩):=hv 3 126 rfl (bq28E hd rfl)
   have nc:=hsh.not (i:=12) (j:=4) (by rfl) hli
   have hp:=hJ.1 nc
   have r0:=hp.cell 1 0 rfl rfl;have r1:=hp.cell 1 1 rfl rfl
   clear hv hwas hp
   go_simp
   exact hK _ _ (fun _=>rfl) hJ
  | 5,_,ho,hli,hK=>
   obtain rfl:=sj ho
   have nc:=hsh.not (i:=12) (j:=5) (by rfl) hli
   have hp:=hJ.1 nc
   have b0:=hp.cell 0 0 rfl rfl;have b1:=hp.cell 0 1 rfl rfl
   clear hv hwas hp
   go_simp
   exact hK _ _ (fun _=>rfl) hJ
  | 6,_,ho,hli,hK=>
   obtain rfl:=sj ho
   clear hv hwas
   go_simp
   exact hK _ _ (fun _=>rfl) hJ
  | 7,_,ho,hli,hK=>
   obtain rfl:=sj ho
   have x129:act.tmps[129]?.getD undef=.pointer (some ⟨ab,ao,none⟩):=hv 6 129 rfl (bq28E hd rfl)
   clear hv hwas
   go_simp
   exact hK _ _ (fun _=>rfl) hJ
  | 8,_,ho,hli,hK=>
   obtain rfl:=sj ho
   have x130:act.tmps[130]?.getD undef=.pointer (some ⟨ab,ao,none⟩):=hv 7 130 rfl (bq28E hd rfl)
   clear hv hwas
   go_simp
   exact hK _ _ (fun _=>rfl) hJ
  | 9,_,ho,hli,hK=>
   obtain rfl:=sj ho
   have x131:act.tmps[131]?.getD undef=.pointer (some ⟨ab,ao+1,none⟩):=hv 8 131 rfl (bq28E hd rfl)
   have nc:=hsh.not (i:=12) (j:=9) (by rfl) hli
   have hp:=hJ.1 nc
   obtain ⟨c0,c1,c2,c3⟩:=hat.below hp.bel hab;dsimp only at c0 c1 c2 c3
   clear hv hwas hp
   go_simp
   exact hK _ _ (fun _=>rfl) hJ
  | 10,_,ho,hli,hK=>
   obtain rfl:=sj ho
   clear hv hwas
   go_simp
   exact hK _ _ (fun _=>rfl) hJ
  | 11,_,ho,hli,hK=>
   obtain rfl:=sj ho
   have x133:act.tmps[133]?.getD undef=.int .i64 nn:=hv 10 133 rfl (bq28E hd rfl)
   clear hv hwas
   go_simp
   refine (clip_any nn w').mono ?_
   rintro e w4 ⟨rfl,rfl⟩
   exact hK _ _ (fun _=>rfl) hJ
  | 12,_,ho,hli,hK=>
   obtain rfl:=sj ho
   have x127:act.tmps[127]?.getD undef=.agg #[.slice A l.length c,.slice Ag gens.length cg]:=hv 4 127 rfl (bq28E hd rfl)
   have x128:act.tmps[128]?.getD undef=.agg #[.int .i64 i,.int .i64 g]:=hv 5 128 rfl (bq28E hd rfl)
   have x132:act.tmps[132]?.getD undef=.int .i64 part:=hv 9 132 rfl (bq28E hd rfl)
   have x134:act.tmps[134]?.getD undef=.int .i64 (clip nn):=hv 11 134 rfl (bq28E hd rfl)
   have nx:=hsh.not (i:=13) (j:=12) (by rfl) hli
   have ns:=hsh.not (i:=15) (j:=13) (by rfl) nx
   have hp:=hJ.1 hli
   clear hv hwas
   go_simp
   refine (hk.out w' (hp.stRd (fun p hp=>by unfold rnE;simp [hp]))).mono ?_
   rintro e w4 ⟨A',c',l',Ag',cg',rfl,hl',hN⟩
   have H4:=hp.join hN
   refine hK _ _ (fun h=>by cases h) ⟨fun h=>by simp [upd] at h,fun _ _=>⟨A',c',l',Ag',cg',rfl,fun h=>?_,hl',H4⟩,fun h=>?_⟩
   ·simp [upd,nx] at h
   ·simp [upd,ns] at h
  | 13,_,ho,hli,hK=>
   obtain rfl:=sj ho
   have x135:act.tmps[135]?.getD undef=vs 12:=hv 12 135 rfl (bq28E hd rfl)
   have lc:u 12=true:=by simp [Region.binds] at hd;simp [hd]
   have ns:=hsh.not (i:=15) (j:=13) (by rfl) hli
   obtain ⟨A',c',l',Ag',cg',hvc,_,hl',H4⟩:=hJ.2.1 lc ns
   rw [hvc] at x135
   clear hv hwas
   go_simp
   refine hK _ _ (fun h=>by cases h) ⟨fun h=>by simp [upd,lc] at h,fun _ _=>⟨A',c',l',Ag',cg',hvc,fun _=>rfl,hl',H4⟩,fun h=>by simp [upd,ns] at h⟩
  | 14,_,ho,hli,hK=>
   obtain rfl:=sj ho
   have x135:act.tmps[135]?.getD undef=vs 12:=hv 12 135 rfl (bq28E hd rfl)
   have lc:u 12=true:=by simp [Region.binds] at hd;simp [hd]
   have ns:=hsh.not (i:=15) (j:=14) (by rfl) hli
   obtain ⟨A',c',l',Ag',cg',hvc,_,hl',H4⟩:=hJ.2.1 lc ns
   rw [hvc] at x135
   clear hv hwas
   go_simp
   exact hK _ _ (fun _=>rfl) hJ
  | 15,_,ho,hli,hK=>
   obtain rfl:=sj ho
   have x123:act.tmps[123]?.getD undef=.pointer (some ⟨rb,0,none⟩):=hv 0 123 rfl (bq28E hd rfl)
   have x136:act.tmps[136]?.getD undef=vs 13:=hv 13 136 rfl (bq28E hd rfl)
   have x137:act.tmps[137]?.getD undef=.int .i64 X.err:=hv 14 137 rfl (bq28E hd rfl)
   have lx:u 13=true:=by simp [Region.binds] at hd;simp [hd]
   have lc:u 12=true:=hsh 13 12 (by rfl) lx
   obtain ⟨A',c',l',Ag',cg',hvc,hvx,hl',H4⟩:=hJ.2.1 lc hli
   rw [hvx lx] at x136
   have H5:Hp w0 w' (rnBox rb A l.length c Ag gens.length cg err::bEnt b i g::((stE A c l Ag cg gens++E)++stE A' c' l' Ag' cg' X.gens)):=Hp.perm (E:=bEnt b i g::rnBox rb A l.length c Ag gens.length cg err::((stE A c l Ag cg gens++E)++stE A' c' l' Ag' cg' X.gens)) H4 (List.Perm.swap _ _ _)
   clear hv hwas H4
   go_simp
   refine (rnset_any rb A l.length c Ag gens.length cg A' l'.length c' Ag' X.gens.length cg' (.int .i64 err) X.err w0 w' _ H5).mono ?_
   rintro e w5 ⟨rfl,H6⟩
   refine hK _ _ (fun _=>rfl) ⟨fun h=>?_,fun _ h=>?_,fun _=>?_⟩
   ·simp [upd,lc] at h
   ·simp [upd] at h
   ·exact rn_close hfith.out hl' (H6.drop1 1)
end Go.Proofs.YtefdblaolmckmabGreat
