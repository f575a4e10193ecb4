/- Lemmas of the proof. -/
import Derived.Test.YtefdblaolmckmacGreatMBAppOpToBatB
import Derived.Test.YtefdblaolmckmacGreatMBConcatToHouD
import Derived.Test.YtefdblaolmckmacGreatMHouQ
import Derived.Test.YtefdblaolmckmacGreatMHouS
import Derived.Test.YtefdblaolmckmacGreatMBRunA7ToRunR
import Derived.Test.YtefdblaolmckmacGreatMBStoMToStoQ
set_option linter.unusedVariables false
set_option linter.unusedSimpArgs false
set_option maxRecDepth 100000
set_option maxHeartbeats 12800000
namespace Go.Proofs.YtefdblaolmckmacGreat
open Go.RowKit
open Brood
theorem ho_set {w0 w:World} {bh:Nat} {s:HIn} {h:BHouse} (his:HIs s h) {E:List Ent} {D:Changed} {A:Option Addr} {c:Nat} {l:List TabIn} {Ag:Option Addr} {cg:Nat} (hl:l.map tabOf=tabsW D.rows)
  (H:Hp w0 w (.box bh 81 (hsL D.err (.slice A l.length c) (.slice Ag D.gens.length cg) (.slice s.A s.l.length s.c) (.slice s.Ag s.gens.length s.cg) (.slice s.Am s.mods.length s.cm) (.slice s.As s.sys.length s.cs))::((sysE s::modE s::((stE s.A s.c s.l s.Ag s.cg s.gens++s.sys.map actE)++E))++stE A c l Ag cg D.gens))):∃ s',HIs s' (setW h D)∧Hp w0 w (hoE bh s'++E):=by
 unfold setW hsL at *
 by_cases he:D.err=0
 ·rw [if_pos he] at H ⊢
  exact ⟨{ s with A:=A,c:=c,l:=l,Ag:=Ag,cg:=cg,gens:=D.gens },⟨his.mods,his.sys,hl,rfl⟩,ho_turn H⟩
 ·rw [if_neg he] at H ⊢
  exact ⟨s,his,(show Hp w0 w ((hoE bh s++E)++stE A c l Ag cg D.gens) from H).sub (List.sublist_append_left _ _)⟩
theorem J7.done2 {w0 w':World} {P:List Ent} {xr:List BRow} {xg:List Int} {xi xg' xe:Int} {b12 b13 b14 b17 b18 b19 b20:Bool} {v12 v13 v14 v17 v18:Value} (h:J7 w0 P xr xg xi xg' xe b12 b13 b14 b17 b18 b19 b20 v12 v13 v14 v17 v18 w') (l12:b12=true) (l17:b17=true) (l18:b18=true) (l19:b19=true) (l20:b20=true) :
  ∃ g8 g9 A' c' l' Ag' cg',v17=.pointer (some ⟨g8,0,none⟩)∧v18=.pointer (some ⟨g9,0,none⟩)∧l'.map tabOf=tabsW xr ∧
  Hp w0 w' (.box g8 27 [.slice A' l'.length c',.slice Ag' xg.length cg']::.box g9 41 [.int .i64 xi,.int .i64 xg']::(P++stE A' c' l' Ag' cg' xg)):=by
 obtain ⟨g8,g9,A',c',l',Ag',cg',h⟩:=h
 subst l12 l17 l18 l19 l20
 exact ⟨g8,g9,A',c',l',Ag',cg',h.p8 rfl,h.p9 rfl,(h.q12 rfl).2,h.hp⟩
structure JDs (w0:World) (bh ga:Nat) (s:HIn) (E:List Ent) (D:Changed) (bC bE bS bT:Bool) (vC vE:Value) (w':World) (A:Option Addr) (c:Nat) (l:List TabIn) (Ag:Option Addr) (cg:Nat):Prop where
 qC:bC=true→vC=.tuple #[.agg #[.slice A l.length c,.slice Ag D.gens.length cg],.int .i64 D.err]∧l.map tabOf=tabsW D.rows
 qE:bC=true→bE=true→vE=.agg #[.slice A l.length c,.slice Ag D.gens.length cg]
 hp:Hp w0 w' (.box bh 81 (if bS then (hsL D.err (.slice A l.length c) (.slice Ag D.gens.length cg) (.slice s.A s.l.length s.c) (.slice s.Ag s.gens.length s.cg) (.slice s.Am s.mods.length s.cm) (.slice s.As s.sys.length s.cs)) else [.slice s.A s.l.length s.c,.slice s.Ag s.gens.length s.cg,.slice s.Am s.mods.length s.cm,.slice s.As s.sys.length s.cs])::.box ga 44 (if bT then [.int .i64 D.err,.int .i64 0,.int .i64 0,.slice none 0 0,.int .i64 0] else [.int .i64 0,.int .i64 0,.int .i64 0,.slice none 0 0,.int .i64 0])::((sysE s::modE s::((stE s.A s.c s.l s.Ag s.cg s.gens++s.sys.map actE)++E))++opC bC (stE A c l Ag cg D.gens)))
def JD (w0:World) (bh ga:Nat) (s:HIn) (E:List Ent) (D:Changed) (bC bE bS bT:Bool) (vC vE:Value) (w':World):Prop:=∃ A c l Ag cg,JDs w0 bh ga s E D bC bE bS bT vC vE w' A c l Ag cg
section
variable {w0 w' w4:World} {bh ga:Nat} {s:HIn} {E:List Ent} {D:Changed} {bC bE bS bT:Bool} {vC vE:Value}
theorem JD.start (h:Hp w0 w' (.box ga 44 [.int .i64 0,.int .i64 0,.int .i64 0,.slice none 0 0,.int .i64 0]::(hoE bh s++E))):JD w0 bh ga s E D false false false false vC vE w':=
 ⟨none,0,[],none,0,(fun h=>by cases h),(fun h=>by cases h),by
  have H:=h.perm (List.Perm.swap (.box bh 81 [.slice s.A s.l.length s.c,.slice s.Ag s.gens.length s.cg,.slice s.Am s.mods.length s.cm,.slice s.As s.sys.length s.cs]) _ (sysE s::modE s::((stE s.A s.c s.l s.Ag s.cg s.gens++s.sys.map actE)++E)))
  show Hp w0 w' (.box bh 81 [.slice s.A s.l.length s.c,.slice s.Ag s.gens.length s.cg,.slice s.Am s.mods.length s.cm,.slice s.As s.sys.length s.cs]::.box ga 44 [.int .i64 0,.int .i64 0,.int .i64 0,.slice none 0 0,.int .i64 0]::((sysE s::modE s::((stE s.A s.c s.l s.Ag s.cg s.gens++s.sys.map actE)++E))++[]))
  rw [List.append_nil]
  exact H⟩
theorem JD.bel (h:JD w0 bh ga s E D bC bE bS bT vC vE w'):Below w0.heap.size w0 w':=by
 obtain ⟨_,_,_,_,_,h⟩:=h
 exact h.hp.bel
theorem JD.house (h:JD w0 bh ga s E D bC bE bS bT vC vE w') (nS:bS=false):w'.cell? ⟨bh,0,none⟩=some (.slice s.A s.l.length s.c)∧w'.cell? ⟨bh,1,none⟩=some (.slice s.Ag s.gens.length s.cg):=by
 obtain ⟨_,_,_,_,_,h⟩:=h
 subst nS
 exact ⟨h.hp.cell 0 0 rfl rfl,h.hp.cell 0 1 rfl rfl⟩
theorem JD.st (h:JD w0 bh ga s E D bC bE bS bT vC vE w'):RdSt w' w'.heap.size ⟨s.A,s.c,s.l,s.Ag,s.cg,s.gens⟩:=by
 obtain ⟨_,_,_,_,_,h⟩:=h
 exact h.hp.stRd (fun p hp=>by simp [hp])
theorem JD.call (h:JD w0 bh ga s E D bC bE bS bT vC vE w') (nC:bC=false) (nE:bE=false) (nS:bS=false) (nT:bT=false) {A:Option Addr} {c:Nat} {l:List TabIn} {Ag:Option Addr} {cg:Nat} (hl:l.map tabOf=tabsW D.rows) (hN:Hp w' w4 (stE A c l Ag cg D.gens)) :
  JD w0 bh ga s E D true bE bS bT (.tuple #[.agg #[.slice A l.length c,.slice Ag D.gens.length cg],.int .i64 D.err]) vE w4:=by
 obtain ⟨_,_,_,_,_,h⟩:=h
 subst nC nE nS nT
 refine ⟨A,c,l,Ag,cg,fun _=>⟨rfl,hl⟩,(fun _ h=>by cases h),?_⟩
 have:=h.hp.join hN
 unfold opC at this ⊢
 simpa only [Bool.false_eq_true,if_false,if_true,List.append_nil,List.append_assoc,List.cons_append] using this
theorem JD.atC (h:JD w0 bh ga s E D bC bE bS bT vC vE w') (lC:bC=true):∃ v,vC=.tuple #[v,.int .i64 D.err]∧JD w0 bh ga s E D bC true bS bT vC v w':=by
 obtain ⟨A,c,l,Ag,cg,h⟩:=h
 exact ⟨_,(h.qC lC).1,A,c,l,Ag,cg,h.qC,fun _ _=>rfl,h.hp⟩
theorem JD.set_ (h:JD w0 bh ga s E D bC bE bS bT vC vE w') (lC:bC=true) (lE:bE=true) (nS:bS=false) (nT:bT=false):∃ (A:Option Addr) (c:Nat) (l:List TabIn) (Ag:Option Addr) (cg:Nat),vE=.agg #[.slice A l.length c,.slice Ag D.gens.length cg] ∧
  Hp w0 w' (.box bh 81 [.slice s.A s.l.length s.c,.slice s.Ag s.gens.length s.cg,.slice s.Am s.mods.length s.cm,.slice s.As s.sys.length s.cs]::.box ga 44 [.int .i64 0,.int .i64 0,.int .i64 0,.slice none 0 0,.int .i64 0]::((sysE s::modE s::((stE s.A s.c s.l s.Ag s.cg s.gens++s.sys.map actE)++E))++stE A c l Ag cg D.gens)) ∧
  ∀ w5,Hp w0 w5 (.box bh 81 (hsL D.err (.slice A l.length c) (.slice Ag D.gens.length cg) (.slice s.A s.l.length s.c) (.slice s.Ag s.gens.length s.cg) (.slice s.Am s.mods.length s.cm) (.slice s.As s.sys.length s.cs))::.box ga 44 [.int .i64 0,.int .i64 0,.int .i64 0,.slice none 0 0,.int .i64 0]::((sysE s::modE s::((stE s.A s.c s.l s.Ag s.cg s.gens++s.sys.map actE)++E))++stE A c l Ag cg D.gens))→JD w0 bh ga s E D bC bE true bT vC vE w5:=by
 obtain ⟨A,c,l,Ag,cg,h⟩:=h
 subst lC lE nS nT
 exact ⟨A,c,l,Ag,cg,h.qE rfl rfl,h.hp,fun w5 H5=>⟨A,c,l,Ag,cg,h.qC,h.qE,H5⟩⟩
theorem JD.put (h:JD w0 bh ga s E D bC bE bS bT vC vE w') (nT:bT=false) :
  (∀ i<5,w'.frozen? ⟨ga,i,none⟩=false)∧(w'.cell? ⟨ga,0,none⟩=some (.int .i64 0)∧w'.cell? ⟨ga,1,none⟩=some (.int .i64 0)∧w'.cell? ⟨ga,2,none⟩=some (.int .i64 0)∧w'.cell? ⟨ga,3,none⟩=some (.slice none 0 0)∧w'.cell? ⟨ga,4,none⟩=some (.int .i64 0)) ∧
  JD w0 bh ga s E D bC bE bS true vC vE (((((w'.setCell ⟨ga,0,none⟩ (.int .i64 D.err)).setCell ⟨ga,1,none⟩ (.int .i64 0)).setCell ⟨ga,2,none⟩ (.int .i64 0)).setCell ⟨ga,3,none⟩ (.slice none 0 0)).setCell ⟨ga,4,none⟩ (.int .i64 0)):=by
 obtain ⟨A,c,l,Ag,cg,h⟩:=h
 subst nT
 have H:=h.hp
 refine ⟨fun i _=>H.frozen 1 i rfl,⟨H.cell 1 0 rfl rfl,H.cell 1 1 rfl rfl,H.cell 1 2 rfl rfl,H.cell 1 3 rfl rfl,H.cell 1 4 rfl rfl⟩,A,c,l,Ag,cg,h.qC,h.qE,?_⟩
 exact ((((H.set 1 0 (.int .i64 D.err) rfl).set 1 1 (.int .i64 0) rfl).set 1 2 (.int .i64 0) rfl).set 1 3 (.slice none 0 0) rfl).set 1 4 (.int .i64 0) rfl
theorem JD.done (h:JD w0 bh ga s E D bC bE bS bT vC vE w') (lC:bC=true) (lS:bS=true) (lT:bT=true):∃ (A:Option Addr) (c:Nat) (l:List TabIn) (Ag:Option Addr) (cg:Nat),l.map tabOf=tabsW D.rows ∧
  Hp w0 w' (.box bh 81 (hsL D.err (.slice A l.length c) (.slice Ag D.gens.length cg) (.slice s.A s.l.length s.c) (.slice s.Ag s.gens.length s.cg) (.slice s.Am s.mods.length s.cm) (.slice s.As s.sys.length s.cs))::.box ga 44 [.int .i64 D.err,.int .i64 0,.int .i64 0,.slice none 0 0,.int .i64 0]::((sysE s::modE s::((stE s.A s.c s.l s.Ag s.cg s.gens++s.sys.map actE)++E))++stE A c l Ag cg D.gens)):=by
 obtain ⟨A,c,l,Ag,cg,h⟩:=h
 subst lC lS lT
 exact ⟨A,c,l,Ag,cg,(h.qC rfl).2,h.hp⟩
end
theorem hsys_ans (h:BHouse) (y:BSys):(hsysV h y).2.i=0∧(hsysV h y).2.g=0∧(hsysV h y).2.bs=[]:=by
 unfold hsysV
 split
 ·exact ⟨rfl,rfl,rfl⟩
 ·split
  ·exact ⟨rfl,rfl,rfl⟩
  ·split
   ·exact ⟨rfl,rfl,rfl⟩
   ·split<;>exact ⟨rfl,rfl,rfl⟩
theorem tick_ans (h:BHouse):(tickV h).2.i=0∧(tickV h).2.g=0∧(tickV h).2.bs=[]:=by
 unfold tickV
 split<;>exact ⟨rfl,rfl,rfl⟩
theorem ask_ans (h:BHouse) (d:BDo):(askV h d).i=0∧(askV h d).g=0:=by
 unfold askV
 split<;>exact ⟨rfl,rfl⟩
theorem hdo_any (mods0:List BMod) (bh:Nat) (s:HIn) (h:BHouse) (his:HIs s h) (hr:HouseR mods0 h) (x:DIn) (db od:Nat) (w0 w:World) (E:List Ent) (H:Hp w0 w (hoE bh s++E)) (hdb:db<w0.heap.size) (hd:DoAt w0 db od x) (hxn:x.A=none→x.c=0) (hx:RdAB w0 w0.heap.size x.A x.d.sys.acts) :
  Calls Tryz.prog 33 #[.pointer (some ⟨bh,0,none⟩),.pointer (some ⟨db,od,none⟩)] w fun e w'=>∃ s' A c,e=.returned (ansVal (doV h x.d).2.err (doV h x.d).2.i (doV h x.d).2.g A (doV h x.d).2.bs.length c (doV h x.d).2.n)∧HIs s' (doV h x.d).1∧Hp w0 w' (aoE A c (doV h x.d).2.bs::(hoE bh s'++E)):=by
 have hdh:=Lib.hid hd
 obtain ⟨c0,c1,c2,c3,c4,c5,c6,c7,c8,c9,c10,c11⟩:=hd
 have hsm:=Lib.hid (right_small (l:=s.l) (rows:=h.W.rows) (gens:=s.gens) (by rw [his.gens];exact hr.W) his.tabs)
 have hrw:Hid (RightW h.W.rows s.gens):=Lib.hid (by rw [his.gens];exact hr.W)
 have htabs:=Lib.hid his.tabs
 have H0:=H.newL w.heap.size rfl 44 [.int .i64 0,.int .i64 0,.int .i64 0,.slice none 0 0,.int .i64 0]
 have hH0:=Lib.hid H0
 clear H H0
 go_enter Tryz.func33,Tryz.ntmps33
 go_upto_region 1 with fail
 obtain ⟨w1,hw1,H0⟩:=hH0.out.name
 rw [hw1]
 obtain ⟨ga,hga⟩:∃ ga,ga=w.heap.size:=⟨_,rfl⟩
 rw [← hga] at H0 ⊢
 clear hw1 hH0 hga
 have b0:=(H0.bel.cell (p:=⟨db,od,none⟩) hdb).trans c0
 have hH0:=Lib.hid H0
 clear H0
 by_cases k1:x.d.kind=1
 ·rw [k1] at b0
  have hE:Hid (doV h x.d=(setW h (stepK h x.d 0),⟨(stepK h x.d 0).err,(spawnV h.W.rows h.W.gens x.d.has x.d.n).i,(spawnV h.W.rows h.W.gens x.d.has x.d.n).g,[],0⟩)):=Lib.hid (by unfold doV;rw [if_pos k1])
  clear k1
  have hD:stepK h x.d 0=⟨(spawnV h.W.rows h.W.gens x.d.has x.d.n).rows,(spawnV h.W.rows h.W.gens x.d.has x.d.n).gens,(spawnV h.W.rows h.W.gens x.d.has x.d.n).err⟩:=rfl
  have hcall:Hid (∀ w',RdSt w' w'.heap.size ⟨s.A,s.c,s.l,s.Ag,s.cg,s.gens⟩→Calls Tryz.prog 55 #[.agg #[.slice s.A s.l.length s.c,.slice s.Ag s.gens.length s.cg],.int .i64 x.d.has,.int .i64 x.d.n] w' fun e w''=>∃ v,e=.returned (.tuple #[v,.agg #[.int .i64 (spawnV h.W.rows h.W.gens x.d.has x.d.n).i,.int .i64 (spawnV h.W.rows h.W.gens x.d.has x.d.n).g],.int .i64 (spawnV h.W.rows h.W.gens x.d.has x.d.n).err])∧GotSt w' w'' v (tabsW (spawnV h.W.rows h.W.gens x.d.has x.d.n).rows) (spawnV h.W.rows h.W.gens x.d.has x.d.n).gens):=Lib.hid (fun w' hR=>by
   have h0:=sspawn_any s.l s.A s.c s.gens s.Ag s.cg x.d.has x.d.n hsm.out w' hR
   rw [htabs.out,spawnT_right hrw.out] at h0
   rw [← his.gens]
   exact h0)
  rw [hD] at hE
  generalize spawnV h.W.rows h.W.gens x.d.has x.d.n=X at *
  obtain ⟨xr,xg,xi,xg',xe⟩:=X
  dsimp only at hE hcall
  clear hD
  go_upto_region 3 with fail
  clear b0
  go_cut [5,6,7] (fun s5 s6 s7 wx=>∃ (g8 g9:Nat) (A':Option Addr) (c':Nat) (l':List TabIn) (Ag':Option Addr) (cg':Nat),s5=.pointer (some ⟨g8,0,none⟩)∧s6=.pointer (some ⟨g9,0,none⟩)∧s7=.int .i64 xe∧l'.map tabOf=tabsW xr ∧
   Hp w0 wx (.box g8 27 [.slice A' l'.length c',.slice Ag' xg.length cg']::.box g9 41 [.int .i64 xi,.int .i64 xg']::((.box ga 44 [.int .i64 0,.int .i64 0,.int .i64 0,.slice none 0 0,.int .i64 0]::(hoE bh s++E))++stE A' c' l' Ag' cg' xg)))
  case first=>
   refine wp_region_mx mixed (by kernel_rfl) (by kernel_rfl) (fun q=>!(q==13) && !(q==14) && !(q==15) && !(q==18) && !(q==19)) (tab [.pointer (some ⟨bh,0,none⟩),.pointer (some ⟨bh,0,none⟩),.pointer (some ⟨bh,0,none⟩),.pointer (some ⟨bh,0,none⟩),.agg #[.slice s.A s.l.length s.c,.slice s.Ag s.gens.length s.cg],.pointer (some ⟨db,od,none⟩),.pointer (some ⟨db,od,none⟩),.pointer (some ⟨db,od+1,none⟩),.int .i64 x.d.has,.pointer (some ⟨db,od,none⟩),.pointer (some ⟨db,od,none⟩),.pointer (some ⟨db,od+3,none⟩),.int .i64 x.d.n,undef,undef,undef,.agg #[.int .i64 xi,.int .i64 xg'],.int .i64 xe,undef,undef,undef,undef,.int .i64 xe]) (fun u vs w'=>J7 w0 (.box ga 44 [.int .i64 0,.int .i64 0,.int .i64 0,.slice none 0 0,.int .i64 0]::(hoE bh s++E)) xr xg xi xg' xe (u 13) (u 14) (u 15) (u 18) (u 19) (u 20) (u 21) (vs 13) (vs 14) (vs 15) (vs 18) (vs 19) w') ?_ ?_ ?_
   ·exact J7.start hH0.out.drew
   ·intro vs w' l1 hJ hl
    rw [putAll_tab _ _ _ _ [(some 16,.pointer (some ⟨bh,0,none⟩)),(some 17,.pointer (some ⟨bh,0,none⟩)),(some 18,.pointer (some ⟨bh,0,none⟩)),(some 19,.pointer (some ⟨bh,0,none⟩)),(some 20,.agg #[.slice s.A s.l.length s.c,.slice s.Ag s.gens.length s.cg]),(some 21,.pointer (some ⟨db,od,none⟩)),(some 22,.pointer (some ⟨db,od,none⟩)),(some 23,.pointer (some ⟨db,od+1,none⟩)),(some 24,.int .i64 x.d.has),(some 25,.pointer (some ⟨db,od,none⟩)),(some 26,.pointer (some ⟨db,od,none⟩)),(some 27,.pointer (some ⟨db,od+3,none⟩)),(some 28,.int .i64 x.d.n),(some 29,vs 13),(some 15,vs 14),(some 30,vs 15),(some 31,.agg #[.int .i64 xi,.int .i64 xg']),(some 32,.int .i64 xe),(some 5,vs 18),(some 6,vs 19),(none,undef),(none,undef),(some 7,.int .i64 xe)] rfl]
    simp only [putL_eq,putT,List.set_cons_succ,List.set_cons_zero]
    obtain ⟨g8,g9,A',c',l',Ag',cg',hv18,hv19,hl',HQ⟩:=J7.done2 hJ (hl 13 (by decide)) (hl 18 (by decide)) (hl 19 (by decide)) (hl 20 (by decide)) (hl 21 (by decide))
    rw [hv18,hv19]
    have hQh:=Lib.hid HQ;have hl2:=Lib.hid hl'
    clear hJ hl hv18 hv19 HQ hl'
    go_wp2_with fail
    go_meet
    exact ⟨g8,g9,A',c',l',Ag',cg',rfl,rfl,rfl,hl2.out,hQh.out⟩
   ·intro qq op ho u vs act w' hJ hsh hli hd hv hwas K hK
    have hiq:qq<23:=lt_of_some ho
    have s0_:=hwas 0 rfl
    have s1_:=hwas 1 rfl
    simp at s0_ s1_
    match qq,hiq,ho,hli,hK with
    | 0,_,ho,hli,hK=>
     obtain rfl:=sj ho
     clear hv hwas
     go_simp
     exact hK _ _ (fun _=>rfl) hJ
    | 1,_,ho,hli,hK=>
     obtain rfl:=sj ho
     have x16:act.tmps[16]?.getD undef=.pointer (some ⟨bh,0,none⟩):=hv 0 16 rfl (rb hd rfl)
     clear hv hwas
     go_simp
     exact hK _ _ (fun _=>rfl) hJ
    | 2,_,ho,hli,hK=>
     obtain rfl:=sj ho
     have x17:act.tmps[17]?.getD undef=.pointer (some ⟨bh,0,none⟩):=hv 1 17 rfl (rb hd rfl)
     clear hv hwas
     go_simp
     exact hK _ _ (fun _=>rfl) hJ
    | 3,_,ho,hli,hK=>
     obtain rfl:=sj ho
     have x18:act.tmps[18]?.getD undef=.pointer (some ⟨bh,0,none⟩):=hv 2 18 rfl (rb hd rfl)
     clear hv hwas
     go_simp
     exact hK _ _ (fun _=>rfl) hJ
    | 4,_,ho,hli,hK=>
     obtain rfl:=sj ho
     have x19:act.tmps[19]?.getD undef=.pointer (some ⟨bh,0,none⟩):=hv 3 19 rfl (rb hd rfl)
     have hB:=hJ.mem (s.box bh) (by unfold hoE;simp)
     have r0:=hB.2.cell 0;have r1:=hB.2.cell 1
     simp only [List.getElem?_toArray,List.getElem?_cons_zero,List.getElem?_cons_succ] at r0 r1
     clear hB
     clear hv hwas
     go_simp
     exact hK _ _ (fun _=>rfl) hJ
    | 5,_,ho,hli,hK=>
     obtain rfl:=sj ho
     clear hv hwas
     go_simp
     exact hK _ _ (fun _=>rfl) hJ
    | 6,_,ho,hli,hK=>
     obtain rfl:=sj ho
     have x21:act.tmps[21]?.getD undef=.pointer (some ⟨db,od,none⟩):=hv 5 21 rfl (rb hd rfl)
     clear hv hwas
     go_simp
     exact hK _ _ (fun _=>rfl) hJ
    | 7,_,ho,hli,hK=>
     obtain rfl:=sj ho
     have x22:act.tmps[22]?.getD undef=.pointer (some ⟨db,od,none⟩):=hv 6 22 rfl (rb hd rfl)
     clear hv hwas
     go_simp
     exact hK _ _ (fun _=>rfl) hJ
    | 8,_,ho,hli,hK=>
     obtain rfl:=sj ho
     have x23:act.tmps[23]?.getD undef=.pointer (some ⟨db,od+1,none⟩):=hv 7 23 rfl (rb hd rfl)
     have b4:=(hJ.bel.cell (p:=⟨db,od+1,none⟩) hdb).trans c1
     clear hv hwas
     go_simp
     exact hK _ _ (fun _=>rfl) hJ
    | 9,_,ho,hli,hK=>
     obtain rfl:=sj ho
     clear hv hwas
     go_simp
     exact hK _ _ (fun _=>rfl) hJ
    | 10,_,ho,hli,hK=>
     obtain rfl:=sj ho
     have x25:act.tmps[25]?.getD undef=.pointer (some ⟨db,od,none⟩):=hv 9 25 rfl (rb hd rfl)
     clear hv hwas
     go_simp
     exact hK _ _ (fun _=>rfl) hJ
    | 11,_,ho,hli,hK=>
     obtain rfl:=sj ho
     have x26:act.tmps[26]?.getD undef=.pointer (some ⟨db,od,none⟩):=hv 10 26 rfl (rb hd rfl)
     clear hv hwas
     go_simp
     exact hK _ _ (fun _=>rfl) hJ
    | 12,_,ho,hli,hK=>
     obtain rfl:=sj ho
     have x27:act.tmps[27]?.getD undef=.pointer (some ⟨db,od+3,none⟩):=hv 11 27 rfl (rb hd rfl)
     have b4:=(hJ.bel.cell (p:=⟨db,od+3,none⟩) hdb).trans c3
     clear hv hwas
     go_simp
     exact hK _ _ (fun _=>rfl) hJ
    | 13,_,ho,hli,hK=>
     obtain rfl:=sj ho
     have x20:act.tmps[20]?.getD undef=.agg #[.slice s.A s.l.length s.c,.slice s.Ag s.gens.length s.cg]:=hv 4 20 rfl (rb hd rfl)
     have x24:act.tmps[24]?.getD undef=.int .i64 x.d.has:=hv 8 24 rfl (rb hd rfl)
     have x28:act.tmps[28]?.getD undef=.int .i64 x.d.n:=hv 12 28 rfl (rb hd rfl)
     have n14:=hsh.not (i:=14) (j:=13) (by rfl) hli
     have n15:=hsh.not (i:=15) (j:=14) (by rfl) n14
     have n16:=hsh.not (i:=16) (j:=14) (by rfl) n14
     have n20:=hsh.not (i:=20) (j:=15) (by rfl) n15
     have n21:=hsh.not (i:=21) (j:=16) (by rfl) n16
     have hR:=hJ.rd (A:=s.A) (c:=s.c) (l:=s.l) (Ag:=s.Ag) (cg:=s.cg) (gens:=s.gens) (fun p hp=>by unfold hoE;simp [hp])
     clear hv hwas
     go_simp
     refine (hcall.out w' hR).mono ?_
     rintro e w4 ⟨v,rfl,A',c',l',Ag',cg',rfl,hl',hN⟩
     exact hK _ _ (fun h=>by cases h) (J7.call hJ hli n14 n15 n20 n21 hl' hN)
    | 14,_,ho,hli,hK=>
     obtain rfl:=sj ho
     have x29:act.tmps[29]?.getD undef=vs 13:=hv 13 29 rfl (rb hd rfl)
     have l13:u 13=true:=by simp [Region.binds] at hd;simp [hd]
     clear hv hwas
     go_simp
     exact hK _ _ (fun h=>by cases h) (J7.move hJ l13 hli)
    | 15,_,ho,hli,hK=>
     obtain rfl:=sj ho
     have x15:act.tmps[15]?.getD undef=vs 14:=hv 14 15 rfl (rb hd rfl)
     have l14:u 14=true:=by simp [Region.binds] at hd;simp [hd]
     have l13:u 13=true:=hsh 14 13 (by rfl) l14
     obtain ⟨A',c',l',Ag',cg',hv13,g8,g9,hJs⟩:=J7.at13 hJ l13 l14
     rw [hv13] at x15
     clear hv hwas
     go_simp
     exact hK _ _ (fun h=>by cases h) (J7.ext hJs)
    | 16,_,ho,hli,hK=>
     obtain rfl:=sj ho
     have x15:act.tmps[15]?.getD undef=vs 14:=hv 14 15 rfl (rb hd rfl)
     have l14:u 14=true:=by simp [Region.binds] at hd;simp [hd]
     have l13:u 13=true:=hsh 14 13 (by rfl) l14
     obtain ⟨A',c',l',Ag',cg',hv13,_⟩:=J7.at13 hJ l13 l14
     rw [hv13] at x15
     clear hv hwas
     go_simp
     exact hK _ _ (fun _=>rfl) hJ
    | 17,_,ho,hli,hK=>
     obtain rfl:=sj ho
     have x15:act.tmps[15]?.getD undef=vs 14:=hv 14 15 rfl (rb hd rfl)
     have l14:u 14=true:=by simp [Region.binds] at hd;simp [hd]
     have l13:u 13=true:=hsh 14 13 (by rfl) l14
     obtain ⟨A',c',l',Ag',cg',hv13,_⟩:=J7.at13 hJ l13 l14
     rw [hv13] at x15
     clear hv hwas
     go_simp
     exact hK _ _ (fun _=>rfl) hJ
    | 18,_,ho,hli,hK=>
     obtain rfl:=sj ho
     have nx:=hsh.not (i:=20) (j:=18) (by rfl) hli
     clear hv hwas
     go_simp
     exact hK _ _ (fun h=>by cases h) (J7.al17 hJ hli nx)
    | 19,_,ho,hli,hK=>
     obtain rfl:=sj ho
     have nx:=hsh.not (i:=21) (j:=19) (by rfl) hli
     clear hv hwas
     go_simp
     exact hK _ _ (fun h=>by cases h) (J7.al18 hJ hli nx)
    | 20,_,ho,hli,hK=>
     obtain rfl:=sj ho
     have x5:act.tmps[5]?.getD undef=vs 18:=hv 18 5 rfl (rb hd rfl)
     have x30:act.tmps[30]?.getD undef=vs 15:=hv 15 30 rfl (rb hd rfl)
     have l18:u 18=true:=by simp [Region.binds] at hd;simp [hd]
     have l15:u 15=true:=by simp [Region.binds] at hd;simp [hd]
     have l14:u 14=true:=hsh 15 14 (by rfl) l15
     have l13:u 13=true:=hsh 14 13 (by rfl) l14
     obtain ⟨g8,A',c',l',Ag',cg',hv18,hv15,y0,y1,z0,z1,hQ⟩:=J7.st19 hJ l18 l15 l13 hli
     rw [hv18] at x5;rw [hv15] at x30
     clear hv hwas
     go_simp
     exact hK _ _ (fun _=>rfl) hQ
    | 21,_,ho,hli,hK=>
     obtain rfl:=sj ho
     have x6:act.tmps[6]?.getD undef=vs 19:=hv 19 6 rfl (rb hd rfl)
     have x31:act.tmps[31]?.getD undef=.agg #[.int .i64 xi,.int .i64 xg']:=hv 16 31 rfl (rb hd rfl)
     have l19:u 19=true:=by simp [Region.binds] at hd;simp [hd]
     obtain ⟨g9,hv19,y0,y1,z0,z1,hQ⟩:=J7.st20 hJ l19 hli
     rw [hv19] at x6
     clear hv hwas
     go_simp
     exact hK _ _ (fun _=>rfl) hQ
    | 22,_,ho,hli,hK=>
     obtain rfl:=sj ho
     have x32:act.tmps[32]?.getD undef=.int .i64 xe:=hv 17 32 rfl (rb hd rfl)
     clear hv hwas
     go_simp
     exact hK _ _ (fun _=>rfl) hJ
  case rest=>
  obtain ⟨g8,g9,A,c,l',Ag,cg,rfl,rfl,rfl,hl',H1⟩:=hcut
  have hl2:=Lib.hid hl'
  have H2:Hp w0 wc (.box bh 81 [.slice s.A s.l.length s.c,.slice s.Ag s.gens.length s.cg,.slice s.Am s.mods.length s.cm,.slice s.As s.sys.length s.cs]::.box g8 27 [.slice A l'.length c,.slice Ag xg.length cg]::.box g9 41 [.int .i64 xi,.int .i64 xg']::.box ga 44 [.int .i64 0,.int .i64 0,.int .i64 0,.slice none 0 0,.int .i64 0]::((sysE s::modE s::((stE s.A s.c s.l s.Ag s.cg s.gens++s.sys.map actE)++E))++stE A c l' Ag cg xg)):=H1.perm (List.perm_append_comm_assoc [_,_,_] [_] _)
  obtain ⟨w3,hw3⟩:∃ w3,w3=wc:=⟨_,rfl⟩
  rw [← hw3] at H2 ⊢
  have y0:=H2.cell 1 0 rfl rfl;have y1:=H2.cell 1 1 rfl rfl
  have hset:=Lib.hid (hset_any bh s.A s.l.length s.c s.Ag s.gens.length s.cg A l'.length c Ag xg.length cg (.slice s.Am s.mods.length s.cm) (.slice s.As s.sys.length s.cs) xe w0 w3 _ H2)
  clear hw3 H1 hl' hH0 H2
  go_wp2_with fail
  refine hset.out.mono ?_
  rintro e w4 ⟨rfl,H3⟩
  have H4:=H3.newL w4.heap.size rfl 44 [.int .i64 xe,.int .i64 0,.int .i64 0,.slice none 0 0,.int .i64 0]
  have hH4:=Lib.hid H4
  clear H3 H4 hset y0 y1
  unfold ansV
  go_upto_region 5 with fail
  obtain ⟨w5,hw5,H4⟩:=hH4.out.name
  rw [hw5]
  obtain ⟨g10,hg10⟩:∃ g10,g10=w4.heap.size:=⟨_,rfl⟩
  rw [← hg10] at H4 ⊢
  clear hw5 hH4 hg10
  have y0:=H4.cell 3 0 rfl rfl;have y1:=H4.cell 3 1 rfl rfl
  have z0:=H4.frozen 0 1 rfl;have z1:=H4.frozen 0 2 rfl;have d1:=H4.cell 0 1 rfl rfl;have d2:=H4.cell 0 2 rfl rfl
  have H5:=(H4.set 0 1 (.int .i64 xi) rfl).set 0 2 (.int .i64 xg') rfl
  have hH5:=Lib.hid H5
  clear H4 H5
  go_upto_region 6 with fail
  obtain ⟨w6,hw6,H5⟩:=hH5.out.name
  rw [hw6]
  clear hw6 hH5 y0 y1 z0 z1 d1 d2
  replace H5:Hp w0 w6 (.box g10 44 [.int .i64 xe,.int .i64 xi,.int .i64 xg',.slice none 0 0,.int .i64 0]::.box bh 81 (hsL (⟨xr,xg,xe⟩:Changed).err (.slice A l'.length c) (.slice Ag (⟨xr,xg,xe⟩:Changed).gens.length cg) (.slice s.A s.l.length s.c) (.slice s.Ag s.gens.length s.cg) (.slice s.Am s.mods.length s.cm) (.slice s.As s.sys.length s.cs))::.box g8 27 [.slice A l'.length c,.slice Ag xg.length cg]::.box g9 41 [.int .i64 xi,.int .i64 xg']::.box ga 44 [.int .i64 0,.int .i64 0,.int .i64 0,.slice none 0 0,.int .i64 0]::((sysE s::modE s::((stE s.A s.c s.l s.Ag s.cg s.gens++s.sys.map actE)++E))++stE A c l' Ag cg xg)):=H5
  have y0:=H5.cell 0 0 rfl rfl;have y1:=H5.cell 0 1 rfl rfl;have y2:=H5.cell 0 2 rfl rfl;have y3:=H5.cell 0 3 rfl rfl;have y4:=H5.cell 0 4 rfl rfl
  have z0:=H5.frozen 4 0 rfl;have z1:=H5.frozen 4 1 rfl;have z2:=H5.frozen 4 2 rfl;have z3:=H5.frozen 4 3 rfl;have z4:=H5.frozen 4 4 rfl
  have d0:=H5.cell 4 0 rfl rfl;have d1:=H5.cell 4 1 rfl rfl;have d2:=H5.cell 4 2 rfl rfl;have d3:=H5.cell 4 3 rfl rfl;have d4:=H5.cell 4 4 rfl rfl
  have H6:=((((H5.set 4 0 (.int .i64 xe) rfl).set 4 1 (.int .i64 xi) rfl).set 4 2 (.int .i64 xg') rfl).set 4 3 (.slice none 0 0) rfl).set 4 4 (.int .i64 0) rfl
  have r0:=H6.cell 4 0 rfl rfl;have r1:=H6.cell 4 1 rfl rfl;have r2:=H6.cell 4 2 rfl rfl;have r3:=H6.cell 4 3 rfl rfl;have r4:=H6.cell 4 4 rfl rfl
  have hH6:=Lib.hid H6
  clear H5 H6
  go_wp2_with fail
  refine bodyPost_ret (v:=ansVal xe xi xg' none 0 0 0) (by simp [results,Tryz.results33,go_sem,r0,r1,r2,r3,r4,ansVal]) rfl ?_
  obtain ⟨s',h1,h2⟩:=ho_set (D:=⟨xr,xg,xe⟩) his hl2.out ((((hH6.out.drop1 0).drop1 1).drop1 1).drop1 1)
  exact ⟨s',none,0,by rw [hE.out];rfl,by rw [hE.out];exact h1,by rw [hE.out];exact aoE_none h2⟩
 by_cases k2:x.d.kind=2
 ·rw [k2] at b0
  have hE:Hid (doV h x.d=(setW h (stepK h x.d 1),ansE (stepK h x.d 1).err)):=Lib.hid (by unfold doV;rw [if_neg k1,if_pos k2])
  clear k1 k2
  have hD:stepK h x.d 1=killV h.W.rows s.gens x.d.i x.d.g:=by rw [his.gens];rfl
  have hcall:Hid (∀ w',RdSt w' w'.heap.size ⟨s.A,s.c,s.l,s.Ag,s.cg,s.gens⟩→Calls Tryz.prog 57 #[.agg #[.slice s.A s.l.length s.c,.slice s.Ag s.gens.length s.cg],.agg #[.int .i64 x.d.i,.int .i64 x.d.g]] w' fun e w''=>∃ v,e=.returned (.tuple #[v,.int .i64 (stepK h x.d 1).err])∧GotSt w' w'' v (tabsW (stepK h x.d 1).rows) (stepK h x.d 1).gens):=Lib.hid (fun w' hR=>by
   have h0:=skill_any s.l s.A s.c s.gens s.Ag s.cg x.d.i x.d.g hsm.out w' hR
   rw [htabs.out,killT_right hrw.out] at h0
   rw [hD]
   exact h0)
  generalize stepK h x.d 1=D at *
  clear hD
  go_upto_region 8 with fail
  clear b0
  refine wp_region_mx mixed (by kernel_rfl) (by kernel_rfl) (fun q=>!(q==10) && !(q==11)) (tab [.pointer (some ⟨bh,0,none⟩),.pointer (some ⟨bh,0,none⟩),.pointer (some ⟨bh,0,none⟩),.pointer (some ⟨bh,0,none⟩),.pointer (some ⟨bh,0,none⟩),.agg #[.slice s.A s.l.length s.c,.slice s.Ag s.gens.length s.cg],.pointer (some ⟨db,od,none⟩),.pointer (some ⟨db,od,none⟩),.pointer (some ⟨db,od+4,none⟩),.agg #[.int .i64 x.d.i,.int .i64 x.d.g],undef,undef,.int .i64 D.err,ansV D.err,undef]) (fun l vs w'=>JD w0 bh ga s E D (l 10) (l 11) (l 13) (l 14) (vs 10) (vs 11) w') ?_ ?_ ?_
  ·exact JD.start hH0.out.drew
  ·intro vs w' l1 hJ hl
   rw [putAll_tab _ _ _ _ [(some 42,.pointer (some ⟨bh,0,none⟩)),(some 43,.pointer (some ⟨bh,0,none⟩)),(some 44,.pointer (some ⟨bh,0,none⟩)),(some 45,.pointer (some ⟨bh,0,none⟩)),(some 46,.pointer (some ⟨bh,0,none⟩)),(some 47,.agg #[.slice s.A s.l.length s.c,.slice s.Ag s.gens.length s.cg]),(some 48,.pointer (some ⟨db,od,none⟩)),(some 49,.pointer (some ⟨db,od,none⟩)),(some 50,.pointer (some ⟨db,od+4,none⟩)),(some 51,.agg #[.int .i64 x.d.i,.int .i64 x.d.g]),(some 52,vs 10),(some 53,vs 11),(some 54,.int .i64 D.err),(some 55,ansV D.err),(none,undef)] rfl]
   simp only [putL_eq,putT,List.set_cons_succ,List.set_cons_zero]
   obtain ⟨A,c,l',Ag,cg,hl',HF⟩:=hJ.done (hl 10 (by decide)) (hl 13 (by decide)) (hl 14 (by decide))
   have hF:=Lib.hid HF;have hl'h:=Lib.hid hl'
   have r0:=HF.cell 1 0 rfl rfl;have r1:=HF.cell 1 1 rfl rfl;have r2:=HF.cell 1 2 rfl rfl;have r3:=HF.cell 1 3 rfl rfl;have r4:=HF.cell 1 4 rfl rfl
   clear hJ hl HF hl'
   go_wp2_with fail
   refine bodyPost_ret (v:=ansVal D.err 0 0 none 0 0 0) (by simp [results,Tryz.results33,go_sem,r0,r1,r2,r3,r4,ansVal]) rfl ?_
   obtain ⟨s',h1,h2⟩:=ho_set his hl'h.out (hF.out.drop1 1)
   exact ⟨s',none,0,by rw [hE.out];rfl,by rw [hE.out];exact h1,by rw [hE.out];exact aoE_none h2⟩
  ·intro qq op ho l vs act w' hJ hsh hli hd hv hwas K hK
   have hiq:qq<15:=lt_of_some ho
   have s0_:=hwas 0 rfl
   have s1_:=hwas 1 rfl
   have s4_:=hwas 4 rfl
   simp at s0_ s1_ s4_
   match qq,hiq,ho,hli,hK with
   | 0,_,ho,hli,hK=>
    obtain rfl:=sj ho
    clear hv hwas
    go_simp
    exact hK _ _ (fun _=>rfl) hJ
   | 1,_,ho,hli,hK=>
    obtain rfl:=sj ho
    clear hv hwas
    go_simp
    exact hK _ _ (fun _=>rfl) hJ
   | 2,_,ho,hli,hK=>
    obtain rfl:=sj ho
    have x43:act.tmps[43]?.getD undef=.pointer (some ⟨bh,0,none⟩):=hv 1 43 rfl (rb hd rfl)
    clear hv hwas
    go_simp
    exact hK _ _ (fun _=>rfl) hJ
   | 3,_,ho,hli,hK=>
    obtain rfl:=sj ho
    have x44:act.tmps[44]?.getD undef=.pointer (some ⟨bh,0,none⟩):=hv 2 44 rfl (rb hd rfl)
    clear hv hwas
    go_simp
    exact hK _ _ (fun _=>rfl) hJ
   | 4,_,ho,hli,hK=>
    obtain rfl:=sj ho
    have x45:act.tmps[45]?.getD undef=.pointer (some ⟨bh,0,none⟩):=hv 3 45 rfl (rb hd rfl)
    clear hv hwas
    go_simp
    exact hK _ _ (fun _=>rfl) hJ
   | 5,_,ho,hli,hK=>
    obtain rfl:=sj ho
    have x46:act.tmps[46]?.getD undef=.pointer (some ⟨bh,0,none⟩):=hv 4 46 rfl (rb hd rfl)
    have nC:=hsh.not (i:=10) (j:=5) (by rfl) hli
    have nE:=hsh.not (i:=11) (j:=10) (by rfl) nC
    have nS:=hsh.not (i:=13) (j:=11) (by rfl) nE
    obtain ⟨g0,g1⟩:=hJ.house nS
    clear hv hwas
    go_simp
    exact hK _ _ (fun _=>rfl) hJ
   | 6,_,ho,hli,hK=>
    obtain rfl:=sj ho
    clear hv hwas
    go_simp
    exact hK _ _ (fun _=>rfl) hJ
   | 7,_,ho,hli,hK=>
    obtain rfl:=sj ho
    have x48:act.tmps[48]?.getD undef=.pointer (some ⟨db,od,none⟩):=hv 6 48 rfl (rb hd rfl)
    clear hv hwas
    go_simp
    exact hK _ _ (fun _=>rfl) hJ
   | 8,_,ho,hli,hK=>
    obtain rfl:=sj ho
    have x49:act.tmps[49]?.getD undef=.pointer (some ⟨db,od,none⟩):=hv 7 49 rfl (rb hd rfl)
    clear hv hwas
    go_simp
    exact hK _ _ (fun _=>rfl) hJ
   | 9,_,ho,hli,hK=>
    obtain rfl:=sj ho
    have x50:act.tmps[50]?.getD undef=.pointer (some ⟨db,od+4,none⟩):=hv 8 50 rfl (rb hd rfl)
    have b4:=(hJ.bel.cell (p:=⟨db,od+4,none⟩) hdb).trans c4;have b5:=(hJ.bel.cell (p:=⟨db,od+5,none⟩) hdb).trans c5
    clear hv hwas
    go_simp
    exact hK _ _ (fun _=>rfl) hJ
   | 10,_,ho,hli,hK=>
    obtain rfl:=sj ho
    have x47:act.tmps[47]?.getD undef=.agg #[.slice s.A s.l.length s.c,.slice s.Ag s.gens.length s.cg]:=hv 5 47 rfl (rb hd rfl)
    have x51:act.tmps[51]?.getD undef=.agg #[.int .i64 x.d.i,.int .i64 x.d.g]:=hv 9 51 rfl (rb hd rfl)
    have nE:=hsh.not (i:=11) (j:=10) (by rfl) hli
    have nS:=hsh.not (i:=13) (j:=11) (by rfl) nE
    have nT:=hsh.not (i:=14) (j:=13) (by rfl) nS
    have hSt:=hJ.st
    clear hv hwas
    go_simp
    refine (hcall.out w' hSt).mono ?_
    rintro e w4 ⟨v,rfl,A,c,l',Ag,cg,rfl,hl',hN⟩
    exact hK _ _ (fun h=>by cases h) (hJ.call hli nE nS nT hl' hN)
   | 11,_,ho,hli,hK=>
    obtain rfl:=sj ho
    have x52:act.tmps[52]?.getD undef=vs 10:=hv 10 52 rfl (rb hd rfl)
    have lC:l 10=true:=by simp [Region.binds] at hd;simp [hd]
    obtain ⟨v,hvC,hQ⟩:=hJ.atC lC
    rw [hvC] at x52
    clear hv hwas
    go_simp
    exact hK _ _ (fun h=>by cases h) hQ
   | 12,_,ho,hli,hK=>
    obtain rfl:=sj ho
    have x52:act.tmps[52]?.getD undef=vs 10:=hv 10 52 rfl (rb hd rfl)
    have lC:l 10=true:=by simp [Region.binds] at hd;simp [hd]
    obtain ⟨v,hvC,hQ⟩:=hJ.atC lC
    rw [hvC] at x52
    clear hv hwas
    go_simp
    exact hK _ _ (fun _=>rfl) hJ
   | 13,_,ho,hli,hK=>
    obtain rfl:=sj ho
    have x42:act.tmps[42]?.getD undef=.pointer (some ⟨bh,0,none⟩):=hv 0 42 rfl (rb hd rfl)
    have x53:act.tmps[53]?.getD undef=vs 11:=hv 11 53 rfl (rb hd rfl)
    have x54:act.tmps[54]?.getD undef=.int .i64 D.err:=hv 12 54 rfl (rb hd rfl)
    have lE:l 11=true:=by simp [Region.binds] at hd;simp [hd]
    have lC:l 10=true:=hsh 11 10 (by rfl) lE
    have nT:=hsh.not (i:=14) (j:=13) (by rfl) hli
    obtain ⟨A,c,l',Ag,cg,hvE,HQ,hnext⟩:=hJ.set_ lC lE hli nT
    rw [hvE] at x53
    clear hv hwas
    go_simp
    refine (hset_any bh s.A s.l.length s.c s.Ag s.gens.length s.cg A l'.length c Ag D.gens.length cg (.slice s.Am s.mods.length s.cm) (.slice s.As s.sys.length s.cs) D.err w0 w' _ HQ).mono ?_
    rintro e w5 ⟨rfl,H5⟩
    exact hK _ _ (fun _=>rfl) (hnext w5 H5)
   | 14,_,ho,hli,hK=>
    obtain rfl:=sj ho
    have x55:act.tmps[55]?.getD undef=ansV D.err:=hv 13 55 rfl (rb hd rfl)
    obtain ⟨hz,⟨d0,d1,d2,d3,d4⟩,hQ⟩:=hJ.put hli
    have z0:=hz 0 (by decide);have z1:=hz 1 (by decide);have z2:=hz 2 (by decide);have z3:=hz 3 (by decide);have z4:=hz 4 (by decide)
    unfold ansV at x55
    clear hv hwas hz
    go_simp
    exact hK _ _ (fun _=>rfl) hQ
 by_cases k3:x.d.kind=3
 ·rw [k3] at b0
  have hE:Hid (doV h x.d=(setW h (stepK h x.d 2),ansE (stepK h x.d 2).err)):=Lib.hid (by unfold doV;rw [if_neg k1,if_neg k2,if_pos k3])
  clear k1 k2 k3
  have hD:stepK h x.d 2=putV h.W.rows s.gens x.d.i x.d.g x.d.part x.d.n:=by rw [his.gens];rfl
  have hcall:Hid (∀ w',RdSt w' w'.heap.size ⟨s.A,s.c,s.l,s.Ag,s.cg,s.gens⟩→Calls Tryz.prog 58 #[.agg #[.slice s.A s.l.length s.c,.slice s.Ag s.gens.length s.cg],.agg #[.int .i64 x.d.i,.int .i64 x.d.g],.int .i64 x.d.part,.int .i64 x.d.n] w' fun e w''=>∃ v,e=.returned (.tuple #[v,.int .i64 (stepK h x.d 2).err])∧GotSt w' w'' v (tabsW (stepK h x.d 2).rows) (stepK h x.d 2).gens):=Lib.hid (fun w' hR=>by
   have h0:=sput_any s.l s.A s.c s.gens s.Ag s.cg x.d.i x.d.g x.d.part x.d.n hsm.out w' hR
   rw [htabs.out,putT_right hrw.out] at h0
   rw [hD]
   exact h0)
  generalize stepK h x.d 2=D at *
  clear hD
  go_upto_region 10 with fail
  clear b0
  refine wp_region_mx mixed (by kernel_rfl) (by kernel_rfl) (fun q=>!(q==18) && !(q==19)) (tab [.pointer (some ⟨bh,0,none⟩),.pointer (some ⟨bh,0,none⟩),.pointer (some ⟨bh,0,none⟩),.pointer (some ⟨bh,0,none⟩),.pointer (some ⟨bh,0,none⟩),.agg #[.slice s.A s.l.length s.c,.slice s.Ag s.gens.length s.cg],.pointer (some ⟨db,od,none⟩),.pointer (some ⟨db,od,none⟩),.pointer (some ⟨db,od+4,none⟩),.agg #[.int .i64 x.d.i,.int .i64 x.d.g],.pointer (some ⟨db,od,none⟩),.pointer (some ⟨db,od,none⟩),.pointer (some ⟨db,od+2,none⟩),.int .i64 x.d.part,.pointer (some ⟨db,od,none⟩),.pointer (some ⟨db,od,none⟩),.pointer (some ⟨db,od+3,none⟩),.int .i64 x.d.n,undef,undef,.int .i64 D.err,ansV D.err,undef]) (fun l vs w'=>JD w0 bh ga s E D (l 18) (l 19) (l 21) (l 22) (vs 18) (vs 19) w') ?_ ?_ ?_
  ·exact JD.start hH0.out.drew
  ·intro vs w' l1 hJ hl
   rw [putAll_tab _ _ _ _ [(some 58,.pointer (some ⟨bh,0,none⟩)),(some 59,.pointer (some ⟨bh,0,none⟩)),(some 60,.pointer (some ⟨bh,0,none⟩)),(some 61,.pointer (some ⟨bh,0,none⟩)),(some 62,.pointer (some ⟨bh,0,none⟩)),(some 63,.agg #[.slice s.A s.l.length s.c,.slice s.Ag s.gens.length s.cg]),(some 64,.pointer (some ⟨db,od,none⟩)),(some 65,.pointer (some ⟨db,od,none⟩)),(some 66,.pointer (some ⟨db,od+4,none⟩)),(some 67,.agg #[.int .i64 x.d.i,.int .i64 x.d.g]),(some 68,.pointer (some ⟨db,od,none⟩)),(some 69,.pointer (some ⟨db,od,none⟩)),(some 70,.pointer (some ⟨db,od+2,none⟩)),(some 71,.int .i64 x.d.part),(some 72,.pointer (some ⟨db,od,none⟩)),(some 73,.pointer (some ⟨db,od,none⟩)),(some 74,.pointer (some ⟨db,od+3,none⟩)),(some 75,.int .i64 x.d.n),(some 76,vs 18),(some 77,vs 19),(some 78,.int .i64 D.err),(some 79,ansV D.err),(none,undef)] rfl]
   simp only [putL_eq,putT,List.set_cons_succ,List.set_cons_zero]
   obtain ⟨A,c,l',Ag,cg,hl',HF⟩:=hJ.done (hl 18 (by decide)) (hl 21 (by decide)) (hl 22 (by decide))
   have hF:=Lib.hid HF;have hl'h:=Lib.hid hl'
   have r0:=HF.cell 1 0 rfl rfl;have r1:=HF.cell 1 1 rfl rfl;have r2:=HF.cell 1 2 rfl rfl;have r3:=HF.cell 1 3 rfl rfl;have r4:=HF.cell 1 4 rfl rfl
   clear hJ hl HF hl'
   go_wp2_with fail
   refine bodyPost_ret (v:=ansVal D.err 0 0 none 0 0 0) (by simp [results,Tryz.results33,go_sem,r0,r1,r2,r3,r4,ansVal]) rfl ?_
   obtain ⟨s',h1,h2⟩:=ho_set his hl'h.out (hF.out.drop1 1)
   exact ⟨s',none,0,by rw [hE.out];rfl,by rw [hE.out];exact h1,by rw [hE.out];exact aoE_none h2⟩
  ·intro qq op ho l vs act w' hJ hsh hli hd hv hwas K hK
   have hiq:qq<23:=lt_of_some ho
   have s0_:=hwas 0 rfl
   have s1_:=hwas 1 rfl
   have s4_:=hwas 4 rfl
   simp at s0_ s1_ s4_
   match qq,hiq,ho,hli,hK with
   | 0,_,ho,hli,hK=>
    obtain rfl:=sj ho
    clear hv hwas
    go_simp
    exact hK _ _ (fun _=>rfl) hJ
   | 1,_,ho,hli,hK=>
    obtain rfl:=sj ho
    clear hv hwas
    go_simp
    exact hK _ _ (fun _=>rfl) hJ
   | 2,_,ho,hli,hK=>
    obtain rfl:=sj ho
    have x59:act.tmps[59]?.getD undef=.pointer (some ⟨bh,0,none⟩):=hv 1 59 rfl (rb hd rfl)
    clear hv hwas
    go_simp
    exact hK _ _ (fun _=>rfl) hJ
   | 3,_,ho,hli,hK=>
    obtain rfl:=sj ho
    have x60:act.tmps[60]?.getD undef=.pointer (some ⟨bh,0,none⟩):=hv 2 60 rfl (rb hd rfl)
    clear hv hwas
    go_simp
    exact hK _ _ (fun _=>rfl) hJ
   | 4,_,ho,hli,hK=>
    obtain rfl:=sj ho
    have x61:act.tmps[61]?.getD undef=.pointer (some ⟨bh,0,none⟩):=hv 3 61 rfl (rb hd rfl)
    clear hv hwas
    go_simp
    exact hK _ _ (fun _=>rfl) hJ
   | 5,_,ho,hli,hK=>
    obtain rfl:=sj ho
    have x62:act.tmps[62]?.getD undef=.pointer (some ⟨bh,0,none⟩):=hv 4 62 rfl (rb hd rfl)
    have nC:=hsh.not (i:=18) (j:=5) (by rfl) hli
    have nE:=hsh.not (i:=19) (j:=18) (by rfl) nC
    have nS:=hsh.not (i:=21) (j:=19) (by rfl) nE
    obtain ⟨g0,g1⟩:=hJ.house nS
    clear hv hwas
    go_simp
    exact hK _ _ (fun _=>rfl) hJ
   | 6,_,ho,hli,hK=>
    obtain rfl:=sj ho
    clear hv hwas
    go_simp
    exact hK _ _ (fun _=>rfl) hJ
   | 7,_,ho,hli,hK=>
    obtain rfl:=sj ho
    have x64:act.tmps[64]?.getD undef=.pointer (some ⟨db,od,none⟩):=hv 6 64 rfl (rb hd rfl)
    clear hv hwas
    go_simp
    exact hK _ _ (fun _=>rfl) hJ
   | 8,_,ho,hli,hK=>
    obtain rfl:=sj ho
    have x65:act.tmps[65]?.getD undef=.pointer (some ⟨db,od,none⟩):=hv 7 65 rfl (rb hd rfl)
    clear hv hwas
    go_simp
    exact hK _ _ (fun _=>rfl) hJ
   | 9,_,ho,hli,hK=>
    obtain rfl:=sj ho
    have x66:act.tmps[66]?.getD undef=.pointer (some ⟨db,od+4,none⟩):=hv 8 66 rfl (rb hd rfl)
    have b4:=(hJ.bel.cell (p:=⟨db,od+4,none⟩) hdb).trans c4;have b5:=(hJ.bel.cell (p:=⟨db,od+5,none⟩) hdb).trans c5
    clear hv hwas
    go_simp
    exact hK _ _ (fun _=>rfl) hJ
   | 10,_,ho,hli,hK=>
    obtain rfl:=sj ho
    clear hv hwas
    go_simp
    exact hK _ _ (fun _=>rfl) hJ
   | 11,_,ho,hli,hK=>
    obtain rfl:=sj ho
    have x68:act.tmps[68]?.getD undef=.pointer (some ⟨db,od,none⟩):=hv 10 68 rfl (rb hd rfl)
    clear hv hwas
    go_simp
    exact hK _ _ (fun _=>rfl) hJ
   | 12,_,ho,hli,hK=>
    obtain rfl:=sj ho
    have x69:act.tmps[69]?.getD undef=.pointer (some ⟨db,od,none⟩):=hv 11 69 rfl (rb hd rfl)
    clear hv hwas
    go_simp
    exact hK _ _ (fun _=>rfl) hJ
   | 13,_,ho,hli,hK=>
    obtain rfl:=sj ho
    have x70:act.tmps[70]?.getD undef=.pointer (some ⟨db,od+2,none⟩):=hv 12 70 rfl (rb hd rfl)
    have b4:=(hJ.bel.cell (p:=⟨db,od+2,none⟩) hdb).trans c2
    clear hv hwas
    go_simp
    exact hK _ _ (fun _=>rfl) hJ
   | 14,_,ho,hli,hK=>
    obtain rfl:=sj ho
    clear hv hwas
    go_simp
    exact hK _ _ (fun _=>rfl) hJ
   | 15,_,ho,hli,hK=>
    obtain rfl:=sj ho
    have x72:act.tmps[72]?.getD undef=.pointer (some ⟨db,od,none⟩):=hv 14 72 rfl (rb hd rfl)
    clear hv hwas
    go_simp
    exact hK _ _ (fun _=>rfl) hJ
   | 16,_,ho,hli,hK=>
    obtain rfl:=sj ho
    have x73:act.tmps[73]?.getD undef=.pointer (some ⟨db,od,none⟩):=hv 15 73 rfl (rb hd rfl)
    clear hv hwas
    go_simp
    exact hK _ _ (fun _=>rfl) hJ
   | 17,_,ho,hli,hK=>
    obtain rfl:=sj ho
    have x74:act.tmps[74]?.getD undef=.pointer (some ⟨db,od+3,none⟩):=hv 16 74 rfl (rb hd rfl)
    have b4:=(hJ.bel.cell (p:=⟨db,od+3,none⟩) hdb).trans c3
    clear hv hwas
    go_simp
    exact hK _ _ (fun _=>rfl) hJ
   | 18,_,ho,hli,hK=>
    obtain rfl:=sj ho
    have x63:act.tmps[63]?.getD undef=.agg #[.slice s.A s.l.length s.c,.slice s.Ag s.gens.length s.cg]:=hv 5 63 rfl (rb hd rfl)
    have x67:act.tmps[67]?.getD undef=.agg #[.int .i64 x.d.i,.int .i64 x.d.g]:=hv 9 67 rfl (rb hd rfl)
    have x71:act.tmps[71]?.getD undef=.int .i64 x.d.part:=hv 13 71 rfl (rb hd rfl)
    have x75:act.tmps[75]?.getD undef=.int .i64 x.d.n:=hv 17 75 rfl (rb hd rfl)
    have nE:=hsh.not (i:=19) (j:=18) (by rfl) hli
    have nS:=hsh.not (i:=21) (j:=19) (by rfl) nE
    have nT:=hsh.not (i:=22) (j:=21) (by rfl) nS
    have hSt:=hJ.st
    clear hv hwas
    go_simp
    refine (hcall.out w' hSt).mono ?_
    rintro e w4 ⟨v,rfl,A,c,l',Ag,cg,rfl,hl',hN⟩
    exact hK _ _ (fun h=>by cases h) (hJ.call hli nE nS nT hl' hN)
   | 19,_,ho,hli,hK=>
    obtain rfl:=sj ho
    have x76:act.tmps[76]?.getD undef=vs 18:=hv 18 76 rfl (rb hd rfl)
    have lC:l 18=true:=by simp [Region.binds] at hd;simp [hd]
    obtain ⟨v,hvC,hQ⟩:=hJ.atC lC
    rw [hvC] at x76
    clear hv hwas
    go_simp
    exact hK _ _ (fun h=>by cases h) hQ
   | 20,_,ho,hli,hK=>
    obtain rfl:=sj ho
    have x76:act.tmps[76]?.getD undef=vs 18:=hv 18 76 rfl (rb hd rfl)
    have lC:l 18=true:=by simp [Region.binds] at hd;simp [hd]
    obtain ⟨v,hvC,hQ⟩:=hJ.atC lC
    rw [hvC] at x76
    clear hv hwas
    go_simp
    exact hK _ _ (fun _=>rfl) hJ
   | 21,_,ho,hli,hK=>
    obtain rfl:=sj ho
    have x58:act.tmps[58]?.getD undef=.pointer (some ⟨bh,0,none⟩):=hv 0 58 rfl (rb hd rfl)
    have x77:act.tmps[77]?.getD undef=vs 19:=hv 19 77 rfl (rb hd rfl)
    have x78:act.tmps[78]?.getD undef=.int .i64 D.err:=hv 20 78 rfl (rb hd rfl)
    have lE:l 19=true:=by simp [Region.binds] at hd;simp [hd]
    have lC:l 18=true:=hsh 19 18 (by rfl) lE
    have nT:=hsh.not (i:=22) (j:=21) (by rfl) hli
    obtain ⟨A,c,l',Ag,cg,hvE,HQ,hnext⟩:=hJ.set_ lC lE hli nT
    rw [hvE] at x77
    clear hv hwas
    go_simp
    refine (hset_any bh s.A s.l.length s.c s.Ag s.gens.length s.cg A l'.length c Ag D.gens.length cg (.slice s.Am s.mods.length s.cm) (.slice s.As s.sys.length s.cs) D.err w0 w' _ HQ).mono ?_
    rintro e w5 ⟨rfl,H5⟩
    exact hK _ _ (fun _=>rfl) (hnext w5 H5)
   | 22,_,ho,hli,hK=>
    obtain rfl:=sj ho
    have x79:act.tmps[79]?.getD undef=ansV D.err:=hv 21 79 rfl (rb hd rfl)
    obtain ⟨hz,⟨d0,d1,d2,d3,d4⟩,hQ⟩:=hJ.put hli
    have z0:=hz 0 (by decide);have z1:=hz 1 (by decide);have z2:=hz 2 (by decide);have z3:=hz 3 (by decide);have z4:=hz 4 (by decide)
    unfold ansV at x79
    clear hv hwas hz
    go_simp
    exact hK _ _ (fun _=>rfl) hQ
 by_cases k4:x.d.kind=4
 ·rw [k4] at b0
  have hE:Hid (doV h x.d=(setW h (stepK h x.d 3),ansE (stepK h x.d 3).err)):=Lib.hid (by unfold doV;rw [if_neg k1,if_neg k2,if_neg k3,if_pos k4])
  clear k1 k2 k3 k4
  have hD:stepK h x.d 3=dropV h.W.rows s.gens x.d.i x.d.g x.d.part:=by rw [his.gens];rfl
  have hcall:Hid (∀ w',RdSt w' w'.heap.size ⟨s.A,s.c,s.l,s.Ag,s.cg,s.gens⟩→Calls Tryz.prog 59 #[.agg #[.slice s.A s.l.length s.c,.slice s.Ag s.gens.length s.cg],.agg #[.int .i64 x.d.i,.int .i64 x.d.g],.int .i64 x.d.part] w' fun e w''=>∃ v,e=.returned (.tuple #[v,.int .i64 (stepK h x.d 3).err])∧GotSt w' w'' v (tabsW (stepK h x.d 3).rows) (stepK h x.d 3).gens):=Lib.hid (fun w' hR=>by
   have h0:=sdrop_any s.l s.A s.c s.gens s.Ag s.cg x.d.i x.d.g x.d.part hsm.out w' hR
   rw [htabs.out,dropT_right hrw.out] at h0
   rw [hD]
   exact h0)
  generalize stepK h x.d 3=D at *
  clear hD
  go_upto_region 12 with fail
  clear b0
  refine wp_region_mx mixed (by kernel_rfl) (by kernel_rfl) (fun q=>!(q==14) && !(q==15)) (tab [.pointer (some ⟨bh,0,none⟩),.pointer (some ⟨bh,0,none⟩),.pointer (some ⟨bh,0,none⟩),.pointer (some ⟨bh,0,none⟩),.pointer (some ⟨bh,0,none⟩),.agg #[.slice s.A s.l.length s.c,.slice s.Ag s.gens.length s.cg],.pointer (some ⟨db,od,none⟩),.pointer (some ⟨db,od,none⟩),.pointer (some ⟨db,od+4,none⟩),.agg #[.int .i64 x.d.i,.int .i64 x.d.g],.pointer (some ⟨db,od,none⟩),.pointer (some ⟨db,od,none⟩),.pointer (some ⟨db,od+2,none⟩),.int .i64 x.d.part,undef,undef,.int .i64 D.err,ansV D.err,undef]) (fun l vs w'=>JD w0 bh ga s E D (l 14) (l 15) (l 17) (l 18) (vs 14) (vs 15) w') ?_ ?_ ?_
  ·exact JD.start hH0.out.drew
  ·intro vs w' l1 hJ hl
   rw [putAll_tab _ _ _ _ [(some 82,.pointer (some ⟨bh,0,none⟩)),(some 83,.pointer (some ⟨bh,0,none⟩)),(some 84,.pointer (some ⟨bh,0,none⟩)),(some 85,.pointer (some ⟨bh,0,none⟩)),(some 86,.pointer (some ⟨bh,0,none⟩)),(some 87,.agg #[.slice s.A s.l.length s.c,.slice s.Ag s.gens.length s.cg]),(some 88,.pointer (some ⟨db,od,none⟩)),(some 89,.pointer (some ⟨db,od,none⟩)),(some 90,.pointer (some ⟨db,od+4,none⟩)),(some 91,.agg #[.int .i64 x.d.i,.int .i64 x.d.g]),(some 92,.pointer (some ⟨db,od,none⟩)),(some 93,.pointer (some ⟨db,od,none⟩)),(some 94,.pointer (some ⟨db,od+2,none⟩)),(some 95,.int .i64 x.d.part),(some 96,vs 14),(some 97,vs 15),(some 98,.int .i64 D.err),(some 99,ansV D.err),(none,undef)] rfl]
   simp only [putL_eq,putT,List.set_cons_succ,List.set_cons_zero]
   obtain ⟨A,c,l',Ag,cg,hl',HF⟩:=hJ.done (hl 14 (by decide)) (hl 17 (by decide)) (hl 18 (by decide))
   have hF:=Lib.hid HF;have hl'h:=Lib.hid hl'
   have r0:=HF.cell 1 0 rfl rfl;have r1:=HF.cell 1 1 rfl rfl;have r2:=HF.cell 1 2 rfl rfl;have r3:=HF.cell 1 3 rfl rfl;have r4:=HF.cell 1 4 rfl rfl
   clear hJ hl HF hl'
   go_wp2_with fail
   refine bodyPost_ret (v:=ansVal D.err 0 0 none 0 0 0) (by simp [results,Tryz.results33,go_sem,r0,r1,r2,r3,r4,ansVal]) rfl ?_
   obtain ⟨s',h1,h2⟩:=ho_set his hl'h.out (hF.out.drop1 1)
   exact ⟨s',none,0,by rw [hE.out];rfl,by rw [hE.out];exact h1,by rw [hE.out];exact aoE_none h2⟩
  ·intro qq op ho l vs act w' hJ hsh hli hd hv hwas K hK
   have hiq:qq<19:=lt_of_some ho
   have s0_:=hwas 0 rfl
   have s1_:=hwas 1 rfl
   have s4_:=hwas 4 rfl
   simp at s0_ s1_ s4_
   match qq,hiq,ho,hli,hK with
   | 0,_,ho,hli,hK=>
    obtain rfl:=sj ho
    clear hv hwas
    go_simp
    exact hK _ _ (fun _=>rfl) hJ
   | 1,_,ho,hli,hK=>
    obtain rfl:=sj ho
    clear hv hwas
    go_simp
    exact hK _ _ (fun _=>rfl) hJ
   | 2,_,ho,hli,hK=>
    obtain rfl:=sj ho
    have x83:act.tmps[83]?.getD undef=.pointer (some ⟨bh,0,none⟩):=hv 1 83 rfl (rb hd rfl)
    clear hv hwas
    go_simp
    exact hK _ _ (fun _=>rfl) hJ
   | 3,_,ho,hli,hK=>
    obtain rfl:=sj ho
    have x84:act.tmps[84]?.getD undef=.pointer (some ⟨bh,0,none⟩):=hv 2 84 rfl (rb hd rfl)
    clear hv hwas
    go_simp
    exact hK _ _ (fun _=>rfl) hJ
   | 4,_,ho,hli,hK=>
    obtain rfl:=sj ho
    have x85:act.tmps[85]?.getD undef=.pointer (some ⟨bh,0,none⟩):=hv 3 85 rfl (rb hd rfl)
    clear hv hwas
    go_simp
    exact hK _ _ (fun _=>rfl) hJ
   | 5,_,ho,hli,hK=>
    obtain rfl:=sj ho
    have x86:act.tmps[86]?.getD undef=.pointer (some ⟨bh,0,none⟩):=hv 4 86 rfl (rb hd rfl)
    have nC:=hsh.not (i:=14) (j:=5) (by rfl) hli
    have nE:=hsh.not (i:=15) (j:=14) (by rfl) nC
    have nS:=hsh.not (i:=17) (j:=15) (by rfl) nE
    obtain ⟨g0,g1⟩:=hJ.house nS
    clear hv hwas
    go_simp
    exact hK _ _ (fun _=>rfl) hJ
   | 6,_,ho,hli,hK=>
    obtain rfl:=sj ho
    clear hv hwas
    go_simp
    exact hK _ _ (fun _=>rfl) hJ
   | 7,_,ho,hli,hK=>
    obtain rfl:=sj ho
    have x88:act.tmps[88]?.getD undef=.pointer (some ⟨db,od,none⟩):=hv 6 88 rfl (rb hd rfl)
    clear hv hwas
    go_simp
    exact hK _ _ (fun _=>rfl) hJ
   | 8,_,ho,hli,hK=>
    obtain rfl:=sj ho
    have x89:act.tmps[89]?.getD undef=.pointer (some ⟨db,od,none⟩):=hv 7 89 rfl (rb hd rfl)
    clear hv hwas
    go_simp
    exact hK _ _ (fun _=>rfl) hJ
   | 9,_,ho,hli,hK=>
    obtain rfl:=sj ho
    have x90:act.tmps[90]?.getD undef=.pointer (some ⟨db,od+4,none⟩):=hv 8 90 rfl (rb hd rfl)
    have b4:=(hJ.bel.cell (p:=⟨db,od+4,none⟩) hdb).trans c4;have b5:=(hJ.bel.cell (p:=⟨db,od+5,none⟩) hdb).trans c5
    clear hv hwas
    go_simp
    exact hK _ _ (fun _=>rfl) hJ
   | 10,_,ho,hli,hK=>
    obtain rfl:=sj ho
    clear hv hwas
    go_simp
    exact hK _ _ (fun _=>rfl) hJ
   | 11,_,ho,hli,hK=>
    obtain rfl:=sj ho
    have x92:act.tmps[92]?.getD undef=.pointer (some ⟨db,od,none⟩):=hv 10 92 rfl (rb hd rfl)
    clear hv hwas
    go_simp
    exact hK _ _ (fun _=>rfl) hJ
   | 12,_,ho,hli,hK=>
    obtain rfl:=sj ho
    have x93:act.tmps[93]?.getD undef=.pointer (some ⟨db,od,none⟩):=hv 11 93 rfl (rb hd rfl)
    clear hv hwas
    go_simp
    exact hK _ _ (fun _=>rfl) hJ
   | 13,_,ho,hli,hK=>
    obtain rfl:=sj ho
    have x94:act.tmps[94]?.getD undef=.pointer (some ⟨db,od+2,none⟩):=hv 12 94 rfl (rb hd rfl)
    have b4:=(hJ.bel.cell (p:=⟨db,od+2,none⟩) hdb).trans c2
    clear hv hwas
    go_simp
    exact hK _ _ (fun _=>rfl) hJ
   | 14,_,ho,hli,hK=>
    obtain rfl:=sj ho
    have x87:act.tmps[87]?.getD undef=.agg #[.slice s.A s.l.length s.c,.slice s.Ag s.gens.length s.cg]:=hv 5 87 rfl (rb hd rfl)
    have x91:act.tmps[91]?.getD undef=.agg #[.int .i64 x.d.i,.int .i64 x.d.g]:=hv 9 91 rfl (rb hd rfl)
    have x95:act.tmps[95]?.getD undef=.int .i64 x.d.part:=hv 13 95 rfl (rb hd rfl)
    have nE:=hsh.not (i:=15) (j:=14) (by rfl) hli
    have nS:=hsh.not (i:=17) (j:=15) (by rfl) nE
    have nT:=hsh.not (i:=18) (j:=17) (by rfl) nS
    have hSt:=hJ.st
    clear hv hwas
    go_simp
    refine (hcall.out w' hSt).mono ?_
    rintro e w4 ⟨v,rfl,A,c,l',Ag,cg,rfl,hl',hN⟩
    exact hK _ _ (fun h=>by cases h) (hJ.call hli nE nS nT hl' hN)
   | 15,_,ho,hli,hK=>
    obtain rfl:=sj ho
    have x96:act.tmps[96]?.getD undef=vs 14:=hv 14 96 rfl (rb hd rfl)
    have lC:l 14=true:=by simp [Region.binds] at hd;simp [hd]
    obtain ⟨v,hvC,hQ⟩:=hJ.atC lC
    rw [hvC] at x96
    clear hv hwas
    go_simp
    exact hK _ _ (fun h=>by cases h) hQ
   | 16,_,ho,hli,hK=>
    obtain rfl:=sj ho
    have x96:act.tmps[96]?.getD undef=vs 14:=hv 14 96 rfl (rb hd rfl)
    have lC:l 14=true:=by simp [Region.binds] at hd;simp [hd]
    obtain ⟨v,hvC,hQ⟩:=hJ.atC lC
    rw [hvC] at x96
    clear hv hwas
    go_simp
    exact hK _ _ (fun _=>rfl) hJ
   | 17,_,ho,hli,hK=>
    obtain rfl:=sj ho
    have x82:act.tmps[82]?.getD undef=.pointer (some ⟨bh,0,none⟩):=hv 0 82 rfl (rb hd rfl)
    have x97:act.tmps[97]?.getD undef=vs 15:=hv 15 97 rfl (rb hd rfl)
    have x98:act.tmps[98]?.getD undef=.int .i64 D.err:=hv 16 98 rfl (rb hd rfl)
    have lE:l 15=true:=by simp [Region.binds] at hd;simp [hd]
    have lC:l 14=true:=hsh 15 14 (by rfl) lE
    have nT:=hsh.not (i:=18) (j:=17) (by rfl) hli
    obtain ⟨A,c,l',Ag,cg,hvE,HQ,hnext⟩:=hJ.set_ lC lE hli nT
    rw [hvE] at x97
    clear hv hwas
    go_simp
    refine (hset_any bh s.A s.l.length s.c s.Ag s.gens.length s.cg A l'.length c Ag D.gens.length cg (.slice s.Am s.mods.length s.cm) (.slice s.As s.sys.length s.cs) D.err w0 w' _ HQ).mono ?_
    rintro e w5 ⟨rfl,H5⟩
    exact hK _ _ (fun _=>rfl) (hnext w5 H5)
   | 18,_,ho,hli,hK=>
    obtain rfl:=sj ho
    have x99:act.tmps[99]?.getD undef=ansV D.err:=hv 17 99 rfl (rb hd rfl)
    obtain ⟨hz,⟨d0,d1,d2,d3,d4⟩,hQ⟩:=hJ.put hli
    have z0:=hz 0 (by decide);have z1:=hz 1 (by decide);have z2:=hz 2 (by decide);have z3:=hz 3 (by decide);have z4:=hz 4 (by decide)
    unfold ansV at x99
    clear hv hwas hz
    go_simp
    exact hK _ _ (fun _=>rfl) hQ
 by_cases k5:x.d.kind=5
 ·rw [k5] at b0
  have hE:Hid (doV h x.d=hsysV h x.d.sys):=Lib.hid (by unfold doV;rw [if_neg k1,if_neg k2,if_neg k3,if_neg k4,if_pos k5])
  clear k1 k2 k3 k4 k5
  go_upto_region 14 with fail
  clear b0
  have hc:=Lib.hid (hsys_any mods0 bh s h his hr ⟨x.d.sys,x.A,x.c⟩ db (od+6) w0 w1 _ ((hH0.out.perm (show (Ent.box ga 44 [.int .i64 0,.int .i64 0,.int .i64 0,.slice none 0 0,.int .i64 0]::(hoE bh s++E)).Perm (hoE bh s++(.box ga 44 [.int .i64 0,.int .i64 0,.int .i64 0,.slice none 0 0,.int .i64 0]::E)) from List.perm_middle.symm))) hdb hxn c6 c7 c8 c9 hx)
  go_wp2_with fail
  refine hc.out.mono ?_
  rintro e w4 ⟨s',rfl,hs',H4⟩
  have hs'h:=Lib.hid hs'
  have H5:Hp w0 w4 (.box ga 44 [.int .i64 0,.int .i64 0,.int .i64 0,.slice none 0 0,.int .i64 0]::(hoE bh s'++E)):=H4.perm List.perm_middle
  clear H4 hs'
  have hsh:=Lib.hid (hsys_ans h x.d.sys)
  clear hc hH0
  unfold ansVal
  have z0:=H5.frozen 0 0 rfl;have z1:=H5.frozen 0 1 rfl;have z2:=H5.frozen 0 2 rfl;have z3:=H5.frozen 0 3 rfl;have z4:=H5.frozen 0 4 rfl
  have d0:=H5.cell 0 0 rfl rfl;have d1:=H5.cell 0 1 rfl rfl;have d2:=H5.cell 0 2 rfl rfl;have d3:=H5.cell 0 3 rfl rfl;have d4:=H5.cell 0 4 rfl rfl
  have H6:=((((H5.set 0 0 (.int .i64 (hsysV h x.d.sys).2.err) rfl).set 0 1 (.int .i64 0) rfl).set 0 2 (.int .i64 0) rfl).set 0 3 (.slice none 0 0) rfl).set 0 4 (.int .i64 (hsysV h x.d.sys).2.n) rfl
  have r0:=H6.cell 0 0 rfl rfl;have r1:=H6.cell 0 1 rfl rfl;have r2:=H6.cell 0 2 rfl rfl;have r3:=H6.cell 0 3 rfl rfl;have r4:=H6.cell 0 4 rfl rfl
  have hH6:=Lib.hid H6
  clear H5 H6
  go_wp2_with fail
  refine bodyPost_ret (v:=ansVal (hsysV h x.d.sys).2.err 0 0 none 0 0 (hsysV h x.d.sys).2.n) (by simp [results,Tryz.results33,go_sem,r0,r1,r2,r3,r4,ansVal]) rfl ⟨s',none,0,by rw [hE.out,hsh.out.1,hsh.out.2.1,hsh.out.2.2];rfl,by rw [hE.out];exact hs'h.out,by rw [hE.out,hsh.out.2.2];exact aoE_none (hH6.out.drop1 0)⟩
 by_cases k6:x.d.kind=6
 ·rw [k6] at b0
  have hE:Hid (doV h x.d=tickV h):=Lib.hid (by unfold doV;rw [if_neg k1,if_neg k2,if_neg k3,if_neg k4,if_neg k5,if_pos k6])
  clear k1 k2 k3 k4 k5 k6
  go_upto_region 16 with fail
  clear b0
  have hc:=Lib.hid (htick_any mods0 bh s h his hr w0 w1 _ ((hH0.out.perm (show (Ent.box ga 44 [.int .i64 0,.int .i64 0,.int .i64 0,.slice none 0 0,.int .i64 0]::(hoE bh s++E)).Perm (hoE bh s++(.box ga 44 [.int .i64 0,.int .i64 0,.int .i64 0,.slice none 0 0,.int .i64 0]::E)) from List.perm_middle.symm))))
  go_wp2_with fail
  refine hc.out.mono ?_
  rintro e w4 ⟨s',rfl,hs',H4⟩
  have hs'h:=Lib.hid hs'
  have H5:Hp w0 w4 (.box ga 44 [.int .i64 0,.int .i64 0,.int .i64 0,.slice none 0 0,.int .i64 0]::(hoE bh s'++E)):=H4.perm List.perm_middle
  clear H4 hs'
  have hsh:=Lib.hid (tick_ans h)
  clear hc hH0
  unfold ansVal
  have z0:=H5.frozen 0 0 rfl;have z1:=H5.frozen 0 1 rfl;have z2:=H5.frozen 0 2 rfl;have z3:=H5.frozen 0 3 rfl;have z4:=H5.frozen 0 4 rfl
  have d0:=H5.cell 0 0 rfl rfl;have d1:=H5.cell 0 1 rfl rfl;have d2:=H5.cell 0 2 rfl rfl;have d3:=H5.cell 0 3 rfl rfl;have d4:=H5.cell 0 4 rfl rfl
  have H6:=((((H5.set 0 0 (.int .i64 (tickV h).2.err) rfl).set 0 1 (.int .i64 0) rfl).set 0 2 (.int .i64 0) rfl).set 0 3 (.slice none 0 0) rfl).set 0 4 (.int .i64 (tickV h).2.n) rfl
  have r0:=H6.cell 0 0 rfl rfl;have r1:=H6.cell 0 1 rfl rfl;have r2:=H6.cell 0 2 rfl rfl;have r3:=H6.cell 0 3 rfl rfl;have r4:=H6.cell 0 4 rfl rfl
  have hH6:=Lib.hid H6
  clear H5 H6
  go_wp2_with fail
  refine bodyPost_ret (v:=ansVal (tickV h).2.err 0 0 none 0 0 (tickV h).2.n) (by simp [results,Tryz.results33,go_sem,r0,r1,r2,r3,r4,ansVal]) rfl ⟨s',none,0,by rw [hE.out,hsh.out.1,hsh.out.2.1,hsh.out.2.2];rfl,by rw [hE.out];exact hs'h.out,by rw [hE.out,hsh.out.2.2];exact aoE_none (hH6.out.drop1 0)⟩
 by_cases k7:x.d.kind=7
 ·rw [k7] at b0
  have hE:Hid (doV h x.d=(h,askV h x.d)):=Lib.hid (by unfold doV;rw [if_neg k1,if_neg k2,if_neg k3,if_neg k4,if_neg k5,if_neg k6,if_pos k7])
  clear k1 k2 k3 k4 k5 k6 k7
  go_upto_region 18 with fail
  clear b0
  have hc:=Lib.hid (hask_any mods0 bh s h his hr x db od w0 w1 _ ((hH0.out.perm (show (Ent.box ga 44 [.int .i64 0,.int .i64 0,.int .i64 0,.slice none 0 0,.int .i64 0]::(hoE bh s++E)).Perm (hoE bh s++(.box ga 44 [.int .i64 0,.int .i64 0,.int .i64 0,.slice none 0 0,.int .i64 0]::E)) from List.perm_middle.symm))) hdb hdh.out)
  go_wp2_with fail
  refine hc.out.mono ?_
  rintro e w4 ⟨A,c,rfl,H4⟩
  have H5:Hp w0 w4 (.box ga 44 [.int .i64 0,.int .i64 0,.int .i64 0,.slice none 0 0,.int .i64 0]::aoE A c (askV h x.d).bs::(hoE bh s++E)):=H4.perm ((List.Perm.cons _ List.perm_middle).trans (List.Perm.swap _ _ _))
  clear H4
  have hsh:=Lib.hid (ask_ans h x.d)
  clear hc hH0
  unfold ansVal
  have z0:=H5.frozen 0 0 rfl;have z1:=H5.frozen 0 1 rfl;have z2:=H5.frozen 0 2 rfl;have z3:=H5.frozen 0 3 rfl;have z4:=H5.frozen 0 4 rfl
  have d0:=H5.cell 0 0 rfl rfl;have d1:=H5.cell 0 1 rfl rfl;have d2:=H5.cell 0 2 rfl rfl;have d3:=H5.cell 0 3 rfl rfl;have d4:=H5.cell 0 4 rfl rfl
  have H6:=((((H5.set 0 0 (.int .i64 (askV h x.d).err) rfl).set 0 1 (.int .i64 0) rfl).set 0 2 (.int .i64 0) rfl).set 0 3 (.slice A (askV h x.d).bs.length c) rfl).set 0 4 (.int .i64 (askV h x.d).n) rfl
  have r0:=H6.cell 0 0 rfl rfl;have r1:=H6.cell 0 1 rfl rfl;have r2:=H6.cell 0 2 rfl rfl;have r3:=H6.cell 0 3 rfl rfl;have r4:=H6.cell 0 4 rfl rfl
  have hH6:=Lib.hid H6
  clear H5 H6
  go_wp2_with fail
  refine bodyPost_ret (v:=ansVal (askV h x.d).err 0 0 A (askV h x.d).bs.length c (askV h x.d).n) (by simp [results,Tryz.results33,go_sem,r0,r1,r2,r3,r4,ansVal]) rfl ⟨s,A,c,by rw [hE.out];dsimp only;rw [hsh.out.1,hsh.out.2],by rw [hE.out];exact his,by rw [hE.out];exact hH6.out.drop1 0⟩
 have hE:Hid (doV h x.d=(h,ansE 1)):=Lib.hid (by unfold doV;rw [if_neg k1,if_neg k2,if_neg k3,if_neg k4,if_neg k5,if_neg k6,if_neg k7])
 have n1:(x.d.kind==1)=false:=by simpa using k1
 have n2:(x.d.kind==2)=false:=by simpa using k2
 have n3:(x.d.kind==3)=false:=by simpa using k3
 have n4:(x.d.kind==4)=false:=by simpa using k4
 have n5:(x.d.kind==5)=false:=by simpa using k5
 have n6:(x.d.kind==6)=false:=by simpa using k6
 have n7:(x.d.kind==7)=false:=by simpa using k7
 clear k1 k2 k3 k4 k5 k6 k7
 generalize x.d.kind=kk at *
 have H1:=hH0.out
 have z0:=H1.frozen 0 0 rfl;have z1:=H1.frozen 0 1 rfl;have z2:=H1.frozen 0 2 rfl;have z3:=H1.frozen 0 3 rfl;have z4:=H1.frozen 0 4 rfl
 have d0:=H1.cell 0 0 rfl rfl;have d1:=H1.cell 0 1 rfl rfl;have d2:=H1.cell 0 2 rfl rfl;have d3:=H1.cell 0 3 rfl rfl;have d4:=H1.cell 0 4 rfl rfl
 have H2:=((((H1.set 0 0 (.int .i64 1) rfl).set 0 1 (.int .i64 0) rfl).set 0 2 (.int .i64 0) rfl).set 0 3 (.slice none 0 0) rfl).set 0 4 (.int .i64 0) rfl
 have r0:=H2.cell 0 0 rfl rfl;have r1:=H2.cell 0 1 rfl rfl;have r2:=H2.cell 0 2 rfl rfl;have r3:=H2.cell 0 3 rfl rfl;have r4:=H2.cell 0 4 rfl rfl
 have hH2:=Lib.hid H2
 clear H1 H2
 go_wp2_with fail
 refine bodyPost_ret (v:=ansVal 1 0 0 none 0 0 0) (by simp [results,Tryz.results33,go_sem,r0,r1,r2,r3,r4,ansVal]) rfl ⟨s,none,0,by rw [hE.out];rfl,by rw [hE.out];exact his,by rw [hE.out];exact aoE_none (hH2.out.drop1 0)⟩
end Go.Proofs.YtefdblaolmckmacGreat
