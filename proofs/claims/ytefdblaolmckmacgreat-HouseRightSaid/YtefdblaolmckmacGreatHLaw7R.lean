/- Lemmas of the proof. -/
import Derived.Test.YtefdblaolmckmacGreatHLaw7Q
set_option linter.unusedVariables false
set_option linter.unusedSimpArgs false
set_option maxRecDepth 100000
set_option maxHeartbeats 12800000
namespace Go.Proofs.YtefdblaolmckmacGreat
open Go.RowKit
open Brood
theorem houseRight_any (mods:List BMod) (mA:Option Addr) (mc:Nat) (hml:mods.length≤maxLen) (hmn:mA=none→mc=0) (l:List DIn) (dA:Option Addr) (dc:Nat) (hll:l.length≤maxLen) (hln:(∀ x∈l,x.A=none→x.c=0)∧(dA=none→dc=0)) (w:World) (hM:RdM w w.heap.size mA mods) (hD:RdD w w.heap.size dA l) :
  Calls Tryz.prog 4 #[.slice mA mods.length mc,.slice dA l.length dc] w fun e w'=>e=.returned (.bool true)∧Below w.heap.size w w':=by
 go_enter Tryz.func4,Tryz.ntmps4
 go_wp2_with fail
 refine (alive7_any w).mono ?_
 rintro e w1 ⟨rfl,hb⟩
 have hB:=Lib.hid hb
 clear hb
 have hok:=Lib.hid (right_facts mods (doOf l))
 have hbad:=Lib.hid (playV_bad (mods:=mods) (l:=doOf l))
 have hP:=Lib.hid (hplay_any mods mA mc hml hmn l dA dc hll hln.1 w1 (Rd.grow hM hB.out) ((hD.under hB.out (Nat.le_refl _)).more hB.out.size))
 generalize playV mods (doOf l)=P at *
 go_wp2_with fail
 refine hP.out.mono ?_
 rintro e w2 ⟨s,L,A,c,rfl,his,hL,HP⟩
 obtain ⟨ho,ha,f1,f2⟩:=P
 try dsimp only at his hL hok hbad ⊢
 have H1:=((Hp.start w).grow hB.out).join HP
 obtain ⟨R,hRe,hRs⟩:∃ R,Hp w w2 (pkA A c L::R)∧∀ p∈hoK s,p∈R:=⟨_,H1,fun p hp=>by simp [hp]⟩
 have H2:=(hRe.newL w2.heap.size rfl 30 [.slice s.A s.l.length s.c,.slice s.Ag s.gens.length s.cg,.slice s.Am s.mods.length s.cm,.slice s.As s.sys.length s.cs]).newL (w2.heap.size+1) (by simp) 34 [.int .i64 f1,.int .i64 f2]
 have hH2:=Lib.hid H2;have hLh:=Lib.hid hL;have hish:=Lib.hid his;have hRsh:=Lib.hid hRs
 clear HP H1 hL hP hRe H2 his hRs
 unfold hoVal
 try dsimp only
 go_upto_region 4 with fail
 obtain ⟨w3,hw3,H3⟩:=hH2.out.name
 rw [hw3]
 obtain ⟨g5,hg5⟩:∃ g5,g5=w2.heap.size:=⟨_,rfl⟩
 rw [← hg5] at H3 ⊢
 obtain ⟨g7,hg7⟩:∃ g7,g7=g5+1:=⟨_,rfl⟩
 rw [← hg7] at H3 ⊢
 clear hw3 hg5 hg7 hH2
 have ff:=H3.cell 0 0 rfl rfl
 have hH3:=Lib.hid H3
 clear H3
 by_cases hf:f1=0
 case neg=>
  have hf':(f1 != 0)=true:=by simpa using hf
  obtain ⟨b1,b2⟩:=hbad.out hf
  try dsimp only at b1 b2
  subst b1
  obtain ⟨n1,n2,n3,n4⟩:=his_nil hish.out
  have H3:=hH3.out
  have hSt:=hoK_st H3 (s:=s) (fun p hp=>List.mem_cons_of_mem _ (List.mem_cons_of_mem _ (List.mem_cons_of_mem _ (hRsh.out p hp))))
  obtain ⟨A1,c1,l1,Ag1,cg1,gens1,Am1,cm1,mods1,As1,cs1,sys1⟩:=s
  dsimp only at n1 n2 n3 n4
  subst n1 n2 n3 n4
  have hS:=Lib.hid (rsameho_any [] [] [] [] [] [] A1 c1 Ag1 cg1 Am1 cm1 As1 cs1 none 0 none 0 none 0 none 0 (right_small (rows:=[]) (gens:=[]) right_nil rfl) rfl rfl (by simp) (by simp) (by simp) w3 hSt (st_nil w3) Rd.nil_ Rd.nil_ ⟨Rd.nil_,by simp⟩ ⟨Rd.nil_,by simp⟩)
  dsimp only at H3
  have q0:=H3.cell 1 0 rfl rfl;have q1:=H3.cell 1 1 rfl rfl;have q2:=H3.cell 1 2 rfl rfl;have q3:=H3.cell 1 3 rfl rfl
  have hB3:=Lib.hid H3.bel
  clear hok hf H3 hSt hbad b2 hish hRsh hLh hH3
  go_wp2_with fail
  refine hS.out.mono ?_
  rintro e w4 ⟨rfl,hb4⟩
  go_wp2_with fail
  go_ret
  exact ⟨rfl,hB3.out.trans (hb4.mono hB3.out.size)⟩
 subst hf
 have hr:=hok.out rfl
 try dsimp only at hr
 have hsl:s.sys.length≤12:=by
  have h0:=hr.len
  rw [← hish.out.sys,sysOf_length] at h0
  exact h0
 have hss:Hid (∀ x∈s.sys,∃ (M:Nat) (hM:M<mods.length),x.s.mod=(M:Int)∧may mods[M] x.s=true∧Right x.s):=Lib.hid (fun x hx=>sys_mod (hr.sys x.s (by rw [← hish.out.sys];exact List.mem_map_of_mem hx)))
 have hsw:Hid (∀ x∈s.sys,(sysWrong x.s).1=0):=Lib.hid (fun x hx=>(hr.sys x.s (by rw [← hish.out.sys];exact List.mem_map_of_mem hx)).1)
 have hok2:=Lib.hid hr.ok
 have hrW:RightW ho.W.rows ho.W.gens:=hr.W
 have hse:=Lib.hid hrW.store
 have hsm:=Lib.hid (show StSmall s.l s.gens by rw [hish.out.gens];exact right_small hrW hish.out.tabs)
 have hml6:=hr.few
 clear hok hr hbad hLh hrW
 have q3:=hH3.out.cell 1 3 rfl rfl
 go_wp2_with fail
 clear q3 ff
 go_loopw [28] (fun q wr=>∃ k:Nat,k≤s.sys.length∧q=.int .i64 k∧Hp w wr (.box g7 34 [.int .i64 0,.int .i64 f2]::.box g5 30 [.slice s.A s.l.length s.c,.slice s.Ag s.gens.length s.cg,.slice s.Am s.mods.length s.cm,.slice s.As s.sys.length s.cs]::pkA A c L::R)) (fun q _=>s.sys.length-(intOf q).toNat)
 case atStart=>exact ⟨0,by omega,rfl,hH3.out⟩
 case round=>
  clear hH3
  obtain ⟨k,hk,rfl,H⟩:=hrel
  by_cases hlt:k<s.sys.length
  ·have hS:=hoR_sys H (s:=s) (fun p hp=>List.mem_cons_of_mem _ (List.mem_cons_of_mem _ (List.mem_cons_of_mem _ (hRsh.out p hp))))
   obtain ⟨b,off,eA,hb,c0,c1,c2,c3⟩:=hS.at_ hlt
   have hact:=hS.acts _ (List.getElem_mem hlt)
   obtain ⟨M,hMl,hMe,hmay,hRt⟩:=hss.out _ (List.getElem_mem hlt)
   have hsw1:=hsw.out _ (List.getElem_mem hlt)
   obtain ⟨mb,mo,rfl,hmb0,m0,m1,m2⟩:=RdM.at_ (Rd.under hM H.bel (Nat.le_refl _)) hMl
   have hmk:=hok2.out _ (List.getElem_mem hMl)
   generalize s.sys[k]=x at *
   generalize mods[M]=m at *
   rw [hMe] at c0
   have hMeh:=Lib.hid hMe
   clear hMe
   have i0:(0:Int)≤(k:Int):=by omega
   have i1:(k:Int)<(s.sys.length:Int):=by omega
   have hH4:=Lib.hid (H.newL wr.heap.size rfl 51 [.int .i64 (M:Int),.int .i64 x.s.all,.int .i64 x.s.non,.slice x.A x.s.acts.length x.c])
   have hal:Below wr.heap.size wr (wr.alloc (.cells #[.int .i64 (M:Int),.int .i64 x.s.all,.int .i64 x.s.non,.slice x.A x.s.acts.length x.c] 51)):=(Below.refl _ _).alloc (Nat.le_refl _) _
   have hmb1:mb<wr.heap.size:=by have:=H.bel.size;omega
   have p0:=(hal.cell (p:=⟨mb,mo+M*3,none⟩) hmb1).trans m0
   have p1:=(hal.cell (p:=⟨mb,mo+M*3+1,none⟩) hmb1).trans m1
   have p2:=(hal.cell (p:=⟨mb,mo+M*3+2,none⟩) hmb1).trans m2
   have hact2:=Lib.hid (Rd.grow hact hal)
   have hmb2:=Nat.lt_of_lt_of_le hmb1 hal.size
   rw [eA]
   clear H hS m0 m1 m2 hact hal hmb0 hmb1
   go_upto_region 9 with fail
   clear c0 c1 c2 c3
   obtain ⟨w4,hw4,H5⟩:=hH4.out.name
   rw [hw4] at p0 p1 p2 hact2 hmb2 ⊢
   obtain ⟨g9,hg9⟩:∃ g9,g9=wr.heap.size:=⟨_,rfl⟩
   rw [← hg9] at H5 ⊢
   clear hw4 hg9 hH4 hb
   have d0:=H5.cell 0 0 rfl rfl;have d1:=H5.cell 0 1 rfl rfl;have d2:=H5.cell 0 2 rfl rfl;have d3:=H5.cell 0 3 rfl rfl
   have l9:=H5.lt 0 rfl
   have hH6:=Lib.hid (H5.drop1 0)
   obtain ⟨z2,hz2⟩:∃ z2,z2=(sysWrong x.s).2:=⟨_,rfl⟩
   have hwr:=Lib.hid (fun w' (hb:Below w4.heap.size w4 w')=>wrong_any x.s x.A x.c w' (RdA.grow hact2.out hb))
   rw [hsw1,← hz2] at hwr
   have hmy:=Lib.hid (fun w' (hb:Below w4.heap.size w4 w')=>may_any m hmk.1 hmk.2 x.s hRt x.A x.c w' (RdA.grow hact2.out hb))
   rw [hmay] at hmy
   have hmb:=hmb2
   have j0:(0:Int)≤(M:Int):=by omega
   have j1:(M:Int)<(mods.length:Int):=by omega
   have j2:¬ (mods.length:Int)≤(M:Int):=by omega
   rw [hMeh.out] at hwr hmy
   have m0:=p0;have m1:=p1;have m2:=p2
   clear H5 hsw1 hz2 hmay hRt hmk hact2 hmb2 p0 p1 p2 hlt hMeh hMl
   go_cut [52] (fun s52 wx=>s52=.bool false∧Hp w wx (.box g7 34 [.int .i64 0,.int .i64 f2]::.box g5 30 [.slice s.A s.l.length s.c,.slice s.Ag s.gens.length s.cg,.slice s.Am s.mods.length s.cm,.slice s.As s.sys.length s.cs]::pkA A c L::R))
   case first=>
    refine wp_region_pred mixed (by kernel_rfl) (by kernel_rfl) (fun _=>true) (fun j w' v=>v=tab [.agg #[.int .i64 (M:Int),.int .i64 x.s.all,.int .i64 x.s.non,.slice x.A x.s.acts.length x.c],.agg #[.int .i64 0,.int .i64 z2],.int .i64 0,.bool false,.bool false,.pointer (some ⟨g9,0,none⟩),.int .i64 (M:Int),.slice (some ⟨mb,mo,none⟩) mods.length mc,.int .i64 (mods.length:Int),.bool false,.bool false,.bool false,.slice (some ⟨mb,mo,none⟩) mods.length mc,.pointer (some ⟨g9,0,none⟩),.int .i64 (M:Int),.pointer (some ⟨mb,mo+M*3,none⟩),.agg #[.int .i64 m.reads,.int .i64 m.writes,.bool m.life],.agg #[.int .i64 (M:Int),.int .i64 x.s.all,.int .i64 x.s.non,.slice x.A x.s.acts.length x.c],.bool true,.bool false,.bool false] j) ?_ ?_ ?_ ?_ ?_
    ·intro j w' w'' v h hb;exact h
    ·intro q op ho
     have hi:q<21:=lt_of_some ho
     match q,hi,ho with
     | 0,_,ho | 1,_,ho | 2,_,ho | 3,_,ho | 4,_,ho | 10,_,ho | 11,_,ho | 20,_,ho=>
      obtain rfl:=sj ho
      rfl
     | 5,_,ho | 6,_,ho | 7,_,ho | 8,_,ho | 9,_,ho=>
      obtain rfl:=sj ho
      intro w' v h
      have h':v=.bool false:=h
      subst h'
      rfl
     | 12,_,ho | 13,_,ho | 14,_,ho | 15,_,ho | 16,_,ho | 17,_,ho | 18,_,ho | 19,_,ho=>
      obtain rfl:=sj ho
      intro w' v h
      have h':v=.bool false:=h
      subst h'
      rfl
    ·intro q w' h;cases h
    ·intro vs w' hb hv
     rw [putAll_tab _ _ _ _ [(some 32,vs 0),(some 33,vs 1),(some 34,vs 2),(some 35,vs 3),(some 36,vs 4),(some 37,vs 5),(some 38,vs 6),(some 39,vs 7),(some 40,vs 8),(some 41,vs 9),(some 42,vs 10),(some 43,vs 11),(some 44,vs 12),(some 45,vs 13),(some 46,vs 14),(some 47,vs 15),(some 48,vs 16),(some 49,vs 17),(some 50,vs 18),(some 51,vs 19),(some 52,vs 20)] rfl]
     simp only [putL_eq,putT,List.set_cons_succ,List.set_cons_zero]
     have hv20:vs 20=.bool false:=hv 20 (by decide)
     rw [hv20]
     have hb5:=Lib.hid (hH6.out.grow hb)
     clear hv hb hv20 hwr hmy d0 d1 d2 d3 m0 m1 m2
     go_wp2_with fail
     go_meet
     exact ⟨rfl,hb5.out⟩
    ·intro q op ho hG act w' hb hv hwas K hK
     have e0:=hwas 0 rfl
     have e9:=hwas 9 rfl
     simp at e0 e9
     have x0:=(hb.cell (p:=⟨g9,0,none⟩) l9).trans d0;have x1:=(hb.cell (p:=⟨g9,1,none⟩) l9).trans d1;have x2:=(hb.cell (p:=⟨g9,2,none⟩) l9).trans d2;have x3:=(hb.cell (p:=⟨g9,3,none⟩) l9).trans d3
     have y0:=(hb.cell (p:=⟨mb,mo+M*3,none⟩) hmb).trans m0;have y1:=(hb.cell (p:=⟨mb,mo+M*3+1,none⟩) hmb).trans m1;have y2:=(hb.cell (p:=⟨mb,mo+M*3+2,none⟩) hmb).trans m2
     have hi:q<21:=lt_of_some ho
     match q,hi,ho,hG,hK,hv with
     | 0,_,ho,hG,hK,hv=>
      obtain rfl:=sj ho
      clear hv hwas
      go_simp
      exact hK _ _ (Below.refl _ _) rfl
     | 1,_,ho,hG,hK,hv=>
      obtain rfl:=sj ho
      have x32:act.tmps[32]?.getD undef=.agg #[.int .i64 (M:Int),.int .i64 x.s.all,.int .i64 x.s.non,.slice x.A x.s.acts.length x.c]:=hv 0 32 rfl rfl
      clear hv hwas
      go_simp
      refine (hwr.out w' hb).mono ?_
      rintro e w'' ⟨rfl,hb''⟩
      exact hK _ _ hb'' rfl
     | 2,_,ho,hG,hK,hv=>
      obtain rfl:=sj ho
      have x33:act.tmps[33]?.getD undef=.agg #[.int .i64 0,.int .i64 z2]:=hv 1 33 rfl rfl
      clear hv hwas
      go_simp
      exact hK _ _ (Below.refl _ _) rfl
     | 3,_,ho,hG,hK,hv=>
      obtain rfl:=sj ho
      have x34:act.tmps[34]?.getD undef=.int .i64 0:=hv 2 34 rfl rfl
      clear hv hwas
      go_simp
      exact hK _ _ (Below.refl _ _) rfl
     | 4,_,ho,hG,hK,hv=>
      obtain rfl:=sj ho
      have x35:act.tmps[35]?.getD undef=.bool false:=hv 3 35 rfl rfl
      clear hv hwas
      go_simp
      exact hK _ _ (Below.refl _ _) rfl
     | 5,_,ho,hG,hK,hv=>
      obtain rfl:=sj ho
      clear hv hwas
      go_simp
      exact hK _ _ (Below.refl _ _) rfl
     | 6,_,ho,hG,hK,hv=>
      obtain rfl:=sj ho
      have x37:act.tmps[37]?.getD undef=.pointer (some ⟨g9,0,none⟩):=hv 5 37 rfl rfl
      clear hv hwas
      go_simp
      exact hK _ _ (Below.refl _ _) rfl
     | 7,_,ho,hG,hK,hv=>
      obtain rfl:=sj ho
      clear hv hwas
      go_simp
      exact hK _ _ (Below.refl _ _) rfl
     | 8,_,ho,hG,hK,hv=>
      obtain rfl:=sj ho
      have x39:act.tmps[39]?.getD undef=.slice (some ⟨mb,mo,none⟩) mods.length mc:=hv 7 39 rfl rfl
      clear hv hwas
      go_simp
      exact hK _ _ (Below.refl _ _) rfl
     | 9,_,ho,hG,hK,hv=>
      obtain rfl:=sj ho
      have x38:act.tmps[38]?.getD undef=.int .i64 (M:Int):=hv 6 38 rfl rfl
      have x40:act.tmps[40]?.getD undef=.int .i64 (mods.length:Int):=hv 8 40 rfl rfl
      clear hv hwas
      go_simp
      exact hK _ _ (Below.refl _ _) rfl
     | 10,_,ho,hG,hK,hv=>
      obtain rfl:=sj ho
      have x36:act.tmps[36]?.getD undef=.bool false:=hv 4 36 rfl rfl
      have x41:act.tmps[41]?.getD undef=.bool false:=hv 9 41 rfl rfl
      clear hv hwas
      go_simp
      exact hK _ _ (Below.refl _ _) rfl
     | 11,_,ho,hG,hK,hv=>
      obtain rfl:=sj ho
      have x42:act.tmps[42]?.getD undef=.bool false:=hv 10 42 rfl rfl
      clear hv hwas
      go_simp
      exact hK _ _ (Below.refl _ _) rfl
     | 12,_,ho,hG,hK,hv=>
      obtain rfl:=sj ho
      clear hv hwas
      go_simp
      exact hK _ _ (Below.refl _ _) rfl
     | 13,_,ho,hG,hK,hv=>
      obtain rfl:=sj ho
      clear hv hwas
      go_simp
      exact hK _ _ (Below.refl _ _) rfl
     | 14,_,ho,hG,hK,hv=>
      obtain rfl:=sj ho
      have x45:act.tmps[45]?.getD undef=.pointer (some ⟨g9,0,none⟩):=hv 13 45 rfl rfl
      clear hv hwas
      go_simp
      exact hK _ _ (Below.refl _ _) rfl
     | 15,_,ho,hG,hK,hv=>
      obtain rfl:=sj ho
      have x44:act.tmps[44]?.getD undef=.slice (some ⟨mb,mo,none⟩) mods.length mc:=hv 12 44 rfl rfl
      have x46:act.tmps[46]?.getD undef=.int .i64 (M:Int):=hv 14 46 rfl rfl
      clear hv hwas
      go_simp
      exact hK _ _ (Below.refl _ _) rfl
     | 16,_,ho,hG,hK,hv=>
      obtain rfl:=sj ho
      have x47:act.tmps[47]?.getD undef=.pointer (some ⟨mb,mo+M*3,none⟩):=hv 15 47 rfl rfl
      clear hv hwas
      go_simp
      exact hK _ _ (Below.refl _ _) rfl
     | 17,_,ho,hG,hK,hv=>
      obtain rfl:=sj ho
      clear hv hwas
      go_simp
      exact hK _ _ (Below.refl _ _) rfl
     | 18,_,ho,hG,hK,hv=>
      obtain rfl:=sj ho
      have x48:act.tmps[48]?.getD undef=.agg #[.int .i64 m.reads,.int .i64 m.writes,.bool m.life]:=hv 16 48 rfl rfl
      have x49:act.tmps[49]?.getD undef=.agg #[.int .i64 (M:Int),.int .i64 x.s.all,.int .i64 x.s.non,.slice x.A x.s.acts.length x.c]:=hv 17 49 rfl rfl
      clear hv hwas
      go_simp
      refine (hmy.out w' hb).mono ?_
      rintro e w'' ⟨rfl,hb''⟩
      exact hK _ _ hb'' rfl
     | 19,_,ho,hG,hK,hv=>
      obtain rfl:=sj ho
      have x50:act.tmps[50]?.getD undef=.bool true:=hv 18 50 rfl rfl
      clear hv hwas
      go_simp
      exact hK _ _ (Below.refl _ _) rfl
     | 20,_,ho,hG,hK,hv=>
      obtain rfl:=sj ho
      have x43:act.tmps[43]?.getD undef=.bool false:=hv 11 43 rfl rfl
      have x51:act.tmps[51]?.getD undef=.bool false:=hv 19 51 rfl rfl
      clear hv hwas
      go_simp
      exact hK _ _ (Below.refl _ _) rfl
   case rest=>
    obtain ⟨rfl,H2⟩:=hcut
    have H2:=Lib.hid H2
    go_wp2_with fail
    go_roundw
    case rel=>exact ⟨k+1,by omega,by go_num,by rw [← eA];exact H2.out⟩
    case measure=>simp [intOf];omega
  ·obtain rfl:k=s.sys.length:=by omega
   have hSt:=hoK_st H (s:=s) (fun p hp=>List.mem_cons_of_mem _ (List.mem_cons_of_mem _ (List.mem_cons_of_mem _ (hRsh.out p hp))))
   have hwr:=swrong_any s.l s.A s.c s.gens s.Ag s.cg hsm.out wr hSt.tabs hSt.gen hSt.ng
   rw [hish.out.tabs,hish.out.gens,hse.out] at hwr
   dsimp only at hwr
   have hwrh:=Lib.hid hwr
   have q0:=H.cell 1 0 rfl rfl;have q1:=H.cell 1 1 rfl rfl
   rw [hish.out.gens] at q1
   have hH6:=Lib.hid H
   have hfld:∀ (a b:Int) (W:World),(Instr.field 34 (.agg #[.int .i64 a,.int .i64 b]) 0).run Tryz.prog W=.ok (.int .i64 a) W:=fun _ _ _=>by kernel_rfl
   have i12:(s.sys.length:Int)≤12:=by omega
   clear H hSt hwr hss hsw hok2 hse hsm
   go_wp2_with fail
   refine hwrh.out.mono ?_
   rintro e w4 ⟨rfl,hb4⟩
   have H4:=hH6.out.grow hb4
   have q3:=H4.cell 1 3 rfl rfl
   have hB4:=Lib.hid H4.bel
   clear H4 hH6 hwrh q0 q1
   go_wp2_with fail
   go_ret
   exact ⟨rfl,hB4.out⟩
end Go.Proofs.YtefdblaolmckmacGreat
