/- Lemmas of the proof. -/
import Derived.Test.YtefdblaolmckmacGreatHBSpecZAToRef3S
import Derived.Test.YtefdblaolmckmacGreatHBSpecDToHouU
import Derived.Test.YtefdblaolmckmacGreatHBStoBToKg
import Derived.Test.YtefdblaolmckmacGreatHBRunA7ToRunR
set_option linter.unusedVariables false
set_option linter.unusedSimpArgs false
set_option maxRecDepth 100000
set_option maxHeartbeats 12800000
namespace Go.Proofs.YtefdblaolmckmacGreat
open Go.RowKit
open Brood
theorem neFilter (a b:Int) (w:World):(binOp .neq 48 (.agg #[.int .i64 a,.int .i64 b]) (.agg #[.int .i64 a,.int .i64 b])).run Tryz.prog w=.ok (.bool false) w:=by
 rw [run_neq_struct,run_equalIn_struct _ _ _ _ _ (by kernel_rfl) (by kernel_rfl)]
 simp [go_sem,Op.eqFields]
theorem neAct (a b c d:Int) (w:World):(binOp .neq 76 (.agg #[.int .i64 a,.int .i64 b,.int .i64 c,.int .i64 d]) (.agg #[.int .i64 a,.int .i64 b,.int .i64 c,.int .i64 d])).run Tryz.prog w=.ok (.bool false) w:=by
 rw [run_neq_struct,run_equalIn_struct _ _ _ _ _ (by kernel_rfl) (by kernel_rfl)]
 simp [go_sem,Op.eqFields]
theorem neMod (a b:Int) (c:Bool) (w:World):(binOp .neq 55 (.agg #[.int .i64 a,.int .i64 b,.bool c]) (.agg #[.int .i64 a,.int .i64 b,.bool c])).run Tryz.prog w=.ok (.bool false) w:=by
 rw [run_neq_struct,run_equalIn_struct _ _ _ _ _ (by kernel_rfl) (by kernel_rfl)]
 simp [go_sem,Op.eqFields]
theorem rsamesys_any (mod all non:Int) (l:List BAct) (A:Option Addr) (c:Nat) (A':Option Addr) (c':Nat) (hl:l.length≤1048576) (w:World) (hA:RdAB w w.heap.size A l) (hA':RdAB w w.heap.size A' l) :
  Calls Tryz.prog 38 #[.agg #[.int .i64 mod,.int .i64 all,.int .i64 non,.slice A l.length c],.agg #[.int .i64 mod,.int .i64 all,.int .i64 non,.slice A' l.length c']] w fun e w'=>e=.returned (.bool true)∧Below w.heap.size w w':=by
 have H:=((Hp.start w).new w.heap.size rfl 51 [.int .i64 mod,.int .i64 all,.int .i64 non,.slice A l.length c]).new (w.heap.size+1) (by simp) 51 [.int .i64 mod,.int .i64 all,.int .i64 non,.slice A' l.length c']
 have hfi:=fun W=>neFilter all non W
 have hHH:=Lib.hid H
 clear H
 go_enter Tryz.func38,Tryz.ntmps38
 go_upto_region 1 with fail
 obtain ⟨w2,hw2,H⟩:=hHH.out.name
 rw [hw2]
 obtain ⟨h1,hh1⟩:∃ h1,h1=w.heap.size:=⟨_,rfl⟩
 rw [← hh1] at H ⊢
 obtain ⟨h2,hh2⟩:∃ h2,h2=h1+1:=⟨_,rfl⟩
 rw [← hh2] at H ⊢
 replace H:Hp w w2 [.box h1 51 [.int .i64 mod,.int .i64 all,.int .i64 non,.slice A l.length c],.box h2 51 [.int .i64 mod,.int .i64 all,.int .i64 non,.slice A' l.length c']]:=H
 clear hw2 hHH hh1 hh2
 have a0:=H.cell 0 0 rfl rfl;have a1:=H.cell 0 1 rfl rfl;have a2:=H.cell 0 2 rfl rfl;have a3:=H.cell 0 3 rfl rfl
 have b0:=H.cell 1 0 rfl rfl;have b1:=H.cell 1 1 rfl rfl;have b2:=H.cell 1 2 rfl rfl;have b3:=H.cell 1 3 rfl rfl
 have hHH:=Lib.hid H
 clear H
 go_wp2_with fail
 go_loopw [30] (fun q wr=>∃ k:Nat,k≤l.length∧q=.int .i64 k∧Hp w wr [.box h1 51 [.int .i64 mod,.int .i64 all,.int .i64 non,.slice A l.length c],.box h2 51 [.int .i64 mod,.int .i64 all,.int .i64 non,.slice A' l.length c']]) (fun q _=>l.length-(intOf q).toNat)
 case atStart=>exact ⟨0,by omega,rfl,hHH.out⟩
 case round=>
  clear hHH a0 a1 a2 a3 b0 b1 b2 b3 hfi
  obtain ⟨k,hk,rfl,H⟩:=hrel
  by_cases hlt:k<l.length
  ·obtain ⟨b1,off,rfl,hb1,f0,f1,f2,f3⟩:=RdAB.at_ (Rd.under hA H.bel (Nat.le_refl _)) hlt
   obtain ⟨b2,off2,rfl,hb2,g0,g1,g2,g3⟩:=RdAB.at_ (Rd.under hA' H.bel (Nat.le_refl _)) hlt
   clear hA hA'
   generalize l[k]=r at *
   obtain ⟨r0,r1,r2,r3⟩:=r
   dsimp only at f0 f1 f2 f3 g0 g1 g2 g3
   have i0:(0:Int)≤(k:Int):=by omega
   have i1:(k:Int)<(l.length:Int):=by omega
   have hne:∀ W,(binOp .neq 76 (.agg #[.int .i64 r0,.int .i64 r1,.int .i64 r2,.int .i64 r3]) (.agg #[.int .i64 r0,.int .i64 r1,.int .i64 r2,.int .i64 r3])).run Tryz.prog W=.ok (.bool false) W:=fun W=>neAct r0 r1 r2 r3 W
   have e0:=H.cell 0 3 rfl rfl;have e1:=H.cell 1 3 rfl rfl
   have Hh:=Lib.hid H
   clear H
   go_upto_region 6 with fail
   go_cut [43] (fun s wx=>s=.bool false∧∃ n,wx=wr.drewN n)
   case first=>
    go_quiet (fail)
    go_wp2_with fail
    go_meet
    exact ⟨rfl,_,rfl⟩
   case rest=>
    obtain ⟨rfl,n,rfl⟩:=hcut
    have H2:=Lib.hid (Hh.out.drewN n)
    go_wp2_with fail
    go_roundw
    case rel=>exact ⟨k+1,by omega,by go_num,H2.out⟩
    case measure=>simp [intOf];omega
  ·obtain rfl:k=l.length:=by omega
   have hb:=Lib.hid H.bel
   clear H
   go_wp2_with fail
   go_ret
   exact ⟨rfl,hb.out⟩
theorem rsameho_any (l l':List TabIn) (gens:List Int) (mods:List BMod) (xs xs':List SysIn) (A:Option Addr) (c:Nat) (Ag:Option Addr) (cg:Nat) (Am:Option Addr) (cm:Nat) (As:Option Addr) (cs:Nat) (A':Option Addr) (c':Nat) (Ag':Option Addr) (cg':Nat) (Am':Option Addr) (cm':Nat) (As':Option Addr) (cs':Nat)
  (hs:StSmall l gens) (hll:l'.map tabOf=l.map tabOf) (hxx:sysOf xs'=sysOf xs) (hml:mods.length≤1000) (hxl:xs.length≤1000) (hal:∀ x∈xs,x.s.acts.length≤1000)
  (w:World) (h:RdSt w w.heap.size ⟨A,c,l,Ag,cg,gens⟩) (h':RdSt w w.heap.size ⟨A',c',l',Ag',cg',gens⟩) (hM:RdM w w.heap.size Am mods) (hM':RdM w w.heap.size Am' mods) (hX:RdS w w.heap.size As xs) (hX':RdS w w.heap.size As' xs') :
  Calls Tryz.prog 16 #[.agg #[.slice A l.length c,.slice Ag gens.length cg,.slice Am mods.length cm,.slice As xs.length cs],.agg #[.slice A' l'.length c',.slice Ag' gens.length cg',.slice Am' mods.length cm',.slice As' xs'.length cs']] w fun e w'=>e=.returned (.bool true)∧Below w.heap.size w w':=by
 have hlen:xs'.length=xs.length:=by rw [← sysOf_length,← sysOf_length,hxx]
 rw [hlen]
 have hlenh:=Lib.hid hlen;have hxxh:=Lib.hid hxx;have halh:=Lib.hid hal
 have H:=((Hp.start w).new w.heap.size rfl 30 [.slice A l.length c,.slice Ag gens.length cg,.slice Am mods.length cm,.slice As xs.length cs]).new (w.heap.size+1) (by simp) 30 [.slice A' l'.length c',.slice Ag' gens.length cg',.slice Am' mods.length cm',.slice As' xs.length cs']
 have hHH:=Lib.hid H
 have hsm:=Lib.hid (fun w' (hb:Below w.heap.size w w')=>rsamest_any l l' gens A c Ag cg A' c' Ag' cg' hs hll w' (h.grow hb) (h'.grow hb))
 clear H hlen hxx hal h h' hs hll
 go_enter Tryz.func16,Tryz.ntmps16
 go_upto_region 1 with fail
 obtain ⟨w2,hw2,H⟩:=hHH.out.name
 rw [hw2]
 obtain ⟨h1,hh1⟩:∃ h1,h1=w.heap.size:=⟨_,rfl⟩
 rw [← hh1] at H ⊢
 obtain ⟨h2,hh2⟩:∃ h2,h2=h1+1:=⟨_,rfl⟩
 rw [← hh2] at H ⊢
 replace H:Hp w w2 [.box h1 30 [.slice A l.length c,.slice Ag gens.length cg,.slice Am mods.length cm,.slice As xs.length cs],.box h2 30 [.slice A' l'.length c',.slice Ag' gens.length cg',.slice Am' mods.length cm',.slice As' xs.length cs']]:=H
 clear hw2 hHH hh1 hh2
 have a0:=H.cell 0 0 rfl rfl;have a1:=H.cell 0 1 rfl rfl
 have b0:=H.cell 1 0 rfl rfl;have b1:=H.cell 1 1 rfl rfl
 have hc:=Lib.hid (hsm.out w2 H.bel)
 have hHH:=Lib.hid H
 clear H hsm
 go_wp2_with fail
 refine hc.out.mono ?_
 rintro e w3 ⟨rfl,hb3⟩
 have H:=hHH.out.grow hb3
 clear hHH hc a0 a1 b0 b1 hb3
 have a2:=H.cell 0 2 rfl rfl;have a3:=H.cell 0 3 rfl rfl
 have b2:=H.cell 1 2 rfl rfl;have b3:=H.cell 1 3 rfl rfl
 have hHH:=Lib.hid H
 clear H
 go_wp2_with fail
 clear a2 a3 b2 b3
 go_loopw [34] (fun q wr=>∃ k:Nat,k≤mods.length∧q=.int .i64 k∧Hp w wr [.box h1 30 [.slice A l.length c,.slice Ag gens.length cg,.slice Am mods.length cm,.slice As xs.length cs],.box h2 30 [.slice A' l'.length c',.slice Ag' gens.length cg',.slice Am' mods.length cm',.slice As' xs.length cs']]) (fun q _=>mods.length-(intOf q).toNat)
 case atStart=>exact ⟨0,by omega,rfl,hHH.out⟩
 case round=>
  clear hHH
  obtain ⟨k,hk,rfl,H⟩:=hrel
  by_cases hlt:k<mods.length
  ·obtain ⟨b1,off,rfl,hb1,f0,f1,f2⟩:=RdM.at_ (Rd.under hM H.bel (Nat.le_refl _)) hlt
   obtain ⟨b2,off2,rfl,hb2,g0,g1,g2⟩:=RdM.at_ (Rd.under hM' H.bel (Nat.le_refl _)) hlt
   clear hM hM'
   generalize mods[k]=r at *
   obtain ⟨r0,r1,r2⟩:=r
   dsimp only at f0 f1 f2 g0 g1 g2
   have i0:(0:Int)≤(k:Int):=by omega
   have i1:(k:Int)<(mods.length:Int):=by omega
   have hne:∀ W,(binOp .neq 55 (.agg #[.int .i64 r0,.int .i64 r1,.bool r2]) (.agg #[.int .i64 r0,.int .i64 r1,.bool r2])).run Tryz.prog W=.ok (.bool false) W:=fun W=>neMod r0 r1 r2 W
   have e0:=H.cell 0 2 rfl rfl;have e1:=H.cell 1 2 rfl rfl
   have Hh:=Lib.hid H
   clear H
   go_upto_region 6 with fail
   go_cut [47] (fun s wx=>s=.bool false∧∃ n,wx=wr.drewN n)
   case first=>
    go_quiet (fail)
    go_wp2_with fail
    go_meet
    exact ⟨rfl,_,rfl⟩
   case rest=>
    obtain ⟨rfl,n,rfl⟩:=hcut
    have H2:=Lib.hid (Hh.out.drewN n)
    go_wp2_with fail
    go_roundw
    case rel=>exact ⟨k+1,by omega,by go_num,H2.out⟩
    case measure=>simp [intOf];omega
  ·obtain rfl:k=mods.length:=by omega
   have a3:=H.cell 0 3 rfl rfl
   have hHH:=Lib.hid H
   clear H hM hM'
   go_wp2_with fail
   clear a3
   go_loopw [52] (fun q wr=>∃ k:Nat,k≤xs.length∧q=.int .i64 k∧Hp w wr [.box h1 30 [.slice A l.length c,.slice Ag gens.length cg,.slice Am mods.length cm,.slice As xs.length cs],.box h2 30 [.slice A' l'.length c',.slice Ag' gens.length cg',.slice Am' mods.length cm',.slice As' xs.length cs']]) (fun q _=>xs.length-(intOf q).toNat)
   case atStart=>exact ⟨0,by omega,rfl,hHH.out⟩
   case round=>
    clear hHH
    obtain ⟨k,hk,rfl,H⟩:=hrel
    by_cases hlt:k<xs.length
    ·have hlt':k<xs'.length:=by rw [hlenh.out];exact hlt
     have hX2:=hX.under H.bel (Nat.le_refl _)
     have hX2':=hX'.under H.bel (Nat.le_refl _)
     obtain ⟨b1,off,rfl,hb1,f0,f1,f2,f3⟩:=hX2.at_ hlt
     obtain ⟨b2,off2,rfl,hb2,g0,g1,g2,g3⟩:=hX2'.at_ hlt'
     have hr1:=hX2.acts _ (List.getElem_mem hlt)
     have hr2:=hX2'.acts _ (List.getElem_mem hlt')
     have hsz:=H.bel.size
     have hln:=halh.out _ (List.getElem_mem hlt)
     have hse:xs'[k].s=xs[k].s:=by
      have h1:(sysOf xs')[k]?=(sysOf xs)[k]?:=by rw [hxxh.out]
      unfold sysOf at h1
      rw [List.getElem?_map,List.getElem?_map,List.getElem?_eq_getElem hlt,List.getElem?_eq_getElem hlt'] at h1
      exact Option.some.inj h1
     generalize xs[k]=X at *
     generalize xs'[k]=Y at *
     rw [hse] at g0 g1 g2 g3 hr2
     obtain ⟨S,hS⟩:∃ S,S=X.s:=⟨_,rfl⟩
     rw [← hS] at f0 f1 f2 f3 g0 g1 g2 g3 hr1 hr2 hln
     have hr1:=Rd.more hr1 hsz
     have hr2:=Rd.more hr2 hsz
     have hsm:=Lib.hid (fun w' (hb:Below wr.heap.size wr w')=>rsamesys_any S.mod S.all S.non S.acts X.A X.c Y.A Y.c (by omega) w' (Rd.grow hr1 hb) (Rd.grow hr2 hb))
     clear hr1 hr2 hX2 hX2' hse hS hln
     have e0:=H.cell 0 3 rfl rfl;have e1:=H.cell 1 3 rfl rfl
     have l1:=H.lt 0 rfl;have l2:=H.lt 1 rfl
     have i0:(0:Int)≤(k:Int):=by omega
     have i1:(k:Int)<(xs.length:Int):=by omega
     have hb1:b1<wr.heap.size:=by omega
     have hb2:b2<wr.heap.size:=by omega
     have Hh:=Lib.hid H
     clear H hsz
     obtain ⟨n,hn⟩:∃ n,n=xs.length:=⟨_,rfl⟩
     obtain ⟨m,hm⟩:∃ m,m=S.acts.length:=⟨_,rfl⟩
     have hnh:=Lib.hid hn
     rw [← hn] at e0 e1 i1
     rw [← hm] at f3 g3 hsm
     clear hn hm
     go_upto_region 12 with fail
     go_cut [66] (fun s wx=>s=.bool false∧Hp w wx [.box h1 30 [.slice A l.length c,.slice Ag gens.length cg,.slice Am mods.length cm,.slice (some ⟨b1,off,none⟩) xs.length cs],.box h2 30 [.slice A' l'.length c',.slice Ag' gens.length cg',.slice Am' mods.length cm',.slice (some ⟨b2,off2,none⟩) xs.length cs']])
     case first=>
      refine wp_region_pred mixed (by kernel_rfl) (by kernel_rfl) (fun _=>true) (fun j w' v=>v=tab [.pointer (some ⟨h1,3,none⟩),.slice (some ⟨b1,off,none⟩) n cs,.int .i64 (k:Int),.pointer (some ⟨b1,off+k*4,none⟩),.agg #[.int .i64 S.mod,.int .i64 S.all,.int .i64 S.non,.slice X.A m X.c],.pointer (some ⟨h2,3,none⟩),.slice (some ⟨b2,off2,none⟩) n cs',.int .i64 (k:Int),.pointer (some ⟨b2,off2+k*4,none⟩),.agg #[.int .i64 S.mod,.int .i64 S.all,.int .i64 S.non,.slice Y.A m Y.c],.bool true,.bool false] j) ?_ ?_ ?_ ?_ ?_
      ·intro j w' w'' v h hb;exact h
      ·intro q op ho
       have hi:q<12:=lt_of_some ho
       match q,hi,ho with
       | 0,_,ho | 1,_,ho | 2,_,ho | 3,_,ho | 4,_,ho | 5,_,ho | 6,_,ho | 7,_,ho | 8,_,ho | 9,_,ho | 10,_,ho | 11,_,ho=>
        obtain rfl:=sj ho
        rfl
      ·intro q w' h;cases h
      ·intro vs w' hb hv
       rw [putAll_tab _ _ _ _ [(some 55,vs 0),(some 56,vs 1),(some 57,vs 2),(some 58,vs 3),(some 59,vs 4),(some 60,vs 5),(some 61,vs 6),(some 62,vs 7),(some 63,vs 8),(some 64,vs 9),(some 65,vs 10),(some 66,vs 11)] rfl]
       simp only [putL_eq,putT,List.set_cons_succ,List.set_cons_zero]
       have hv11:vs 11=.bool false:=hv 11 (by decide)
       rw [hv11]
       have hb5:=Lib.hid (Hh.out.grow hb)
       clear hv hb hv11 hsm f0 f1 f2 f3 g0 g1 g2 g3 e0 e1
       go_wp2_with fail
       go_meet
       exact ⟨rfl,hb5.out⟩
      ·intro q op ho hG act w' hb hv hwas K hK
       have e2:=hwas 2 rfl
       have e3:=hwas 3 rfl
       have e6:=hwas 6 rfl
       simp at e2 e3 e6
       have x0:=(hb.cell (p:=⟨h1,3,none⟩) l1).trans e0;have x1:=(hb.cell (p:=⟨h2,3,none⟩) l2).trans e1
       have y0:=(hb.cell (p:=⟨b1,off+k*4,none⟩) hb1).trans f0;have y1:=(hb.cell (p:=⟨b1,off+k*4+1,none⟩) hb1).trans f1;have y2:=(hb.cell (p:=⟨b1,off+k*4+2,none⟩) hb1).trans f2;have y3:=(hb.cell (p:=⟨b1,off+k*4+3,none⟩) hb1).trans f3
       have z0:=(hb.cell (p:=⟨b2,off2+k*4,none⟩) hb2).trans g0;have z1:=(hb.cell (p:=⟨b2,off2+k*4+1,none⟩) hb2).trans g1;have z2:=(hb.cell (p:=⟨b2,off2+k*4+2,none⟩) hb2).trans g2;have z3:=(hb.cell (p:=⟨b2,off2+k*4+3,none⟩) hb2).trans g3
       have hi:q<12:=lt_of_some ho
       match q,hi,ho,hG,hK,hv with
       | 0,_,ho,hG,hK,hv=>
        obtain rfl:=sj ho
        clear hv hwas
        go_simp
        exact hK _ _ (Below.refl _ _) rfl
       | 1,_,ho,hG,hK,hv=>
        obtain rfl:=sj ho
        have x55:act.tmps[55]?.getD undef=.pointer (some ⟨h1,3,none⟩):=hv 0 55 rfl rfl
        clear hv hwas
        go_simp
        exact hK _ _ (Below.refl _ _) rfl
       | 2,_,ho,hG,hK,hv=>
        obtain rfl:=sj ho
        clear hv hwas
        go_simp
        exact hK _ _ (Below.refl _ _) rfl
       | 3,_,ho,hG,hK,hv=>
        obtain rfl:=sj ho
        have x56:act.tmps[56]?.getD undef=.slice (some ⟨b1,off,none⟩) n cs:=hv 1 56 rfl rfl
        have x57:act.tmps[57]?.getD undef=.int .i64 (k:Int):=hv 2 57 rfl rfl
        clear hv hwas
        go_simp
        exact hK _ _ (Below.refl _ _) rfl
       | 4,_,ho,hG,hK,hv=>
        obtain rfl:=sj ho
        have x58:act.tmps[58]?.getD undef=.pointer (some ⟨b1,off+k*4,none⟩):=hv 3 58 rfl rfl
        clear hv hwas
        go_simp
        exact hK _ _ (Below.refl _ _) rfl
       | 5,_,ho,hG,hK,hv=>
        obtain rfl:=sj ho
        clear hv hwas
        go_simp
        exact hK _ _ (Below.refl _ _) rfl
       | 6,_,ho,hG,hK,hv=>
        obtain rfl:=sj ho
        have x60:act.tmps[60]?.getD undef=.pointer (some ⟨h2,3,none⟩):=hv 5 60 rfl rfl
        clear hv hwas
        go_simp
        exact hK _ _ (Below.refl _ _) rfl
       | 7,_,ho,hG,hK,hv=>
        obtain rfl:=sj ho
        clear hv hwas
        go_simp
        exact hK _ _ (Below.refl _ _) rfl
       | 8,_,ho,hG,hK,hv=>
        obtain rfl:=sj ho
        have x61:act.tmps[61]?.getD undef=.slice (some ⟨b2,off2,none⟩) n cs':=hv 6 61 rfl rfl
        have x62:act.tmps[62]?.getD undef=.int .i64 (k:Int):=hv 7 62 rfl rfl
        clear hv hwas
        go_simp
        exact hK _ _ (Below.refl _ _) rfl
       | 9,_,ho,hG,hK,hv=>
        obtain rfl:=sj ho
        have x63:act.tmps[63]?.getD undef=.pointer (some ⟨b2,off2+k*4,none⟩):=hv 8 63 rfl rfl
        clear hv hwas
        go_simp
        exact hK _ _ (Below.refl _ _) rfl
       | 10,_,ho,hG,hK,hv=>
        obtain rfl:=sj ho
        have x59:act.tmps[59]?.getD undef=.agg #[.int .i64 S.mod,.int .i64 S.all,.int .i64 S.non,.slice X.A m X.c]:=hv 4 59 rfl rfl
        have x64:act.tmps[64]?.getD undef=.agg #[.int .i64 S.mod,.int .i64 S.all,.int .i64 S.non,.slice Y.A m Y.c]:=hv 9 64 rfl rfl
        clear hv hwas
        go_simp
        refine (hsm.out w' hb).mono ?_
        rintro e w'' ⟨rfl,hb''⟩
        exact hK _ _ hb'' rfl
       | 11,_,ho,hG,hK,hv=>
        obtain rfl:=sj ho
        have x65:act.tmps[65]?.getD undef=.bool true:=hv 10 65 rfl rfl
        clear hv hwas
        go_simp
        exact hK _ _ (Below.refl _ _) rfl
     case rest=>
      obtain ⟨rfl,H2⟩:=hcut
      have H2:=Lib.hid H2
      go_wp2_with fail
      go_roundw
      case rel=>exact ⟨k+1,by omega,by go_num,H2.out⟩
      case measure=>simp [intOf];omega
    ·obtain rfl:k=xs.length:=by omega
     have hb:=Lib.hid H.bel
     clear H
     go_wp2_with fail
     go_ret
     exact ⟨rfl,hb.out⟩
end Go.Proofs.YtefdblaolmckmacGreat
