/- Lemmas of the proof. -/
import Derived.Test.YtefdblaolmckmacGreatMBRef2MToRunG
import Derived.Test.YtefdblaolmckmacGreatMBRunA7ToRunR
import Derived.Test.YtefdblaolmckmacGreatMBSpecVToStoA
import Derived.Test.YtefdblaolmckmacGreatMBStoBToKg
import Derived.Test.YtefdblaolmckmacGreatMBSortTRToStoO
import Derived.Test.YtefdblaolmckmacGreatMBSpecOToSpecR
import Derived.Test.YtefdblaolmckmacGreatMBRowToInv
set_option linter.unusedVariables false
set_option linter.unusedSimpArgs false
set_option maxRecDepth 100000
set_option maxHeartbeats 12800000
namespace Go.Proofs.YtefdblaolmckmacGreat
open Brood
structure Apart (a b:BAct):Prop where
 part:a.part≠b.part
 ab:isFrom a=true→a.src≠b.part
 ba:isFrom b=true→b.src≠a.part
theorem Apart.symm {a b:BAct} (h:Apart a b):Apart b a:=⟨h.part.symm,h.ba,h.ab⟩
structure Quiet (r:BRow) (a:BAct):Prop where
 ok:okAct a
 n5:a.kind≠5
 n6:a.kind≠6
 n7:a.kind≠7
 has:hasB r.has a.part=true
theorem Quiet.part {r:BRow} {a:BAct} (h:Quiet r a):isPart a.part=true:=has_part h.has
theorem Quiet.of {r q:BRow} {a:BAct} (h:Quiet r a) (e:q.has=r.has):Quiet q a:=⟨h.ok,h.n5,h.n6,h.n7,by rw [e];exact h.has⟩
def allM:Nat→BWorld→List BSys→BWorld×(Int×Int)
 | _,W,[]=>(W,(0,0))
 | i,W,x::l=>if (runM W x).err≠0 then (⟨[],[]⟩,((runM W x).err,(i:Int))) else allM (i+1) (bw (runM W x)) l
open Go.RowKit
open Brood
structure AllT where
 tabs:List BTab
 gens:List Int
 err:Int
 at_:Int
def allT (T:List BTab) (gens:List Int) (l:List BSys):AllT:=
 if (storeErr T gens).1≠0 then ⟨[],[],(storeErr T gens).1,0⟩
 else ⟨tabsW (allM 0 ⟨worldT T,gens⟩ l).1.rows,(allM 0 ⟨worldT T,gens⟩ l).1.gens,(allM 0 ⟨worldT T,gens⟩ l).2.1,(allM 0 ⟨worldT T,gens⟩ l).2.2⟩
theorem runT_right {rows:List BRow} {gens:List Int} (hw:RightW rows gens) (x:BSys):runT (tabsW rows) gens x=⟨tabsW (runM ⟨rows,gens⟩ x).rows,(runM ⟨rows,gens⟩ x).gens,(runM ⟨rows,gens⟩ x).err⟩:=by
 unfold runT
 rw [hw.store,if_neg (by simp),hw.worldT]
theorem allT_right {rows:List BRow} {gens:List Int} (hw:RightW rows gens) (l:List BSys):allT (tabsW rows) gens l=⟨tabsW (allM 0 ⟨rows,gens⟩ l).1.rows,(allM 0 ⟨rows,gens⟩ l).1.gens,(allM 0 ⟨rows,gens⟩ l).2.1,(allM 0 ⟨rows,gens⟩ l).2.2⟩:=by
 unfold allT
 rw [hw.store,if_neg (by simp),hw.worldT]
theorem allM_drop {l:List BSys} {k:Nat} (hk:k<l.length) (W:BWorld):allM k W (l.drop k)=if (runM W l[k]).err≠0 then (⟨[],[]⟩,((runM W l[k]).err,(k:Int))) else allM (k+1) (bw (runM W l[k])) (l.drop (k+1)):=by
 rw [List.drop_eq_getElem_cons hk,allM]
def allE3 (b:Nat) (A:Option Addr) (c:Nat) (l:List TabIn) (Ag:Option Addr) (cg:Nat) (gens:List Int):List Ent:=
 [.box b 27 [.slice A l.length c,.slice Ag gens.length cg],.box (b+1) 27 [.slice none 0 0,.slice none 0 0],.box (b+1+1) 34 [.int .i64 0,.int .i64 0]]++stE A c l Ag cg gens
theorem sall_any (l:List TabIn) (A:Option Addr) (c:Nat) (gens:List Int) (Ag:Option Addr) (cg:Nat) (hs:StSmall l gens) (xs:List SysIn) (xA:Option Addr) (xc:Nat) (hxl:xs.length≤9223372036854775807) (w:World) (hx:RdS w w.heap.size xA xs) (h:RdSt w w.heap.size ⟨A,c,l,Ag,cg,gens⟩) :
  Calls Tryz.prog 25 #[.agg #[.slice A l.length c,.slice Ag gens.length cg],.slice xA xs.length xc] w fun e w'=>
   ∃ v,e=.returned (.tuple #[v,.agg #[.int .i64 (allT (l.map tabOf) gens (sysOf xs)).err,.int .i64 (allT (l.map tabOf) gens (sysOf xs)).at_]])∧GotSt w w' v (allT (l.map tabOf) gens (sysOf xs)).tabs (allT (l.map tabOf) gens (sysOf xs)).gens:=by
 have hE0:Hid (allT (l.map tabOf) gens (sysOf xs)=if (storeErr (l.map tabOf) gens).1≠0 then ⟨[],[],(storeErr (l.map tabOf) gens).1,0⟩
  else ⟨tabsW (allM 0 ⟨worldT (l.map tabOf),gens⟩ (sysOf xs)).1.rows,(allM 0 ⟨worldT (l.map tabOf),gens⟩ (sysOf xs)).1.gens,(allM 0 ⟨worldT (l.map tabOf),gens⟩ (sysOf xs)).2.1,(allM 0 ⟨worldT (l.map tabOf),gens⟩ (sysOf xs)).2.2⟩):=Lib.hid rfl
 generalize allT (l.map tabOf) gens (sysOf xs)=E at *
 have hh:=Lib.hid h;have hsh:=Lib.hid hs;have hxh:=Lib.hid hx
 clear h hs hx
 have H0:=(((Hp.start w).new w.heap.size rfl 27 [.slice A l.length c,.slice Ag gens.length cg]).new (w.heap.size+1) (by simp) 27 [.slice none 0 0,.slice none 0 0]).new (w.heap.size+1+1) (by simp) 34 [.int .i64 0,.int .i64 0]
 replace H0:Hp w _ [stBox w.heap.size A l.length c Ag gens.length cg,.box (w.heap.size+1) 27 [.slice none 0 0,.slice none 0 0],.box (w.heap.size+1+1) 34 [.int .i64 0,.int .i64 0]]:=H0
 have a0:=H0.cell 0 0 rfl rfl;have a1:=H0.cell 0 1 rfl rfl
 go_enter Tryz.func25,Tryz.ntmps25
 go_wp2_with fail
 obtain ⟨w0,hw0,H0⟩:=H0.name
 rw [hw0];clear hw0 a0 a1
 have hg0:RdSt w0 w0.heap.size ⟨A,c,l,Ag,cg,gens⟩:=hh.out.hp H0
 refine (swrong_any l A c gens Ag cg hsh.out w0 hg0.tabs hg0.gen hg0.ng).mono ?_
 rintro e w1 ⟨rfl,hb1⟩
 replace H0:=H0.grow hb1
 clear hb1 hg0
 have hrt:Hid ((storeErr (l.map tabOf) gens).1=0→RightW (worldT (l.map tabOf)) gens∧l.map tabOf=tabsW (worldT (l.map tabOf))):=Lib.hid store_right
 generalize storeErr (l.map tabOf) gens=F at *
 obtain ⟨f1,f2⟩:=F
 have H2:=H0.new _ rfl 34 [.int .i64 f1,.int .i64 f2]
 simp only at hE0 hrt ⊢
 by_cases hf:f1=0
 case neg=>
  clear H0
  have hf':(f1 != 0)=true:=by simpa using hf
  have hE:Hid (E=⟨[],[],f1,0⟩):=Lib.hid (by rw [hE0.out,if_pos hf])
  clear hE0 hrt
  go_upto_region 3 with fail
  obtain ⟨w2,hw2,H2⟩:=H2.name
  rw [hw2];clear hw2
  have n13:=H2.ne 1 3 rfl rfl (by omega);have n23:=H2.ne 2 3 rfl rfl (by omega);have n31:=n13.symm;have n32:=n23.symm
  have q0:=H2.cell 1 0 rfl rfl;have q1:=H2.cell 1 1 rfl rfl;have q2:=H2.cell 2 0 rfl rfl;have q3:=H2.cell 2 1 rfl rfl
  have y0:=H2.frozen 1 0 rfl;have y1:=H2.frozen 1 1 rfl;have y2:=H2.frozen 2 0 rfl;have y3:=H2.frozen 2 1 rfl
  have c0:=H2.cell 3 0 rfl rfl
  have H4:=((((H2.set 1 0 (.slice none 0 0) rfl).set 1 1 (.slice none 0 0) rfl).set 2 0 (.int .i64 f1) rfl).set 2 1 (.int .i64 0) rfl).drew
  have H5:=((((H2.set 2 0 (.int .i64 f1) rfl).set 2 1 (.int .i64 0) rfl).set 1 0 (.slice none 0 0) rfl).set 1 1 (.slice none 0 0) rfl).drew
  have H4h:=Lib.hid H4;have H5h:=Lib.hid H5
  clear H4 H2 H5
  go_region_held3 (fun w'=>w'.cell? ⟨w1.heap.size,0,none⟩=some (.int .i64 f1)) (go_keep) (fail)
  all_goals go_wp2_with fail
  ·have H4:=H4h.out
   have p0:=H4.cell 1 0 rfl rfl;have p1:=H4.cell 1 1 rfl rfl;have p2:=H4.cell 2 0 rfl rfl;have p3:=H4.cell 2 1 rfl rfl
   refine bodyPost_ret (v:=.tuple #[.agg #[.slice none 0 0,.slice none 0 0],.agg #[.int .i64 f1,.int .i64 0]]) (by simp [results,Tryz.results25,go_sem,p0,p1,p2,p3]) rfl ⟨_,by rw [hE.out],by rw [hE.out];exact GotSt.zero H4.bel⟩
 case pos=>
  subst hf
  obtain ⟨hrw,hfit0⟩:=hrt.out rfl
  obtain ⟨R,hR⟩:∃ R,R=allM 0 ⟨worldT (l.map tabOf),gens⟩ (sysOf xs):=⟨_,rfl⟩
  have hE:Hid (E=⟨tabsW R.1.rows,R.1.gens,R.2.1,R.2.2⟩):=Lib.hid (by rw [hE0.out,if_neg (by simp),hR])
  clear hE0 hrt
  have hfit:=Lib.hid hfit0;have hRh:=Lib.hid hR
  clear hfit0 hR
  generalize hrows:worldT (l.map tabOf)=rows at *
  clear hrows
  have hrwh:=Lib.hid hrw
  clear hrw
  have s0:=H2.cell 0 0 rfl rfl;have s1:=H2.cell 0 1 rfl rfl
  go_wp2_with fail
  clear H0
  obtain ⟨w2,hw2,H2⟩:=H2.name
  rw [hw2];clear hw2 s0 s1
  have hg4:RdSt w2 w2.heap.size ⟨A,c,l,Ag,cg,gens⟩:=hh.out.hp H2
  refine (sown_any l A c gens Ag cg hsh.out w2 hg4).mono ?_
  rintro e w5 ⟨A2,c2,l2,Ag2,cg2,rfl,hl2,H5⟩
  have hfit2:Hid (l2.map tabOf=tabsW rows):=Lib.hid (hl2.trans hfit.out)
  replace H5:=(H2.join H5).drop1 3
  have y0:=H5.frozen 0 0 rfl;have y1:=H5.frozen 0 1 rfl;have q0:=H5.cell 0 0 rfl rfl;have q1:=H5.cell 0 1 rfl rfl
  replace H5:=(H5.set 0 0 (.slice A2 l2.length c2) rfl).set 0 1 (.slice Ag2 gens.length cg2) rfl
  replace H5:Hp w _ (allE3 w.heap.size A2 c2 l2 Ag2 cg2 gens):=H5
  have H5h:=Lib.hid H5
  clear H2 hg4 hl2 H5
  go_wp2_with fail
  go_loopw [24] (fun q wr=>∃ k:Nat,k≤xs.length∧q=.int .i64 k∧∃ (rs:List BRow) (gs:List Int) (A':Option Addr) (c':Nat) (l':List TabIn) (Ag':Option Addr) (cg':Nat),Hid (RightW rs gs∧l'.map tabOf=tabsW rs∧allM k ⟨rs,gs⟩ ((sysOf xs).drop k)=R)∧Hp w wr (allE3 w.heap.size A' c' l' Ag' cg' gs)) (fun q _=>xs.length-(intOf q).toNat)
  case atStart=>exact ⟨0,by omega,rfl,rows,gens,A2,c2,l2,Ag2,cg2,Lib.hid ⟨hrwh.out,hfit2.out,hRh.out.symm⟩,H5h.out⟩
  case round=>
   clear H5h hfit2 hRh hfit y0 y1 q0 q1
   obtain ⟨k,hk,rfl,rs,gs,A',c',l',Ag',cg',hS,H⟩:=hrel
   have q0:=H.cell 0 0 rfl rfl;have q1:=H.cell 0 1 rfl rfl
   by_cases hlt:k<xs.length
   ·obtain ⟨b1,off,hA,hb1,e0,e1,e2,e3⟩:=(hxh.out.under H.bel (Nat.le_refl _)).at_ hlt
    have hact:=hxh.out.acts _ (List.getElem_mem hlt)
    have hsd:Hid ((if (runM ⟨rs,gs⟩ xs[k].s).err≠0 then (⟨[],[]⟩,((runM ⟨rs,gs⟩ xs[k].s).err,(k:Int))) else allM (k+1) (bw (runM ⟨rs,gs⟩ xs[k].s)) ((sysOf xs).drop (k+1)))=R):=Lib.hid (by
     have h1:=hS.out.2.2
     rw [allM_drop (by rw [sysOf_length];exact hlt)] at h1
     simpa only [sysOf,List.getElem_map] using h1)
    have hS2:=Lib.hid (And.intro hS.out.1 hS.out.2.1)
    generalize xs[k]=X at *
    obtain ⟨s,sA,sc⟩:=X
    subst hA
    dsimp only at e0 e1 e2 e3 hact hsd
    have H1:=H.new wr.heap.size rfl 51 [.int .i64 s.mod,.int .i64 s.all,.int .i64 s.non,.slice sA s.acts.length sc]
    have i0:(0:Int)≤(k:Int):=by omega
    have i1:(k:Int)<(xs.length:Int):=by omega
    have lt0:=H.lt 0 rfl
    have hacth:=Lib.hid hact
    clear hS H hact
    go_wp2_with fail
    obtain ⟨w6,hw6,H6⟩:=H1.name
    rw [hw6];clear hw6 H1 q0 q1 e0 e1 e2 e3 lt0
    have hR6:RdSt w6 w6.heap.size ⟨A',c',l',Ag',cg',gs⟩:=H6.stRd (fun p hp=>by unfold allE3;simp [hp])
    have hrun:=srun_any l' A' c' gs Ag' cg' (right_small hS2.out.1 hS2.out.2) s sA sc w6 (Rd.more (Rd.under hacth.out H6.bel (Nat.le_refl _)) H6.bel.size) hR6
    rw [hS2.out.2,runT_right hS2.out.1] at hrun
    refine hrun.mono ?_
    have hrr:=Lib.hid (fun h=>runM_right (W:=⟨rs,gs⟩) (x:=s) h hS2.out.1)
    generalize runM ⟨rs,gs⟩ s=X at *
    obtain ⟨xr,xg,xe⟩:=X
    rintro e w7 ⟨v,rfl,A3,c3,l3,Ag3,cg3,rfl,hl3,HN⟩
    dsimp only at hl3 HN hsd hrr ⊢
    have H7:=H6.elder.join HN
    have hl3h:=Lib.hid hl3
    clear hrun HN H6 hR6 hl3
    by_cases he:xe=0
    ·subst he
     have hnx:Hid (allM (k+1) ⟨xr,xg⟩ ((sysOf xs).drop (k+1))=R):=Lib.hid (by
      have h1:=hsd.out
      rw [if_neg (by simp)] at h1
      exact h1)
     have hrw2:=Lib.hid (hrr.out rfl)
     have H8:=H7
     have y0:=H8.frozen 0 0 rfl;have y1:=H8.frozen 0 1 rfl;have z0:=H8.cell 0 0 rfl rfl;have z1:=H8.cell 0 1 rfl rfl
     have lt0:=H8.lt 0 rfl
     have H9:Hp w ((w7.setCell ⟨w.heap.size,0,none⟩ (.slice A3 l3.length c3)).setCell ⟨w.heap.size,1,none⟩ (.slice Ag3 xg.length cg3)) ([.box w.heap.size 27 [.slice A3 l3.length c3,.slice Ag3 xg.length cg3],.box (w.heap.size+1) 27 [.slice none 0 0,.slice none 0 0],.box (w.heap.size+1+1) 34 [.int .i64 0,.int .i64 0]]++(stE A' c' l' Ag' cg' gs++[])++stE A3 c3 l3 Ag3 cg3 xg):=by
      rw [List.append_nil]
      exact (H8.set 0 0 (.slice A3 l3.length c3) rfl).set 0 1 (.slice Ag3 xg.length cg3) rfl
     have H10:=Hp.newer H9
     rw [List.append_nil] at H10
     have H11:=Lib.hid (H10.alloc (.cells #[.slice A3 l3.length c3,.slice Ag3 xg.length cg3] 27))
     clear hsd hrr H7 H8 H9 H10
     go_wp2_with fail
     go_roundw
     case rel=>exact ⟨k+1,by omega,by go_num,xr,xg,A3,c3,l3,Ag3,cg3,Lib.hid ⟨hrw2.out,hl3h.out,hnx.out⟩,H11.out⟩
     case measure=>simp [intOf];omega
    ·have he':(xe != 0)=true:=by simpa using he
     have hE3:Hid (E=⟨[],[],xe,(k:Int)⟩):=Lib.hid (by
      have h1:=hsd.out
      rw [if_pos he] at h1
      rw [hE.out,← h1]
      rfl)
     have H8:=H7
     have y0:=H8.frozen 1 0 rfl;have y1:=H8.frozen 1 1 rfl;have z0:=H8.cell 1 0 rfl rfl;have z1:=H8.cell 1 1 rfl rfl
     have y2:=H8.frozen 2 0 rfl;have y3:=H8.frozen 2 1 rfl;have z2:=H8.cell 2 0 rfl rfl;have z3:=H8.cell 2 1 rfl rfl
     have lt1:=H8.lt 1 rfl;have lt2:=H8.lt 2 rfl
     have H9:=((((H8.set 1 0 (.slice none 0 0) rfl).set 1 1 (.slice none 0 0) rfl).set 2 0 (.int .i64 xe) rfl).set 2 1 (.int .i64 (k:Int)) rfl).alloc (.cells #[.slice A3 l3.length c3,.slice Ag3 xg.length cg3] 27)
     have p0:=H9.cell 1 0 rfl rfl;have p1:=H9.cell 1 1 rfl rfl;have p2:=H9.cell 2 0 rfl rfl;have p3:=H9.cell 2 1 rfl rfl
     have H9h:=Lib.hid H9
     clear hsd hrr H7 H8 H9 hE he
     go_wp2_with fail
     refine bodyPost_ret (v:=.tuple #[.agg #[.slice none 0 0,.slice none 0 0],.agg #[.int .i64 xe,.int .i64 (k:Int)]]) (by simp [results,Tryz.results25,go_sem,p0,p1,p2,p3]) rfl ⟨_,by rw [hE3.out],by rw [hE3.out];exact GotSt.zero H9h.out.bel⟩
   ·obtain rfl:k=xs.length:=by omega
    have hE3:Hid (E=⟨tabsW rs,gs,0,0⟩):=Lib.hid (by
     have h1:=hS.out.2.2
     rw [List.drop_of_length_le (by rw [sysOf_length];omega)] at h1
     rw [hE.out,← h1]
     rfl)
    have hl4h:Hid (l'.map tabOf=tabsW rs):=Lib.hid hS.out.2.1
    clear hE hS
    have y0:=H.frozen 1 0 rfl;have y1:=H.frozen 1 1 rfl;have z0:=H.cell 1 0 rfl rfl;have z1:=H.cell 1 1 rfl rfl
    have y2:=H.frozen 2 0 rfl;have y3:=H.frozen 2 1 rfl;have z2:=H.cell 2 0 rfl rfl;have z3:=H.cell 2 1 rfl rfl
    have H9:=(((H.set 1 0 (.slice A' l'.length c') rfl).set 1 1 (.slice Ag' gs.length cg') rfl).set 2 0 (.int .i64 0) rfl).set 2 1 (.int .i64 0) rfl
    have p0:=H9.cell 1 0 rfl rfl;have p1:=H9.cell 1 1 rfl rfl;have p2:=H9.cell 2 0 rfl rfl;have p3:=H9.cell 2 1 rfl rfl
    have H9h:=Lib.hid H9
    clear H H9
    go_wp2_with fail
    refine bodyPost_ret (v:=.tuple #[.agg #[.slice A' l'.length c',.slice Ag' gs.length cg'],.agg #[.int .i64 0,.int .i64 0]]) (by simp [results,Tryz.results25,go_sem,p0,p1,p2,p3]) rfl ⟨_,by rw [hE3.out],by rw [hE3.out];exact ⟨A',c',l',Ag',cg',rfl,hl4h.out,((H9h.out.drop1 2).drop1 1).drop1 0⟩⟩
open Go.RowKit
open Brood
end Go.Proofs.YtefdblaolmckmacGreat
