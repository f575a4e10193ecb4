/- Lemmas of the proof. -/
import Derived.Test.YtefdblaolmckmabGreatRBRef2MToRunG
import Derived.Test.YtefdblaolmckmabGreatRBRunA7ToRunR
import Derived.Test.YtefdblaolmckmabGreatRBSpecVToStoA
import Derived.Test.YtefdblaolmckmabGreatRBStoBToKg
import Derived.Test.YtefdblaolmckmabGreatRBSortTRToStoO
import Derived.Test.YtefdblaolmckmabGreatRBSpecOToSpecR
import Derived.Test.YtefdblaolmckmabGreatRBRowToInv
set_option linter.unusedVariables false
set_option linter.unusedSimpArgs false
set_option maxRecDepth 100000
set_option maxHeartbeats 12800000
namespace Go.Proofs.YtefdblaolmckmabGreat
open Brood
structure Apart (a b:BAct):Prop where
 part:a.part≠b.part
 ab:isFrom a=true→a.src≠b.part
 ba:isFrom b=true→b.src≠a.part
theorem Apart.symm {a b:BAct} (h:Apart a b):Apart b a:=⟨h.part.symm,h.ba,h.ab⟩
structure Quiet (r:BRow) (a:BAct):Prop where
 ok:okAct a
 n5:a.kind≠5
 n6:a.kind≠6
 n7:a.kind≠7
 has:hasB r.has a.part=true
theorem Quiet.part {r:BRow} {a:BAct} (h:Quiet r a):isPart a.part=true:=has_part h.has
theorem Quiet.of {r q:BRow} {a:BAct} (h:Quiet r a) (e:q.has=r.has):Quiet q a:=⟨h.ok,h.n5,h.n6,h.n7,by rw [e];exact h.has⟩
def allM:Nat→BWorld→List BSys→BWorld×(Int×Int)
 | _,W,[]=>(W,(0,0))
 | i,W,x::l=>if (runM W x).err≠0 then (⟨[],[]⟩,((runM W x).err,(i:Int))) else allM (i+1) (bw (runM W x)) l
open Go.RowKit
open Brood
structure AllT where
 tabs:List BTab
 gens:List Int
 err:Int
 at_:Int
def allT (T:List BTab) (gens:List Int) (l:List BSys):AllT:=
 if (storeErr T gens).1≠0 then ⟨[],[],(storeErr T gens).1,0⟩
 else ⟨tabsW (allM 0 ⟨worldT T,gens⟩ l).1.rows,(allM 0 ⟨worldT T,gens⟩ l).1.gens,(allM 0 ⟨worldT T,gens⟩ l).2.1,(allM 0 ⟨worldT T,gens⟩ l).2.2⟩
theorem runT_right {rows:List BRow} {gens:List Int} (hw:RightW rows gens) (x:BSys):runT (tabsW rows) gens x=⟨tabsW (runM ⟨rows,gens⟩ x).rows,(runM ⟨rows,gens⟩ x).gens,(runM ⟨rows,gens⟩ x).err⟩:=by
 unfold runT
 rw [hw.store,if_neg (by simp),hw.worldT]
theorem allM_drop {l:List BSys} {k:Nat} (hk:k<l.length) (W:BWorld):allM k W (l.drop k)=if (runM W l[k]).err≠0 then (⟨[],[]⟩,((runM W l[k]).err,(k:Int))) else allM (k+1) (bw (runM W l[k])) (l.drop (k+1)):=by
 rw [List.drop_eq_getElem_cons hk,allM]
def allE3 (b:Nat) (A:Option Addr) (c:Nat) (l:List TabIn) (Ag:Option Addr) (cg:Nat) (gens:List Int):List Ent:=
 [.box b 40 [.slice A l.length c,.slice Ag gens.length cg],.box (b+1) 40 [.slice none 0 0,.slice none 0 0],.box (b+1+1) 48 [.int .i64 0,.int .i64 0]]++stE A c l Ag cg gens
theorem sall_any (l:List TabIn) (A:Option Addr) (c:Nat) (gens:List Int) (Ag:Option Addr) (cg:Nat) (hs:StSmall l gens) (xs:List SysIn) (xA:Option Addr) (xc:Nat) (hxl:xs.length≤9223372036854775807) (w:World) (hx:RdS w w.heap.size xA xs) (h:RdSt w w.heap.size ⟨A,c,l,Ag,cg,gens⟩) :
  Calls Tryz.prog 26 #[.agg #[.slice A l.length c,.slice Ag gens.length cg],.slice xA xs.length xc] w fun e w'=>
   ∃ v,e=.returned (.tuple #[v,.agg #[.int .i64 (allT (l.map tabOf) gens (sysOf xs)).err,.int .i64 (allT (l.map tabOf) gens (sysOf xs)).at_]])∧GotSt w w' v (allT (l.map tabOf) gens (sysOf xs)).tabs (allT (l.map tabOf) gens (sysOf xs)).gens:=by
 have hE0:Hid (allT (l.map tabOf) gens (sysOf xs)=if (storeErr (l.map tabOf) gens).1≠0 then ⟨[],[],(storeErr (l.map tabOf) gens).1,0⟩
  else ⟨tabsW (allM 0 ⟨worldT (l.map tabOf),gens⟩ (sysOf xs)).1.rows,(allM 0 ⟨worldT (l.map tabOf),gens⟩ (sysOf xs)).1.gens,(allM 0 ⟨worldT (l.map tabOf),gens⟩ (sysOf xs)).2.1,(allM 0 ⟨worldT (l.map tabOf),gens⟩ (sysOf xs)).2.2⟩):=Lib.hid rfl
 generalize allT (l.map tabOf) gens (sysOf xs)=E at *
 have hh:=Lib.hid h;have hsh:=Lib.hid hs;have hxh:=Lib.hid hx
 clear h hs hx
 have H0:=(((Hp.start w).new w.heap.size rfl 40 [.slice A l.length c,.slice Ag gens.length cg]).new (w.heap.size+1) (by simp) 40 [.slice none 0 0,.slice none 0 0]).new (w.heap.size+1+1) (by simp) 48 [.int .i64 0,.int .i64 0]
 replace H0:Hp w _ [stBox w.heap.size A l.length c Ag gens.length cg,.box (w.heap.size+1) 40 [.slice none 0 0,.slice none 0 0],.box (w.heap.size+1+1) 48 [.int .i64 0,.int .i64 0]]:=H0
 have a0:=H0.cell 0 0 rfl rfl;have a1:=H0.cell 0 1 rfl rfl
 go_enter Tryz.func26,Tryz.ntmps26
 go_wp2_with fail
 obtain ⟨w0,hw0,H0⟩:=H0.name
 rw [hw0];clear hw0 a0 a1
 have hg0:RdSt w0 w0.heap.size ⟨A,c,l,Ag,cg,gens⟩:=hh.out.hp H0
 refine (swrong_any l A c gens Ag cg hsh.out w0 hg0.tabs hg0.gen hg0.ng).mono ?_
 rintro e w1 ⟨rfl,hb1⟩
 replace H0:=H0.grow hb1
 clear hb1 hg0
 have hrt:Hid ((storeErr (l.map tabOf) gens).1=0→RightW (worldT (l.map tabOf)) gens∧l.map tabOf=tabsW (worldT (l.map tabOf))):=Lib.hid store_right
 generalize storeErr (l.map tabOf) gens=F at *
 obtain ⟨f1,f2⟩:=F
 have H2:=H0.new _ rfl 48 [.int .i64 f1,.int .i64 f2]
 simp only at hE0 hrt ⊢
 by_cases hf:f1=0
 case neg=>
  clear H0
  have hf':(f1 != 0)=true:=by simpa using hf
  have hE:Hid (E=⟨[],[],f1,0⟩):=Lib.hid (by rw [hE0.out,if_pos hf])
  clear hE0 hrt
  go_upto_region 3 with fail
  obtain ⟨w2,hw2,H2⟩:=H2.name
  rw [hw2];clear hw2
  have n13:=H2.ne 1 3 rfl rfl (by omega);have n23:=H2.ne 2 3 rfl rfl (by omega);have n31:=n13.symm;have n32:=n23.symm
  have q0:=H2.cell 1 0 rfl rfl;have q1:=H2.cell 1 1 rfl rfl;have q2:=H2.cell 2 0 rfl rfl;have q3:=H2.cell 2 1 rfl rfl
  have y0:=H2.frozen 1 0 rfl;have y1:=H2.frozen 1 1 rfl;have y2:=H2.frozen 2 0 rfl;have y3:=H2.frozen 2 1 rfl
  have c0:=H2.cell 3 0 rfl rfl
  have H4:=((((H2.set 1 0 (.slice none 0 0) rfl).set 1 1 (.slice none 0 0) rfl).set 2 0 (.int .i64 f1) rfl).set 2 1 (.int .i64 0) rfl).drew
  have H5:=((((H2.set 2 0 (.int .i64 f1) rfl).set 2 1 (.int .i64 0) rfl).set 1 0 (.slice none 0 0) rfl).set 1 1 (.slice none 0 0) rfl).drew
  have H4h:=Lib.hid H4;have H5h:=Lib.hid H5
  clear H4 H2 H5
  go_region_held3 (fun w'=>w'.cell? ⟨w1.heap.size,0,none⟩=some (.int .i64 f1)) (go_keep) (fail)
  all_goals go_wp2_with fail
  ·have H4:=H4h.out
   have p0:=H4.cell 1 0 rfl rfl;have p1:=H4.cell 1 1 rfl rfl;have p2:=H4.cell 2 0 rfl rfl;have p3:=H4.cell 2 1 rfl rfl
   refine bodyPost_ret (v:=.tuple #[.agg #[.slice none 0 0,.slice none 0 0],.agg #[.int .i64 f1,.int .i64 0]]) (by simp [results,Tryz.results26,go_sem,p0,p1,p2,p3]) rfl ⟨_,by rw [hE.out],by rw [hE.out];exact GotSt.zero H4.bel⟩
 case pos=>
  subst hf
  obtain ⟨hrw,hfit0⟩:=hrt.out rfl
  obtain ⟨R,hR⟩:∃ R,R=allM 0 ⟨worldT (l.map tabOf),gens⟩ (sysOf xs):=⟨_,rfl⟩
  have hE:Hid (E=⟨tabsW R.1.rows,R.1.gens,R.2.1,R.2.2⟩):=Lib.hid (by rw [hE0.out,if_neg (by simp),hR])
  clear hE0 hrt
  have hfit:=Lib.hid hfit0;have hRh:=Lib.hid hR
  clear hfit0 hR
  generalize hrows:worldT (l.map tabOf)=rows at *
  clear hrows
  have hrwh:=Lib.hid hrw
  clear hrw
  have s0:=H2.cell 0 0 rfl rfl;have s1:=H2.cell 0 1 rfl rfl
  go_wp2_with fail
  clear H0
  obtain ⟨w2,hw2,H2⟩:=H2.name
  rw [hw2];clear hw2 s0 s1
  have hg4:RdSt w2 w2.heap.size ⟨A,c,l,Ag,cg,gens⟩:=hh.out.hp H2
  refine (sown_any l A c gens Ag cg hsh.out w2 hg4).mono ?_
  rintro e w5 ⟨A2,c2,l2,Ag2,cg2,rfl,hl2,H5⟩
  have hfit2:Hid (l2.map tabOf=tabsW rows):=Lib.hid (hl2.trans hfit.out)
  replace H5:=(H2.join H5).drop1 3
  have y0:=H5.frozen 0 0 rfl;have y1:=H5.frozen 0 1 rfl;have q0:=H5.cell 0 0 rfl rfl;have q1:=H5.cell 0 1 rfl rfl
  replace H5:=(H5.set 0 0 (.slice A2 l2.length c2) rfl).set 0 1 (.slice Ag2 gens.length cg2) rfl
  replace H5:Hp w _ (allE3 w.heap.size A2 c2 l2 Ag2 cg2 gens):=H5
  have H5h:=Lib.hid H5
  clear H2 hg4 hl2 H5
  go_wp2_with fail
  go_loopw [24] (fun q wr=>∃ k:Nat,k≤xs.length∧q=.int .i64 k∧∃ (rs:List BRow) (gs:List Int) (A':Option Addr) (c':Nat) (l':List TabIn) (Ag':Option Addr) (cg':Nat),Hid (RightW rs gs∧l'.map tabOf=tabsW rs∧allM k ⟨rs,gs⟩ ((sysOf xs).drop k)=R)∧Hp w wr (allE3 w.heap.size A' c' l' Ag' cg' gs)) (fun q _=>xs.length-(intOf q).toNat)
  case atStart=>exact ⟨0,by omega,rfl,rows,gens,A2,c2,l2,Ag2,cg2,Lib.hid ⟨hrwh.out,hfit2.out,hRh.out.symm⟩,H5h.out⟩
  case round=>
   clear H5h hfit2 hRh hfit y0 y1 q0 q1
   obtain ⟨k,hk,rfl,rs,gs,A',c',l',Ag',cg',hS,H⟩:=hrel
   have q0:=H.cell 0 0 rfl rfl;have q1:=H.cell 0 1 rfl rfl
   by_cases hlt:k<xs.length
   ·obtain ⟨b1,off,hA,hb1,e0,e1,e2,e3⟩:=(hxh.out.under H.bel (Nat.le_refl _)).at_ hlt
    have hact:=hxh.out.acts _ (List.getElem_mem hlt)
    have hsd:Hid ((if (runM ⟨rs,gs⟩ xs[k].s).err≠0 then (⟨[],[]⟩,((runM ⟨rs,gs⟩ xs[k].s).err,(k:Int))) else allM (k+1) (bw (runM ⟨rs,gs⟩ xs[k].s)) ((sysOf xs).drop (k+1)))=R):=Lib.hid (by
     have h1:=hS.out.2.2
     rw [allM_drop (by rw [sysOf_length];exact hlt)] at h1
     simpa only [sysOf,List.getElem_map] using h1)
    have hS2:=Lib.hid (And.intro hS.out.1 hS.out.2.1)
    generalize xs[k]=X at *
    obtain ⟨s,sA,sc⟩:=X
    subst hA
    dsimp only at e0 e1 e2 e3 hact hsd
    have H1:=H.new wr.heap.size rfl 29 [.int .i64 s.mod,.int .i64 s.all,.int .i64 s.non,.slice sA s.acts.length sc]
    have i0:(0:Int)≤(k:Int):=by omega
    have i1:(k:Int)<(xs.length:Int):=by omega
    have lt0:=H.lt 0 rfl
    have hacth:=Lib.hid hact
    clear hS H hact
    go_wp2_with fail
    obtain ⟨w6,hw6,H6⟩:=H1.name
    rw [hw6];clear hw6 H1 q0 q1 e0 e1 e2 e3 lt0
    have hR6:RdSt w6 w6.heap.size ⟨A',c',l',Ag',cg',gs⟩:=H6.stRd (fun p hp=>by unfold allE3;simp [hp])
    have hrun:=srun_any l' A' c' gs Ag' cg' (right_small hS2.out.1 hS2.out.2) s sA sc w6 (Rd.more (Rd.under hacth.out H6.bel (Nat.le_refl _)) H6.bel.size) hR6
    rw [hS2.out.2,runT_right hS2.out.1] at hrun
    refine hrun.mono ?_
    have hrr:=Lib.hid (fun h=>runM_right (W:=⟨rs,gs⟩) (x:=s) h hS2.out.1)
    generalize runM ⟨rs,gs⟩ s=X at *
    obtain ⟨xr,xg,xe⟩:=X
    rintro e w7 ⟨v,rfl,A3,c3,l3,Ag3,cg3,rfl,hl3,HN⟩
    dsimp only at hl3 HN hsd hrr ⊢
    have H7:=H6.elder.join HN
    have hl3h:=Lib.hid hl3
    clear hrun HN H6 hR6 hl3
    by_cases he:xe=0
    ·subst he
     have hnx:Hid (allM (k+1) ⟨xr,xg⟩ ((sysOf xs).drop (k+1))=R):=Lib.hid (by
      have h1:=hsd.out
      rw [if_neg (by simp)] at h1
      exact h1)
     have hrw2:=Lib.hid (hrr.out rfl)
     have H8:=H7
     have y0:=H8.frozen 0 0 rfl;have y1:=H8.frozen 0 1 rfl;have z0:=H8.cell 0 0 rfl rfl;have z1:=H8.cell 0 1 rfl rfl
     have lt0:=H8.lt 0 rfl
     have H9:Hp w ((w7.setCell ⟨w.heap.size,0,none⟩ (.slice A3 l3.length c3)).setCell ⟨w.heap.size,1,none⟩ (.slice Ag3 xg.length cg3)) ([.box w.heap.size 40 [.slice A3 l3.length c3,.slice Ag3 xg.length cg3],.box (w.heap.size+1) 40 [.slice none 0 0,.slice none 0 0],.box (w.heap.size+1+1) 48 [.int .i64 0,.int .i64 0]]++(stE A' c' l' Ag' cg' gs++[])++stE A3 c3 l3 Ag3 cg3 xg):=by
      rw [List.append_nil]
      exact (H8.set 0 0 (.slice A3 l3.length c3) rfl).set 0 1 (.slice Ag3 xg.length cg3) rfl
     have H10:=Hp.newer H9
     rw [List.append_nil] at H10
     have H11:=Lib.hid (H10.alloc (.cells #[.slice A3 l3.length c3,.slice Ag3 xg.length cg3] 40))
     clear hsd hrr H7 H8 H9 H10
     go_wp2_with fail
     go_roundw
     case rel=>exact ⟨k+1,by omega,by go_num,xr,xg,A3,c3,l3,Ag3,cg3,Lib.hid ⟨hrw2.out,hl3h.out,hnx.out⟩,H11.out⟩
     case measure=>simp [intOf];omega
    ·have he':(xe != 0)=true:=by simpa using he
     have hE3:Hid (E=⟨[],[],xe,(k:Int)⟩):=Lib.hid (by
      have h1:=hsd.out
      rw [if_pos he] at h1
      rw [hE.out,← h1]
      rfl)
     have H8:=H7
     have y0:=H8.frozen 1 0 rfl;have y1:=H8.frozen 1 1 rfl;have z0:=H8.cell 1 0 rfl rfl;have z1:=H8.cell 1 1 rfl rfl
     have y2:=H8.frozen 2 0 rfl;have y3:=H8.frozen 2 1 rfl;have z2:=H8.cell 2 0 rfl rfl;have z3:=H8.cell 2 1 rfl rfl
     have lt1:=H8.lt 1 rfl;have lt2:=H8.lt 2 rfl
     have H9:=((((H8.set 1 0 (.slice none 0 0) rfl).set 1 1 (.slice none 0 0) rfl).set 2 0 (.int .i64 xe) rfl).set 2 1 (.int .i64 (k:Int)) rfl).alloc (.cells #[.slice A3 l3.length c3,.slice Ag3 xg.length cg3] 40)
     have p0:=H9.cell 1 0 rfl rfl;have p1:=H9.cell 1 1 rfl rfl;have p2:=H9.cell 2 0 rfl rfl;have p3:=H9.cell 2 1 rfl rfl
     have H9h:=Lib.hid H9
     clear hsd hrr H7 H8 H9 hE he
     go_wp2_with fail
     refine bodyPost_ret (v:=.tuple #[.agg #[.slice none 0 0,.slice none 0 0],.agg #[.int .i64 xe,.int .i64 (k:Int)]]) (by simp [results,Tryz.results26,go_sem,p0,p1,p2,p3]) rfl ⟨_,by rw [hE3.out],by rw [hE3.out];exact GotSt.zero H9h.out.bel⟩
   ·obtain rfl:k=xs.length:=by omega
    have hE3:Hid (E=⟨tabsW rs,gs,0,0⟩):=Lib.hid (by
     have h1:=hS.out.2.2
     rw [List.drop_of_length_le (by rw [sysOf_length];omega)] at h1
     rw [hE.out,← h1]
     rfl)
    have hl4h:Hid (l'.map tabOf=tabsW rs):=Lib.hid hS.out.2.1
    clear hE hS
    have y0:=H.frozen 1 0 rfl;have y1:=H.frozen 1 1 rfl;have z0:=H.cell 1 0 rfl rfl;have z1:=H.cell 1 1 rfl rfl
    have y2:=H.frozen 2 0 rfl;have y3:=H.frozen 2 1 rfl;have z2:=H.cell 2 0 rfl rfl;have z3:=H.cell 2 1 rfl rfl
    have H9:=(((H.set 1 0 (.slice A' l'.length c') rfl).set 1 1 (.slice Ag' gs.length cg') rfl).set 2 0 (.int .i64 0) rfl).set 2 1 (.int .i64 0) rfl
    have p0:=H9.cell 1 0 rfl rfl;have p1:=H9.cell 1 1 rfl rfl;have p2:=H9.cell 2 0 rfl rfl;have p3:=H9.cell 2 1 rfl rfl
    have H9h:=Lib.hid H9
    clear H H9
    go_wp2_with fail
    refine bodyPost_ret (v:=.tuple #[.agg #[.slice A' l'.length c',.slice Ag' gs.length cg'],.agg #[.int .i64 0,.int .i64 0]]) (by simp [results,Tryz.results26,go_sem,p0,p1,p2,p3]) rfl ⟨_,by rw [hE3.out],by rw [hE3.out];exact ⟨A',c',l',Ag',cg',rfl,hl4h.out,((H9h.out.drop1 2).drop1 1).drop1 0⟩⟩
open Go.RowKit
open Brood
theorem samebs_any (l:List (Int×Int)) (A:Option Addr) (c:Nat) (A':Option Addr) (c':Nat) (hl:l.length≤1048576) (w:World) (hA:Rd w w.heap.size 2 A l.length (l.flatMap beC)) (hA':Rd w w.heap.size 2 A' l.length (l.flatMap beC)) :
  Calls Tryz.prog 69 #[.slice A l.length c,.slice A' l.length c'] w fun e w'=>e=.returned (.bool true)∧Below w.heap.size w w':=by
 go_enter Tryz.func69,Tryz.ntmps69
 go_wp2_with fail
 go_loopw [13] (fun q wx=>∃ k:Nat,k≤l.length∧q=.int .i64 k∧Below w.heap.size w wx) (fun q _=>l.length-(intOf q).toNat)
 case atStart=>exact ⟨0,by omega,rfl,Below.refl _ _⟩
 case round=>
  obtain ⟨k,hk,rfl,hbel⟩:=hrel
  by_cases hlt:k<l.length
  ·obtain ⟨b,off,rfl,hb,c0,c1⟩:=rdBe_at (Rd.under hA hbel (Nat.le_refl _)) hlt
   obtain ⟨b',off',rfl,hb',d0,d1⟩:=rdBe_at (Rd.under hA' hbel (Nat.le_refl _)) hlt
   clear hA hA'
   generalize l[k]=r at *
   obtain ⟨ri,rg⟩:=r
   dsimp only at c0 c1 d0 d1
   have i0:(0:Int)≤(k:Int):=by omega
   have i1:(k:Int)<(l.length:Int):=by omega
   have hne:∀ W,(binOp .neq 24 (.agg #[.int .i64 ri,.int .i64 rg]) (.agg #[.int .i64 ri,.int .i64 rg])).run Tryz.prog W=.ok (.bool false) W:=fun W=>by rw [neBeing];simp
   go_upto_region 6 with fail
   go_cut [24] (fun s24 wx=>s24=.bool false∧∃ n,wx=wr.drewN n)
   case first=>
    go_quiet (fail)
    go_wp2_with fail
    go_meet
    exact ⟨rfl,_,rfl⟩
   case rest=>
    obtain ⟨rfl,n,rfl⟩:=hcut
    have hbel2:=below_drewN hbel n
    go_wp2_with fail
    go_roundw
    case rel=>exact ⟨k+1,by omega,by go_num,hbel2⟩
    case measure=>simp [intOf];omega
  ·obtain rfl:k=l.length:=by omega
   go_wp2_with fail
   go_ret
   exact ⟨rfl,hbel⟩
def twoE (B:Nat) (A:Option Addr) (n c:Nat) (Ag:Option Addr) (m cg:Nat) (A':Option Addr) (c':Nat) (Ag':Option Addr) (cg':Nat):List Ent:=[stBox B A n c Ag m cg,stBox (B+1) A' n c' Ag' m cg']
def fourE (B:Nat) (A:Option Addr) (n c:Nat) (Ag:Option Addr) (m cg:Nat) (A':Option Addr) (c':Nat) (Ag':Option Addr) (cg':Nat) (b7 b8:Nat) (has:Int) (bA:Option Addr) (nb bc:Nat) (cA:Option Addr) (nc cc:Nat) (bA':Option Addr) (bc':Nat) (cA':Option Addr) (cc':Nat):List Ent:=
 twoE B A n c Ag m cg A' c' Ag' cg'++[.box b7 100 [.int .i64 has,.slice bA nb bc,.slice cA nc cc]]++[.box b8 100 [.int .i64 has,.slice bA' nb bc',.slice cA' nc cc']]
theorem rsamest_any (l l':List TabIn) (gens:List Int) (A:Option Addr) (c:Nat) (Ag:Option Addr) (cg:Nat) (A':Option Addr) (c':Nat) (Ag':Option Addr) (cg':Nat) (hs:StSmall l gens) (hll:l'.map tabOf=l.map tabOf)
  (w:World) (h:RdSt w w.heap.size ⟨A,c,l,Ag,cg,gens⟩) (h':RdSt w w.heap.size ⟨A',c',l',Ag',cg',gens⟩) :
  Calls Tryz.prog 28 #[.agg #[.slice A l.length c,.slice Ag gens.length cg],.agg #[.slice A' l'.length c',.slice Ag' gens.length cg']] w fun e w'=>e=.returned (.bool true)∧Below w.heap.size w w':=by
 have hlen:l'.length=l.length:=by simpa using congrArg List.length hll
 rw [hlen]
 have hllh:=Lib.hid hll;have hlenh:=Lib.hid hlen
 obtain ⟨hT,hg,_,_⟩:=h
 obtain ⟨hT',hg',_,_⟩:=h'
 dsimp only at hT hg hT' hg'
 obtain ⟨s1,s2,s3,s4⟩:=hs
 have s2h:=Lib.hid s2
 clear hll hlen s2 s3
 have H:=((Hp.start w).new w.heap.size rfl 40 [.slice A l.length c,.slice Ag gens.length cg]).new (w.heap.size+1) (by simp) 40 [.slice A' l.length c',.slice Ag' gens.length cg']
 replace H:Hp w _ (twoE w.heap.size A l.length c Ag gens.length cg A' c' Ag' cg'):=H
 have hTh:=Lib.hid hT;have hTh':=Lib.hid hT'
 clear hT hT'
 go_enter Tryz.func28,Tryz.ntmps28
 go_wp2_with fail
 go_loopw [30] (fun q wr=>∃ k:Nat,k≤gens.length∧q=.int .i64 k∧Hp w wr (twoE w.heap.size A l.length c Ag gens.length cg A' c' Ag' cg')) (fun q _=>gens.length-(intOf q).toNat)
 case atStart=>exact ⟨0,by omega,rfl,H⟩
 case round=>
  clear H
  obtain ⟨k,hk,rfl,H⟩:=hrel
  by_cases hlt:k<gens.length
  ·obtain ⟨b1,off,rfl,hb1,c0⟩:=RdG.at_ (Rd.under hg H.bel (Nat.le_refl _)) hlt
   obtain ⟨b2,off2,rfl,hb2,d0⟩:=RdG.at_ (Rd.under hg' H.bel (Nat.le_refl _)) hlt
   clear hg hg'
   generalize gens[k]=r at *
   have i0:(0:Int)≤(k:Int):=by omega
   have i1:(k:Int)<(gens.length:Int):=by omega
   have e0:=H.cell 0 1 rfl rfl;have e1:=H.cell 1 1 rfl rfl
   have Hh:=Lib.hid H
   clear H
   go_upto_region 6 with fail
   go_cut [43] (fun s wx=>s=.bool false∧∃ n,wx=wr.drewN n)
   case first=>
    go_quiet (fail)
    go_wp2_with fail
    go_meet
    exact ⟨by simp,_,rfl⟩
   case rest=>
    obtain ⟨rfl,n,rfl⟩:=hcut
    have H2:=Lib.hid (Hh.out.drewN n)
    go_wp2_with fail
    go_roundw
    case rel=>exact ⟨k+1,by omega,by go_num,H2.out⟩
    case measure=>simp [intOf];omega
  ·obtain rfl:k=gens.length:=by omega
   have e0:=H.cell 0 0 rfl rfl
   clear hg hg'
   have Hh:=Lib.hid H
   clear H
   go_wp2_with fail
   clear e0
   go_loopw [48] (fun q wr=>∃ k:Nat,k≤l.length∧q=.int .i64 k∧Hp w wr (twoE w.heap.size A l.length c Ag gens.length cg A' c' Ag' cg')) (fun q _=>l.length-(intOf q).toNat)
   case atStart=>exact ⟨0,by omega,rfl,Hh.out⟩
   case round=>
    clear Hh
    obtain ⟨k,hk,rfl,H⟩:=hrel
    by_cases hlt:k<l.length
    ·have hlt':k<l'.length:=by have:=hlenh.out;omega
     have hT:=hTh.out.under H.bel (Nat.le_refl _);have hT':=hTh'.out.under H.bel (Nat.le_refl _)
     obtain ⟨b1,off,rfl,hb1,f0,f1,f2⟩:=hT.at_ hlt
     obtain ⟨b2,off2,rfl,hb2,g0,g1,g2⟩:=hT'.at_ hlt'
     clear hT hT'
     have hrb:=hTh.out.bs _ (List.getElem_mem hlt);have hrc:=hTh.out.cs _ (List.getElem_mem hlt);have hrz:=Lib.hid (hTh.out.zs _ (List.getElem_mem hlt))
     have hrb':=hTh'.out.bs _ (List.getElem_mem hlt');have hrc':=hTh'.out.cs _ (List.getElem_mem hlt');have hrz':=Lib.hid (hTh'.out.zs _ (List.getElem_mem hlt'))
     have hsm:=s2h.out _ (List.getElem_mem hlt)
     have hte:tabOf l'[k]=tabOf l[k]:=by
      have h1:(l'.map tabOf)[k]?=(l.map tabOf)[k]?:=by rw [hllh.out]
      rw [List.getElem?_map,List.getElem?_map,List.getElem?_eq_getElem hlt,List.getElem?_eq_getElem hlt'] at h1
      exact Option.some.inj h1
     generalize l[k]=t at *
     generalize l'[k]=u at *
     obtain ⟨has,bA,bc,bs,cA,cc,cols⟩:=t
     obtain ⟨has',bA',bc',bs',cA',cc',cols'⟩:=u
     obtain ⟨rfl,rfl,hce⟩:has'=has∧bs'=bs∧cols'.map ColIn.zs=cols.map ColIn.zs:=by
      have:=hte;unfold tabOf at this;injection this with h1 h2 h3;exact ⟨h1,h2,h3⟩
     obtain ⟨m1,m2,m3⟩:=hsm
     have hcl:cols'.length=cols.length:=by simpa using congrArg List.length hce
     have m3h:=Lib.hid m3;have hceh:=Lib.hid hce;have hclh:=Lib.hid hcl
     dsimp only at f0 f1 f2 g0 g1 g2 hrb hrb' hrc hrc' m1 m2
     rw [hcl] at g2 hrc'
     clear m3 hte hce hcl
     have i0:(0:Int)≤(k:Int):=by omega
     have i1:(k:Int)<(l.length:Int):=by omega
     have e0:=H.cell 0 0 rfl rfl;have e1:=H.cell 1 0 rfl rfl
     have l0:=H.lt 0 rfl;have l1:=H.lt 1 rfl
     have hsz:=H.bel.size
     have H4:=(H.new wr.heap.size rfl 100 [.int .i64 has',.slice bA bs'.length bc,.slice cA cols.length cc]).new (wr.heap.size+1) (by simp) 100 [.int .i64 has',.slice bA' bs'.length bc',.slice cA' cols.length cc']
     have hb1':b1<wr.heap.size:=by omega
     have hb2':b2<wr.heap.size:=by omega
     clear H
     go_wp2_with fail
     obtain ⟨w4,hw4,H4⟩:=H4.name
     rw [hw4]
     clear hw4 f0 f1 f2 g0 g1 g2 e0 e1
     obtain ⟨b8,hb8⟩:∃ b8,b8=wr.heap.size+1:=⟨_,rfl⟩
     rw [← hb8] at H4 ⊢
     obtain ⟨b7,hb7⟩:∃ b7,b7=wr.heap.size:=⟨_,rfl⟩
     rw [← hb7] at H4 ⊢
     clear hb7 hb8 l0 l1 hsz hb1' hb2'
     replace H4:Hp w w4 (fourE w.heap.size (some ⟨b1,off,none⟩) l.length c Ag gens.length cg (some ⟨b2,off2,none⟩) c' Ag' cg' b7 b8 has' bA bs'.length bc cA cols.length cc bA' bc' cA' cc'):=H4
     refine (samebs_any bs' bA bc bA' bc' m1 w4 (Rd.more (Rd.under hrb H4.bel (Nat.le_refl _)) H4.bel.size) (Rd.more (Rd.under hrb' H4.bel (Nat.le_refl _)) H4.bel.size)).mono ?_
     rintro e w5 ⟨rfl,hb5⟩
     have H5:=H4.grow hb5
     clear H4 hb5
     have e0:=H5.cell 2 2 rfl rfl;have e1:=H5.cell 3 2 rfl rfl
     have H5h:=Lib.hid H5
     clear H5
     go_wp2_with fail
     clear e0 e1
     go_loopw [83] (fun q wr=>∃ j:Nat,j≤cols.length∧q=.int .i64 j∧Hp w wr (fourE w.heap.size (some ⟨b1,off,none⟩) l.length c Ag gens.length cg (some ⟨b2,off2,none⟩) c' Ag' cg' b7 b8 has' bA bs'.length bc cA cols.length cc bA' bc' cA' cc')) (fun q _=>cols.length-(intOf q).toNat)
     case atStart=>exact ⟨0,by omega,rfl,H5h.out⟩
     case round=>
      clear H5h
      obtain ⟨j,hj,rfl,H5⟩:=hrel
      by_cases hjl:j<cols.length
      ·have hjl':j<cols'.length:=by have:=hclh.out;omega
       rw [← hclh.out] at hrc'
       obtain ⟨d1,o1,rfl,hd1,f0⟩:=rdC_at (Rd.under hrc H5.bel (Nat.le_refl _)) hjl
       obtain ⟨d2,o2,rfl,hd2,g0⟩:=rdC_at (Rd.under hrc' H5.bel (Nat.le_refl _)) hjl'
       have hz1:=hrz.out _ (List.getElem_mem hjl);have hz2:=hrz'.out _ (List.getElem_mem hjl')
       have hzs:=m3h.out _ (List.getElem_mem hjl)
       have hze:cols'[j].zs=cols[j].zs:=by
        have h1:(cols'.map ColIn.zs)[j]?=(cols.map ColIn.zs)[j]?:=by rw [hceh.out]
        rw [List.getElem?_map,List.getElem?_map,List.getElem?_eq_getElem hjl,List.getElem?_eq_getElem hjl'] at h1
        exact Option.some.inj h1
       generalize cols[j]=X at *
       generalize cols'[j]=Y at *
       obtain ⟨zA,zc,zs⟩:=X
       obtain ⟨zA',zc',zs'⟩:=Y
       dsimp only at f0 g0 hz1 hz2 hzs hze
       subst hze
       clear hrc hrc' hrb hrb'
       have i2:(0:Int)≤(j:Int):=by omega
       have i3:(j:Int)<(cols.length:Int):=by omega
       have e0:=H5.cell 2 2 rfl rfl;have e1:=H5.cell 3 2 rfl rfl
       have H5h:=Lib.hid H5
       have hz1h:=Lib.hid hz1;have hz2h:=Lib.hid hz2
       clear H5 hz1 hz2
       go_upto_region 18 with fail
       go_cut [98] (fun s wx=>s=.bool false∧∃ n,wx=wr.drewN n)
       case first=>
        go_quiet (fail)
        go_wp2_with fail
        go_meet
        exact ⟨by simp,_,rfl⟩
       case rest=>
        obtain ⟨rfl,n,rfl⟩:=hcut
        have H6:=H5h.out.drewN n
        clear H5h e0 e1
        have e0:=H6.cell 2 2 rfl rfl
        have f0':(wr.drewN n).cell? ⟨d1,o1+j,none⟩=some (.slice zA zs'.length zc):=f0
        have H6h:=Lib.hid H6
        clear H6 f0
        go_wp2_with fail
        clear e0
        go_loopw [105] (fun q wx=>∃ i:Nat,i≤zs'.length∧q=.int .i64 i∧Hp w wx (fourE w.heap.size (some ⟨b1,off,none⟩) l.length c Ag gens.length cg (some ⟨b2,off2,none⟩) c' Ag' cg' b7 b8 has' bA bs'.length bc (some ⟨d1,o1,none⟩) cols.length cc bA' bc' (some ⟨d2,o2,none⟩) cc')∧wx.cell? ⟨d1,o1+j,none⟩=some (.slice zA zs'.length zc)∧wx.cell? ⟨d2,o2+j,none⟩=some (.slice zA' zs'.length zc')) (fun q _=>zs'.length-(intOf q).toNat)
        case atStart=>exact ⟨0,by omega,rfl,H6h.out,f0',g0⟩
        case round=>
         clear H6h f0' g0
         obtain ⟨i,hi,rfl,H7,f0,g0⟩:=hrel
         by_cases hil:i<zs'.length
         ·obtain ⟨v1,p1,rfl,hv1,y0⟩:=rdZ_at (Rd.under hz1h.out H7.bel (Nat.le_refl _)) hil
          obtain ⟨v2,p2,rfl,hv2,y1⟩:=rdZ_at (Rd.under hz2h.out H7.bel (Nat.le_refl _)) hil
          clear hz1h hz2h
          generalize zs'[i]=z at *
          have i4:(0:Int)≤(i:Int):=by omega
          have i5:(i:Int)<(zs'.length:Int):=by omega
          have e0:=H7.cell 2 2 rfl rfl;have e1:=H7.cell 3 2 rfl rfl
          have H7h:=Lib.hid H7
          clear H7
          obtain ⟨wr2,rfl⟩:∃ wr2:World,wr2=wr:=⟨_,rfl⟩
          go_upto_region 23 with fail
          go_cut [124] (fun s wx=>s=.bool false∧∃ n,wx=wr2.drewN n)
          case first=>
           go_quiet (fail)
           go_wp2_with fail
           go_meet
           exact ⟨by simp,_,rfl⟩
          case rest=>
           obtain ⟨rfl,n2,rfl⟩:=hcut
           have H8:=Lib.hid (H7h.out.drewN n2)
           have f1':(wr2.drewN n2).cell? ⟨d1,o1+j,none⟩=some (.slice (some ⟨v1,p1,none⟩) zs'.length zc):=f0
           have g1':(wr2.drewN n2).cell? ⟨d2,o2+j,none⟩=some (.slice (some ⟨v2,p2,none⟩) zs'.length zc'):=g0
           go_wp2_with fail
           go_roundw
           case rel=>exact ⟨i+1,by omega,by go_num,H8.out,f1',g1'⟩
           case measure=>simp [intOf];omega
         ·obtain rfl:i=zs'.length:=by omega
          have H7h:=Lib.hid H7
          clear H7
          go_wp2_with fail
          go_roundw
          case rel=>exact ⟨j+1,by omega,by go_num,H7h.out⟩
          case measure=>simp [intOf];omega
      ·obtain rfl:j=cols.length:=by omega
       have H6:=Lib.hid ((H5.drop1 3).drop1 2)
       clear H5
       go_wp2_with fail
       go_roundw
       case rel=>exact ⟨k+1,by omega,by go_num,H6.out⟩
       case measure=>simp [intOf];omega
    ·obtain rfl:k=l.length:=by omega
     have hb:=H.bel
     clear H
     go_wp2_with fail
     go_ret
     exact ⟨rfl,hb⟩
end Go.Proofs.YtefdblaolmckmabGreat
