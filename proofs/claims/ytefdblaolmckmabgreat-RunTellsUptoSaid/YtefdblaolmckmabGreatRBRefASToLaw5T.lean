/- Lemmas of the proof. -/
import Derived.Test.YtefdblaolmckmabGreatRBRef3TToRefRS
import Derived.Test.YtefdblaolmckmabGreatRBSpecZAToRef3S
set_option linter.unusedVariables false
set_option linter.unusedSimpArgs false
set_option maxRecDepth 100000
set_option maxHeartbeats 12800000
namespace Go.Proofs.YtefdblaolmckmabGreat
open Go.RowKit
open Brood
structure GotG (Q:Nat→Prop) (w:World) (gens:List Int) (A:Option Addr) (c:Nat):Prop where
 gen:RdG w w.heap.size A gens
 ong:On Q A gens.length
 nil_:A=none→c=0
theorem GotG.grow {Q:Nat→Prop} {w w':World} {gens:List Int} {A:Option Addr} {c:Nat} (h:GotG Q w gens A c) (hb:Below w.heap.size w w'):GotG Q w' gens A c:=⟨Rd.grow h.gen hb,h.ong,h.nil_⟩
theorem GotG.set {Q:Nat→Prop} {w:World} {gens:List Int} {A:Option Addr} {c:Nat} (h:GotG Q w gens A c) {p:Addr} (hp:¬ Q p.block) (u:Value):GotG Q (w.setCell p u) gens A c:=⟨Rd.more (rd_setQ h.gen h.ong hp u) (by simp),h.ong,h.nil_⟩
theorem GotG.ng {Q:Nat→Prop} {w:World} {gens:List Int} {A:Option Addr} {c:Nat} (h:GotG Q w gens A c):A=none→c=0∧gens=[]:=fun e=>⟨h.nil_ e,nil_of h.gen e⟩
def StAt (w:World) (E:List Ent) (A:Option Addr) (c:Nat) (l:List TabIn):Prop:=(∀ p∈tabsE A c l,p∈E)∨(RdT w w.heap.size A l∧NilT A c l)
theorem StAt.rd {w wr:World} {P E:List Ent} {A:Option Addr} {c:Nat} {l:List TabIn} (h:StAt w E A c l) (H:Hp w wr (P++E)):RdT wr wr.heap.size A l∧NilT A c l:=by
 rcases h with h | ⟨h1,h2⟩
 ·exact H.rdT (fun p hp=>List.mem_append_right _ (h p hp))
 ·exact ⟨h1.grow H.bel,h2⟩
def asE (b:Nat) (A:Option Addr) (n c:Nat) (Ag:Option Addr) (m cg:Nat):List Ent:=
 [stBox b A n c Ag m cg,.box (b+1) 40 [.slice none 0 0,.slice none 0 0],.box (b+1+1) 48 [.int .i64 0,.int .i64 0]]
theorem rallst_any (l:List TabIn) (A:Option Addr) (c:Nat) (gens:List Int) (Ag:Option Addr) (cg:Nat) (hs:StSmall l gens) (xs:List SysIn) (xA:Option Addr) (xc:Nat) (hxl:xs.length≤9223372036854775807) (w:World) (hx:RdS w w.heap.size xA xs) (h:RdSt w w.heap.size ⟨A,c,l,Ag,cg,gens⟩) :
  Calls Tryz.prog 27 #[.agg #[.slice A l.length c,.slice Ag gens.length cg],.slice xA xs.length xc] w fun e w'=>
   ∃ v,e=.returned (.tuple #[v,.agg #[.int .i64 (allT (l.map tabOf) gens (sysOf xs)).err,.int .i64 (allT (l.map tabOf) gens (sysOf xs)).at_]])∧SeenT w' v (allT (l.map tabOf) gens (sysOf xs)).tabs (allT (l.map tabOf) gens (sysOf xs)).gens∧Below w.heap.size w w':=by
 have hE0:Hid (allT (l.map tabOf) gens (sysOf xs)=if (storeErr (l.map tabOf) gens).1≠0 then ⟨[],[],(storeErr (l.map tabOf) gens).1,0⟩
  else ⟨tabsW (allM 0 ⟨worldT (l.map tabOf),gens⟩ (sysOf xs)).1.rows,(allM 0 ⟨worldT (l.map tabOf),gens⟩ (sysOf xs)).1.gens,(allM 0 ⟨worldT (l.map tabOf),gens⟩ (sysOf xs)).2.1,(allM 0 ⟨worldT (l.map tabOf),gens⟩ (sysOf xs)).2.2⟩):=Lib.hid rfl
 generalize allT (l.map tabOf) gens (sysOf xs)=E at *
 have hh:=Lib.hid h;have hsh:=Lib.hid hs;have hxh:=Lib.hid hx
 clear h hs hx
 have H0:=(((Hp.start w).new w.heap.size rfl 40 [.slice A l.length c,.slice Ag gens.length cg]).new (w.heap.size+1) (by simp) 40 [.slice none 0 0,.slice none 0 0]).new (w.heap.size+1+1) (by simp) 48 [.int .i64 0,.int .i64 0]
 replace H0:Hp w _ [stBox w.heap.size A l.length c Ag gens.length cg,.box (w.heap.size+1) 40 [.slice none 0 0,.slice none 0 0],.box (w.heap.size+1+1) 48 [.int .i64 0,.int .i64 0]]:=H0
 have a0:=H0.cell 0 0 rfl rfl;have a1:=H0.cell 0 1 rfl rfl
 go_enter Tryz.func27,Tryz.ntmps27
 go_wp2_with fail
 obtain ⟨w0,hw0,H0⟩:=H0.name
 rw [hw0];clear hw0 a0 a1
 have hg0:RdSt w0 w0.heap.size ⟨A,c,l,Ag,cg,gens⟩:=hh.out.hp H0
 refine (rswrong_any l A c gens Ag cg hsh.out w0 hg0.tabs hg0.gen hg0.ng).mono ?_
 rintro e w1 ⟨rfl,hb1⟩
 replace H0:=H0.grow hb1
 clear hb1 hg0
 have hrt:Hid ((storeErr (l.map tabOf) gens).1=0→RightW (worldT (l.map tabOf)) gens∧l.map tabOf=tabsW (worldT (l.map tabOf))):=Lib.hid store_right
 generalize storeErr (l.map tabOf) gens=F at *
 obtain ⟨f1,f2⟩:=F
 have H2:=H0.new _ rfl 48 [.int .i64 f1,.int .i64 f2]
 simp only at hE0 hrt ⊢
 by_cases hf:f1=0
 case neg=>
  clear H0
  have hf':(f1 != 0)=true:=by simpa using hf
  have hE:Hid (E=⟨[],[],f1,0⟩):=Lib.hid (by rw [hE0.out,if_pos hf])
  clear hE0 hrt
  go_upto_region 3 with fail
  obtain ⟨w2,hw2,H2⟩:=H2.name
  rw [hw2];clear hw2
  have n13:=H2.ne 1 3 rfl rfl (by omega);have n23:=H2.ne 2 3 rfl rfl (by omega);have n31:=n13.symm;have n32:=n23.symm
  have q0:=H2.cell 1 0 rfl rfl;have q1:=H2.cell 1 1 rfl rfl;have q2:=H2.cell 2 0 rfl rfl;have q3:=H2.cell 2 1 rfl rfl
  have y0:=H2.frozen 1 0 rfl;have y1:=H2.frozen 1 1 rfl;have y2:=H2.frozen 2 0 rfl;have y3:=H2.frozen 2 1 rfl
  have c0:=H2.cell 3 0 rfl rfl
  have H4:=((((H2.set 1 0 (.slice none 0 0) rfl).set 1 1 (.slice none 0 0) rfl).set 2 0 (.int .i64 f1) rfl).set 2 1 (.int .i64 0) rfl).drew
  have H5:=((((H2.set 2 0 (.int .i64 f1) rfl).set 2 1 (.int .i64 0) rfl).set 1 0 (.slice none 0 0) rfl).set 1 1 (.slice none 0 0) rfl).drew
  have H4h:=Lib.hid H4;have H5h:=Lib.hid H5
  clear H4 H2 H5
  go_region_held3 (fun w'=>w'.cell? ⟨w1.heap.size,0,none⟩=some (.int .i64 f1)) (go_keep) (fail)
  all_goals go_wp2_with fail
  ·have H4:=H4h.out
   have p0:=H4.cell 1 0 rfl rfl;have p1:=H4.cell 1 1 rfl rfl;have p2:=H4.cell 2 0 rfl rfl;have p3:=H4.cell 2 1 rfl rfl
   refine bodyPost_ret (v:=.tuple #[.agg #[.slice none 0 0,.slice none 0 0],.agg #[.int .i64 f1,.int .i64 0]]) (by simp [results,Tryz.results27,go_sem,p0,p1,p2,p3]) rfl ⟨_,by rw [hE.out],by rw [hE.out];exact SeenT.zero _,H4.bel⟩
 case pos=>
  subst hf
  obtain ⟨hrw,hfit0⟩:=hrt.out rfl
  obtain ⟨R,hR⟩:∃ R,R=allM 0 ⟨worldT (l.map tabOf),gens⟩ (sysOf xs):=⟨_,rfl⟩
  have hE:Hid (E=⟨tabsW R.1.rows,R.1.gens,R.2.1,R.2.2⟩):=Lib.hid (by rw [hE0.out,if_neg (by simp),hR])
  clear hE0 hrt
  have hfit:=Lib.hid hfit0;have hRh:=Lib.hid hR
  clear hfit0 hR
  generalize hrows:worldT (l.map tabOf)=rows at *
  clear hrows
  have hrwh:=Lib.hid hrw
  clear hrw
  have H3:=Lib.hid (H2.drop1 3)
  have hG0:Hid (GotG (fun b=>b≠w.heap.size∧b≠w.heap.size+1∧b≠w.heap.size+1+1) _ gens Ag cg):=Lib.hid ⟨Rd.grow hh.out.gen H2.bel,rd_on hh.out.gen (fun b hb=>⟨by omega,by omega,by omega⟩),fun e=>(hh.out.ng e).1⟩
  have hA0:Hid (StAt w [] A c l):=Lib.hid (.inr ⟨hh.out.tabs,hh.out.nt⟩)
  have hH3:Hid (Hp w _ (asE w.heap.size A l.length c Ag gens.length cg++[])):=Lib.hid (by rw [List.append_nil];exact H3.out)
  clear H0 H2 H3 hh
  go_wp2_with fail
  go_loopw [22] (fun q wr=>∃ k:Nat,k≤xs.length∧q=.int .i64 k∧∃ (rs:List BRow) (gs:List Int) (A':Option Addr) (c':Nat) (l':List TabIn) (Ag':Option Addr) (cg':Nat) (E:List Ent),Hid (RightW rs gs∧l'.map tabOf=tabsW rs∧allM k ⟨rs,gs⟩ ((sysOf xs).drop k)=R)∧Hp w wr (asE w.heap.size A' l'.length c' Ag' gs.length cg'++E)∧StAt w E A' c' l'∧GotG (fun b=>b≠w.heap.size∧b≠w.heap.size+1∧b≠w.heap.size+1+1) wr gs Ag' cg') (fun q _=>xs.length-(intOf q).toNat)
  case atStart=>exact ⟨0,by omega,rfl,rows,gens,A,c,l,Ag,cg,[],Lib.hid ⟨hrwh.out,hfit.out,hRh.out.symm⟩,hH3.out,hA0.out,hG0.out⟩
  case round=>
   clear hH3 hRh hfit hG0 hA0 hrwh hsh
   obtain ⟨k,hk,rfl,rs,gs,A',c',l',Ag',cg',E0,hS,H,hT,hG⟩:=hrel
   have q0:=H.cell 0 0 rfl rfl;have q1:=H.cell 0 1 rfl rfl
   by_cases hlt:k<xs.length
   ·obtain ⟨b1,off,hA,hb1,e0,e1,e2,e3⟩:=(hxh.out.under H.bel (Nat.le_refl _)).at_ hlt
    have hact:=hxh.out.acts _ (List.getElem_mem hlt)
    have hsd:Hid ((if (runM ⟨rs,gs⟩ xs[k].s).err≠0 then (⟨[],[]⟩,((runM ⟨rs,gs⟩ xs[k].s).err,(k:Int))) else allM (k+1) (bw (runM ⟨rs,gs⟩ xs[k].s)) ((sysOf xs).drop (k+1)))=R):=Lib.hid (by
     have h1:=hS.out.2.2
     rw [allM_drop (by rw [sysOf_length];exact hlt)] at h1
     simpa only [sysOf,List.getElem_map] using h1)
    have hS2:=Lib.hid (And.intro hS.out.1 hS.out.2.1)
    generalize xs[k]=X at *
    obtain ⟨s,sA,sc⟩:=X
    subst hA
    dsimp only at e0 e1 e2 e3 hact hsd
    have H1:=H.new wr.heap.size rfl 29 [.int .i64 s.mod,.int .i64 s.all,.int .i64 s.non,.slice sA s.acts.length sc]
    have hG1:=Lib.hid (hG.grow ((Below.refl _ _).alloc (Nat.le_refl _) (.cells #[.int .i64 s.mod,.int .i64 s.all,.int .i64 s.non,.slice sA s.acts.length sc] 29)))
    have i0:(0:Int)≤(k:Int):=by omega
    have i1:(k:Int)<(xs.length:Int):=by omega
    have lt0:=H.lt 0 rfl
    have hacth:=Lib.hid hact;have hTh:=Lib.hid hT
    clear hS H hact hG hT
    go_upto_region 7 with fail
    obtain ⟨w6,hw6,H6⟩:=H1.name
    rw [hw6] at hG1 ⊢
    clear hw6 H1 q0 q1 e0 e1 e2 e3 lt0
    obtain ⟨b8,hb8⟩:∃ b8,b8=wr.heap.size:=⟨_,rfl⟩
    rw [← hb8] at H6 ⊢
    clear hb8
    have hR6:RdSt w6 w6.heap.size ⟨A',c',l',Ag',cg',gs⟩:=by
     obtain ⟨r1,r2⟩:=hTh.out.rd (H6.sub (E':=asE w.heap.size A' l'.length c' Ag' gs.length cg'++E0) (List.sublist_append_left _ _))
     exact ⟨r1,hG1.out.gen,r2,hG1.out.ng⟩
    have hsz:=H6.lt 2 rfl
    have hrun:=rrunst_any l' A' c' gs Ag' cg' (right_small hS2.out.1 hS2.out.2) s sA sc (fun b=>b≠w.heap.size∧b≠w.heap.size+1∧b≠w.heap.size+1+1) w6 (fun b hb=>⟨by omega,by omega,by omega⟩) (Rd.more (Rd.under hacth.out H6.bel (Nat.le_refl _)) H6.bel.size) hR6 hG1.out.ong
    rw [hS2.out.2,runT_right hS2.out.1] at hrun
    have hrr:=Lib.hid (fun h=>runM_right (W:=⟨rs,gs⟩) (x:=s) h hS2.out.1)
    have hHh:=Lib.hid H6;have hrunh:=Lib.hid hrun
    clear H6 hR6 hrun hG1 hTh
    have q0:=hHh.out.cell 0 0 rfl rfl;have q1:=hHh.out.cell 0 1 rfl rfl
    have p0:w6.cell? ⟨b8,0,none⟩=some (.int .i64 s.mod):=hHh.out.cellM (g:=b8) (t:=29) (cs:=[.int .i64 s.mod,.int .i64 s.all,.int .i64 s.non,.slice sA s.acts.length sc]) (by simp) 0 rfl
    have p1:w6.cell? ⟨b8,1,none⟩=some (.int .i64 s.all):=hHh.out.cellM (g:=b8) (t:=29) (cs:=[.int .i64 s.mod,.int .i64 s.all,.int .i64 s.non,.slice sA s.acts.length sc]) (by simp) 1 rfl
    have p2:w6.cell? ⟨b8,2,none⟩=some (.int .i64 s.non):=hHh.out.cellM (g:=b8) (t:=29) (cs:=[.int .i64 s.mod,.int .i64 s.all,.int .i64 s.non,.slice sA s.acts.length sc]) (by simp) 2 rfl
    have p3:w6.cell? ⟨b8,3,none⟩=some (.slice sA s.acts.length sc):=hHh.out.cellM (g:=b8) (t:=29) (cs:=[.int .i64 s.mod,.int .i64 s.all,.int .i64 s.non,.slice sA s.acts.length sc]) (by simp) 3 rfl
    go_wp2_with fail
    refine hrunh.out.mono ?_
    clear hrunh q0 q1 p0 p1 p2 p3
    generalize runM ⟨rs,gs⟩ s=X at *
    obtain ⟨xr,xg,xe⟩:=X
    rintro e w7 ⟨v,rfl,A3,c3,l3,Ag3,cg3,rfl,hl3,HN,k1,k2,k3,k4⟩
    dsimp only at hl3 HN hsd hrr k1 k2 k4 ⊢
    have HJ:=((hHh.out.join HN).new w7.heap.size rfl 40 [.slice A3 l3.length c3,.slice Ag3 xg.length cg3])
    have hG7:GotG (fun b=>b≠w.heap.size∧b≠w.heap.size+1∧b≠w.heap.size+1+1) _ xg Ag3 cg3:=(GotG.mk k1 k2 k3).grow ((Below.refl _ _).alloc (Nat.le_refl _) (.cells #[.slice A3 l3.length c3,.slice Ag3 xg.length cg3] 40))
    go_upto_region 8 with fail
    obtain ⟨w8,hw8,H8⟩:=HJ.name
    rw [hw8] at hG7 ⊢
    obtain ⟨b9,hb9⟩:∃ b9,b9=w7.heap.size:=⟨_,rfl⟩
    rw [← hb9] at H8 ⊢
    have hl3h:=Lib.hid hl3;have hG7h:=Lib.hid hG7
    have hH8:Hid (Hp w w8 (asE w.heap.size A' l'.length c' Ag' gs.length cg'++E0++[.box b8 29 [.int .i64 s.mod,.int .i64 s.all,.int .i64 s.non,.slice sA s.acts.length sc]]++tabsE A3 c3 l3++[.box b9 40 [.slice A3 l3.length c3,.slice Ag3 xg.length cg3]])):=Lib.hid H8
    clear HJ H8 HN k1 k2 k3 k4 hb9 hw8 hl3 hG7 hHh hacth
    by_cases he:xe=0
    ·subst he
     have hnx:Hid (allM (k+1) ⟨xr,xg⟩ ((sysOf xs).drop (k+1))=R):=Lib.hid (by
      have h1:=hsd.out
      rw [if_neg (by simp)] at h1
      exact h1)
     have hxr:=Lib.hid (hrr.out rfl)
     have z0:w8.cell? ⟨b9,0,none⟩=some (.slice A3 l3.length c3):=hH8.out.cellM (g:=b9) (t:=40) (cs:=[.slice A3 l3.length c3,.slice Ag3 xg.length cg3]) (by simp) 0 rfl
     have z1:w8.cell? ⟨b9,1,none⟩=some (.slice Ag3 xg.length cg3):=hH8.out.cellM (g:=b9) (t:=40) (cs:=[.slice A3 l3.length c3,.slice Ag3 xg.length cg3]) (by simp) 1 rfl
     have q0:=hH8.out.cell 0 0 rfl rfl;have q1:=hH8.out.cell 0 1 rfl rfl;have y0:=hH8.out.frozen 0 0 rfl;have y1:=hH8.out.frozen 0 1 rfl
     have H9:=(hH8.out.set 0 0 (.slice A3 l3.length c3) rfl).set 0 1 (.slice Ag3 xg.length cg3) rfl
     replace H9:Hp w _ (asE w.heap.size A3 l3.length c3 Ag3 xg.length cg3++E0++[.box b8 29 [.int .i64 s.mod,.int .i64 s.all,.int .i64 s.non,.slice sA s.acts.length sc]]++tabsE A3 c3 l3++[.box b9 40 [.slice A3 l3.length c3,.slice Ag3 xg.length cg3]]):=H9
     have H10:=Lib.hid (H9.sub (E':=asE w.heap.size A3 l3.length c3 Ag3 xg.length cg3++tabsE A3 c3 l3) (((List.Sublist.append ((List.sublist_append_left _ _).trans (List.sublist_append_left _ _)) (List.Sublist.refl _))).trans (List.sublist_append_left _ _)))
     have G10:=Lib.hid ((hG7h.out.set (p:=⟨w.heap.size,0,none⟩) (by simp) (.slice A3 l3.length c3)).set (p:=⟨w.heap.size,1,none⟩) (by simp) (.slice Ag3 xg.length cg3))
     clear H9 hH8 hG7h hsd hrr hS2
     go_wp2_with fail
     go_roundw
     case rel=>exact ⟨k+1,by omega,by go_num,xr,xg,A3,c3,l3,Ag3,cg3,_,Lib.hid ⟨hxr.out,hl3h.out,hnx.out⟩,H10.out,.inl (fun p hp=>hp),G10.out⟩
     case measure=>simp [intOf];omega
    ·have he':(xe != 0)=true:=by simpa using he
     have hE3:Hid (E=⟨[],[],xe,(k:Int)⟩):=Lib.hid (by
      have h1:=hsd.out
      rw [if_pos he] at h1
      rw [hE.out,← h1]
      rfl)
     have q0:=hH8.out.cell 1 0 rfl rfl;have q1:=hH8.out.cell 1 1 rfl rfl;have q2:=hH8.out.cell 2 0 rfl rfl;have q3:=hH8.out.cell 2 1 rfl rfl
     have y0:=hH8.out.frozen 1 0 rfl;have y1:=hH8.out.frozen 1 1 rfl;have y2:=hH8.out.frozen 2 0 rfl;have y3:=hH8.out.frozen 2 1 rfl
     have H4:=((((hH8.out.set 1 0 (.slice none 0 0) rfl).set 1 1 (.slice none 0 0) rfl).set 2 0 (.int .i64 xe) rfl).set 2 1 (.int .i64 (k:Int)) rfl)
     have p0:=H4.cell 1 0 rfl rfl;have p1:=H4.cell 1 1 rfl rfl;have p2:=H4.cell 2 0 rfl rfl;have p3:=H4.cell 2 1 rfl rfl
     have hH4:=Lib.hid H4
     clear H4 hH8 hG7h hsd hrr hS2 hE
     go_wp2_with fail
     refine bodyPost_ret (v:=.tuple #[.agg #[.slice none 0 0,.slice none 0 0],.agg #[.int .i64 xe,.int .i64 (k:Int)]]) (by simp [results,Tryz.results27,go_sem,p0,p1,p2,p3]) rfl ⟨_,by rw [hE3.out],by rw [hE3.out];exact SeenT.zero _,hH4.out.bel⟩
   ·obtain rfl:k=xs.length:=by omega
    have hE3:Hid (E=⟨tabsW rs,gs,0,0⟩):=Lib.hid (by
     have h1:=hS.out.2.2
     rw [← sysOf_length,List.drop_length] at h1
     rw [hE.out,← h1]
     rfl)
    have hS2:=Lib.hid (And.intro hS.out.1 hS.out.2.1)
    have q2:=H.cell 1 0 rfl rfl;have q3:=H.cell 1 1 rfl rfl;have q4:=H.cell 2 0 rfl rfl;have q5:=H.cell 2 1 rfl rfl
    have y2:=H.frozen 1 0 rfl;have y3:=H.frozen 1 1 rfl;have y4:=H.frozen 2 0 rfl;have y5:=H.frozen 2 1 rfl
    have H4:=((((H.set 1 0 (.slice A' l'.length c') rfl).set 1 1 (.slice Ag' gs.length cg') rfl).set 2 0 (.int .i64 0) rfl).set 2 1 (.int .i64 0) rfl)
    have G4:=(((hG.set (p:=⟨w.heap.size+1,0,none⟩) (by simp) (.slice A' l'.length c')).set (p:=⟨w.heap.size+1,1,none⟩) (by simp) (.slice Ag' gs.length cg')).set (p:=⟨w.heap.size+1+1,0,none⟩) (by simp) (.int .i64 0)).set (p:=⟨w.heap.size+1+1,1,none⟩) (by simp) (.int .i64 0)
    have p0:=H4.cell 1 0 rfl rfl;have p1:=H4.cell 1 1 rfl rfl;have p2:=H4.cell 2 0 rfl rfl;have p3:=H4.cell 2 1 rfl rfl
    have hrt2:=Lib.hid (hT.rd (H4.sub (E':=[]++E0) (List.sublist_append_right (stBox w.heap.size A' l'.length c' Ag' gs.length cg'::_::_::[]) E0)))
    have hH4:=Lib.hid H4;have hG4:=Lib.hid G4
    clear H4 G4 hS hE H hG hT
    go_wp2_with fail
    refine bodyPost_ret (v:=.tuple #[.agg #[.slice A' l'.length c',.slice Ag' gs.length cg'],.agg #[.int .i64 0,.int .i64 0]]) (by simp [results,Tryz.results27,go_sem,p0,p1,p2,p3]) rfl ⟨_,by rw [hE3.out],by rw [hE3.out];exact ⟨A',c',l',Ag',cg',rfl,hS2.out.2,⟨hrt2.out.1,hG4.out.gen,hrt2.out.2,hG4.out.ng⟩,right_small hS2.out.1 hS2.out.2⟩,hH4.out.bel⟩
open Go.RowKit
open Brood
theorem nf5 (i g:Int) (w:World):(binOp .neq 48 (.agg #[.int .i64 i,.int .i64 g]) (.agg #[.int .i64 i,.int .i64 g])).run Tryz.prog w=.ok (.bool false) w:=by
 rw [run_neq_struct,run_equalIn_struct _ _ _ _ _ (by kernel_rfl) (by kernel_rfl)]
 simp [go_sem,Op.eqFields]
theorem rno:RightB ⟨[],[]⟩:=(right_iff [] []).1 rfl
theorem rur {W:BWorld} (h:RightB W) (x:BSys):RightB (bw (runM W x)):=by
 by_cases he:(runM W x).err=0
 ·exact runM_right he h
 ·obtain ⟨h1,h2⟩:=runM_bad he
  unfold bw
  rw [h1,h2]
  exact rno
theorem alr:∀ (l:List BSys) (i:Nat) {W:BWorld},RightB W→RightB (allM i W l).1
 | [],_,_,h=>h
 | x::l,i,W,h=>by
  rw [allM]
  split
  ·exact rno
  ·exact alr l (i+1) (rur h x)
theorem sma {T:List BTab} {gens:List Int} {xs:List BSys}:∀ l:List TabIn,l.map tabOf=(allT T gens xs).tabs→StSmall l (allT T gens xs).gens:=by
 intro l h
 unfold allT at h ⊢
 by_cases hf:(storeErr T gens).1=0
 ·rw [if_neg (by simpa using hf)] at h ⊢
  exact right_small (alr xs 0 (W:=⟨worldT T,gens⟩) (store_right hf).1) h
 ·rw [if_pos hf] at h ⊢
  have hl:l=[]:=List.map_eq_nil_iff.1 h
  subst hl
  exact small_nil
theorem smr {T:List BTab} {gens:List Int} {x:BSys}:∀ l:List TabIn,l.map tabOf=(runT T gens x).tabs→StSmall l (runT T gens x).gens:=by
 intro l h
 unfold runT at h ⊢
 by_cases hf:(storeErr T gens).1=0
 ·rw [if_neg (by simpa using hf)] at h ⊢
  exact right_small (rur (W:=⟨worldT T,gens⟩) (store_right hf).1 x) h
 ·rw [if_pos hf] at h ⊢
  have hl:l=[]:=List.map_eq_nil_iff.1 h
  subst hl
  exact small_nil
theorem runTells_any (l:List TabIn) (A:Option Addr) (c:Nat) (gens:List Int) (Ag:Option Addr) (cg:Nat) (hs:StSmall l gens) (xs:List SysIn) (xA:Option Addr) (xc:Nat) (hxl:xs.length≤9223372036854775807) (w:World) (hx:RdS w w.heap.size xA xs) (h:RdSt w w.heap.size ⟨A,c,l,Ag,cg,gens⟩) :
  Calls Tryz.prog 6 #[.agg #[.slice A l.length c,.slice Ag gens.length cg],.slice xA xs.length xc] w fun e w'=>e=.returned (.bool true)∧Below w.heap.size w w':=by
 have hh:=Lib.hid h;have hsh:=Lib.hid hs;have hxq:=Lib.hid hx
 have hal:=Lib.hid (@sma (l.map tabOf) gens (sysOf xs))
 have hsa:=Lib.hid (fun W hX hR=>sall_any l A c gens Ag cg hs xs xA xc hxl W hX hR)
 have hra:=Lib.hid (fun W hX hR=>rallst_any l A c gens Ag cg hs xs xA xc hxl W hX hR)
 have hne:=fun a b W=>nf5 a b W
 clear h hs hx
 generalize allT (l.map tabOf) gens (sysOf xs)=E at *
 obtain ⟨et,eg,ee,ea⟩:=E
 dsimp only at hal hsa hra
 have H0:=(Hp.start w).new w.heap.size rfl 40 [.slice A l.length c,.slice Ag gens.length cg]
 have a0:=H0.cell 0 0 rfl rfl;have a1:=H0.cell 0 1 rfl rfl
 go_enter Tryz.func6,Tryz.ntmps6
 go_wp2_with fail
 obtain ⟨w0,hw0,H0⟩:=H0.name
 rw [hw0];clear hw0 a0 a1
 refine (hsa.out w0 (Rd.more (Rd.under hxq.out.cells H0.bel (Nat.le_refl _)) H0.bel.size |> fun h1=>⟨h1,fun x hx=>Rd.more (Rd.under (hxq.out.acts x hx) H0.bel (Nat.le_refl _)) H0.bel.size⟩) (hh.out.hp H0)).mono ?_
 rintro e w1 ⟨v,rfl,hG⟩
 have hX:=hG.seen hal.out
 obtain ⟨A1,c1,l1,Ag1,cg1,rfl,_,_⟩:=hG.rd
 have H1:=((H0.grow hG.bel).new w1.heap.size rfl 40 [.slice A1 l1.length c1,.slice Ag1 eg.length cg1]).new (w1.heap.size+1) (by simp) 48 [.int .i64 ee,.int .i64 ea]
 have hX1:=Lib.hid ((hX.grow ((Below.refl _ _).alloc (Nat.le_refl _) (.cells #[.slice A1 l1.length c1,.slice Ag1 eg.length cg1] 40))).grow ((Below.refl _ _).alloc (Nat.le_refl _) (.cells #[.int .i64 ee,.int .i64 ea] 48)))
 clear hX hG H0 hsa hal
 go_upto_region 2 with fail
 obtain ⟨w2,hw2,H2⟩:=H1.name
 rw [hw2] at hX1 ⊢
 clear hw2 H1
 have a0:=H2.cell 0 0 rfl rfl;have a1:=H2.cell 0 1 rfl rfl
 go_wp2_with fail
 refine (hra.out w2 (Rd.more (Rd.under hxq.out.cells H2.bel (Nat.le_refl _)) H2.bel.size |> fun h1=>⟨h1,fun x hx=>Rd.more (Rd.under (hxq.out.acts x hx) H2.bel (Nat.le_refl _)) H2.bel.size⟩) (hh.out.hp H2)).mono ?_
 rintro e w3 ⟨v,rfl,hY,hb⟩
 have hX2:=hX1.out.grow hb
 have hY0:=hY
 obtain ⟨A2,c2,l2,Ag2,cg2,rfl,_,_,_⟩:=hY0
 have H3:=((H2.grow hb).new w3.heap.size rfl 40 [.slice A2 l2.length c2,.slice Ag2 eg.length cg2]).new (w3.heap.size+1) (by simp) 48 [.int .i64 ee,.int .i64 ea]
 have hgr:=fun (v:Value) (h:SeenT w3 v et eg)=>(h.grow ((Below.refl _ _).alloc (Nat.le_refl _) (.cells #[.slice A2 l2.length c2,.slice Ag2 eg.length cg2] 40))).grow ((Below.refl _ _).alloc (Nat.le_refl _) (.cells #[.int .i64 ee,.int .i64 ea] 48))
 have hX3:=hgr _ hX2
 have hY3:=hgr _ hY
 clear hX1 hX2 hY hgr hb H2 hra a0 a1
 go_upto_region 3 with fail
 obtain ⟨w4,hw4,H4⟩:=H3.name
 rw [hw4] at hX3 hY3 ⊢
 clear hw4 H3
 have hX:=Lib.hid hX3;have hY:=Lib.hid hY3
 clear hX3 hY3
 have q0:=H4.cell 1 0 rfl rfl;have q1:=H4.cell 1 1 rfl rfl;have q2:=H4.cell 2 0 rfl rfl;have q3:=H4.cell 2 1 rfl rfl;have q4:=H4.cell 3 0 rfl rfl;have q5:=H4.cell 3 1 rfl rfl;have q6:=H4.cell 4 0 rfl rfl;have q7:=H4.cell 4 1 rfl rfl
 go_wp2_with fail
 refine (samest_seen hX.out hY.out).mono ?_
 rintro e w5 ⟨rfl,hb⟩
 have hH5:Hid (Hp w w5 [.box w.heap.size 40 [.slice A l.length c,.slice Ag gens.length cg]]):=Lib.hid (((((H4.grow hb).drop1 4).drop1 3).drop1 2).drop1 1)
 clear hX hY H4 hb q0 q1 q2 q3 q4 q5 q6 q7
 go_wp2_with fail
 go_loopw [38] (fun q wr=>∃ k:Nat,k≤xs.length∧q=.int .i64 k∧Hp w wr [.box w.heap.size 40 [.slice A l.length c,.slice Ag gens.length cg]]) (fun q _=>xs.length-(intOf q).toNat)
 case atStart=>exact ⟨0,by omega,rfl,hH5.out⟩
 case round=>
  clear hH5
  obtain ⟨k,hk,rfl,H⟩:=hrel
  by_cases hlt:k<xs.length
  ·obtain ⟨b1,off,hA,hb1,e0,e1,e2,e3⟩:=(hxq.out.under H.bel (Nat.le_refl _)).at_ hlt
   have hact:=hxq.out.acts _ (List.getElem_mem hlt)
   generalize xs[k]=X at *
   obtain ⟨s,sA,sc⟩:=X
   subst hA
   dsimp only at e0 e1 e2 e3 hact
   have H1:=H.new wr.heap.size rfl 29 [.int .i64 s.mod,.int .i64 s.all,.int .i64 s.non,.slice sA s.acts.length sc]
   have i0:(0:Int)≤(k:Int):=by omega
   have i1:(k:Int)<(xs.length:Int):=by omega
   have hk9:=Lib.hid hact
   have hal:=Lib.hid (@smr (l.map tabOf) gens s)
   have hsa:=Lib.hid (fun W hX hR=>srun_any l A c gens Ag cg hsh.out s sA sc W hX hR)
   have hra:=Lib.hid (fun W hX hR=>rrunst_any l A c gens Ag cg hsh.out s sA sc (fun _=>True) W (fun _ _=>trivial) hX hR (rd_on (B:=W.heap.size) hR.gen (fun _ _=>trivial)))
   generalize runT (l.map tabOf) gens s=E at *
   obtain ⟨rt,rg,re⟩:=E
   dsimp only at hal hsa hra
   clear H hact
   go_upto_region 8 with fail
   obtain ⟨w6,hw6,H6⟩:=H1.name
   rw [hw6]
   clear hw6 H1 e0 e1 e2 e3
   obtain ⟨b8,hb8⟩:∃ b8,b8=wr.heap.size:=⟨_,rfl⟩
   rw [← hb8] at H6 ⊢
   clear hb8
   have a0:=H6.cell 0 0 rfl rfl;have a1:=H6.cell 0 1 rfl rfl;have p0:=H6.cell 1 0 rfl rfl;have p1:=H6.cell 1 1 rfl rfl;have p2:=H6.cell 1 2 rfl rfl;have p3:=H6.cell 1 3 rfl rfl
   have hH6:=Lib.hid H6
   clear H6
   go_wp2_with fail
   refine (hsa.out w6 (Rd.more (Rd.under hk9.out hH6.out.bel (Nat.le_refl _)) hH6.out.bel.size) (hh.out.hp hH6.out)).mono ?_
   rintro e w7 ⟨v,rfl,hG⟩
   have hX:=hG.seen hal.out
   obtain ⟨A1,c1,l1,Ag1,cg1,rfl,_,_⟩:=hG.rd
   have H7:=(hH6.out.grow hG.bel).new w7.heap.size rfl 40 [.slice A1 l1.length c1,.slice Ag1 rg.length cg1]
   have hX1:=hX.grow ((Below.refl _ _).alloc (Nat.le_refl _) (.cells #[.slice A1 l1.length c1,.slice Ag1 rg.length cg1] 40))
   clear hX hG hH6 hsa hal a0 a1 p0 p1 p2 p3
   go_upto_region 9 with fail
   obtain ⟨w8,hw8,H8⟩:=H7.name
   rw [hw8] at hX1 ⊢
   clear hw8 H7
   have hX2:=Lib.hid hX1
   have a0:=H8.cell 0 0 rfl rfl;have a1:=H8.cell 0 1 rfl rfl;have p0:=H8.cell 1 0 rfl rfl;have p1:=H8.cell 1 1 rfl rfl;have p2:=H8.cell 1 2 rfl rfl;have p3:=H8.cell 1 3 rfl rfl
   have hH8:=Lib.hid H8
   clear H8 hX1
   go_wp2_with fail
   refine (hra.out w8 (Rd.more (Rd.under hk9.out hH8.out.bel (Nat.le_refl _)) hH8.out.bel.size) (hh.out.hp hH8.out)).mono ?_
   rintro e w9 ⟨v,rfl,hG⟩
   have hY:=hG.seen
   have hX3:=hX2.out.grow hG.bel
   have hY0:=hY
   obtain ⟨A2,c2,l2,Ag2,cg2,rfl,_,_,_⟩:=hY0
   have H9:=(hH8.out.grow hG.bel).new w9.heap.size rfl 40 [.slice A2 l2.length c2,.slice Ag2 rg.length cg2]
   have hX4:=hX3.grow ((Below.refl _ _).alloc (Nat.le_refl _) (.cells #[.slice A2 l2.length c2,.slice Ag2 rg.length cg2] 40))
   have hY4:=hY.grow ((Below.refl _ _).alloc (Nat.le_refl _) (.cells #[.slice A2 l2.length c2,.slice Ag2 rg.length cg2] 40))
   clear hX2 hX3 hY hG hH8 hra a0 a1 p0 p1 p2 p3
   go_upto_region 10 with fail
   obtain ⟨w10,hw10,H10⟩:=H9.name
   rw [hw10] at hX4 hY4 ⊢
   clear hw10 H9
   have hX:=Lib.hid hX4;have hY:=Lib.hid hY4
   have q0:=H10.cell 2 0 rfl rfl;have q1:=H10.cell 2 1 rfl rfl;have q2:=H10.cell 3 0 rfl rfl;have q3:=H10.cell 3 1 rfl rfl
   have hH10:=Lib.hid H10
   clear hX4 hY4 H10 hk9
   go_wp2_with fail
   refine (samest_seen hX.out hY.out).mono ?_
   rintro e w11 ⟨rfl,hb⟩
   have hH11:Hid (Hp w w11 [.box w.heap.size 40 [.slice A l.length c,.slice Ag gens.length cg]]):=Lib.hid ((((hH10.out.grow hb).drop1 3).drop1 2).drop1 1)
   clear hX hY hH10 hb q0 q1 q2 q3
   go_wp2_with fail
   go_roundw
   case rel=>exact ⟨k+1,by omega,by go_num,hH11.out⟩
   case measure=>simp [intOf];omega
  ·obtain rfl:k=xs.length:=by omega
   have hH:=Lib.hid H
   clear H
   go_wp2_with fail
   go_ret
   exact ⟨rfl,hH.out.bel⟩
end Go.Proofs.YtefdblaolmckmabGreat
