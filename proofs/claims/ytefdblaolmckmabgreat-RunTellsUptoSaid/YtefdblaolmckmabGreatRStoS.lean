/- Lemmas of the proof. -/
import Derived.Test.YtefdblaolmckmabGreatRBStoFToPlainM
import Derived.Test.YtefdblaolmckmabGreatRBSpecOToSpecR
import Derived.Test.YtefdblaolmckmabGreatRBPosKToInsB
import Derived.Test.YtefdblaolmckmabGreatRBStoBToKg
import Derived.Test.YtefdblaolmckmabGreatRBPlainAToHp
import Derived.Test.YtefdblaolmckmabGreatRBSpecVToStoA
import Derived.Test.YtefdblaolmckmabGreatRBSortTRToStoO
import Derived.Test.YtefdblaolmckmabGreatRBRowToInv
set_option linter.unusedVariables false
set_option linter.unusedSimpArgs false
set_option maxRecDepth 100000
set_option maxHeartbeats 12800000
namespace Go.Proofs.YtefdblaolmckmabGreat
open Go.RowKit
open Brood
def spF (b:Nat) (i g:Int) (b10 kb:Nat) (Ag:Option Addr) (cg:Nat) (gens:List Int) (A:Option Addr) (c:Nat) (l:List TabIn):List Ent:=
 [.box b 40 [.slice none 0 0,.slice none 0 0],.box (b+1) 24 [.int .i64 0,.int .i64 0],.box b10 24 [.int .i64 i,.int .i64 g],
  .own (.slice Ag gens.length cg) 3 1 gens.length (ints gens),kBox kb A l.length c (.slice Ag gens.length cg),outE A c l]
def spR (b:Nat) (i g:Int) (b10:Nat) (Ag:Option Addr) (cg:Nat) (gens:List Int) (b6:Nat) (R:BRow):List Ent:=
 [.box b 40 [.slice none 0 0,.slice none 0 0],.box (b+1) 24 [.int .i64 0,.int .i64 0],.box b10 24 [.int .i64 i,.int .i64 g],
  .own (.slice Ag gens.length cg) 3 1 gens.length (ints gens),.box b6 114 (rowCells R)]
theorem sspawn_any (l:List TabIn) (A:Option Addr) (c:Nat) (gens:List Int) (Ag:Option Addr) (cg:Nat) (has n:Int) (hs:StSmall l gens) (w:World) (h:RdSt w w.heap.size ⟨A,c,l,Ag,cg,gens⟩) :
  Calls Tryz.prog 15 #[.agg #[.slice A l.length c,.slice Ag gens.length cg],.int .i64 has,.int .i64 n] w fun e w'=>
   ∃ v,e=.returned (.tuple #[v,.agg #[.int .i64 (spawnT (l.map tabOf) gens has n).i,.int .i64 (spawnT (l.map tabOf) gens has n).g],.int .i64 (spawnT (l.map tabOf) gens has n).err]) ∧
    GotSt w w' v (spawnT (l.map tabOf) gens has n).tabs (spawnT (l.map tabOf) gens has n).gens:=by
 have hE0:Hid (spawnT (l.map tabOf) gens has n=if (storeErr (l.map tabOf) gens).1≠0 then ⟨[],[],0,0,(storeErr (l.map tabOf) gens).1⟩
  else ⟨tabsW (spawnV (worldT (l.map tabOf)) gens has n).rows,(spawnV (worldT (l.map tabOf)) gens has n).gens,(spawnV (worldT (l.map tabOf)) gens has n).i,(spawnV (worldT (l.map tabOf)) gens has n).g,(spawnV (worldT (l.map tabOf)) gens has n).err⟩):=Lib.hid rfl
 generalize spawnT (l.map tabOf) gens has n=E at *
 have hh:=Lib.hid h;have hsh:=Lib.hid hs
 have hlg:=hs.gens
 have hlt:=hs.tabs
 clear h hs
 have H0:=(((Hp.start w).new w.heap.size rfl 40 [.slice A l.length c,.slice Ag gens.length cg]).new (w.heap.size+1) (by simp) 40 [.slice none 0 0,.slice none 0 0]).new (w.heap.size+1+1) (by simp) 24 [.int .i64 0,.int .i64 0]
 replace H0:Hp w _ [stBox w.heap.size A l.length c Ag gens.length cg,.box (w.heap.size+1) 40 [.slice none 0 0,.slice none 0 0],.box (w.heap.size+1+1) 24 [.int .i64 0,.int .i64 0]]:=H0
 have a0:=H0.cell 0 0 rfl rfl;have a1:=H0.cell 0 1 rfl rfl
 go_enter Tryz.func15,Tryz.ntmps15
 go_wp2_with fail
 obtain ⟨w0,hw0,H0⟩:=H0.name
 rw [hw0];clear hw0 a0 a1
 have hg0:RdSt w0 w0.heap.size ⟨A,c,l,Ag,cg,gens⟩:=hh.out.hp H0
 refine (swrong_any l A c gens Ag cg hsh.out w0 hg0.tabs hg0.gen hg0.ng).mono ?_
 rintro e w1 ⟨rfl,hb1⟩
 replace H0:=H0.grow hb1
 clear hb1 hg0
 have hrt:Hid ((storeErr (l.map tabOf) gens).1=0→RightW (worldT (l.map tabOf)) gens∧l.map tabOf=tabsW (worldT (l.map tabOf))):=Lib.hid store_right
 generalize storeErr (l.map tabOf) gens=F at *
 obtain ⟨f1,f2⟩:=F
 have H2:=H0.new _ rfl 48 [.int .i64 f1,.int .i64 f2]
 simp only at hE0 hrt ⊢
 by_cases hf:f1=0
 case neg=>
  clear H0
  have hf':(f1 != 0)=true:=by simpa using hf
  have hE:Hid (E=⟨[],[],0,0,f1⟩):=Lib.hid (by rw [hE0.out,if_pos hf])
  clear hE0 hrt
  go_wp2_with fail
  obtain ⟨w2,hw2,H2⟩:=H2.name
  rw [hw2];clear hw2
  have n13:=H2.ne 1 3 rfl rfl (by omega);have n23:=H2.ne 2 3 rfl rfl (by omega);have n31:=n13.symm;have n32:=n23.symm
  have q0:=H2.cell 1 0 rfl rfl;have q1:=H2.cell 1 1 rfl rfl;have q2:=H2.cell 2 0 rfl rfl;have q3:=H2.cell 2 1 rfl rfl
  have y0:=H2.frozen 1 0 rfl;have y1:=H2.frozen 1 1 rfl;have y2:=H2.frozen 2 0 rfl;have y3:=H2.frozen 2 1 rfl
  have c0:=H2.cell 3 0 rfl rfl
  have H4:=((((H2.set 1 0 (.slice none 0 0) rfl).set 1 1 (.slice none 0 0) rfl).set 2 0 (.int .i64 0) rfl).set 2 1 (.int .i64 0) rfl).drew
  have H4h:=Lib.hid H4
  clear H4 H2
  go_region_held3 (fun w'=>w'.cell? ⟨w1.heap.size,0,none⟩=some (.int .i64 f1)) (go_keep) (fail)
  have H4:=H4h.out
  have p0:=H4.cell 1 0 rfl rfl;have p1:=H4.cell 1 1 rfl rfl;have p2:=H4.cell 2 0 rfl rfl;have p3:=H4.cell 2 1 rfl rfl
  go_wp2_with fail
  refine bodyPost_ret (v:=.tuple #[.agg #[.slice none 0 0,.slice none 0 0],.agg #[.int .i64 0,.int .i64 0],.int .i64 f1]) (by simp [results,Tryz.results15,go_sem,p0,p1,p2,p3]) rfl ⟨_,by rw [hE.out],by rw [hE.out];exact GotSt.zero H4.bel⟩
 case pos=>
  subst hf
  obtain ⟨hrw,hfit0⟩:=hrt.out rfl
  have hE1:Hid (E=⟨tabsW (spawnV (worldT (l.map tabOf)) gens has n).rows,(spawnV (worldT (l.map tabOf)) gens has n).gens,(spawnV (worldT (l.map tabOf)) gens has n).i,(spawnV (worldT (l.map tabOf)) gens has n).g,(spawnV (worldT (l.map tabOf)) gens has n).err⟩):=Lib.hid (by rw [hE0.out,if_neg (by simp)])
  clear hE0 hrt hlt hlg
  have hfit:=Lib.hid hfit0
  clear hfit0
  generalize hrows:worldT (l.map tabOf)=rows at *
  clear hrows
  have hrwh:=Lib.hid hrw
  have hlens:=right_len hrw
  have hlg:gens.length≤60:=hrw.len
  have hlr:rows.length≤60:=Nat.le_trans hrw.rows_le hrw.len
  have hlensh:=Lib.hid hlens
  have hsp:Hid (spawnV rows gens has n=if isSet has=false∨isVal n=false then ⟨[],[],0,0,3⟩
   else if (nextV rows gens).2.2≠0 then ⟨[],[],0,0,(nextV rows gens).2.2⟩
   else ⟨insRow rows (posOf (nextV rows gens).1 rows) (newRow (nextV rows gens).1 (nextV rows gens).2.1 has n),gensPut gens (nextV rows gens).1 (nextV rows gens).2.1,(nextV rows gens).1,(nextV rows gens).2.1,0⟩):=Lib.hid (by
    unfold spawnV
    rw [if_neg (by rw [(right_iff rows gens).2 hrwh.out];simp)])
  have hspok:=Lib.hid (@spawn_ok rows gens has n)
  generalize spawnV rows gens has n=S at *
  clear hrw hlens
  go_wp2_with fail
  clear H0
  obtain ⟨w2,hw2,H2⟩:=H2.name
  rw [hw2];clear hw2
  have q0:=H2.cell 1 0 rfl rfl;have q1:=H2.cell 1 1 rfl rfl;have q2:=H2.cell 2 0 rfl rfl;have q3:=H2.cell 2 1 rfl rfl
  have y0:=H2.frozen 1 0 rfl;have y1:=H2.frozen 1 1 rfl;have y2:=H2.frozen 2 0 rfl;have y3:=H2.frozen 2 1 rfl
  have x0:=H2.cell 0 0 rfl rfl;have x1:=H2.cell 0 1 rfl rfl
  have H4:=(((H2.set 1 0 (.slice none 0 0) rfl).set 1 1 (.slice none 0 0) rfl).set 2 0 (.int .i64 0) rfl).set 2 1 (.int .i64 0) rfl
  have p0:=H4.cell 1 0 rfl rfl;have p1:=H4.cell 1 1 rfl rfl;have p2:=H4.cell 2 0 rfl rfl;have p3:=H4.cell 2 1 rfl rfl
  by_cases hs:isSet has=false∨isVal n=false
  ·have hE:Hid (E=⟨[],[],0,0,3⟩):=Lib.hid (by rw [hE1.out,hsp.out,if_pos hs];rfl)
   clear hE1 hsp hspok
   cases hs1:isSet has with
   | false=>
    have hcall:=set_any has w2
    rw [hs1] at hcall
    refine hcall.mono ?_
    rintro e w3 ⟨rfl,rfl⟩
    clear hs hcall
    go_wp2_with fail
    refine bodyPost_ret (v:=.tuple #[.agg #[.slice none 0 0,.slice none 0 0],.agg #[.int .i64 0,.int .i64 0],.int .i64 3]) (by simp [results,Tryz.results15,go_sem,p0,p1,p2,p3]) rfl ⟨_,by rw [hE.out],by rw [hE.out];exact GotSt.zero H4.bel⟩
   | true=>
    have hs2:isVal n=false:=by rcases hs with h | h;(rw [hs1] at h;cases h);exact h
    have hcall:=set_any has w2
    rw [hs1] at hcall
    refine hcall.mono ?_
    rintro e w3 ⟨rfl,rfl⟩
    clear hs hcall
    go_wp2_with fail
    have hcall:=value_any n w2
    rw [hs2] at hcall
    refine hcall.mono ?_
    rintro e w3 ⟨rfl,rfl⟩
    clear hcall
    go_wp2_with fail
    refine bodyPost_ret (v:=.tuple #[.agg #[.slice none 0 0,.slice none 0 0],.agg #[.int .i64 0,.int .i64 0],.int .i64 3]) (by simp [results,Tryz.results15,go_sem,p0,p1,p2,p3]) rfl ⟨_,by rw [hE.out],by rw [hE.out];exact GotSt.zero H4.bel⟩
  ·have hs1:isSet has=true:=by cases h:isSet has<;>simp_all
   have hs2:isVal n=true:=by cases h:isVal n<;>simp_all
   have hsp3:Hid (S=if (nextV rows gens).2.2≠0 then ⟨[],[],0,0,(nextV rows gens).2.2⟩
    else ⟨insRow rows (posOf (nextV rows gens).1 rows) (newRow (nextV rows gens).1 (nextV rows gens).2.1 has n),gensPut gens (nextV rows gens).1 (nextV rows gens).2.1,(nextV rows gens).1,(nextV rows gens).2.1,0⟩):=Lib.hid (by rw [hsp.out,if_neg hs])
   clear hsp hs H4 p0 p1 p2 p3
   have hcall:=set_any has w2
   rw [hs1] at hcall
   refine hcall.mono ?_
   rintro e w3 ⟨rfl,rfl⟩
   clear hcall
   go_wp2_with fail
   have hcall:=value_any n w2
   rw [hs2] at hcall
   refine hcall.mono ?_
   rintro e w3 ⟨rfl,rfl⟩
   clear hcall
   go_wp2_with fail
   have hg2:RdSt w2 w2.heap.size ⟨A,c,l,Ag,cg,gens⟩:=hh.out.hp H2
   refine (world_any l A c gens Ag cg (ofG rows) hfit.out (hrwh.out.rep.clean) (by rw [fit_len (G:=ofG rows) hfit.out];have:=hlensh.out.1;omega) (by have:=hlensh.out.2.2;omega) (by omega) w2 hg2.tabs hg2.gen hg2.ng).mono ?_
   rintro e w3 ⟨v3,rfl,hgot,hb3⟩
   rw [hrwh.out.rep.sorted] at hgot
   obtain ⟨Ar,cr,Ag3,cg3,rfl,H3⟩:=hgot.got' H2 hb3
   clear H2 hgot hb3 hg2
   go_wp2_with fail
   have hnok:=Lib.hid (@nextV_ok rows gens)
   refine (next_any rows gens Ar cr Ag3 cg3 (by omega) (by omega) hrwh.out.wfr (fun n hn=>by have:=(hrwh.out.gen n hn).1;omega) w3 (H3.rd 4 rfl) (H3.rd 5 rfl)).mono ?_
   generalize nextV rows gens=X at *
   obtain ⟨i,g,er⟩:=X
   rintro e w4 ⟨rfl,hb4⟩
   have H4:=((H3.grow hb4).drop1 5).drop1 4
   replace H4:Hp w w4 [stBox w.heap.size A l.length c Ag gens.length cg,.box (w.heap.size+1) 40 [.slice none 0 0,.slice none 0 0],.box (w.heap.size+1+1) 24 [.int .i64 0,.int .i64 0],fBox w1.heap.size 0 f2]:=H4
   clear hb4 H3
   simp only at hsp3 hnok ⊢
   have H5:=H4.new _ rfl 24 [.int .i64 i,.int .i64 g]
   clear q0 q1 q2 q3 y0 y1 y2 y3 x0 x1
   by_cases her:er=0
   case neg=>
    have her':(er != 0)=true:=by simpa using her
    have hE:Hid (E=⟨[],[],0,0,er⟩):=Lib.hid (by rw [hE1.out,hsp3.out,if_pos her];rfl)
    clear hsp3 hnok hE1 hspok
    have q0:=H4.cell 1 0 rfl rfl;have q1:=H4.cell 1 1 rfl rfl;have q2:=H4.cell 2 0 rfl rfl;have q3:=H4.cell 2 1 rfl rfl
    have y0:=H4.frozen 1 0 rfl;have y1:=H4.frozen 1 1 rfl;have y2:=H4.frozen 2 0 rfl;have y3:=H4.frozen 2 1 rfl
    have l1:=H4.lt 1 rfl;have l2:=H4.lt 2 rfl
    have H6:=((((H4.set 1 0 (.slice none 0 0) rfl).set 1 1 (.slice none 0 0) rfl).set 2 0 (.int .i64 0) rfl).set 2 1 (.int .i64 0) rfl).new w4.heap.size (by simp) 24 [.int .i64 i,.int .i64 g]
    have p0:=H6.cell 1 0 rfl rfl;have p1:=H6.cell 1 1 rfl rfl;have p2:=H6.cell 2 0 rfl rfl;have p3:=H6.cell 2 1 rfl rfl
    clear H5
    go_wp2_with fail
    refine bodyPost_ret (v:=.tuple #[.agg #[.slice none 0 0,.slice none 0 0],.agg #[.int .i64 0,.int .i64 0],.int .i64 er]) (by simp [results,Tryz.results15,go_sem,p0,p1,p2,p3]) rfl ⟨_,by rw [hE.out],by rw [hE.out];exact GotSt.zero H6.bel⟩
   case pos=>
    subst her
    have hSe:Hid (S=⟨insRow rows (posOf i rows) (newRow i g has n),gensPut gens i g,i,g,0⟩):=Lib.hid (by rw [hsp3.out,if_neg (by simp)])
    have hE:Hid (E=⟨tabsW (insRow rows (posOf i rows) (newRow i g has n)),gensPut gens i g,i,g,0⟩):=Lib.hid (by rw [hE1.out,hSe.out])
    have hok:Hid ((∀ r∈rows,r.idx≠i)∧rowErr (newRow i g has n)=0):=Lib.hid (by
     have:=hspok.out (by rw [hSe.out])
     rw [hSe.out] at this
     exact ⟨this.new,newRow_ok this.set_ this.val⟩)
    have hnok2:=Lib.hid (hnok.out rfl)
    clear hsp3 hnok hE1 hspok hSe
    have x0:=H4.cell 0 0 rfl rfl;have x1:=H4.cell 0 1 rfl rfl
    have l1:=H4.lt 0 rfl
    go_wp2_with fail
    clear x0 x1 l1 H4 H0 H2
    obtain ⟨w5,hw5,H5⟩:=H5.name
    rw [hw5];clear hw5
    have hg5:RdSt w5 w5.heap.size ⟨A,c,l,Ag,cg,gens⟩:=hh.out.hp H5
    refine (sown_any l A c gens Ag cg hsh.out w5 hg5).mono ?_
    rintro e w6 ⟨A2,c2,l2,Ag2,cg2,rfl,hl2,H6⟩
    have hfit2:Hid (l2.map tabOf=(ofG rows).map tabG):=Lib.hid (hl2.trans hfit.out)
    replace H6:=((H5.join H6).drop1 3).drop1 0
    have H7:=Hp.push1 (E:=[_,_,_,_]) (L:=tabsE A2 c2 l2) (H6.new w6.heap.size rfl 108 [.slice A2 l2.length c2,.slice Ag2 gens.length cg2])
    replace H7:Hp w _ (spF (w.heap.size+1) i g w4.heap.size w6.heap.size Ag2 cg2 gens A2 c2 l2++l2.flatMap tabE):=H7
    have hgb:=H6.owns 3 rfl
    obtain ⟨_,_,hse,hgc,hgm⟩:∃ x y,Value.slice Ag2 gens.length cg2=.slice x gens.length y∧gens.length≤y∧y≤maxLen:=own_shape hgb
    obtain ⟨rfl,rfl⟩:_=_∧_=_:=by injection hse with h1 h2 h3;exact ⟨h1,h3⟩
    clear H5 H6 hg5 hl2 hgb hse hfit hsh hh
    have z0:=H7.cell 2 0 rfl rfl;have z1:=H7.cell 4 1 rfl rfl
    go_upto_region 10 with fail
    obtain ⟨w7,hw7,H7⟩:=H7.name
    rw [hw7]
    rw [hw7] at z0 z1
    clear hw7
    generalize w4.heap.size=b10 at *
    generalize w6.heap.size=kb at *
    have H7h:=Lib.hid H7
    obtain ⟨F,hF⟩:∃ F,(i==(gens.length:Int))=F:=⟨_,rfl⟩
    have hFh:=Lib.hid hF
    clear H7 H5
    go_cut [58] (fun s wx=>s=.bool F∧Hp w wx (spF (w.heap.size+1) i g b10 kb Ag2 cg2 gens A2 c2 l2++l2.flatMap tabE))
    case first=>
     go_region_held3 (fun w'=>w'.cell? ⟨b10,0,none⟩=some (.int .i64 i)∧w'.cell? ⟨kb,1,none⟩=some (.slice Ag2 gens.length cg2)) (first | exact ⟨z0,z1⟩ | go_keep) (fail)
     go_wp2_with fail
     go_meet
     exact ⟨by rw [← hFh.out],H7h.out.drew⟩
    case rest=>
    clear z0 z1 H7h hF
    obtain ⟨rfl,H7⟩:=hcut
    obtain ⟨G1,hG1⟩:∃ G1:List Int,Hid (G1=if i=(gens.length:Int) then gens++[0] else gens):=⟨_,Lib.hid rfl⟩
    go_upto_if 58 with fail
    go_cut [] from 70 (fun wx=>∃ Ag3 cg3,G1.length≤cg3∧cg3≤maxLen∧Hp w wx (spF (w.heap.size+1) i g b10 kb Ag3 cg3 G1 A2 c2 l2++l2.flatMap tabE))
    case first=>
     clear hnok2
     cases F with
     | true=>
      have hi:i=(gens.length:Int):=by simpa using hFh.out
      have hGv:Hid (G1=gens++[0]):=Lib.hid (by rw [hG1.out,if_pos hi])
      clear hi hG1
      obtain ⟨i0',hi0,hz0a,hz0b,hz0c⟩:=info_parts infoInt
      have z1:=H7.cell 4 1 rfl rfl
      have hkb:=H7.lt 4 rfl
      have hgl:gens.length≤1000000:=by omega
      have H8:=Hp.push1 (E:=[_,_,_,_,_,_]) (H7.new wc.heap.size rfl 3 [.int .i64 0])
      clear H7
      go_wp2_with (at_builtin;refine wpList_append_own_at _ rfl _ _ 38 rfl w.heap.size 3 i0' (.int .i64 0) 1 8 Tryz.underlying38 hi0 hz0a hz0b hz0c rfl (by decide) _ _ _ rfl (H8.owns 3 rfl) ⟨wc.heap.size,0,none⟩ 1 1 [.int .i64 0] rfl rfl ?c1 ?c2 ?c3 ?c4 ?c5 ?_;rotate_left 5;intro v' w7 hown7 hgrow7 _ hat7;have H9:=H8.app 3 rfl hgrow7 hown7 (hat7.imp id (fun e g hg=>by rw [e] at hg;injection hg with hg;omega));have z0:=H9.cell 4 1 rfl rfl;have z2:=H9.frozen 4 1 rfl;obtain ⟨A3,c3,rfl,hs1,hs2⟩:=own_shape hown7)
      case c1=>exact news_blk (H8.blk 6 rfl)
      case c2=>simp [Value.oneCell']
      case c3=>unfold maxLen;omega
      case c4=>omega
      case c5=>exact H8.bel.size
      go_meet
      have hl:G1.length=gens.length+1:=by rw [hGv.out];simp
      have hi:ints G1=ints gens++[.int .i64 0]:=by rw [hGv.out,ints_snoc]
      refine ⟨A3,c3,by omega,hs2,?_⟩
      unfold spF
      rw [hl,hi]
      exact (H9.set 4 1 (.slice A3 (gens.length+1) c3) rfl).drop1 6
     | false=>
      have hi:¬ i=(gens.length:Int):=by simpa using hFh.out
      have hGv:Hid (G1=gens):=Lib.hid (by rw [hG1.out,if_neg hi])
      have H7h:=Lib.hid H7
      clear H7
      go_wp2_with fail
      go_meet
      rw [hGv.out]
      exact ⟨Ag2,cg2,hgc,hgm,H7h.out⟩
    case rest=>
     clear hgc hgm hFh H7
     obtain ⟨Ag3,cg3,hgc,hgm,H7⟩:=hcut
     obtain ⟨ix,rfl,hix⟩:∃ ix:Nat,i=(ix:Int)∧ix<G1.length:=by
      rw [hG1.out]
      rcases hnok2.out with ⟨k,hk,rfl,_⟩ | ⟨rfl,_⟩
      ·exact ⟨k,rfl,by rw [if_neg (by omega)];exact hk⟩
      ·exact ⟨_,rfl,by rw [if_pos rfl];simp⟩
     clear hnok2
     obtain ⟨gb,rfl⟩:=own_some (H7.owns 3 rfl) (by omega)
     have hgput:Hid (gensPut gens (ix:Int) g=G1.set ix g):=Lib.hid (by rw [hG1.out];simp [gensPut])
     have hse:Hid ((ints G1).set ix (.int .i64 g)=ints (G1.set ix g)):=Lib.hid (by simp [ints,List.map_set])
     have z0:=H7.cell 2 0 rfl rfl;have z1:=H7.cell 2 1 rfl rfl;have z2:=H7.cell 4 1 rfl rfl
     have z4:=H7.ownCell 3 ix rfl (ints_get hix);have z5:=H7.ownFrozen 3 ix rfl
     have i0:(0:Int)≤(ix:Int):=by omega
     have i1:(ix:Int)<(G1.length:Int):=by omega
     have n0:=(H7.apart (i:=3) (j:=2) rfl rfl (by omega) (g:=gb) rfl)
     have n1:=(H7.apart (i:=3) (j:=4) rfl rfl (by omega) (g:=gb) rfl)
     have n0':b10≠gb:=fun e=>n0 (by rw [← e];rfl)
     have n0'':gb≠b10:=fun e=>n0 (by rw [e];rfl)
     have n1':kb≠gb:=fun e=>n1 (by rw [← e];rfl)
     have n1'':gb≠kb:=fun e=>n1 (by rw [e];rfl)
     clear n0 n1
     have H8:=H7.put 3 ix (.int .i64 g) rfl
     rw [hse.out] at H8
     have hl2:(G1.set ix g).length=G1.length:=by simp
     have H9:Hp w (wc.setCell ⟨gb,ix,none⟩ (.int .i64 g)).drew (spF (w.heap.size+1) ix g b10 kb (some ⟨gb,0,none⟩) cg3 (G1.set ix g) A2 c2 l2++l2.flatMap tabE):=by
      unfold spF
      rw [hl2]
      exact H8.drew
     rw [← hgput.out] at H9
     have H9h:=Lib.hid H9
     clear H7 H8 H9 hse hl2
     generalize gensPut gens (ix:Int) g=G2 at *
     clear hgput hG1
     go_upto_region 12 with fail
     go_cut [] from 80 (fun wx=>Hp w wx (spF (w.heap.size+1) ix g b10 kb (some ⟨gb,0,none⟩) cg3 G2 A2 c2 l2++l2.flatMap tabE))
     case first=>
      go_region_held3 (fun w'=>w'.cell? ⟨b10,0,none⟩=some (.int .i64 ix)∧w'.cell? ⟨b10,1,none⟩=some (.int .i64 g)∧w'.cell? ⟨kb,1,none⟩=some (.slice (some ⟨gb,0,none⟩) G1.length cg3)) (first | exact ⟨z0,z1,z2⟩ | go_keep) (fail)
      go_wp2_with fail
      go_meet
      exact H9h.out
     case rest=>
     clear H9h z0 z1 z2 z4 z5 i0 i1 n0' n0'' n1' n1'' hix hgc H7
     have H7:=hcut
     clear hcut
     have z0:=H7.cell 2 0 rfl rfl;have z1:=H7.cell 2 1 rfl rfl
     have H8:=Hp.push1 (E:=[_,_,_,_,_,_]) (H7.new wc.heap.size rfl 114 [.int .i64 ix,.int .i64 g,.int .i64 has,.int .i64 0,.int .i64 0,.int .i64 0,.int .i64 0,.int .i64 0,.int .i64 0,.int .i64 0,.int .i64 0])
     clear H7
     go_wp2_with fail
     obtain ⟨w8,hw8,H8⟩:=H8.name
     rw [hw8];clear hw8 z0 z1
     obtain ⟨b6,hb6⟩:∃ b6,b6=wc.heap.size:=⟨_,rfl⟩
     rw [← hb6] at H8 ⊢
     clear hb6
     refine (list_any has hs1 w8).mono ?_
     rintro e w9 ⟨vl,rfl,hol,hb9⟩
     obtain ⟨Al,cl,rfl,hlc,hlm⟩:=own_shape hol
     have H9:=Hp.push1 (E:=[_,_,_,_,_,_,_]) (H8.got hb9 hol)
     clear H8 hol hb9
     replace H9:Hp w w9 (spF (w.heap.size+1) ix g b10 kb (some ⟨gb,0,none⟩) cg3 G2 A2 c2 l2++[.box b6 114 (rowL ix g has (valsTo has n 0)),.own (.slice Al (listS has).length cl) 3 1 (listS has).length (ints (listS has))]++l2.flatMap tabE):=H9
     have hl8:=listS_len has
     have H9h:=Lib.hid H9
     clear H9
     go_wp2_with fail
     go_loopw [86] (fun s wr=>∃ j:Nat,j≤(listS has).length∧s=.int .i64 j∧Hp w wr (spF (w.heap.size+1) ix g b10 kb (some ⟨gb,0,none⟩) cg3 G2 A2 c2 l2++[.box b6 114 (rowL ix g has (valsTo has n j)),.own (.slice Al (listS has).length cl) 3 1 (listS has).length (ints (listS has))]++l2.flatMap tabE)) (fun s _=>(listS has).length-(intOf s).toNat)
     case atStart=>exact ⟨0,by omega,rfl,H9h.out⟩
     case round=>
      clear H9h
      obtain ⟨j,hj,rfl,H9⟩:=hrel
      by_cases hlt:j<(listS has).length
      ·obtain ⟨kg,rfl⟩:=own_some (H9.owns 7 rfl) (by omega)
       have z4:=H9.ownCell 7 j rfl (ints_get hlt)
       obtain ⟨k0,k8⟩:=listS_range (listS has)[j] (List.getElem_mem hlt)
       have hvs:=Lib.hid (valsTo_succ n hlt)
       obtain ⟨q,hq⟩:=nat_of k0
       rw [hq] at z4 hvs k0 k8
       clear hq
       have hv8:=valsTo_len has n j
       have hrs:=Lib.hid (rowL_set ix g has (valsTo has n j) q n)
       rw [Int.toNat_natCast] at hvs
       have i0:(0:Int)≤(j:Int):=by omega
       have i1:(j:Int)<((listS has).length:Int):=by omega
       have hzq:∃ u,wr.cell? ⟨b6,3+q,none⟩=some u:=by
        obtain ⟨u,hu⟩:∃ u,(rowL ix g has (valsTo has n j))[3+q]?=some u:=⟨_,List.getElem?_eq_getElem (by simp [rowL,ints,hv8];omega)⟩
        exact ⟨u,H9.cell 6 (3+q) rfl hu⟩
       obtain ⟨u,hu⟩:=hzq
       have z6:=H9.frozen 6 (3+q) rfl
       have H10:=H9.set 6 (3+q) (.int .i64 n) rfl
       rw [hrs.out,← hvs.out] at H10
       replace H10:Hp w _ (spF (w.heap.size+1) ix g b10 kb (some ⟨gb,0,none⟩) cg3 G2 A2 c2 l2++[.box b6 114 (rowL ix g has (valsTo has n (j+1))),.own (.slice (some ⟨kg,0,none⟩) (listS has).length cl) 3 1 (listS has).length (ints (listS has))]++l2.flatMap tabE):=H10
       clear H9 hv8 hrs hvs
       have H11:=Lib.hid H10
       clear H10
       go_wp2_with fail
       go_roundw
       case rel=>exact ⟨j+1,by omega,by go_num,H11.out⟩
       case measure=>simp [intOf];omega
      ·obtain rfl:j=(listS has).length:=by omega
       replace H9:=H9.drop1 7
       have hrc:=newRow_cells ix g has n
       obtain ⟨R,hR⟩:∃ R:BRow,R=newRow ix g has n:=⟨_,rfl⟩
       replace H9:Hp w wr (spF (w.heap.size+1) ix g b10 kb (some ⟨gb,0,none⟩) cg3 G2 A2 c2 l2++[.box b6 114 (rowCells R)]++l2.flatMap tabE):=by rw [hR];exact H9
       have hRi:R.idx=(ix:Int):=by rw [hR];rfl
       have hRs:isSet R.has=true:=by rw [hR];exact hs1
       rw [← hR] at hE hok
       clear hrc hR
       have hRep:=hrwh.out.rep
       have hins:Hid (insG R (ofG rows)=ofG (insRow rows (posOf R.idx rows) R)):=Lib.hid ((hRep.ins hok.out.2 (fun q hq=>by rw [hRi];exact hok.out.1 q hq)).eq_of)
       rw [hRi] at hins
       have H10:Hp w wr (kE kb A2 c2 l2 (.slice (some ⟨gb,0,none⟩) G2.length cg3) (spR (w.heap.size+1) ix g b10 (some ⟨gb,0,none⟩) cg3 G2 b6 R)):=H9.perm (by
        unfold kE
        refine List.Perm.trans (l₂:=[kBox kb A2 l2.length c2 (.slice (some ⟨gb,0,none⟩) G2.length cg3),outE A2 c2 l2]++(spR (w.heap.size+1) ix g b10 (some ⟨gb,0,none⟩) cg3 G2 b6 R++l2.flatMap tabE)) ?_ (List.Perm.append_left _ List.perm_append_comm)
        rw [← List.append_assoc]
        refine List.Perm.append_right _ ?_
        exact (List.perm_append_comm (l₁:=[_,_,_,_]) (l₂:=[_,_])).append_right _)
       have hki:=Lib.hid (kinsert_any (ofG rows) hRep.ok.up hRep.ok.rise hRep.clean (by have:=hlensh.out.1;omega) (fun x hx=>by have:=hlensh.out.2.1 x hx;omega) R hRs b6 0 l2 A2 c2 (.slice (some ⟨gb,0,none⟩) G2.length cg3) kb (spR (w.heap.size+1) ix g b10 (some ⟨gb,0,none⟩) cg3 G2 b6 R) hfit2.out w wr (fun w' h'=>⟨rowAt_box (h'.blk 4 rfl),h'.lt 4 rfl⟩) H10)
       clear H9 H10 hRep
       go_wp2_with fail
       refine hki.out.mono ?_
       rintro e w10 ⟨rfl,A4,c4,l4,hf4,H11⟩
       clear hki
       rw [hins.out] at hf4
       have hf4h:=Lib.hid hf4
       clear hf4
       have HP:Hp w w10 (spR (w.heap.size+1) ix g b10 (some ⟨gb,0,none⟩) cg3 G2 b6 R++([kBox kb A4 l4.length c4 (.slice (some ⟨gb,0,none⟩) G2.length cg3),outE A4 c4 l4]++l4.flatMap tabE)):=H11.perm (by
        unfold kE
        rw [← List.append_assoc]
        exact List.perm_append_comm)
       clear H11
       go_upto_region 20 with fail
       have n02:=HP.ne 0 2 rfl rfl (by omega);have n05:=HP.ne 0 5 rfl rfl (by omega);have n12:=HP.ne 1 2 rfl rfl (by omega);have n15:=HP.ne 1 5 rfl rfl (by omega)
       have n20:=n02.symm;have n50:=n05.symm;have n21:=n12.symm;have n51:=n15.symm
       have q0:=HP.cell 0 0 rfl rfl;have q1:=HP.cell 0 1 rfl rfl;have q2:=HP.cell 1 0 rfl rfl;have q3:=HP.cell 1 1 rfl rfl
       have y0:=HP.frozen 0 0 rfl;have y1:=HP.frozen 0 1 rfl;have y2:=HP.frozen 1 0 rfl;have y3:=HP.frozen 1 1 rfl
       have x0:=HP.cell 5 0 rfl rfl;have x1:=HP.cell 5 1 rfl rfl;have x2:=HP.cell 2 0 rfl rfl;have x3:=HP.cell 2 1 rfl rfl
       have HS:=((((HP.set 0 0 (.slice A4 l4.length c4) rfl).set 0 1 (.slice (some ⟨gb,0,none⟩) G2.length cg3) rfl).set 1 0 (.int .i64 ix) rfl).set 1 1 (.int .i64 g) rfl).drew
       have HSh:=Lib.hid HS
       clear HS HP
       go_region_held3 (fun w'=>w'.cell? ⟨kb,0,none⟩=some (.slice A4 l4.length c4)∧w'.cell? ⟨kb,1,none⟩=some (.slice (some ⟨gb,0,none⟩) G2.length cg3)∧w'.cell? ⟨b10,0,none⟩=some (.int .i64 ix)∧w'.cell? ⟨b10,1,none⟩=some (.int .i64 g)) (first | exact ⟨x0,x1,x2,x3⟩ | go_keep) (fail)
       have p0:=HSh.out.cell 0 0 rfl rfl;have p1:=HSh.out.cell 0 1 rfl rfl;have p2:=HSh.out.cell 1 0 rfl rfl;have p3:=HSh.out.cell 1 1 rfl rfl
       go_wp2_with fail
       refine bodyPost_ret (v:=.tuple #[.agg #[.slice A4 l4.length c4,.slice (some ⟨gb,0,none⟩) G2.length cg3],.agg #[.int .i64 ix,.int .i64 g],.int .i64 0]) (by simp [results,Tryz.results15,go_sem,p0,p1,p2,p3]) rfl ⟨_,by rw [hE.out],by rw [hE.out];exact ⟨A4,c4,l4,some ⟨gb,0,none⟩,cg3,rfl,hf4h.out,((((HSh.out.drop1 5).drop1 4).drop1 2).drop1 1).drop1 0⟩⟩
end Go.Proofs.YtefdblaolmckmabGreat
