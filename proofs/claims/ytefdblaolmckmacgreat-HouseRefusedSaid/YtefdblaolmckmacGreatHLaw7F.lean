/- Lemmas of the proof. -/
import Derived.Test.YtefdblaolmckmacGreatHLaw7Q
set_option linter.unusedVariables false
set_option linter.unusedSimpArgs false
set_option maxRecDepth 100000
set_option maxHeartbeats 12800000
namespace Go.Proofs.YtefdblaolmckmacGreat
open Go.RowKit
open Brood
def goodD:List DIn→List AnsIn→List DIn
 | x::l,y::r=>if y.a.err=0∧x.d.kind≠7 then x::goodD l r else goodD l r
 | _,_=>[]
theorem goodD_do:∀ (l:List DIn) (L:List AnsIn),doOf (goodD l L)=goods (doOf l) (L.map (·.a))
 | [],L=>by cases L<;>rfl
 | x::l,[]=>rfl
 | x::l,y::r=>by
  have ih:=goodD_do l r
  unfold doOf at ih ⊢
  simp only [List.map_cons,goodD,goods]
  split
  ·rw [List.map_cons,ih]
  ·exact ih
theorem goodD_mem:∀ {l:List DIn} {L:List AnsIn} {x:DIn},x∈goodD l L→x∈l
 | [],L,x,h=>by cases L<;>cases h
 | y::l,[],x,h=>by cases h
 | y::l,z::r,x,h=>by
  rw [goodD] at h
  split at h
  ·rcases List.mem_cons.1 h with rfl | h
   ·exact List.mem_cons_self ..
   ·exact List.mem_cons_of_mem _ (goodD_mem h)
  ·exact List.mem_cons_of_mem _ (goodD_mem h)
theorem goodD_len (l:List DIn) (L:List AnsIn):(goodD l L).length≤l.length:=by
 have h1:=goods_len (doOf l) (L.map (·.a))
 rw [← goodD_do,doOf_length,doOf_length] at h1
 exact h1
theorem goodD_take:∀ (l:List DIn) (L:List AnsIn) (k:Nat) (hl:k<l.length) (hL:k<L.length),
  goodD (l.take (k+1)) (L.take (k+1))=goodD (l.take k) (L.take k)++(if L[k].a.err=0∧l[k].d.kind≠7 then [l[k]] else [])
 | [],L,k,hl,hL=>by cases hl
 | x::l,[],k,hl,hL=>by cases hL
 | x::l,y::r,0,hl,hL=>by
  simp only [List.take_succ_cons,List.take_zero,goodD,List.getElem_cons_zero]
  by_cases h:y.a.err=0∧x.d.kind≠7
  ·rw [if_pos h];rfl
  ·rw [if_neg h];rfl
 | x::l,y::r,k+1,hl,hL=>by
  have ih:=goodD_take l r k (by simpa using hl) (by simpa using hL)
  simp only [List.take_succ_cons,goodD,List.getElem_cons_succ] at ih ⊢
  by_cases h:y.a.err=0∧x.d.kind≠7
  ·rw [if_pos h,if_pos h,ih];rfl
  ·rw [if_neg h,if_neg h,ih]
structure RefF (mods:List BMod) (l:List BDo) (P:Played):Prop where
 r:HouseR mods P.h
 len:P.a.length=l.length
 few:l.length≤80
 f:(playV mods (goods l P.a)).f=(0,0)
 h:(playV mods (goods l P.a)).h=P.h
 ok:∀ b∈(playV mods (goods l P.a)).a,b.err=0
 few2:(playV mods (goods l P.a)).a.length≤80
theorem refused_facts (mods:List BMod) (l:List BDo) (h:(playV mods l).f.1=0):RefF mods l (playV mods l):=by
 obtain ⟨h1,h2,e⟩:=playV_ok h
 obtain ⟨r1,r2,r3⟩:=play_refused h
 obtain ⟨_,h3,e2⟩:=playV_ok r1
 refine ⟨play_right h,?_,h2,?_,r2,r3,by rw [e2];dsimp only;rw [doAll_len];exact h3⟩
 ·rw [e];exact doAll_len _ _
 ·rw [e2]
theorem pkD_none {w0 w:World} {E:List Ent} (h:Hp w0 w E):Hp w0 w (pkD none 0 []::E):=
 (h.nil_ 58 12).perm (List.perm_append_comm (l₂:=[_]))
theorem houseRefused_any (mods:List BMod) (mA:Option Addr) (mc:Nat) (hml:mods.length≤maxLen) (hmn:mA=none→mc=0) (l:List DIn) (dA:Option Addr) (dc:Nat) (hll:l.length≤maxLen) (hln:(∀ x∈l,x.A=none→x.c=0)∧(dA=none→dc=0)) (w:World) (hM:RdM w w.heap.size mA mods) (hD:RdD w w.heap.size dA l) :
  Calls Tryz.prog 7 #[.slice mA mods.length mc,.slice dA l.length dc] w fun e w'=>e=.returned (.bool true)∧Below w.heap.size w w':=by
 go_enter Tryz.func7,Tryz.ntmps7
 go_wp2_with fail
 refine (alive7_any w).mono ?_
 rintro e w1 ⟨rfl,hb⟩
 have hB:=Lib.hid hb
 clear hb
 have hok:=Lib.hid (refused_facts mods (doOf l))
 have hbad:=Lib.hid (playV_bad (mods:=mods) (l:=doOf l))
 have hP:=Lib.hid (hplay_any mods mA mc hml hmn l dA dc hll hln.1 w1 (Rd.grow hM hB.out) ((hD.under hB.out (Nat.le_refl _)).more hB.out.size))
 generalize playV mods (doOf l)=P at *
 go_wp2_with fail
 refine hP.out.mono ?_
 rintro e w2 ⟨s,L,A,c,rfl,his,hL,HP⟩
 obtain ⟨ho,ha,f1,f2⟩:=P
 try dsimp only at his hL hok hbad ⊢
 have H1:=((Hp.start w).grow hB.out).join HP
 obtain ⟨R,hRe,hRs⟩:∃ R,Hp w w2 (pkA A c L::R)∧∀ p∈hoK s,p∈R:=⟨_,H1,fun p hp=>by simp [hp]⟩
 have H2:=(hRe.newL w2.heap.size rfl 30 [.slice s.A s.l.length s.c,.slice s.Ag s.gens.length s.cg,.slice s.Am s.mods.length s.cm,.slice s.As s.sys.length s.cs]).newL (w2.heap.size+1) (by simp) 34 [.int .i64 f1,.int .i64 f2]
 have hH2:=Lib.hid H2;have hLh:=Lib.hid hL;have hish:=Lib.hid his;have hRsh:=Lib.hid hRs
 clear HP H1 hL hP hRe H2 his hRs
 unfold hoVal
 try dsimp only
 go_upto_region 4 with fail
 obtain ⟨w3,hw3,H3⟩:=hH2.out.name
 rw [hw3]
 obtain ⟨g5,hg5⟩:∃ g5,g5=w2.heap.size:=⟨_,rfl⟩
 rw [← hg5] at H3 ⊢
 obtain ⟨g7,hg7⟩:∃ g7,g7=g5+1:=⟨_,rfl⟩
 rw [← hg7] at H3 ⊢
 clear hw3 hg5 hg7 hH2
 have ff:=H3.cell 0 0 rfl rfl
 have hH3:=Lib.hid H3
 clear H3
 by_cases hf:f1=0
 case neg=>
  have hf':(f1 != 0)=true:=by simpa using hf
  have hB3:=Lib.hid hH3.out.bel
  clear hok hf hbad hish hRsh hLh hH3
  go_wp2_with fail
  go_ret
  exact ⟨rfl,hB3.out⟩
 subst hf
 have hF:=hok.out rfl
 have hl80:l.length≤80:=by have:=hF.few;rw [doOf_length] at this;exact this
 have hLl:L.length=l.length:=by rw [← doOf_length l,← hF.len,← hLh.out,List.length_map]
 have hFh:=Lib.hid hF;have hLlh:=Lib.hid hLl;have hl80h:=Lib.hid hl80
 have hH4:=Lib.hid (pkD_none hH3.out)
 clear hok hbad hF hLl hH3 hl80
 obtain ⟨i0',hi0,hz0a,hz0b,hz0c⟩:=info_parts infoDo
 have hi0h:=Lib.hid hi0;have hz0ah:=Lib.hid hz0a;have hz0bh:=Lib.hid hz0b;have hz0ch:=Lib.hid hz0c
 clear hi0 hz0a hz0b hz0c
 go_wp2_with fail
 clear ff
 go_loopw [8,29] (fun s8 q wr=>∃ (k:Nat) (A3:Option Addr) (c3:Nat),k≤l.length∧q=.int .i64 k∧s8=.slice A3 (goodD (l.take k) (L.take k)).length c3∧Hp w wr (pkD A3 c3 (goodD (l.take k) (L.take k))::.box g7 34 [.int .i64 0,.int .i64 f2]::.box g5 30 [.slice s.A s.l.length s.c,.slice s.Ag s.gens.length s.cg,.slice s.Am s.mods.length s.cm,.slice s.As s.sys.length s.cs]::pkA A c L::R)) (fun _ q _=>l.length-(intOf q).toNat)
 case atStart=>exact ⟨0,none,0,by omega,rfl,rfl,hH4.out⟩
 case round=>
  clear hH4
  obtain ⟨k,A3,c3,hk,rfl,rfl,H⟩:=hrel
  by_cases hlt:k<l.length
  ·have hltL:k<L.length:=by rw [hLlh.out];exact hlt
   have hRd:RdD wr w.heap.size dA l:=hD.under H.bel (Nat.le_refl _)
   obtain ⟨db,off,eD,hdb,p0,p1,p2,p3,p4,p5,p6,p7,p8,p9,p10,p11⟩:=hRd.at_ hlt
   obtain ⟨b,ao,eA,hab,j0,j1,j2,j3,j4⟩:=pkA_at H 3 rfl hltL
   clear j1 j2 j3 j4
   have htk:=Lib.hid (goodD_take l L k hlt hltL)
   have hgl:Hid ((goodD (l.take k) (L.take k)).length≤80):=Lib.hid (by
    have h1:=goodD_len (l.take k) (L.take k)
    have h2:(l.take k).length≤l.length:=by rw [List.length_take];omega
    have:=hl80h.out
    omega)
   generalize l[k]=x at *
   generalize L[k]=y at *
   obtain ⟨Gn,hGn⟩:∃ Gn,Gn=goodD (l.take (k+1)) (L.take (k+1)):=⟨_,rfl⟩
   rw [← hGn] at htk
   have hGnh:=Lib.hid hGn
   clear hGn
   generalize goodD (l.take k) (L.take k)=Gk at *
   have k80:=hl80h.out
   have i0:(0:Int)≤(k:Int):=by omega
   have i1:(k:Int)<(l.length:Int):=by omega
   have i2:(k:Int)<(L.length:Int):=by omega
   have H1:=H.newL wr.heap.size rfl 58 [.int .i64 x.d.kind,.int .i64 x.d.has,.int .i64 x.d.part,.int .i64 x.d.n,.int .i64 x.d.i,.int .i64 x.d.g,.int .i64 x.d.sys.mod,.int .i64 x.d.sys.all,.int .i64 x.d.sys.non,.slice x.A x.d.sys.acts.length x.c,.int .i64 x.d.fa,.int .i64 x.d.fn]
   have hal:Below wr.heap.size wr (wr.alloc (.cells #[.int .i64 x.d.kind,.int .i64 x.d.has,.int .i64 x.d.part,.int .i64 x.d.n,.int .i64 x.d.i,.int .i64 x.d.g,.int .i64 x.d.sys.mod,.int .i64 x.d.sys.all,.int .i64 x.d.sys.non,.slice x.A x.d.sys.acts.length x.c,.int .i64 x.d.fa,.int .i64 x.d.fn] 58)):=(Below.refl _ _).alloc (Nat.le_refl _) _
   have q0:=(hal.cell (p:=⟨b,ao+k*5,none⟩) hab).trans j0
   have hH1:=Lib.hid H1
   rw [eD,eA]
   clear hRd H hal j0 hab H1 hlt hltL
   go_upto_region 10 with fail
   clear p0 p1 p2 p3 p4 p5 p6 p7 p8 p9 p10 p11
   obtain ⟨w4,hw4,H2⟩:=hH1.out.name
   have hq0:=Lib.hid q0
   clear q0
   rw [hw4]
   have q0:=hq0.out
   rw [hw4] at q0
   obtain ⟨g10,hg10⟩:∃ g10,g10=wr.heap.size:=⟨_,rfl⟩
   rw [← hg10] at H2 ⊢
   clear hw4 hg10 hH1 hq0 hdb
   have m0:=H2.cell 0 0 rfl rfl
   by_cases he:y.a.err=0
   ·rw [he] at q0
    by_cases h7:x.d.kind=7
    ·have h7':(x.d.kind != 7)=false:=by simpa using h7
     have e2:Hid (Gn=Gk):=Lib.hid (by rw [htk.out,if_neg (fun h=>h.2 h7),List.append_nil])
     have hH2:=Lib.hid (H2.drop1 0)
     clear H2 htk h7
     go_wp2_with fail
     go_roundw
     case rel=>
      first
      | (exact ⟨k+1,A3,c3,by omega,by go_num,by rw [← hGnh.out,e2.out],by rw [← hGnh.out,e2.out,← eA];exact hH2.out⟩)
      | (refine ⟨_,?_,rfl⟩;exact ⟨k+1,A3,c3,by omega,by go_num,by rw [← hGnh.out,e2.out],by rw [← hGnh.out,e2.out,← eA];exact hH2.out⟩)
      | (refine ⟨_,_,?_,rfl⟩;exact ⟨k+1,A3,c3,by omega,by go_num,by rw [← hGnh.out,e2.out],by rw [← hGnh.out,e2.out,← eA];exact hH2.out⟩)
      | (refine ⟨_,_,_,?_,rfl⟩;exact ⟨k+1,A3,c3,by omega,by go_num,by rw [← hGnh.out,e2.out],by rw [← hGnh.out,e2.out,← eA];exact hH2.out⟩)
      | (refine ⟨_,_,_,_,?_,rfl⟩;exact ⟨k+1,A3,c3,by omega,by go_num,by rw [← hGnh.out,e2.out],by rw [← hGnh.out,e2.out,← eA];exact hH2.out⟩)
      | (refine ⟨_,_,_,_,_,?_,rfl⟩;exact ⟨k+1,A3,c3,by omega,by go_num,by rw [← hGnh.out,e2.out],by rw [← hGnh.out,e2.out,← eA];exact hH2.out⟩)
      | (refine ⟨_,_,_,_,_,_,?_,rfl⟩;exact ⟨k+1,A3,c3,by omega,by go_num,by rw [← hGnh.out,e2.out],by rw [← hGnh.out,e2.out,← eA];exact hH2.out⟩)
      | (refine ⟨_,_,_,_,_,_,_,?_,rfl⟩;exact ⟨k+1,A3,c3,by omega,by go_num,by rw [← hGnh.out,e2.out],by rw [← hGnh.out,e2.out,← eA];exact hH2.out⟩)
      | (refine ⟨_,_,_,_,_,_,_,_,?_,rfl⟩;exact ⟨k+1,A3,c3,by omega,by go_num,by rw [← hGnh.out,e2.out],by rw [← hGnh.out,e2.out,← eA];exact hH2.out⟩)
      | (refine ⟨_,_,_,_,_,_,_,_,_,?_,rfl⟩;exact ⟨k+1,A3,c3,by omega,by go_num,by rw [← hGnh.out,e2.out],by rw [← hGnh.out,e2.out,← eA];exact hH2.out⟩)
      | (refine ⟨_,_,_,_,_,_,_,_,_,_,?_,rfl⟩;exact ⟨k+1,A3,c3,by omega,by go_num,by rw [← hGnh.out,e2.out],by rw [← hGnh.out,e2.out,← eA];exact hH2.out⟩)
      | (refine ⟨_,_,_,_,_,_,_,_,_,_,_,?_,rfl⟩;exact ⟨k+1,A3,c3,by omega,by go_num,by rw [← hGnh.out,e2.out],by rw [← hGnh.out,e2.out,← eA];exact hH2.out⟩)
      | (refine ⟨_,_,_,_,_,_,_,_,_,_,_,_,?_,rfl⟩;exact ⟨k+1,A3,c3,by omega,by go_num,by rw [← hGnh.out,e2.out],by rw [← hGnh.out,e2.out,← eA];exact hH2.out⟩)
      | (refine ⟨_,_,_,_,_,_,_,_,_,_,_,_,_,?_,rfl⟩;exact ⟨k+1,A3,c3,by omega,by go_num,by rw [← hGnh.out,e2.out],by rw [← hGnh.out,e2.out,← eA];exact hH2.out⟩)
      | (refine ⟨_,_,_,_,_,_,_,_,_,_,_,_,_,_,?_,rfl⟩;exact ⟨k+1,A3,c3,by omega,by go_num,by rw [← hGnh.out,e2.out],by rw [← hGnh.out,e2.out,← eA];exact hH2.out⟩)
      | (refine ⟨_,_,_,_,_,_,_,_,_,_,_,_,_,_,_,?_,rfl⟩;exact ⟨k+1,A3,c3,by omega,by go_num,by rw [← hGnh.out,e2.out],by rw [← hGnh.out,e2.out,← eA];exact hH2.out⟩)
     case measure=>simp [intOf];omega
    ·have h7':(x.d.kind != 7)=true:=by simpa using h7
     have e2:Hid (Gn=Gk++[x]):=Lib.hid (by rw [htk.out,if_pos ⟨he,h7⟩])
     have m1:=H2.cell 0 1 rfl rfl;have m2:=H2.cell 0 2 rfl rfl;have m3:=H2.cell 0 3 rfl rfl;have m4:=H2.cell 0 4 rfl rfl;have m5:=H2.cell 0 5 rfl rfl;have m6:=H2.cell 0 6 rfl rfl;have m7:=H2.cell 0 7 rfl rfl;have m8:=H2.cell 0 8 rfl rfl;have m9:=H2.cell 0 9 rfl rfl;have m10:=H2.cell 0 10 rfl rfl;have m11:=H2.cell 0 11 rfl rfl
     have HN:=H2.newL w4.heap.size rfl 58 [.int .i64 x.d.kind,.int .i64 x.d.has,.int .i64 x.d.part,.int .i64 x.d.n,.int .i64 x.d.i,.int .i64 x.d.g,.int .i64 x.d.sys.mod,.int .i64 x.d.sys.all,.int .i64 x.d.sys.non,.slice x.A x.d.sys.acts.length x.c,.int .i64 x.d.fa,.int .i64 x.d.fn]
     have hHN:=Lib.hid HN
     have hown:=HN.owns 2 rfl
     have hgl1:=hgl.out
     have hi0:=hi0h.out;have hz0a:=hz0ah.out;have hz0b:=hz0bh.out;have hz0c:=hz0ch.out
     clear H2 htk h7 HN
     go_wp2_with (at_builtin;refine wpList_append_own_at _ rfl _ _ 23 rfl w.heap.size 58 i0' (.agg #[.int .i64 0,.int .i64 0,.int .i64 0,.int .i64 0,.int .i64 0,.int .i64 0,.int .i64 0,.int .i64 0,.int .i64 0,.slice none 0 0,.int .i64 0,.int .i64 0]) 12 112 Tryz.underlying23 hi0 hz0a hz0b hz0c rfl (by decide) _ _ _ rfl hown ⟨w4.heap.size,0,none⟩ 1 1 [.int .i64 x.d.kind,.int .i64 x.d.has,.int .i64 x.d.part,.int .i64 x.d.n,.int .i64 x.d.i,.int .i64 x.d.g,.int .i64 x.d.sys.mod,.int .i64 x.d.sys.all,.int .i64 x.d.sys.non,.slice x.A x.d.sys.acts.length x.c,.int .i64 x.d.fa,.int .i64 x.d.fn] rfl rfl ?c1 ?c2 ?c3 ?c4 ?c5 ?_;rotate_left 5;intro v' w8 hown8 hgrow8 hif8 hat8;have H8:=hHN.out.app 2 rfl hgrow8 hown8 (hat8.imp id (fun e g hg=>by rw [e] at hg;injection hg with hg;exact Nat.le_of_eq hg));obtain ⟨A4,c4,rfl,hs1,hs2⟩:=own_shape hown8;clear hown8 hgrow8 hif8 hat8 hs1 hs2)
     case c1=>exact news_blk (hHN.out.blk 0 rfl)
     case c2=>simp [Value.oneCell']
     case c3=>unfold maxLen;omega
     case c4=>omega
     case c5=>simpa using hHN.out.bel.size
     have hH8:=Lib.hid (pkD_snoc (L:=Gk) (x:=x) (H8.drop1 0))
     clear H8 hHN hown
     go_roundw
     case rel=>
      first
      | (exact ⟨k+1,A4,c4,by omega,by go_num,by rw [← hGnh.out,e2.out,List.length_append];rfl,by rw [← hGnh.out,e2.out,← eA];exact hH8.out⟩)
      | (refine ⟨_,?_,rfl⟩;exact ⟨k+1,A4,c4,by omega,by go_num,by rw [← hGnh.out,e2.out,List.length_append];rfl,by rw [← hGnh.out,e2.out,← eA];exact hH8.out⟩)
      | (refine ⟨_,_,?_,rfl⟩;exact ⟨k+1,A4,c4,by omega,by go_num,by rw [← hGnh.out,e2.out,List.length_append];rfl,by rw [← hGnh.out,e2.out,← eA];exact hH8.out⟩)
      | (refine ⟨_,_,_,?_,rfl⟩;exact ⟨k+1,A4,c4,by omega,by go_num,by rw [← hGnh.out,e2.out,List.length_append];rfl,by rw [← hGnh.out,e2.out,← eA];exact hH8.out⟩)
      | (refine ⟨_,_,_,_,?_,rfl⟩;exact ⟨k+1,A4,c4,by omega,by go_num,by rw [← hGnh.out,e2.out,List.length_append];rfl,by rw [← hGnh.out,e2.out,← eA];exact hH8.out⟩)
      | (refine ⟨_,_,_,_,_,?_,rfl⟩;exact ⟨k+1,A4,c4,by omega,by go_num,by rw [← hGnh.out,e2.out,List.length_append];rfl,by rw [← hGnh.out,e2.out,← eA];exact hH8.out⟩)
      | (refine ⟨_,_,_,_,_,_,?_,rfl⟩;exact ⟨k+1,A4,c4,by omega,by go_num,by rw [← hGnh.out,e2.out,List.length_append];rfl,by rw [← hGnh.out,e2.out,← eA];exact hH8.out⟩)
      | (refine ⟨_,_,_,_,_,_,_,?_,rfl⟩;exact ⟨k+1,A4,c4,by omega,by go_num,by rw [← hGnh.out,e2.out,List.length_append];rfl,by rw [← hGnh.out,e2.out,← eA];exact hH8.out⟩)
      | (refine ⟨_,_,_,_,_,_,_,_,?_,rfl⟩;exact ⟨k+1,A4,c4,by omega,by go_num,by rw [← hGnh.out,e2.out,List.length_append];rfl,by rw [← hGnh.out,e2.out,← eA];exact hH8.out⟩)
      | (refine ⟨_,_,_,_,_,_,_,_,_,?_,rfl⟩;exact ⟨k+1,A4,c4,by omega,by go_num,by rw [← hGnh.out,e2.out,List.length_append];rfl,by rw [← hGnh.out,e2.out,← eA];exact hH8.out⟩)
      | (refine ⟨_,_,_,_,_,_,_,_,_,_,?_,rfl⟩;exact ⟨k+1,A4,c4,by omega,by go_num,by rw [← hGnh.out,e2.out,List.length_append];rfl,by rw [← hGnh.out,e2.out,← eA];exact hH8.out⟩)
      | (refine ⟨_,_,_,_,_,_,_,_,_,_,_,?_,rfl⟩;exact ⟨k+1,A4,c4,by omega,by go_num,by rw [← hGnh.out,e2.out,List.length_append];rfl,by rw [← hGnh.out,e2.out,← eA];exact hH8.out⟩)
      | (refine ⟨_,_,_,_,_,_,_,_,_,_,_,_,?_,rfl⟩;exact ⟨k+1,A4,c4,by omega,by go_num,by rw [← hGnh.out,e2.out,List.length_append];rfl,by rw [← hGnh.out,e2.out,← eA];exact hH8.out⟩)
      | (refine ⟨_,_,_,_,_,_,_,_,_,_,_,_,_,?_,rfl⟩;exact ⟨k+1,A4,c4,by omega,by go_num,by rw [← hGnh.out,e2.out,List.length_append];rfl,by rw [← hGnh.out,e2.out,← eA];exact hH8.out⟩)
      | (refine ⟨_,_,_,_,_,_,_,_,_,_,_,_,_,_,?_,rfl⟩;exact ⟨k+1,A4,c4,by omega,by go_num,by rw [← hGnh.out,e2.out,List.length_append];rfl,by rw [← hGnh.out,e2.out,← eA];exact hH8.out⟩)
      | (refine ⟨_,_,_,_,_,_,_,_,_,_,_,_,_,_,_,?_,rfl⟩;exact ⟨k+1,A4,c4,by omega,by go_num,by rw [← hGnh.out,e2.out,List.length_append];rfl,by rw [← hGnh.out,e2.out,← eA];exact hH8.out⟩)
     case measure=>simp [intOf];omega
   ·have he':(y.a.err==0)=false:=by simpa using he
    have e2:Hid (Gn=Gk):=Lib.hid (by rw [htk.out,if_neg (fun h=>he h.1),List.append_nil])
    have hH2:=Lib.hid (H2.drop1 0)
    clear H2 htk he
    go_wp2_with fail
    go_roundw
    case rel=>
     first
     | (exact ⟨k+1,A3,c3,by omega,by go_num,by rw [← hGnh.out,e2.out],by rw [← hGnh.out,e2.out,← eA];exact hH2.out⟩)
     | (refine ⟨_,?_,rfl⟩;exact ⟨k+1,A3,c3,by omega,by go_num,by rw [← hGnh.out,e2.out],by rw [← hGnh.out,e2.out,← eA];exact hH2.out⟩)
     | (refine ⟨_,_,?_,rfl⟩;exact ⟨k+1,A3,c3,by omega,by go_num,by rw [← hGnh.out,e2.out],by rw [← hGnh.out,e2.out,← eA];exact hH2.out⟩)
     | (refine ⟨_,_,_,?_,rfl⟩;exact ⟨k+1,A3,c3,by omega,by go_num,by rw [← hGnh.out,e2.out],by rw [← hGnh.out,e2.out,← eA];exact hH2.out⟩)
     | (refine ⟨_,_,_,_,?_,rfl⟩;exact ⟨k+1,A3,c3,by omega,by go_num,by rw [← hGnh.out,e2.out],by rw [← hGnh.out,e2.out,← eA];exact hH2.out⟩)
     | (refine ⟨_,_,_,_,_,?_,rfl⟩;exact ⟨k+1,A3,c3,by omega,by go_num,by rw [← hGnh.out,e2.out],by rw [← hGnh.out,e2.out,← eA];exact hH2.out⟩)
     | (refine ⟨_,_,_,_,_,_,?_,rfl⟩;exact ⟨k+1,A3,c3,by omega,by go_num,by rw [← hGnh.out,e2.out],by rw [← hGnh.out,e2.out,← eA];exact hH2.out⟩)
     | (refine ⟨_,_,_,_,_,_,_,?_,rfl⟩;exact ⟨k+1,A3,c3,by omega,by go_num,by rw [← hGnh.out,e2.out],by rw [← hGnh.out,e2.out,← eA];exact hH2.out⟩)
     | (refine ⟨_,_,_,_,_,_,_,_,?_,rfl⟩;exact ⟨k+1,A3,c3,by omega,by go_num,by rw [← hGnh.out,e2.out],by rw [← hGnh.out,e2.out,← eA];exact hH2.out⟩)
     | (refine ⟨_,_,_,_,_,_,_,_,_,?_,rfl⟩;exact ⟨k+1,A3,c3,by omega,by go_num,by rw [← hGnh.out,e2.out],by rw [← hGnh.out,e2.out,← eA];exact hH2.out⟩)
     | (refine ⟨_,_,_,_,_,_,_,_,_,_,?_,rfl⟩;exact ⟨k+1,A3,c3,by omega,by go_num,by rw [← hGnh.out,e2.out],by rw [← hGnh.out,e2.out,← eA];exact hH2.out⟩)
     | (refine ⟨_,_,_,_,_,_,_,_,_,_,_,?_,rfl⟩;exact ⟨k+1,A3,c3,by omega,by go_num,by rw [← hGnh.out,e2.out],by rw [← hGnh.out,e2.out,← eA];exact hH2.out⟩)
     | (refine ⟨_,_,_,_,_,_,_,_,_,_,_,_,?_,rfl⟩;exact ⟨k+1,A3,c3,by omega,by go_num,by rw [← hGnh.out,e2.out],by rw [← hGnh.out,e2.out,← eA];exact hH2.out⟩)
     | (refine ⟨_,_,_,_,_,_,_,_,_,_,_,_,_,?_,rfl⟩;exact ⟨k+1,A3,c3,by omega,by go_num,by rw [← hGnh.out,e2.out],by rw [← hGnh.out,e2.out,← eA];exact hH2.out⟩)
     | (refine ⟨_,_,_,_,_,_,_,_,_,_,_,_,_,_,?_,rfl⟩;exact ⟨k+1,A3,c3,by omega,by go_num,by rw [← hGnh.out,e2.out],by rw [← hGnh.out,e2.out,← eA];exact hH2.out⟩)
     | (refine ⟨_,_,_,_,_,_,_,_,_,_,_,_,_,_,_,?_,rfl⟩;exact ⟨k+1,A3,c3,by omega,by go_num,by rw [← hGnh.out,e2.out],by rw [← hGnh.out,e2.out,← eA];exact hH2.out⟩)
    case measure=>simp [intOf];omega
  ·obtain rfl:k=l.length:=by omega
   have eL:L.take l.length=L:=by rw [← hLlh.out,List.take_length]
   rw [List.take_length,eL] at H ⊢
   have hF:=hFh.out
   have hdo:doOf (goodD l L)=goods (doOf l) ha:=by rw [goodD_do,hLh.out]
   have hgl:(goodD l L).length≤80:=Nat.le_trans (goodD_len l L) hl80h.out
   have hP2:=Lib.hid (hplay_any mods mA mc hml hmn (goodD l L) A3 c3 (by unfold maxLen;omega) (fun x hx=>hln.1 x (goodD_mem hx)) wr (Rd.grow hM H.bel) (pkD_rd H 0 rfl (fun x hx=>Rd.grow (hD.acts x (goodD_mem hx)) H.bel)))
   have hf:=hF.f;have hh:=hF.h;have hk:=hF.ok;have hk2:=hF.few2
   dsimp only at hf hh hk hk2
   rw [← hdo] at hf hh hk hk2
   have hh9:=Lib.hid H
   have hr:=Lib.hid hF.r
   clear H hF hdo hgl eL
   generalize playV mods (doOf (goodD l L))=P' at *
   generalize goodD l L=Gl at *
   go_wp2_with fail
   refine hP2.out.mono ?_
   rintro e w5 ⟨s',L',A',c',rfl,his',hL',HP⟩
   obtain ⟨ho',ha',p1,p2⟩:=P'
   try dsimp only at his' hL' hf hh hk hk2 ⊢
   injection hf with hf1 hf2
   subst hf1 hf2 hh
   have H1:=hh9.out.join HP
   obtain ⟨R',hRe,hRs',hRo⟩:∃ R',Hp w w5 (.box g7 34 [.int .i64 0,.int .i64 f2]::.box g5 30 [.slice s.A s.l.length s.c,.slice s.Ag s.gens.length s.cg,.slice s.Am s.mods.length s.cm,.slice s.As s.sys.length s.cs]::pkA A' c' L'::R')∧(∀ p∈hoK s',p∈R')∧∀ p∈R,p∈R':=by
    have H2:=H1.drop1 0
    refine ⟨pkA A c L::R++(hoK s'++L'.map ansEnt),H2.perm ?_,fun p hp=>by simp [hp],fun p hp=>by simp [hp]⟩
    refine .cons _ (.cons _ ?_)
    exact List.perm_middle
   have hRs:∀ p∈hoK s,p∈R':=fun p hp=>hRo p (hRsh.out p hp)
   have H3:=hRe.newL w5.heap.size rfl 30 [.slice s'.A s'.l.length s'.c,.slice s'.Ag s'.gens.length s'.cg,.slice s'.Am s'.mods.length s'.cm,.slice s'.As s'.sys.length s'.cs]
   have y0:=H3.frozen 1 0 rfl;have y1:=H3.frozen 1 1 rfl;have d0:=H3.cell 1 0 rfl rfl;have d1:=H3.cell 1 1 rfl rfl
   have Ha:=hRe.set 0 0 (.int .i64 0) rfl
   have Hb:=Ha.newL w5.heap.size (by simp) 30 [.slice s'.A s'.l.length s'.c,.slice s'.Ag s'.gens.length s'.cg,.slice s'.Am s'.mods.length s'.cm,.slice s'.As s'.sys.length s'.cs]
   have y2:=Hb.frozen 1 0 rfl;have y3:=Hb.frozen 1 1 rfl;have d2:=Hb.cell 1 0 rfl rfl;have d3:=Hb.cell 1 1 rfl rfl
   have y4:=Ha.frozen 0 1 rfl;have d4:=Ha.cell 0 1 rfl rfl
   have H4:=(Ha.set 0 1 (.int .i64 0) rfl).newL w5.heap.size (by simp) 30 [.slice s'.A s'.l.length s'.c,.slice s'.Ag s'.gens.length s'.cg,.slice s'.Am s'.mods.length s'.cm,.slice s'.As s'.sys.length s'.cs]
   have l7:=hRe.lt 0 rfl
   clear Ha Hb
   have hH4:=Lib.hid H4
   have hish':=Lib.hid his';have hRsh':=Lib.hid hRs';have hRs0:=Lib.hid hRs;have hL'h:=Lib.hid hL';have hkh:=Lib.hid hk
   clear HP H1 hRe H3 H4 his' hRs' hRo hRs hL' hh9 hP2 hk hRsh
   unfold hoVal
   try dsimp only
   go_upto_region 14 with fail
   obtain ⟨w6,hw6,H5⟩:=hH4.out.name
   rw [hw6]
   obtain ⟨g11,hg11⟩:∃ g11,g11=w5.heap.size:=⟨_,rfl⟩
   rw [← hg11] at H5 ⊢
   replace H5:Hp w w6 (.box g11 30 [.slice s'.A s'.l.length s'.c,.slice s'.Ag s'.gens.length s'.cg,.slice s'.Am s'.mods.length s'.cm,.slice s'.As s'.sys.length s'.cs]::.box g7 34 [.int .i64 0,.int .i64 0]::.box g5 30 [.slice s.A s.l.length s.c,.slice s.Ag s.gens.length s.cg,.slice s.Am s.mods.length s.cm,.slice s.As s.sys.length s.cs]::pkA A' c' L'::R'):=H5
   clear hw6 hg11 hH4 y0 y1 y2 y3 y4 d0 d1 d2 d3 d4 l7
   have hH5:=Lib.hid H5
   have hL80:L'.length≤80:=by have h0:=hk2;rw [← hL'h.out,List.length_map] at h0;exact h0
   clear hk2
   clear H5
   go_wp2_with fail
   go_loopw [59] (fun q wr=>∃ k:Nat,k≤L'.length∧q=.int .i64 k∧Hp w wr (.box g11 30 [.slice s'.A s'.l.length s'.c,.slice s'.Ag s'.gens.length s'.cg,.slice s'.Am s'.mods.length s'.cm,.slice s'.As s'.sys.length s'.cs]::.box g7 34 [.int .i64 0,.int .i64 0]::.box g5 30 [.slice s.A s.l.length s.c,.slice s.Ag s.gens.length s.cg,.slice s.Am s.mods.length s.cm,.slice s.As s.sys.length s.cs]::pkA A' c' L'::R')) (fun q _=>L'.length-(intOf q).toNat)
   case atStart=>exact ⟨0,by omega,rfl,hH5.out⟩
   case round=>
    clear hH5
    obtain ⟨k,hk,rfl,H⟩:=hrel
    by_cases hlt:k<L'.length
    ·obtain ⟨b,ao,eA,hab,j0,j1,j2,j3,j4⟩:=pkA_at H 3 rfl hlt
     have he:L'[k].a.err=0:=hkh.out _ (by rw [← hL'h.out];exact List.mem_map_of_mem (List.getElem_mem hlt))
     generalize L'[k]=y at *
     rw [he] at j0
     have i0:(0:Int)≤(k:Int):=by omega
     have i1:(k:Int)<(L'.length:Int):=by omega
     have H1:=H.newL wr.heap.size rfl 44 [.int .i64 0,.int .i64 y.a.i,.int .i64 y.a.g,.slice y.A y.a.bs.length y.c,.int .i64 y.a.n]
     have hH1:=Lib.hid H1
     rw [eA]
     clear H H1 he
     go_upto_region 17 with fail
     clear j0 j1 j2 j3 j4 hab
     obtain ⟨w7,hw7,H2⟩:=hH1.out.name
     rw [hw7]
     obtain ⟨g14,hg14⟩:∃ g14,g14=wr.heap.size:=⟨_,rfl⟩
     rw [← hg14] at H2 ⊢
     have m0:=H2.cell 0 0 rfl rfl
     have hH2:=Lib.hid (H2.drop1 0)
     clear H2 hw7 hg14 hH1
     go_wp2_with fail
     go_roundw
     case rel=>
      first
      | (exact ⟨k+1,by omega,by go_num,by rw [← eA];exact hH2.out⟩)
      | (refine ⟨_,?_,rfl⟩;exact ⟨k+1,by omega,by go_num,by rw [← eA];exact hH2.out⟩)
      | (refine ⟨_,_,?_,rfl⟩;exact ⟨k+1,by omega,by go_num,by rw [← eA];exact hH2.out⟩)
      | (refine ⟨_,_,_,?_,rfl⟩;exact ⟨k+1,by omega,by go_num,by rw [← eA];exact hH2.out⟩)
      | (refine ⟨_,_,_,_,?_,rfl⟩;exact ⟨k+1,by omega,by go_num,by rw [← eA];exact hH2.out⟩)
      | (refine ⟨_,_,_,_,_,?_,rfl⟩;exact ⟨k+1,by omega,by go_num,by rw [← eA];exact hH2.out⟩)
      | (refine ⟨_,_,_,_,_,_,?_,rfl⟩;exact ⟨k+1,by omega,by go_num,by rw [← eA];exact hH2.out⟩)
      | (refine ⟨_,_,_,_,_,_,_,?_,rfl⟩;exact ⟨k+1,by omega,by go_num,by rw [← eA];exact hH2.out⟩)
      | (refine ⟨_,_,_,_,_,_,_,_,?_,rfl⟩;exact ⟨k+1,by omega,by go_num,by rw [← eA];exact hH2.out⟩)
      | (refine ⟨_,_,_,_,_,_,_,_,_,?_,rfl⟩;exact ⟨k+1,by omega,by go_num,by rw [← eA];exact hH2.out⟩)
      | (refine ⟨_,_,_,_,_,_,_,_,_,_,?_,rfl⟩;exact ⟨k+1,by omega,by go_num,by rw [← eA];exact hH2.out⟩)
      | (refine ⟨_,_,_,_,_,_,_,_,_,_,_,?_,rfl⟩;exact ⟨k+1,by omega,by go_num,by rw [← eA];exact hH2.out⟩)
      | (refine ⟨_,_,_,_,_,_,_,_,_,_,_,_,?_,rfl⟩;exact ⟨k+1,by omega,by go_num,by rw [← eA];exact hH2.out⟩)
      | (refine ⟨_,_,_,_,_,_,_,_,_,_,_,_,_,?_,rfl⟩;exact ⟨k+1,by omega,by go_num,by rw [← eA];exact hH2.out⟩)
      | (refine ⟨_,_,_,_,_,_,_,_,_,_,_,_,_,_,?_,rfl⟩;exact ⟨k+1,by omega,by go_num,by rw [← eA];exact hH2.out⟩)
      | (refine ⟨_,_,_,_,_,_,_,_,_,_,_,_,_,_,_,?_,rfl⟩;exact ⟨k+1,by omega,by go_num,by rw [← eA];exact hH2.out⟩)
     case measure=>simp [intOf];omega
    ·obtain rfl:k=L'.length:=by omega
     have hrr:=hr.out
     try dsimp only at hrr
     have hrW:RightW ho'.W.rows ho'.W.gens:=hrr.W
     have hmem:∀ p∈R',p∈(.box g11 30 [.slice s'.A s'.l.length s'.c,.slice s'.Ag s'.gens.length s'.cg,.slice s'.Am s'.mods.length s'.cm,.slice s'.As s'.sys.length s'.cs]::.box g7 34 [.int .i64 0,.int .i64 0]::.box g5 30 [.slice s.A s.l.length s.c,.slice s.Ag s.gens.length s.cg,.slice s.Am s.mods.length s.cm,.slice s.As s.sys.length s.cs]::pkA A' c' L'::R':List Ent):=fun p hp=>List.mem_cons_of_mem _ (List.mem_cons_of_mem _ (List.mem_cons_of_mem _ (List.mem_cons_of_mem _ hp)))
     have hSt:=hoK_st H (s:=s) (fun p hp=>hmem p (hRs0.out p hp))
     have hSt':=hoK_st H (s:=s') (fun p hp=>hmem p (hRsh'.out p hp))
     have hSm:=hoR_mod H (s:=s) (fun p hp=>hmem p (hRs0.out p hp))
     have hSm':=hoR_mod H (s:=s') (fun p hp=>hmem p (hRsh'.out p hp))
     have hSs:=hoR_sys H (s:=s) (fun p hp=>hmem p (hRs0.out p hp))
     have hSs':=hoR_sys H (s:=s') (fun p hp=>hmem p (hRsh'.out p hp))
     rw [hish.out.gens] at hSt
     rw [hish'.out.gens] at hSt'
     rw [hish.out.mods] at hSm
     rw [hish'.out.mods] at hSm'
     have hsl:s.sys.length≤12:=by
      have h0:=hrr.len
      rw [← hish.out.sys,sysOf_length] at h0
      exact h0
     have hS:=Lib.hid (rsameho_any s.l s'.l ho'.W.gens ho'.mods s.sys s'.sys s.A s.c s.Ag s.cg s.Am s.cm s.As s.cs s'.A s'.c s'.Ag s'.cg s'.Am s'.cm s'.As s'.cs (right_small hrW hish.out.tabs) (hish'.out.tabs.trans hish.out.tabs.symm) (hish'.out.sys.trans hish.out.sys.symm) (by rw [hrr.same];have:=hrr.few;omega) (by omega) (fun x hx=>by
      have h1:=(right_of (hrr.sys x.s (by rw [← hish.out.sys];exact List.mem_map_of_mem hx)).1).2.2.1
      omega) wr hSt hSt' hSm hSm' hSs hSs')
     rw [hish.out.gens,hish.out.mods,hish'.out.gens,hish'.out.mods] at H
     have q0:=H.cell 0 0 rfl rfl;have q1:=H.cell 0 1 rfl rfl;have q2:=H.cell 0 2 rfl rfl;have q3:=H.cell 0 3 rfl rfl
     have r0:=H.cell 2 0 rfl rfl;have r1:=H.cell 2 1 rfl rfl;have r2:=H.cell 2 2 rfl rfl;have r3:=H.cell 2 3 rfl rfl
     have z0:=H.cell 1 0 rfl rfl
     have hB:=Lib.hid H.bel
     clear H hSt hSt' hSm hSm' hSs hSs' hsl hmem hrr hrW hr
     go_wp2_with fail
     refine hS.out.mono ?_
     rintro e w9 ⟨rfl,hb9⟩
     go_wp2_with fail
     go_ret
     exact ⟨rfl,hB.out.trans (hb9.mono hB.out.size)⟩
end Go.Proofs.YtefdblaolmckmacGreat
