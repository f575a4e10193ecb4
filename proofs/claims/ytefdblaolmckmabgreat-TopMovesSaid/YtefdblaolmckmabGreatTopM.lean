/- The walk of TopMoves. -/
import Derived.Test.YtefdblaolmckmabGreatBSpecIToSpecK
import Derived.Test.YtefdblaolmckmabGreatBRef2MToRunG
set_option linter.unusedVariables false
set_option linter.unusedSimpArgs false
namespace Go.Proofs.YtefdblaolmckmabGreat
open Go.RowKit
open Brood
theorem mv_get (a v b:Int):getP 0 1 [okRow 0 1 3 a v 0,okRow 1 1 1 b 0 0] 0=(a,true)∧getP 1 1 [okRow 0 1 3 a v 0,okRow 1 1 1 b 0 0] 0=(b,true):=by
 constructor<;>kernel_rfl
theorem mv_dos (a v:Int) (gb t:Nat):doOf ([plain (spawnD 1 a),plain (spawnD 1 a),plain (putD 0 1 1 v),⟨sysD 3 [⟨3,0,1,0⟩],some ⟨gb,0,none⟩,1⟩]++List.replicate t tickI)=moveL a v t:=by
 rw [doOf_append,doOf_ticks]
 rfl
set_option maxRecDepth 20000 in
set_option maxHeartbeats 6400000 in
theorem topMoves_any (a v t:Int) (w:World):Calls Tryz.prog 3 #[.int .i64 a,.int .i64 v,.int .i64 t] w fun e w'=>e=.returned (.bool true)∧Below w.heap.size w w':=by
 go_enter Tryz.func3,Tryz.ntmps3
 go_wp2_with fail
 refine (alivet_any w).mono ?_
 rintro e w1 ⟨rfl,hb⟩
 have hB:=Lib.hid hb
 clear hb
 by_cases g0:a < -1000
 ·go_wp2_with fail
  go_ret
  exact ⟨rfl,hB.out⟩
 by_cases g1:1000<a
 ·go_wp2_with fail
  go_ret
  exact ⟨rfl,hB.out⟩
 by_cases g2:v < -1000
 ·go_wp2_with fail
  go_ret
  exact ⟨rfl,hB.out⟩
 by_cases g3:1000<v
 ·go_wp2_with fail
  go_ret
  exact ⟨rfl,hB.out⟩
 by_cases g4:t<0
 ·go_wp2_with fail
  go_ret
  exact ⟨rfl,hB.out⟩
 by_cases g5:30<t
 ·go_wp2_with fail
  go_ret
  exact ⟨rfl,hB.out⟩
 go_upto_region 3 with fail
 go_cut [38] (fun s38 wx=>s38=.bool false∧w1=wx)
 case first=>
  have n0:decide (a < -1000)=false:=by simpa using g0
  have n1:decide (1000<a)=false:=by simpa using g1
  have n2:decide (v < -1000)=false:=by simpa using g2
  have n3:decide (1000<v)=false:=by simpa using g3
  have n4:decide (t<0)=false:=by simpa using g4
  have n5:decide (30<t)=false:=by simpa using g5
  go_wp2_with fail
  go_meet
  exact ⟨by simp [g0,g1,g2,g3,g4,g5],rfl⟩
 case rest=>
 rename_i Kc hKc
 refine hKc _ _ ?_
 clear hKc
 obtain ⟨rfl,rfl⟩:=hcut
 obtain ⟨T,rfl⟩:∃ T:Nat,t=(T:Int):=⟨t.toNat,by omega⟩
 have hT:T≤30:=by omega
 have ha:Hid (-1000≤a∧a≤1000):=Lib.hid (by omega)
 have hv:Hid (-1000≤v∧v≤1000):=Lib.hid (by omega)
 go_upto_region 5 with fail
 clear g0 g1 g2 g3 g4 g5
 have H0:=(Hp.start w).grow hB.out
 have hH0:=Lib.hid H0
 clear H0
 go_wp2_with fail
 refine (spawn_do_any 1 a w1).mono ?_
 rintro e w2 ⟨rfl,hb2⟩
 have H1:=hH0.out.grow hb2
 have hH1:=Lib.hid H1
 clear H1 hH0 hb2
 go_wp2_with fail
 refine (spawn_do_any 1 a w2).mono ?_
 rintro e w3 ⟨rfl,hb3⟩
 have H2:=(hH1.out.grow hb3).newL w3.heap.size rfl 35 [.int .i64 3,.int .i64 0,.int .i64 1,.int .i64 0]
 have hH2:=Lib.hid H2
 clear H2 hH1 hb3
 go_wp2_with fail
 obtain ⟨w4,hw4,H2⟩:=hH2.out.name
 rw [hw4]
 obtain ⟨gb,hgb⟩:∃ gb,gb=w3.heap.size:=⟨_,rfl⟩
 rw [← hgb] at H2 ⊢
 clear hw4 hH2 hgb
 refine (system_do_any 3 [⟨3,0,1,0⟩] (some ⟨gb,0,none⟩) 1 w4).mono ?_
 rintro e w5 ⟨rfl,hb5⟩
 have H3:=(H2.grow hb5).newL w5.heap.size rfl 31 [.int .i64 1,.int .i64 1,.int .i64 0,.int .i64 a,.int .i64 0,.int .i64 0,.int .i64 0,.int .i64 0,.int .i64 0,.slice none 0 0,.int .i64 0,.int .i64 0,.int .i64 1,.int .i64 1,.int .i64 0,.int .i64 a,.int .i64 0,.int .i64 0,.int .i64 0,.int .i64 0,.int .i64 0,.slice none 0 0,.int .i64 0,.int .i64 0,.int .i64 3,.int .i64 0,.int .i64 1,.int .i64 v,.int .i64 0,.int .i64 1,.int .i64 0,.int .i64 0,.int .i64 0,.slice none 0 0,.int .i64 0,.int .i64 0,.int .i64 5,.int .i64 0,.int .i64 0,.int .i64 0,.int .i64 0,.int .i64 0,.int .i64 0,.int .i64 3,.int .i64 0,.slice (some ⟨gb,0,none⟩) 1 1,.int .i64 0,.int .i64 0]
 have hH3:=Lib.hid H3
 clear H2 H3 hb5
 simp only [doVal,spawnD,sysD,List.length_cons,List.length_nil]
 go_upto_region 6 with fail
 obtain ⟨w6,hw6,H3⟩:=hH3.out.name
 rw [hw6]
 obtain ⟨gd,hgd⟩:∃ gd,gd=w5.heap.size:=⟨_,rfl⟩
 rw [← hgd] at H3 ⊢
 clear hw6 hH3 hgd
 have H4:Hp w w6 (pkD (some ⟨gd,0,none⟩) 4 ([plain (spawnD 1 a),plain (spawnD 1 a),plain (putD 0 1 1 v),⟨sysD 3 [⟨3,0,1,0⟩],some ⟨gb,0,none⟩,1⟩]++List.replicate 0 tickI)::[.box gb 35 [.int .i64 3,.int .i64 0,.int .i64 1,.int .i64 0]]):=Hp.boxDo (L:=[plain (spawnD 1 a),plain (spawnD 1 a),plain (putD 0 1 1 v),⟨sysD 3 [⟨3,0,1,0⟩],some ⟨gb,0,none⟩,1⟩]) H3 (by simp [maxLen])
 have hH4:=Lib.hid H4
 clear H3 H4
 go_wp2_with fail
 go_loopw [7,51] (fun s7 q wr=>∃ (k:Nat) (A3:Option Addr) (c3:Nat),k≤T∧q=.int .i64 k∧s7=.slice A3 ([plain (spawnD 1 a),plain (spawnD 1 a),plain (putD 0 1 1 v),⟨sysD 3 [⟨3,0,1,0⟩],some ⟨gb,0,none⟩,1⟩]++List.replicate k tickI).length c3∧Hp w wr (pkD A3 c3 ([plain (spawnD 1 a),plain (spawnD 1 a),plain (putD 0 1 1 v),⟨sysD 3 [⟨3,0,1,0⟩],some ⟨gb,0,none⟩,1⟩]++List.replicate k tickI)::[.box gb 35 [.int .i64 3,.int .i64 0,.int .i64 1,.int .i64 0]])) (fun _ q _=>T-(intOf q).toNat)
 case atStart=>exact ⟨0,some ⟨gd,0,none⟩,4,by omega,rfl,rfl,hH4.out⟩
 case round=>
  clear hH4
  obtain ⟨k,A3,c3,hk,rfl,rfl,H⟩:=hrel
  by_cases hlt:k<T
  ·have e2:Hid ([plain (spawnD 1 a),plain (spawnD 1 a),plain (putD 0 1 1 v),⟨sysD 3 [⟨3,0,1,0⟩],some ⟨gb,0,none⟩,1⟩]++List.replicate (k+1) tickI=([plain (spawnD 1 a),plain (spawnD 1 a),plain (putD 0 1 1 v),⟨sysD 3 [⟨3,0,1,0⟩],some ⟨gb,0,none⟩,1⟩]++List.replicate k tickI)++[tickI]):=Lib.hid (by rw [List.replicate_succ',List.append_assoc])
   have hlen:([plain (spawnD 1 a),plain (spawnD 1 a),plain (putD 0 1 1 v),⟨sysD 3 [⟨3,0,1,0⟩],some ⟨gb,0,none⟩,1⟩]++List.replicate k tickI).length=4+k:=by simp;omega
   generalize [plain (spawnD 1 a),plain (spawnD 1 a),plain (putD 0 1 1 v),⟨sysD 3 [⟨3,0,1,0⟩],some ⟨gb,0,none⟩,1⟩]++List.replicate k tickI=L at *
   have i0:(0:Int)≤(k:Int):=by omega
   have i1:(k:Int)<(T:Int):=by omega
   obtain ⟨i0',hi0,hz0a,hz0b,hz0c⟩:=info_parts infoDo
   have HN:=H.newL wr.heap.size rfl 31 [.int .i64 6,.int .i64 0,.int .i64 0,.int .i64 0,.int .i64 0,.int .i64 0,.int .i64 0,.int .i64 0,.int .i64 0,.slice none 0 0,.int .i64 0,.int .i64 0]
   have hHN:=Lib.hid HN
   have hown:=HN.owns 1 rfl
   clear H HN
   go_wp2_with (at_builtin;refine wpList_append_own_at _ rfl _ _ 36 rfl w.heap.size 31 i0' (.agg #[.int .i64 0,.int .i64 0,.int .i64 0,.int .i64 0,.int .i64 0,.int .i64 0,.int .i64 0,.int .i64 0,.int .i64 0,.slice none 0 0,.int .i64 0,.int .i64 0]) 12 112 Tryz.underlying36 hi0 hz0a hz0b hz0c rfl (by decide) _ _ _ rfl hown ⟨wr.heap.size,0,none⟩ 1 1 [.int .i64 6,.int .i64 0,.int .i64 0,.int .i64 0,.int .i64 0,.int .i64 0,.int .i64 0,.int .i64 0,.int .i64 0,.slice none 0 0,.int .i64 0,.int .i64 0] rfl rfl ?c1 ?c2 ?c3 ?c4 ?c5 ?_;rotate_left 5;intro v' w8 hown8 hgrow8 _ hat8;have H8:=hHN.out.app 1 rfl hgrow8 hown8 (hat8.imp id (fun e g hg=>by rw [e] at hg;injection hg with hg;omega));obtain ⟨A4,c4,rfl,hs1,hs2⟩:=own_shape hown8)
   case c1=>exact news_blk (hHN.out.blk 0 rfl)
   case c2=>simp [Value.oneCell']
   case c3=>unfold maxLen;omega
   case c4=>omega
   case c5=>simpa using hHN.out.bel.size
   have hH8:=Lib.hid H8
   clear H8
   go_roundw
   case rel=>
    refine ⟨_,_,_,_,_,_,_,_,?_,rfl⟩
    have h9:=pkD_snoc (L:=L) (x:=tickI) hH8.out
    rw [← e2.out] at h9
    refine ⟨k+1,A4,c4,by omega,by go_num,?_,h9⟩
    rw [e2.out,List.length_append,hlen]
    rfl
   case measure=>simp [intOf];omega
  ·obtain rfl:k=T:=by omega
   have hlen:([plain (spawnD 1 a),plain (spawnD 1 a),plain (putD 0 1 1 v),⟨sysD 3 [⟨3,0,1,0⟩],some ⟨gb,0,none⟩,1⟩]++List.replicate k tickI).length=4+k:=by simp;omega
   have hdos:=mv_dos a v gb k
   have hmem:Hid (∀ x∈[plain (spawnD 1 a),plain (spawnD 1 a),plain (putD 0 1 1 v),⟨sysD 3 [⟨3,0,1,0⟩],some ⟨gb,0,none⟩,1⟩]++List.replicate k tickI,(x.A=none∧x.c=0∧x.d.sys.acts=[])∨(x.A=some ⟨gb,0,none⟩∧x.d.sys.acts=[⟨3,0,1,0⟩])):=Lib.hid (by
    intro x hx
    rcases List.mem_append.1 hx with hx | hx
    ·simp only [List.mem_cons,List.not_mem_nil,or_false] at hx
     rcases hx with rfl | rfl | rfl | rfl
     ·exact .inl ⟨rfl,rfl,rfl⟩
     ·exact .inl ⟨rfl,rfl,rfl⟩
     ·exact .inl ⟨rfl,rfl,rfl⟩
     ·exact .inr ⟨rfl,rfl⟩
    ·rw [List.eq_of_mem_replicate hx]
     exact .inl ⟨rfl,rfl,rfl⟩)
   have hmv:=moves_is ha.out hv.out hT
   have hR:HouseR allMods (playV allMods (moveL a v k)).h:=play_right (by rw [hmv.1])
   generalize [plain (spawnD 1 a),plain (spawnD 1 a),plain (putD 0 1 1 v),⟨sysD 3 [⟨3,0,1,0⟩],some ⟨gb,0,none⟩,1⟩]++List.replicate k tickI=L at *
   have hlenh:=Lib.hid hlen
   clear hlen
   have hH:=Lib.hid H
   clear H
   go_wp2_with fail
   refine (all_any wr).mono ?_
   rintro e w7 ⟨rfl,rfl⟩
   have H5:=hH.out.newL wr.heap.size rfl 56 [.int .i64 255,.int .i64 255,.bool true]
   obtain ⟨w8,hw8,H6⟩:=H5.name
   rw [hw8]
   obtain ⟨gm,hgm⟩:∃ gm,gm=wr.heap.size:=⟨_,rfl⟩
   rw [← hgm] at H6 ⊢
   clear H5 hw8 hgm hH
   have hM:RdM w8 w8.heap.size (some ⟨gm,0,none⟩) allMods:=rdM_blk (H6.blk 0 rfl)
   have hAb:RdAB w8 w8.heap.size (some ⟨gb,0,none⟩) [⟨3,0,1,0⟩]:=rdAB_blk (H6.blk 2 rfl)
   have hD:RdD w8 w8.heap.size A3 L:=pkD_rd H6 1 rfl (by
    intro x hx
    rcases hmem.out x hx with ⟨h1,_,h2⟩ | ⟨h1,h2⟩
    ·rw [h1,h2];exact rdAB_nil
    ·rw [h1,h2];exact hAb)
   have hpl:=Lib.hid (hplay_any allMods (some ⟨gm,0,none⟩) 1 (by decide) (fun h=>by cases h) L A3 c3 (by have:=hlenh.out;unfold maxLen;omega) (fun x hx h=>by
    rcases hmem.out x hx with ⟨_,h1,_⟩ | ⟨h1,_⟩
    ·exact h1
    ·rw [h1] at h;cases h) w8 hM hD)
   rw [hdos] at hpl
   have hH6:=Lib.hid H6
   clear H6 hM hAb hD hmem
   go_wp2_with fail
   refine hpl.out.mono ?_
   rintro e w9 ⟨s,La,A,c,rfl,his,hL,HP⟩
   rw [hmv.1]
   rw [hmv.2] at his hR
   have hw:=Lib.hid (show RightW [okRow 0 1 3 (a+(k:Int)*v) v 0,okRow 1 1 1 a 0 0] s.gens by rw [his.gens];exact hR.W)
   have htab:=Lib.hid his.tabs
   have hmvg:=mv_get (a+(k:Int)*v) v a
   have hB9:=hH6.out.bel.trans (HP.bel.mono hH6.out.bel.size)
   have H8:=(HP.newL w9.heap.size rfl 44 [.slice s.A s.l.length s.c,.slice s.Ag s.gens.length s.cg,.slice s.Am s.mods.length s.cm,.slice s.As s.sys.length s.cs]).newL (w9.heap.size+1) (by simp) 48 [.int .i64 0,.int .i64 0]
   have hH8:=Lib.hid H8
   have hB8:=Lib.hid (hH6.out.bel.trans (H8.bel.mono hH6.out.bel.size))
   clear H8 HP hB9 hL hmv hdos his hR hpl hH6
   unfold hoVal
   dsimp only
   go_upto_region 11 with fail
   obtain ⟨w10,hw10,H8⟩:=hH8.out.name
   rw [hw10] at hB8 ⊢
   clear hw10 hH8
   have q0:=H8.cell 1 0 rfl rfl;have q1:=H8.cell 1 1 rfl rfl
   have hg1:=Lib.hid (sget_any s.l s.A s.c s.gens s.Ag s.cg _ hw.out htab.out 0 1 0 w10 (hoK_st H8 (s:=s) (fun p hp=>by simp [hp])))
   rw [hmvg.1] at hg1
   have hH8:=Lib.hid H8
   clear H8
   go_wp2_with fail
   refine hg1.out.mono ?_
   rintro e w11 ⟨rfl,hb11⟩
   have H9:=hH8.out.grow hb11
   have hB11:=Lib.hid (hB8.out.trans (hb11.mono hB8.out.size))
   have hg2:=Lib.hid (sget_any s.l s.A s.c s.gens s.Ag s.cg _ hw.out htab.out 1 1 0 w11 (hoK_st H9 (s:=s) (fun p hp=>by simp [hp])))
   rw [hmvg.2] at hg2
   clear q0 q1 hb11 hH8 hg1 hB8
   have q0:=H9.cell 1 0 rfl rfl;have q1:=H9.cell 1 1 rfl rfl
   have hH9:=Lib.hid H9
   clear H9
   go_wp2_with fail
   refine hg2.out.mono ?_
   rintro e w12 ⟨rfl,hb12⟩
   have H10:=hH9.out.grow hb12
   have hB12:=Lib.hid (hB11.out.trans (hb12.mono hB11.out.size))
   have ff:=H10.cell 0 0 rfl rfl
   have hkv:-30000≤(k:Int)*v∧(k:Int)*v≤30000:=by
    have h1:=hv.out
    have h2:(k:Int)*v≤(k:Int)*1000:=Int.mul_le_mul_of_nonneg_left h1.2 (by omega)
    have h3:(k:Int)*(-1000)≤(k:Int)*v:=Int.mul_le_mul_of_nonneg_left h1.1 (by omega)
    omega
   have hw1:IntKind.i64.wrap ((k:Int)*v)=(k:Int)*v:=by rw [IntKind.wrap_i64];omega
   have hw2:IntKind.i64.wrap (a+(k:Int)*v)=a+(k:Int)*v:=by have:=ha.out;rw [IntKind.wrap_i64];omega
   clear q0 q1 hb12 hH9 hg2 hB11 H10 hkv
   go_wp2_with fail
   go_ret
   exact ⟨rfl,hB12.out⟩
end Go.Proofs.YtefdblaolmckmabGreat
