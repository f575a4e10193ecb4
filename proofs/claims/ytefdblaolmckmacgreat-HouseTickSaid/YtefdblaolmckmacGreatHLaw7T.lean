/- Lemmas of the proof. -/
import Derived.Test.YtefdblaolmckmacGreatHLaw7K
import Derived.Test.YtefdblaolmckmacGreatHBSpecZAToRef3S
import Derived.Test.YtefdblaolmckmacGreatHBStoBToKg
set_option linter.unusedVariables false
set_option linter.unusedSimpArgs false
set_option maxRecDepth 100000
set_option maxHeartbeats 12800000
namespace Go.Proofs.YtefdblaolmckmacGreat
open Go.RowKit
open Brood
theorem hoK_sys {w0 w:World} {E:List Ent} (H:Hp w0 w E) {s:HIn} (hs:∀ p∈hoK s,p∈E):RdS w w.heap.size s.As s.sys:=
 ⟨Rd.of_own (H.all (sysE s) (hs _ (by unfold hoK;simp))),fun x hx=>Rd.of_own (H.all (actE x) (hs _ (by
  unfold hoK
  exact List.mem_cons_of_mem _ (List.mem_cons_of_mem _ (List.mem_append_right _ (List.mem_map.2 ⟨x,hx,rfl⟩))))))⟩
theorem last_err {L:List AnsIn} {a:List BAns} {x:BAns} {n:Nat} (h:L.map (·.a)=a++[x]) (hl:a.length=n):∃ hlt:n<L.length,L[n].a.err=x.err:=by
 have h1:=congrArg List.length h
 rw [List.length_map,List.length_append,hl] at h1
 have hlt:n<L.length:=by rw [h1];simp
 refine ⟨hlt,?_⟩
 have h2:(L.map (·.a))[n]?=some x:=by rw [h,List.getElem?_append_right (by omega),hl];simp
 rw [List.getElem?_map,List.getElem?_eq_getElem hlt] at h2
 rw [← Option.some.inj h2]
theorem tick_is {mods:List BMod} {h:BHouse} (H:HouseR mods h):((allM 0 h.W h.syss).2.1≠0→(tickV h).1=h∧(tickV h).2.err=(allM 0 h.W h.syss).2.1) ∧
  ((allM 0 h.W h.syss).2.1=0→(tickV h).1.W=(allM 0 h.W h.syss).1∧(tickV h).2.err=0):=by
 obtain ⟨h1,h2⟩:=tick_same H
 rw [← h1,← h2]
 unfold tickV
 refine ⟨fun hn=>?_,fun hn=>?_⟩
 ·rw [if_pos hn]
  exact ⟨rfl,rfl⟩
 ·rw [if_neg (by simpa using hn)]
  exact ⟨rfl,rfl⟩
theorem houseTick_any (mods:List BMod) (mA:Option Addr) (mc:Nat) (hml:mods.length≤maxLen) (hmn:mA=none→mc=0) (l:List DIn) (dA:Option Addr) (dc:Nat) (hll:l.length≤maxLen) (hln:(∀ x∈l,x.A=none→x.c=0)∧(dA=none→dc=0)) (w:World) (hM:RdM w w.heap.size mA mods) (hD:RdD w w.heap.size dA l) :
  Calls Tryz.prog 6 #[.slice mA mods.length mc,.slice dA l.length dc] w fun e w'=>e=.returned (.bool true)∧Below w.heap.size w w':=by
 go_enter Tryz.func6,Tryz.ntmps6
 go_wp2_with fail
 refine (alive7_any w).mono ?_
 rintro e w1 ⟨rfl,hb⟩
 have hB:=Lib.hid hb
 clear hb
 by_cases h80:80≤l.length
 ·have i80:(80:Int)≤(l.length:Int):=by omega
  go_wp2_with fail
  go_ret
  exact ⟨rfl,hB.out⟩
 have i80:¬ (80:Int)≤(l.length:Int):=by omega
 have hl80:l.length<80:=by omega
 have hcase:=Lib.hid (two_cases mods (l:=doOf l) (by rw [doOf_length];exact hl80))
 have hP:=Lib.hid (hplay_any mods mA mc hml hmn l dA dc hll hln.1 w1 (Rd.grow hM hB.out) ((hD.under hB.out (Nat.le_refl _)).more hB.out.size))
 have hl80h:=Lib.hid hl80
 clear h80 hl80
 generalize playV mods (doOf l)=P at *
 go_wp2_with fail
 refine hP.out.mono ?_
 rintro e w2 ⟨s,L,A,c,rfl,his,hL,HP⟩
 obtain ⟨ho,ha,f1,f2⟩:=P
 try dsimp only at his hL hcase ⊢
 have H1:=((Hp.start w).grow hB.out).join HP
 obtain ⟨R,hRe,hRs⟩:∃ R,Hp w w2 R∧∀ p∈hoK s,p∈R:=⟨_,H1,fun p hp=>by simp [hp]⟩
 have H2:=(hRe.newL w2.heap.size rfl 30 [.slice s.A s.l.length s.c,.slice s.Ag s.gens.length s.cg,.slice s.Am s.mods.length s.cm,.slice s.As s.sys.length s.cs]).newL (w2.heap.size+1) (by simp) 34 [.int .i64 f1,.int .i64 f2]
 have hH2:=Lib.hid H2;have hish:=Lib.hid his;have hRsh:=Lib.hid hRs
 clear HP H1 hL hP hRe H2 his hRs i80
 unfold hoVal
 try dsimp only
 go_upto_region 6 with fail
 obtain ⟨w3,hw3,H3⟩:=hH2.out.name
 rw [hw3]
 obtain ⟨g5,hg5⟩:∃ g5,g5=w2.heap.size:=⟨_,rfl⟩
 rw [← hg5] at H3 ⊢
 obtain ⟨g7,hg7⟩:∃ g7,g7=g5+1:=⟨_,rfl⟩
 rw [← hg7] at H3 ⊢
 clear hw3 hg5 hg7 hH2
 have hH4:=Lib.hid (pkD_lit0 H3)
 clear H3
 obtain ⟨i0',hi0,hz0a,hz0b,hz0c⟩:=info_parts infoDo
 have hmax:=hl80h.out
 have hce:=hH4.out.old hD.cells
 have hnil:dA=none→l.length=0∧dc=0:=dnil hD hln.2
 go_wp2_with (at_builtin;first
  | (refine wpList_append_own_or rfl _ _ 23 rfl w.heap.size 58 i0' (.agg #[.int .i64 0,.int .i64 0,.int .i64 0,.int .i64 0,.int .i64 0,.int .i64 0,.int .i64 0,.int .i64 0,.int .i64 0,.slice none 0 0,.int .i64 0,.int .i64 0]) 12 112 Tryz.underlying23 hi0 hz0a hz0b hz0c rfl (by decide) _ _ _ rfl (hH4.out.owns 0 rfl) dA l.length dc (l.flatMap doCells) rfl hnil ?d0 ?d1 ?d2 ?d3 ?d4 ?d5 ?_;rotate_left 6;intro v' wc hown8 hgrow8 hat8;have H8:=hH4.out.app 0 rfl hgrow8 hown8 (hat8.imp id (fun e g hg=>by rw [e] at hg;injection hg with hg;exact Nat.le_of_eq hg));obtain ⟨A3,c3,rfl,hs1,hs2⟩:=own_shape hown8;have HN:=(pkD_all H8).newL wc.heap.size rfl 58 [.int .i64 6,.int .i64 0,.int .i64 0,.int .i64 0,.int .i64 0,.int .i64 0,.int .i64 0,.int .i64 0,.int .i64 0,.slice none 0 0,.int .i64 0,.int .i64 0];have hHN:=Lib.hid HN;have hown9:=HN.owns 1 rfl;clear H8 HN hs1 hs2 hown8 hgrow8 hat8)
  | (refine wpList_append_own_at _ rfl _ _ 23 rfl w.heap.size 58 i0' (.agg #[.int .i64 0,.int .i64 0,.int .i64 0,.int .i64 0,.int .i64 0,.int .i64 0,.int .i64 0,.int .i64 0,.int .i64 0,.slice none 0 0,.int .i64 0,.int .i64 0]) 12 112 Tryz.underlying23 hi0 hz0a hz0b hz0c rfl (by decide) _ _ _ rfl hown9 ⟨wc.heap.size,0,none⟩ 1 1 [.int .i64 6,.int .i64 0,.int .i64 0,.int .i64 0,.int .i64 0,.int .i64 0,.int .i64 0,.int .i64 0,.int .i64 0,.slice none 0 0,.int .i64 0,.int .i64 0] rfl rfl ?c1 ?c2 ?c3 ?c4 ?c5 ?_;rotate_left 5;intro v' w8 hown8 hgrow8 hif8 hat8;have H8:=hHN.out.app 1 rfl hgrow8 hown8 (hat8.imp id (fun e g hg=>by rw [e] at hg;injection hg with hg;exact Nat.le_of_eq hg));obtain ⟨A4,c4,rfl,hs1,hs2⟩:=own_shape hown8;clear hown8 hgrow8 hif8 hat8 hs1 hs2))
 case d0=>exact flat_length (f:=doCells) (fun _=>rfl) l
 case d1=>
  intro ad hA j u hu
  have hj:0<l.length:=by
   rcases Nat.eq_zero_or_pos l.length with h0 | h0
   ·rw [List.length_eq_zero_iff.1 h0] at hu
    cases hu
   ·exact h0
  obtain ⟨b,off,he,_,hc⟩:=hce.2 hj
  rw [hA] at he
  obtain rfl:=Option.some.inj he
  rw [add_mk]
  exact hc j u hu
 case d2=>exact do_one l
 case d3=>show 0+l.length≤maxLen;unfold maxLen;omega
 case d4=>show (0+l.length)*112≤_;omega
 case d5=>simpa using hH4.out.bel.size
 case c1=>exact news_blk (hHN.out.blk 0 rfl)
 case c2=>simp [Value.oneCell']
 case c3=>unfold maxLen;omega
 case c4=>omega
 case c5=>simpa using hHN.out.bel.size
 have h9:=pkD_snoc (L:=l) (x:=tickI) H8
 obtain ⟨w4,hw4⟩:∃ w4:World,w4=w8:=⟨_,rfl⟩
 rw [← hw4] at h9 ⊢
 clear H8 hHN hown9 hw4 hmax hi0 hz0a hz0b hz0c hce hnil hH4
 have hDa:∀ x∈l++[tickI],RdAB w4 w4.heap.size x.A x.d.sys.acts:=by
  intro x hx
  rcases List.mem_append.1 hx with hx | hx
  ·exact Rd.grow (hD.acts x hx) h9.bel
  ·rw [List.mem_singleton.1 hx];exact rdAB_nil
 have hlc:(l++[tickI]).length=l.length+1:=by rw [List.length_append];rfl
 have hP2:=Lib.hid (hplay_any mods mA mc hml hmn (l++[tickI]) A4 c4 (by rw [hlc];have:=hl80h.out;unfold maxLen;omega) (fun x hx=>by
  rcases List.mem_append.1 hx with hx | hx
  ·exact hln.1 x hx
  ·rw [List.mem_singleton.1 hx];exact fun _=>rfl) w4 (Rd.grow hM h9.bel) (pkD_rd h9 0 rfl hDa))
 rw [show doOf (l++[tickI])=doOf l++[tickD] by rw [doOf_append];rfl,hlc] at hP2
 have hh9:=Lib.hid h9
 clear h9 hDa
 generalize playV mods (doOf l++[tickD])=P' at *
 try go_wp2_with fail
 refine hP2.out.mono ?_
 rintro e w5 ⟨s',L',A',c',rfl,his',hL',HP⟩
 obtain ⟨ho',ha',p1,p2⟩:=P'
 try dsimp only at his' hL' hcase ⊢
 have H1:=hh9.out.join HP
 obtain ⟨R',hRe,hRs',hRp,hRo⟩:∃ R',Hp w w5 (.box g7 34 [.int .i64 f1,.int .i64 f2]::.box g5 30 [.slice s.A s.l.length s.c,.slice s.Ag s.gens.length s.cg,.slice s.Am s.mods.length s.cm,.slice s.As s.sys.length s.cs]::R')∧(∀ p∈hoK s',p∈R')∧pkA A' c' L'∈R'∧∀ p∈R,p∈R':=⟨_,(H1.drop1 0),fun p hp=>by simp [hp],by simp,fun p hp=>by simp [hp]⟩
 have hRs:∀ p∈hoK s,p∈R':=fun p hp=>hRo p (hRsh.out p hp)
 have H2:=(hRe.newL w5.heap.size rfl 30 [.slice s'.A s'.l.length s'.c,.slice s'.Ag s'.gens.length s'.cg,.slice s'.Am s'.mods.length s'.cm,.slice s'.As s'.sys.length s'.cs]).newL (w5.heap.size+1) (by simp) 34 [.int .i64 p1,.int .i64 p2]
 have hH2:=Lib.hid H2;have hish':=Lib.hid his';have hRsh':=Lib.hid hRs';have hRph:=Lib.hid hRp;have hRs0:=Lib.hid hRs;have hL'h:=Lib.hid hL'
 clear HP H1 hP2 hRe H2 his' hRs' hRsh hh9 hRo hRs hL' hRp hlc
 unfold hoVal
 try dsimp only
 go_upto_region 7 with fail
 obtain ⟨w6,hw6,H3⟩:=hH2.out.name
 rw [hw6]
 obtain ⟨g8,hg8⟩:∃ g8,g8=w5.heap.size:=⟨_,rfl⟩
 rw [← hg8] at H3 ⊢
 obtain ⟨g10,hg10⟩:∃ g10,g10=g8+1:=⟨_,rfl⟩
 rw [← hg10] at H3 ⊢
 clear hw6 hg8 hg10 hH2
 have x0:=H3.cell 0 0 rfl rfl;have x1:=H3.cell 0 1 rfl rfl;have y0:=H3.cell 2 0 rfl rfl;have y1:=H3.cell 2 1 rfl rfl
 have hH3:=Lib.hid H3
 clear H3
 rcases hcase.out with ⟨hf,hff⟩ | ⟨hf,hg,hT⟩
 ·injection hff with e1 e2
  subst e1 e2
  have hf':(p1 != 0)=true:=by simpa using hf
  have heq:=fun W=>eqFault p1 p2 W
  clear hf hcase
  go_wp2_with fail
  go_ret
  exact ⟨rfl,hH3.out.bel⟩
 injection hf with e1 e2
 injection hg with e3 e4
 subst e1 e2 e3 e4
 have hr:=hT.r
 obtain ⟨k1,k2⟩:=tick_is hr
 have hsl:s.sys.length≤12:=by
  have h0:=hr.len
  dsimp only at h0
  rw [← hish.out.sys,sysOf_length] at h0
  exact h0
 obtain ⟨hltq,hle⟩:=last_err (hL'h.out.trans hT.a) (hT.len.trans (doOf_length l))
 have hrW:RightW ho.W.rows ho.W.gens:=hr.W
 have hrT:=hr.tick.W
 have hTh:=hT.h
 dsimp only at hTh hle k1 k2 hrT
 have H3:=hH3.out
 rw [hish.out.gens,hish'.out.gens] at H3
 have hSt:=hoK_st H3 (s:=s) (fun p hp=>List.mem_cons_of_mem _ (List.mem_cons_of_mem _ (List.mem_cons_of_mem _ (List.mem_cons_of_mem _ (hRs0.out p hp)))))
 have hSt':=hoK_st H3 (s:=s') (fun p hp=>List.mem_cons_of_mem _ (List.mem_cons_of_mem _ (List.mem_cons_of_mem _ (List.mem_cons_of_mem _ (hRsh'.out p hp)))))
 have hSy:=hoK_sys H3 (s:=s) (fun p hp=>List.mem_cons_of_mem _ (List.mem_cons_of_mem _ (List.mem_cons_of_mem _ (List.mem_cons_of_mem _ (hRs0.out p hp)))))
 rw [hish.out.gens] at hSt
 rw [hish'.out.gens] at hSt'
 have hts:=hish.out.tabs
 have ht':=hish'.out.tabs
 have hall:=sall_any s.l s.A s.c ho.W.gens s.Ag s.cg (right_small hrW hts) s.sys s.As s.cs (by omega) w6 hSy hSt
 rw [hts,hish.out.sys,allT_right hrW] at hall
 dsimp only at hall
 rw [show (⟨ho.W.rows,ho.W.gens⟩:BWorld)=ho.W from rfl] at hall
 obtain ⟨kp,hkp⟩:=List.getElem?_of_mem hRph.out
 obtain ⟨b,off,rfl,hb,j0,j1,j2,j3,j4⟩:=pkA_at H3 (kp+4) (by simpa using hkp) hltq
 rw [hle] at j0
 clear j1 j2 j3 j4 hkp hSy hle hT hr hish hish' hRs0 hRsh' hRph hL'h hH3 hcase x0 x1 y0 y1
 subst hTh
 have hltq:=Lib.hid hltq;have hts:=Lib.hid hts;have ht':=Lib.hid ht';have hrT:=Lib.hid hrT;have hrW:=Lib.hid hrW
 generalize tickV ho=V at *
 obtain ⟨hv1,hv2⟩:=V
 dsimp only at *
 generalize allM 0 ho.W ho.syss=M at *
 obtain ⟨W9,ee,a9⟩:=M
 dsimp only at *
 by_cases he:ee=0
 ·subst he
  obtain ⟨m1,m2⟩:=k2 rfl
  rw [m2] at j0
  rw [m1] at H3 hSt' ht' hrT
  have hsm9:=Lib.hid (right_small (show RightW W9.rows W9.gens from hrT.out) ht'.out)
  have hSt:=Lib.hid hSt;have hSt':=Lib.hid hSt'
  clear k1 k2 m1 m2 hrT hrW hts hM hD hln hmn
  have hall2:=Lib.hid hall
  clear hall
  have z7:=H3.cell 0 0 rfl rfl;have z8:=H3.cell 2 0 rfl rfl;have z0:=H3.cell 3 0 rfl rfl;have z1:=H3.cell 3 1 rfl rfl;have z3:=H3.cell 3 3 rfl rfl
  have hH3:=Lib.hid H3
  clear H3
  go_wp2_with fail
  refine hall2.out.mono ?_
  rintro e w7 ⟨v,rfl,hG⟩
  have H4:=hH3.out.grow hG.bel
  have hS7:=hSt.out.grow hG.bel
  have hS7':=hSt'.out.grow hG.bel
  have j7:=(hG.bel.cell (p:=⟨b,off+l.length*5,none⟩) hb).trans j0
  obtain ⟨A9,c9,l9,Ag9,cg9,rfl,hl9,hR9⟩:=hG.rd
  have H5:=(H4.newL w7.heap.size rfl 27 [.slice A9 l9.length c9,.slice Ag9 W9.gens.length cg9]).newL (w7.heap.size+1) (by simp) 34 [.int .i64 0,.int .i64 a9]
  have hbel:Below w7.heap.size w7 _:=((Below.refl w7.heap.size w7).alloc (Nat.le_refl _) (.cells #[.slice A9 l9.length c9,.slice Ag9 W9.gens.length cg9] 27)).alloc (by simp) (.cells #[.int .i64 0,.int .i64 a9] 34)
  have hb7:b<w7.heap.size:=Nat.lt_of_lt_of_le hb hG.bel.size
  have j8:=(hbel.cell (p:=⟨b,off+l.length*5,none⟩) hb7).trans j7
  have hS8:=Lib.hid (hS7.grow hbel);have hS8':=Lib.hid (hS7'.grow hbel);have hR8:=Lib.hid (hR9.grow hbel)
  have hH5:=Lib.hid H5
  have hb8:b<_:=Nat.lt_of_lt_of_le hb7 hbel.size
  clear H4 H5 hbel hS7 hS7' hR9 hG hall2 hH3 z0 z1 z3 z7 z8 hSt hSt' j0 j7 hb
  go_upto_region 10 with fail
  obtain ⟨w8,hw8,H6⟩:=hH5.out.name
  rw [hw8] at hS8 hS8' hR8 j8 hb8 ⊢
  obtain ⟨g11,hg11⟩:∃ g11,g11=w7.heap.size:=⟨_,rfl⟩
  rw [← hg11] at H6 ⊢
  obtain ⟨g12,hg12⟩:∃ g12,g12=g11+1:=⟨_,rfl⟩
  rw [← hg12] at H6 ⊢
  clear hw8 hg11 hg12 hH5 hb7
  have q0:=H6.cell 0 0 rfl rfl;have q1:=H6.cell 1 0 rfl rfl;have q2:=H6.cell 1 1 rfl rfl;have q3:=H6.cell 3 0 rfl rfl;have q4:=H6.cell 3 1 rfl rfl
  have i0:(0:Int)≤(l.length:Int):=by omega
  have i1:(l.length:Int)<(L'.length:Int):=by have:=hltq.out;omega
  have hB6:=Lib.hid H6.bel
  have hsm:=Lib.hid (rsamest_any s'.l l9 W9.gens s'.A s'.c s'.Ag s'.cg A9 c9 Ag9 cg9 hsm9.out (hl9.trans ht'.out.symm) w8 hS8'.out hR8.out)
  clear H6 hS8 hS8' hR8 hsm9 hl9 ht' hb8
  generalize L'.length=nl at *
  generalize s'.l.length=n1 at *
  generalize l9.length=n2 at *
  generalize W9.gens.length=n3 at *
  generalize ho.W.gens.length=n4 at *
  go_wp2_with fail
  refine hsm.out.mono ?_
  rintro e w9 ⟨rfl,hb9⟩
  go_wp2_with fail
  go_ret
  exact ⟨rfl,hB6.out.trans (hb9.mono hB6.out.size)⟩
 ·obtain ⟨m1,m2⟩:=k1 he
  rw [m2] at j0
  subst m1
  have hsm9:=Lib.hid (right_small hrW.out ht'.out)
  have hSt:=Lib.hid hSt;have hSt':=Lib.hid hSt'
  clear k1 k2 m2 hrT hrW hM hD hln hmn
  have hall2:=Lib.hid hall
  clear hall
  have z7:=H3.cell 0 0 rfl rfl;have z8:=H3.cell 2 0 rfl rfl;have z0:=H3.cell 3 0 rfl rfl;have z1:=H3.cell 3 1 rfl rfl;have z3:=H3.cell 3 3 rfl rfl
  have hH3:=Lib.hid H3
  clear H3
  go_wp2_with fail
  refine hall2.out.mono ?_
  rintro e w7 ⟨v,rfl,hG⟩
  have H4:=hH3.out.grow hG.bel
  have hS7:=hSt.out.grow hG.bel
  have hS7':=hSt'.out.grow hG.bel
  have j7:=(hG.bel.cell (p:=⟨b,off+l.length*5,none⟩) hb).trans j0
  obtain ⟨A9,c9,l9,Ag9,cg9,rfl,hl9,hR9⟩:=hG.rd
  have H5:=(H4.newL w7.heap.size rfl 27 [.slice A9 l9.length c9,.slice Ag9 W9.gens.length cg9]).newL (w7.heap.size+1) (by simp) 34 [.int .i64 ee,.int .i64 a9]
  have hbel:Below w7.heap.size w7 _:=((Below.refl w7.heap.size w7).alloc (Nat.le_refl _) (.cells #[.slice A9 l9.length c9,.slice Ag9 W9.gens.length cg9] 27)).alloc (by simp) (.cells #[.int .i64 ee,.int .i64 a9] 34)
  have hb7:b<w7.heap.size:=Nat.lt_of_lt_of_le hb hG.bel.size
  have j8:=(hbel.cell (p:=⟨b,off+l.length*5,none⟩) hb7).trans j7
  have hS8:=Lib.hid (hS7.grow hbel);have hS8':=Lib.hid (hS7'.grow hbel);have hR8:=Lib.hid (hR9.grow hbel)
  have hH5:=Lib.hid H5
  have hb8:b<_:=Nat.lt_of_lt_of_le hb7 hbel.size
  clear H4 H5 hbel hS7 hS7' hR9 hG hall2 hH3 z0 z1 z3 z7 z8 hSt hSt' j0 j7 hb
  go_upto_region 10 with fail
  obtain ⟨w8,hw8,H6⟩:=hH5.out.name
  rw [hw8] at hS8 hS8' hR8 j8 hb8 ⊢
  obtain ⟨g11,hg11⟩:∃ g11,g11=w7.heap.size:=⟨_,rfl⟩
  rw [← hg11] at H6 ⊢
  obtain ⟨g12,hg12⟩:∃ g12,g12=g11+1:=⟨_,rfl⟩
  rw [← hg12] at H6 ⊢
  clear hw8 hg11 hg12 hH5 hb7
  have he':(ee != 0)=true:=by simpa using he
  have q0:=H6.cell 0 0 rfl rfl;have q1:=H6.cell 3 0 rfl rfl;have q2:=H6.cell 3 1 rfl rfl;have q3:=H6.cell 5 0 rfl rfl;have q4:=H6.cell 5 1 rfl rfl
  have l0:=H6.lt 0 rfl;have l1:=H6.lt 3 rfl;have l2:=H6.lt 5 rfl
  have i0:(0:Int)≤(l.length:Int):=by omega
  have i1:(l.length:Int)<(L'.length:Int):=by have:=hltq.out;omega
  have hB6:=Lib.hid H6.bel
  have hsm:=Lib.hid (fun w' (hb:Below w8.heap.size w8 w')=>rsamest_any s'.l s.l hv1.W.gens s'.A s'.c s'.Ag s'.cg s.A s.c s.Ag s.cg hsm9.out (hts.out.trans ht'.out.symm) w' (hS8'.out.grow hb) (hS8.out.grow hb))
  clear H6 hR8 hsm9 hl9 ht' hts he
  generalize L'.length=nl at *
  generalize hv1.W.gens.length=n4 at *
  go_upto_region 11 with fail
  refine wp_region_pred mixed (by kernel_rfl) (by kernel_rfl) (fun _=>true) (fun j w' v=>v=tab [.slice (some ⟨b,off,none⟩) nl c',.slice dA l.length dc,.int .i64 (l.length:Int),.pointer (some ⟨b,off+l.length*5,none⟩),.pointer (some ⟨b,off+l.length*5,none⟩),.int .i64 ee,.pointer (some ⟨g12,0,none⟩),.int .i64 ee,.bool true,.bool true,.pointer (some ⟨g8,0,none⟩),.agg #[.slice s'.A s'.l.length s'.c,.slice s'.Ag n4 s'.cg],.pointer (some ⟨g5,0,none⟩),.agg #[.slice s.A s.l.length s.c,.slice s.Ag n4 s.cg],.bool true,.bool true,.bool true] j) ?_ ?_ ?_ ?_ ?_
  ·intro j w' w'' v h hb;exact h
  ·intro q op ho
   have hi:q<17:=lt_of_some ho
   match q,hi,ho with
   | 0,_,ho | 1,_,ho | 2,_,ho | 3,_,ho | 4,_,ho | 5,_,ho | 6,_,ho | 7,_,ho | 8,_,ho | 9,_,ho | 15,_,ho | 16,_,ho=>
    obtain rfl:=sj ho
    rfl
   | 10,_,ho | 11,_,ho | 12,_,ho | 13,_,ho | 14,_,ho=>
    obtain rfl:=sj ho
    intro w' v h
    have h':v=.bool true:=h
    subst h'
    rfl
  ·intro q w' h;cases h
  ·intro vs w' hb hv
   rw [putAll_tab _ _ _ _ [(some 59,vs 0),(some 60,vs 1),(some 61,vs 2),(some 62,vs 3),(some 63,vs 4),(some 64,vs 5),(some 65,vs 6),(some 66,vs 7),(some 67,vs 8),(some 68,vs 9),(some 69,vs 10),(some 70,vs 11),(some 71,vs 12),(some 72,vs 13),(some 73,vs 14),(some 74,vs 15),(some 4,vs 16)] rfl]
   simp only [putL_eq,putT,List.set_cons_succ,List.set_cons_zero]
   have hv16:vs 16=.bool true:=hv 16 (by decide)
   rw [hv16]
   have hb5:=Lib.hid hb
   clear hv hb hv16
   go_wp2_with fail
   go_ret
   exact ⟨rfl,hB6.out.trans (hb5.out.mono hB6.out.size)⟩
  ·intro q op ho hG act w' hb hv hwas K hK
   have e1:=hwas 1 rfl
   have e5:=hwas 5 rfl
   have e8:=hwas 8 rfl
   have e9:=hwas 9 rfl
   have e12:=hwas 12 rfl
   simp at e1 e5 e8 e9 e12
   have x0:=(hb.cell (p:=⟨g12,0,none⟩) l0).trans q0;have x1:=(hb.cell (p:=⟨g8,0,none⟩) l1).trans q1;have x2:=(hb.cell (p:=⟨g8,1,none⟩) l1).trans q2
   have x3:=(hb.cell (p:=⟨g5,0,none⟩) l2).trans q3;have x4':=(hb.cell (p:=⟨g5,1,none⟩) l2).trans q4;have x5':=(hb.cell (p:=⟨b,off+l.length*5,none⟩) hb8).trans j8
   have hi:q<17:=lt_of_some ho
   match q,hi,ho,hG,hK,hv with
   | 0,_,ho,hG,hK,hv=>
    obtain rfl:=sj ho
    clear hv hwas
    go_simp
    exact hK _ _ (Below.refl _ _) rfl
   | 1,_,ho,hG,hK,hv=>
    obtain rfl:=sj ho
    clear hv hwas
    go_simp
    exact hK _ _ (Below.refl _ _) rfl
   | 2,_,ho,hG,hK,hv=>
    obtain rfl:=sj ho
    have x60:act.tmps[60]?.getD undef=.slice dA l.length dc:=hv 1 60 rfl rfl
    clear hv hwas
    go_simp
    exact hK _ _ (Below.refl _ _) rfl
   | 3,_,ho,hG,hK,hv=>
    obtain rfl:=sj ho
    have x59:act.tmps[59]?.getD undef=.slice (some ⟨b,off,none⟩) nl c':=hv 0 59 rfl rfl
    have x61:act.tmps[61]?.getD undef=.int .i64 (l.length:Int):=hv 2 61 rfl rfl
    clear hv hwas
    go_simp
    exact hK _ _ (Below.refl _ _) rfl
   | 4,_,ho,hG,hK,hv=>
    obtain rfl:=sj ho
    have x62:act.tmps[62]?.getD undef=.pointer (some ⟨b,off+l.length*5,none⟩):=hv 3 62 rfl rfl
    clear hv hwas
    go_simp
    exact hK _ _ (Below.refl _ _) rfl
   | 5,_,ho,hG,hK,hv=>
    obtain rfl:=sj ho
    have x63:act.tmps[63]?.getD undef=.pointer (some ⟨b,off+l.length*5,none⟩):=hv 4 63 rfl rfl
    clear hv hwas
    go_simp
    exact hK _ _ (Below.refl _ _) rfl
   | 6,_,ho,hG,hK,hv=>
    obtain rfl:=sj ho
    clear hv hwas
    go_simp
    exact hK _ _ (Below.refl _ _) rfl
   | 7,_,ho,hG,hK,hv=>
    obtain rfl:=sj ho
    have x65:act.tmps[65]?.getD undef=.pointer (some ⟨g12,0,none⟩):=hv 6 65 rfl rfl
    clear hv hwas
    go_simp
    exact hK _ _ (Below.refl _ _) rfl
   | 8,_,ho,hG,hK,hv=>
    obtain rfl:=sj ho
    have x64:act.tmps[64]?.getD undef=.int .i64 ee:=hv 5 64 rfl rfl
    have x66:act.tmps[66]?.getD undef=.int .i64 ee:=hv 7 66 rfl rfl
    clear hv hwas
    go_simp
    exact hK _ _ (Below.refl _ _) rfl
   | 9,_,ho,hG,hK,hv=>
    obtain rfl:=sj ho
    have x67:act.tmps[67]?.getD undef=.bool true:=hv 8 67 rfl rfl
    clear hv hwas
    go_simp
    exact hK _ _ (Below.refl _ _) rfl
   | 10,_,ho,hG,hK,hv=>
    obtain rfl:=sj ho
    clear hv hwas
    go_simp
    exact hK _ _ (Below.refl _ _) rfl
   | 11,_,ho,hG,hK,hv=>
    obtain rfl:=sj ho
    have x69:act.tmps[69]?.getD undef=.pointer (some ⟨g8,0,none⟩):=hv 10 69 rfl rfl
    clear hv hwas
    go_simp
    exact hK _ _ (Below.refl _ _) rfl
   | 12,_,ho,hG,hK,hv=>
    obtain rfl:=sj ho
    clear hv hwas
    go_simp
    exact hK _ _ (Below.refl _ _) rfl
   | 13,_,ho,hG,hK,hv=>
    obtain rfl:=sj ho
    have x71:act.tmps[71]?.getD undef=.pointer (some ⟨g5,0,none⟩):=hv 12 71 rfl rfl
    clear hv hwas
    go_simp
    exact hK _ _ (Below.refl _ _) rfl
   | 14,_,ho,hG,hK,hv=>
    obtain rfl:=sj ho
    have x70:act.tmps[70]?.getD undef=.agg #[.slice s'.A s'.l.length s'.c,.slice s'.Ag n4 s'.cg]:=hv 11 70 rfl rfl
    have x72:act.tmps[72]?.getD undef=.agg #[.slice s.A s.l.length s.c,.slice s.Ag n4 s.cg]:=hv 13 72 rfl rfl
    clear hv hwas
    go_simp
    refine (hsm.out w' hb).mono ?_
    rintro e w'' ⟨rfl,hb''⟩
    exact hK _ _ hb'' rfl
   | 15,_,ho,hG,hK,hv=>
    obtain rfl:=sj ho
    have x68:act.tmps[68]?.getD undef=.bool true:=hv 9 68 rfl rfl
    have x73:act.tmps[73]?.getD undef=.bool true:=hv 14 73 rfl rfl
    clear hv hwas
    go_simp
    exact hK _ _ (Below.refl _ _) rfl
   | 16,_,ho,hG,hK,hv=>
    obtain rfl:=sj ho
    have x74:act.tmps[74]?.getD undef=.bool true:=hv 15 74 rfl rfl
    clear hv hwas
    go_simp
    exact hK _ _ (Below.refl _ _) rfl
end Go.Proofs.YtefdblaolmckmacGreat
