/- Lemmas of the proof. -/
import Derived.Test.YtefdblaolmckmacGreatMLaw7K
import Derived.Test.YtefdblaolmckmacGreatMLaw7Q
import Derived.Test.YtefdblaolmckmacGreatMSpecM
import Derived.Test.YtefdblaolmckmacGreatMRow7
import Derived.Test.YtefdblaolmckmacGreatMBSortTBToRefW
import Derived.Test.YtefdblaolmckmacGreatMBMgToTwoB
import Derived.Test.YtefdblaolmckmacGreatMBSortTRToStoO
import Derived.Test.YtefdblaolmckmacGreatMBRuleNToClash
import Derived.Test.YtefdblaolmckmacGreatMBStoBToKg
set_option linter.unusedVariables false
set_option linter.unusedSimpArgs false
set_option maxRecDepth 100000
set_option maxHeartbeats 12800000
namespace Go.Proofs.YtefdblaolmckmacGreat
open Go.RowKit
open Brood
def wl7 (rows:List BRow) (gens:List Int) (v:List Value) (C:List Ent):Prop:=∃ (Av:Option Addr) (cv:Nat) (Agv:Option Addr) (cgv:Nat),v=[.slice Av rows.length cv,.slice Agv gens.length cgv]∧C=[.own (.slice Av rows.length cv) 65 11 rows.length (rows.flatMap rowCells),.own (.slice Agv gens.length cgv) 3 1 gens.length (ints gens)]
theorem world7 {l:List TabIn} {A:Option Addr} {c:Nat} {Ag:Option Addr} {cg:Nat} {rows:List BRow} {gens:List Int} (hw:RightW rows gens) (hfit:l.map tabOf=tabsW rows) (w:World) (hR:RdSt w w.heap.size ⟨A,c,l,Ag,cg,gens⟩) :
  Calls Tryz.prog 22 #[.agg #[.slice A l.length c,.slice Ag gens.length cg]] w fun e w'=>∃ v C,e=.returned (.agg v.toArray)∧wl7 rows gens v C∧Hp w w' C:=by
 have h1:=right_len hw
 have h2:=fit_len (G:=ofG rows) hfit
 have h3:=hw.len
 refine (world_any l A c gens Ag cg (ofG rows) hfit hw.rep.clean (by omega) (by omega) (by omega) w hR.tabs hR.gen hR.ng).mono ?_
 rintro e w' ⟨v,rfl,hG,hb⟩
 rw [hw.rep.sorted] at hG
 obtain ⟨Av,cv,Agv,cgv,rfl,H⟩:=hG.got' (Hp.start w) hb
 exact ⟨_,_,rfl,⟨Av,cv,Agv,cgv,rfl,rfl⟩,H⟩
theorem set_fold:∀ (l:List BMod) (a:Int),isSet a=true→(∀ m∈l,isSet m.writes=true)→isSet (l.foldl (fun a m=>orS a m.writes) a)=true
 | [],a,h,_=>h
 | m::l,a,h,hl=>set_fold l (orS a m.writes) (or_set h (hl m (List.mem_cons_self ..))) (fun x hx=>hl x (List.mem_cons_of_mem _ hx))
theorem writes_set {l:List BMod} (h:∀ m∈l,isSet m.writes=true):isSet (writesOf l)=true:=set_fold l 0 (by decide) h
theorem writes_snoc {l:List BMod} {k:Nat} (hk:k<l.length):writesOf (l.take (k+1))=orS (writesOf (l.take k)) l[k].writes:=by
 unfold writesOf
 rw [List.take_add_one,List.getElem?_eq_getElem hk,Option.toList_some,List.foldl_append]
 rfl
theorem life_snoc {l:List BMod} {k:Nat} (hk:k<l.length):lifeOf (l.take (k+1))=(lifeOf (l.take k) || l[k].life):=by
 unfold lifeOf
 rw [List.take_add_one,List.getElem?_eq_getElem hk,Option.toList_some,List.foldl_append]
 rfl
def hmE (b0 g1 g2:Nat) (Av:Option Addr) (vr:List BRow) (cv:Nat) (Agv:Option Addr) (vg:List Int) (cgv:Nat) (Aw:Option Addr) (kr:List BRow) (cw:Nat) (Agw:Option Addr) (wg:List Int) (cgw:Nat):List Ent:=
 [.box g1 61 [.slice Av vr.length cv,.slice Agv vg.length cgv],.box g2 61 [.slice Aw kr.length cw,.slice Agw wg.length cgw],.own (.slice Av vr.length cv) 65 11 vr.length (vr.flatMap rowCells),.own (.slice Agv vg.length cgv) 3 1 vg.length (ints vg),.own (.slice Aw kr.length cw) 65 11 kr.length (kr.flatMap rowCells),.own (.slice Agw wg.length cgw) 3 1 wg.length (ints wg)]
theorem houseMods_any (mods:List BMod) (mA:Option Addr) (mc:Nat) (hml:mods.length≤maxLen) (hmn:mA=none→mc=0) (l:List DIn) (dA:Option Addr) (dc:Nat) (hll:l.length≤maxLen) (hln:(∀ x∈l,x.A=none→x.c=0)∧(dA=none→dc=0)) (w:World) (hM:RdM w w.heap.size mA mods) (hD:RdD w w.heap.size dA l) :
  Calls Tryz.prog 5 #[.slice mA mods.length mc,.slice dA l.length dc] w fun e w'=>e=.returned (.bool true)∧Below w.heap.size w w':=by
 go_enter Tryz.func5,Tryz.ntmps5
 go_wp2_with fail
 refine (alive7_any w).mono ?_
 rintro e w1 ⟨rfl,hb⟩
 have hB:=Lib.hid hb
 clear hb
 by_cases h80:80≤l.length
 ·have i80:(80:Int)≤(l.length:Int):=by omega
  go_wp2_with fail
  go_ret
  exact ⟨rfl,hB.out⟩
 have i80:¬ (80:Int)≤(l.length:Int):=by omega
 have hl80:l.length<80:=by omega
 have hcase:=Lib.hid (two_cases mods (l:=doOf l) (by rw [doOf_length];exact hl80))
 have hP:=Lib.hid (hplay_any mods mA mc hml hmn l dA dc hll hln.1 w1 (Rd.grow hM hB.out) ((hD.under hB.out (Nat.le_refl _)).more hB.out.size))
 have hl80h:=Lib.hid hl80
 clear h80 hl80
 generalize playV mods (doOf l)=P at *
 go_wp2_with fail
 refine hP.out.mono ?_
 rintro e w2 ⟨s,L,A,c,rfl,his,hL,HP⟩
 obtain ⟨ho,ha,f1,f2⟩:=P
 try dsimp only at his hL hcase ⊢
 have H1:=((Hp.start w).grow hB.out).join HP
 obtain ⟨R,hRe,hRs⟩:∃ R,Hp w w2 R∧∀ p∈hoK s,p∈R:=⟨_,H1,fun p hp=>by simp [hp]⟩
 have H2:=(hRe.newL w2.heap.size rfl 30 [.slice s.A s.l.length s.c,.slice s.Ag s.gens.length s.cg,.slice s.Am s.mods.length s.cm,.slice s.As s.sys.length s.cs]).newL (w2.heap.size+1) (by simp) 34 [.int .i64 f1,.int .i64 f2]
 have hH2:=Lib.hid H2;have hish:=Lib.hid his;have hRsh:=Lib.hid hRs
 clear HP H1 hL hP hRe H2 his hRs i80
 unfold hoVal
 try dsimp only
 go_upto_region 6 with fail
 obtain ⟨w3,hw3,H3⟩:=hH2.out.name
 rw [hw3]
 obtain ⟨g5,hg5⟩:∃ g5,g5=w2.heap.size:=⟨_,rfl⟩
 rw [← hg5] at H3 ⊢
 obtain ⟨g7,hg7⟩:∃ g7,g7=g5+1:=⟨_,rfl⟩
 rw [← hg7] at H3 ⊢
 clear hw3 hg5 hg7 hH2
 have hH4:=Lib.hid (pkD_lit0 H3)
 clear H3
 obtain ⟨i0',hi0,hz0a,hz0b,hz0c⟩:=info_parts infoDo
 have hmax:=hl80h.out
 have hce:=hH4.out.old hD.cells
 have hnil:dA=none→l.length=0∧dc=0:=dnil hD hln.2
 go_wp2_with (at_builtin;first
  | (refine wpList_append_own_or rfl _ _ 23 rfl w.heap.size 58 i0' (.agg #[.int .i64 0,.int .i64 0,.int .i64 0,.int .i64 0,.int .i64 0,.int .i64 0,.int .i64 0,.int .i64 0,.int .i64 0,.slice none 0 0,.int .i64 0,.int .i64 0]) 12 112 Tryz.underlying23 hi0 hz0a hz0b hz0c rfl (by decide) _ _ _ rfl (hH4.out.owns 0 rfl) dA l.length dc (l.flatMap doCells) rfl hnil ?d0 ?d1 ?d2 ?d3 ?d4 ?d5 ?_;rotate_left 6;intro v' wc hown8 hgrow8 hat8;have H8:=hH4.out.app 0 rfl hgrow8 hown8 (hat8.imp id (fun e g hg=>by rw [e] at hg;injection hg with hg;exact Nat.le_of_eq hg));obtain ⟨A3,c3,rfl,hs1,hs2⟩:=own_shape hown8;have HN:=(pkD_all H8).newL wc.heap.size rfl 58 [.int .i64 6,.int .i64 0,.int .i64 0,.int .i64 0,.int .i64 0,.int .i64 0,.int .i64 0,.int .i64 0,.int .i64 0,.slice none 0 0,.int .i64 0,.int .i64 0];have hHN:=Lib.hid HN;have hown9:=HN.owns 1 rfl;clear H8 HN hs1 hs2 hown8 hgrow8 hat8)
  | (refine wpList_append_own_at _ rfl _ _ 23 rfl w.heap.size 58 i0' (.agg #[.int .i64 0,.int .i64 0,.int .i64 0,.int .i64 0,.int .i64 0,.int .i64 0,.int .i64 0,.int .i64 0,.int .i64 0,.slice none 0 0,.int .i64 0,.int .i64 0]) 12 112 Tryz.underlying23 hi0 hz0a hz0b hz0c rfl (by decide) _ _ _ rfl hown9 ⟨wc.heap.size,0,none⟩ 1 1 [.int .i64 6,.int .i64 0,.int .i64 0,.int .i64 0,.int .i64 0,.int .i64 0,.int .i64 0,.int .i64 0,.int .i64 0,.slice none 0 0,.int .i64 0,.int .i64 0] rfl rfl ?c1 ?c2 ?c3 ?c4 ?c5 ?_;rotate_left 5;intro v' w8 hown8 hgrow8 hif8 hat8;have H8:=hHN.out.app 1 rfl hgrow8 hown8 (hat8.imp id (fun e g hg=>by rw [e] at hg;injection hg with hg;exact Nat.le_of_eq hg));obtain ⟨A4,c4,rfl,hs1,hs2⟩:=own_shape hown8;clear hown8 hgrow8 hif8 hat8 hs1 hs2))
 case d0=>exact flat_length (f:=doCells) (fun _=>rfl) l
 case d1=>
  intro ad hA j u hu
  have hj:0<l.length:=by
   rcases Nat.eq_zero_or_pos l.length with h0 | h0
   ·rw [List.length_eq_zero_iff.1 h0] at hu
    cases hu
   ·exact h0
  obtain ⟨b,off,he,_,hc⟩:=hce.2 hj
  rw [hA] at he
  obtain rfl:=Option.some.inj he
  rw [add_mk]
  exact hc j u hu
 case d2=>exact do_one l
 case d3=>show 0+l.length≤maxLen;unfold maxLen;omega
 case d4=>show (0+l.length)*112≤_;omega
 case d5=>simpa using hH4.out.bel.size
 case c1=>exact news_blk (hHN.out.blk 0 rfl)
 case c2=>simp [Value.oneCell']
 case c3=>unfold maxLen;omega
 case c4=>omega
 case c5=>simpa using hHN.out.bel.size
 have h9:=pkD_snoc (L:=l) (x:=tickI) H8
 obtain ⟨w4,hw4⟩:∃ w4:World,w4=w8:=⟨_,rfl⟩
 rw [← hw4] at h9 ⊢
 clear H8 hHN hown9 hw4 hmax hi0 hz0a hz0b hz0c hce hnil hH4
 have hDa:∀ x∈l++[tickI],RdAB w4 w4.heap.size x.A x.d.sys.acts:=by
  intro x hx
  rcases List.mem_append.1 hx with hx | hx
  ·exact Rd.grow (hD.acts x hx) h9.bel
  ·rw [List.mem_singleton.1 hx];exact rdAB_nil
 have hlc:(l++[tickI]).length=l.length+1:=by rw [List.length_append];rfl
 have hP2:=Lib.hid (hplay_any mods mA mc hml hmn (l++[tickI]) A4 c4 (by rw [hlc];have:=hl80h.out;unfold maxLen;omega) (fun x hx=>by
  rcases List.mem_append.1 hx with hx | hx
  ·exact hln.1 x hx
  ·rw [List.mem_singleton.1 hx];exact fun _=>rfl) w4 (Rd.grow hM h9.bel) (pkD_rd h9 0 rfl hDa))
 rw [show doOf (l++[tickI])=doOf l++[tickD] by rw [doOf_append];rfl,hlc] at hP2
 have hh9:=Lib.hid h9
 clear h9 hDa
 generalize playV mods (doOf l++[tickD])=P' at *
 try go_wp2_with fail
 refine hP2.out.mono ?_
 rintro e w5 ⟨s',L',A',c',rfl,his',hL',HP⟩
 obtain ⟨ho',ha',p1,p2⟩:=P'
 try dsimp only at his' hL' hcase ⊢
 have H1:=hh9.out.join HP
 obtain ⟨R',hRe,hRs',hRp,hRo⟩:∃ R',Hp w w5 (.box g7 34 [.int .i64 f1,.int .i64 f2]::.box g5 30 [.slice s.A s.l.length s.c,.slice s.Ag s.gens.length s.cg,.slice s.Am s.mods.length s.cm,.slice s.As s.sys.length s.cs]::R')∧(∀ p∈hoK s',p∈R')∧pkA A' c' L'∈R'∧∀ p∈R,p∈R':=⟨_,(H1.drop1 0),fun p hp=>by simp [hp],by simp,fun p hp=>by simp [hp]⟩
 have hRs:∀ p∈hoK s,p∈R':=fun p hp=>hRo p (hRsh.out p hp)
 have H2:=(hRe.newL w5.heap.size rfl 30 [.slice s'.A s'.l.length s'.c,.slice s'.Ag s'.gens.length s'.cg,.slice s'.Am s'.mods.length s'.cm,.slice s'.As s'.sys.length s'.cs]).newL (w5.heap.size+1) (by simp) 34 [.int .i64 p1,.int .i64 p2]
 have hH2:=Lib.hid H2;have hish':=Lib.hid his';have hRsh':=Lib.hid hRs';have hRph:=Lib.hid hRp;have hRs0:=Lib.hid hRs;have hL'h:=Lib.hid hL'
 clear HP H1 hP2 hRe H2 his' hRs' hRsh hh9 hRo hRs hL' hRp hlc
 unfold hoVal
 try dsimp only
 go_upto_region 7 with fail
 obtain ⟨w6,hw6,H3⟩:=hH2.out.name
 rw [hw6]
 obtain ⟨g8,hg8⟩:∃ g8,g8=w5.heap.size:=⟨_,rfl⟩
 rw [← hg8] at H3 ⊢
 obtain ⟨g10,hg10⟩:∃ g10,g10=g8+1:=⟨_,rfl⟩
 rw [← hg10] at H3 ⊢
 clear hw6 hg8 hg10 hH2
 have x0:=H3.cell 0 0 rfl rfl;have x1:=H3.cell 0 1 rfl rfl;have y0:=H3.cell 2 0 rfl rfl;have y1:=H3.cell 2 1 rfl rfl
 have hH3:=Lib.hid H3
 clear H3
 rcases hcase.out with ⟨hf,hff⟩ | ⟨hf,hg,hT⟩
 ·injection hff with e1 e2
  subst e1 e2
  have hf':(p1 != 0)=true:=by simpa using hf
  have heq:=fun W=>eqFault p1 p2 W
  clear hf hcase
  go_wp2_with fail
  go_ret
  exact ⟨rfl,hH3.out.bel⟩
 injection hf with e1 e2
 injection hg with e3 e4
 subst e1 e2 e3 e4
 have hr:=hT.r
 have hTh:=hT.h
 have hrT:=hr.tick.W
 have hrW:RightW ho.W.rows ho.W.gens:=hr.W
 try dsimp only at hTh hr
 subst hTh
 have hrT':RightW (tickV ho).1.W.rows (tickV ho).1.W.gens:=hrT
 have hkept:=Lib.hid (fun (r:BRow) (h0:r∈ho.W.rows) (q:BRow) (hq:rowOf r.idx r.gen (tickV ho).1.W.rows=some q)=>(tick_kept hr h0 hq).val)
 have hfnd:=Lib.hid (fun (hl:lifeOf mods=false) (r:BRow) (h0:r∈ho.W.rows)=>tick_found hr hl h0)
 have hstay:=Lib.hid (fun (hl:lifeOf mods=false)=>(show (tickV ho).1.W.rows.length=ho.W.rows.length by simpa using congrArg List.length (tick_stay hr hl)))
 have hset:=Lib.hid (fun (m:BMod) (hm:m∈mods)=>(hr.ok m hm).2)
 have hml6:=hr.few
 have hts:=hish.out.tabs
 have ht':=hish'.out.tabs
 have H3:=hH3.out
 rw [hish.out.gens,hish'.out.gens] at H3
 have hSt:=hoK_st H3 (s:=s) (fun p hp=>List.mem_cons_of_mem _ (List.mem_cons_of_mem _ (List.mem_cons_of_mem _ (List.mem_cons_of_mem _ (hRs0.out p hp)))))
 have hSt':=hoK_st H3 (s:=s') (fun p hp=>List.mem_cons_of_mem _ (List.mem_cons_of_mem _ (List.mem_cons_of_mem _ (List.mem_cons_of_mem _ (hRsh'.out p hp)))))
 rw [hish.out.gens] at hSt
 rw [hish'.out.gens] at hSt'
 clear hT hcase hish hish' hRs0 hRsh' hRph hL'h hH3 x0 x1 y0 y1 hrT
 generalize (tickV ho).1=hk at *
 obtain ⟨hkm,hks,⟨kr,wg⟩⟩:=hk
 obtain ⟨hom,hos,⟨vr,vg⟩⟩:=ho
 dsimp only at hkept hfnd hstay hts ht' H3 hSt hSt' hrW hrT' hr
 clear hr
 have hwl1:=Lib.hid (fun W (hb:Below w6.heap.size w6 W)=>world7 hrW hts W (hSt.grow hb))
 have hwl2:=Lib.hid (fun W (hb:Below w6.heap.size w6 W)=>world7 hrT' ht' W (hSt'.grow hb))
 have hvl:vr.length≤60:=Nat.le_trans hrW.rows_le hrW.len
 have hwl:kr.length≤60:=Nat.le_trans hrT'.rows_le hrT'.len
 have hVh:=Lib.hid hrW;have hWh:=Lib.hid hrT'
 clear hSt hSt' hts ht' hrW hrT'
 have x0:=H3.cell 0 0 rfl rfl;have y0:=H3.cell 2 0 rfl rfl
 have hH3:=Lib.hid H3
 clear H3
 go_wp2_with fail
 clear x0 y0
 go_loopw [11,12,58] (fun s11 s12 q wr=>∃ k:Nat,k≤mods.length∧q=.int .i64 k∧s11=.int .i64 (writesOf (mods.take k))∧s12=.bool (lifeOf (mods.take k))∧Below w6.heap.size w6 wr) (fun _ _ q _=>mods.length-(intOf q).toNat)
 case atStart=>exact ⟨0,by omega,rfl,rfl,rfl,Below.refl _ _⟩
 case round=>
  obtain ⟨k,hk,rfl,rfl,rfl,hb6⟩:=hrel
  have H:=hH3.out.grow hb6
  by_cases hlt:k<mods.length
  ·obtain ⟨mb,mo,eM,hmb,m0,m1,m2⟩:=RdM.at_ (Rd.under hM H.bel (Nat.le_refl _)) hlt
   have e1:=Lib.hid (writes_snoc hlt)
   have e2:=Lib.hid (life_snoc hlt)
   have hs1:=Lib.hid (writes_set (l:=mods.take k) (fun m hm=>hset.out m (List.mem_of_mem_take hm)))
   have hs2:=Lib.hid (hset.out _ (List.getElem_mem hlt))
   generalize mods[k]=m at *
   generalize writesOf (mods.take k)=wa at *
   generalize lifeOf (mods.take k)=la at *
   obtain ⟨mr,mw,ml⟩:=m
   dsimp only at m0 m1 m2 e1 e2 hs2
   have i0:(0:Int)≤(k:Int):=by omega
   have i1:(k:Int)<(mods.length:Int):=by omega
   have hal:Below wr.heap.size wr (wr.alloc (.cells #[.int .i64 mr,.int .i64 mw,.bool ml] 55)):=(Below.refl _ _).alloc (Nat.le_refl _) _
   have hBk:=Blk.new wr 55 #[.int .i64 mr,.int .i64 mw,.bool ml]
   have hb7:=Lib.hid (hb6.trans (hal.mono hb6.size))
   have hBkh:=Lib.hid hBk
   rw [eM]
   clear H hb6 hal hBk hmb
   go_upto_region 13 with fail
   clear m0 m1 m2
   obtain ⟨w7,hw7⟩:∃ w7:World,w7=wr.alloc (.cells #[.int .i64 mr,.int .i64 mw,.bool ml] 55):=⟨_,rfl⟩
   rw [← hw7] at hb7 hBkh ⊢
   have n1:=hBkh.out.cell 1;have n2:=hBkh.out.cell 2
   simp at n1 n2
   clear hw7 hBkh
   have hor:=Lib.hid (bits_or_set hs1.out hs2.out)
   cases la with
   | true=>
    go_quiet (fail)
    go_wp2_with fail
    go_roundw
    case rel=>exact ⟨k+1,by omega,by go_num,by rw [e1.out];exact congrArg (Value.int .i64) hor.out,by rw [e2.out];rfl,below_drewN hb7.out _⟩
    case measure=>simp [intOf];omega
   | false=>
    go_quiet (fail)
    go_wp2_with fail
    go_roundw
    case rel=>exact ⟨k+1,by omega,by go_num,by rw [e1.out];exact congrArg (Value.int .i64) hor.out,by rw [e2.out];rfl,below_drewN hb7.out _⟩
    case measure=>simp [intOf];omega
  ·obtain rfl:k=mods.length:=by omega
   have hnw:=writes_set (l:=mods) (fun m hm=>hset.out m hm)
   rw [List.take_length]
   generalize writesOf mods=nw at *
   generalize lifeOf mods=nl at *
   obtain ⟨wB,hwB⟩:∃ wB:World,wB=wr:=⟨_,rfl⟩
   rw [← hwB] at H hb6 ⊢
   have hwl1':=Lib.hid (fun W (hb:Below wB.heap.size wB W)=>hwl1.out W (hb6.trans (hb.mono hb6.size)))
   have hwl2':=Lib.hid (fun W (hb:Below wB.heap.size wB W)=>hwl2.out W (hb6.trans (hb.mono hb6.size)))
   have hHB:=Lib.hid H
   clear hwB H hb6 hwl1 hwl2 hH3 hset
   go_upto_region 15 with fail
   refine wp_region_mx mixed (by kernel_rfl) (by kernel_rfl) (fun q=>!(q==2) && !(q==5) && !(q==6) && !(q==7)) (tab [.pointer (some ⟨g5,0,none⟩),.agg #[.slice s.A s.l.length s.c,.slice s.Ag vg.length s.cg],undef,.pointer (some ⟨g8,0,none⟩),.agg #[.slice s'.A s'.l.length s'.c,.slice s'.Ag wg.length s'.cg],undef,undef,undef,undef,undef]) (fun u vs w'=>J2 wB w (.box g10 34 [.int .i64 0,.int .i64 0]::.box g8 30 [.slice s'.A s'.l.length s'.c,.slice s'.Ag wg.length s'.cg,.slice s'.Am s'.mods.length s'.cm,.slice s'.As s'.sys.length s'.cs]::.box g7 34 [.int .i64 0,.int .i64 0]::.box g5 30 [.slice s.A s.l.length s.c,.slice s.Ag vg.length s.cg,.slice s.Am s.mods.length s.cm,.slice s.As s.sys.length s.cs]::R') 61 61 [.slice none 0 0,.slice none 0 0] [.slice none 0 0,.slice none 0 0] (wl7 vr vg) (wl7 kr wg) (u 2) (u 5) (u 6) (u 7) (u 8) (u 9) (vs 2) (vs 5) (vs 6) (vs 7) w') ?_ ?_ ?_
   ·exact J2.start hHB.out.drew (Below.refl _ _).drew
   ·intro vs w' l1 hJ hl
    rw [putAll_tab _ _ _ _ [(some 72,.pointer (some ⟨g5,0,none⟩)),(some 73,.agg #[.slice s.A s.l.length s.c,.slice s.Ag vg.length s.cg]),(some 74,vs 2),(some 75,.pointer (some ⟨g8,0,none⟩)),(some 76,.agg #[.slice s'.A s'.l.length s'.c,.slice s'.Ag wg.length s'.cg]),(some 77,vs 5),(some 15,vs 6),(some 16,vs 7),(none,undef),(none,undef)] rfl]
    simp only [putL_eq,putT,List.set_cons_succ,List.set_cons_zero]
    obtain ⟨g15,g16,v1,v2,C1,C2,hx1,hx2,⟨Av,cv,Agv,cgv,rfl,rfl⟩,⟨Aw,cw,Agw,cgw,rfl,rfl⟩,_,HQ⟩:=hJ.done (hl 2 (by decide)) (hl 5 (by decide)) (hl 6 (by decide)) (hl 7 (by decide)) (hl 8 (by decide)) (hl 9 (by decide))
    rw [hx1,hx2]
    have H8:Hp w w' (hmE w.heap.size g15 g16 Av vr cv Agv vg cgv Aw kr cw Agw wg cgw):=HQ.sub (.cons_cons _ (.cons_cons _ (List.sublist_append_right _ _)))
    clear hJ HQ hx1 hx2 hl
    have H8h:=Lib.hid H8
    clear H8
    have r00:=H8h.out.cell 0 0 rfl rfl
    go_wp2_with fail
    go_loopw [81] (fun q wr=>∃ k:Nat,k≤vr.length∧q=.int .i64 k∧Hp w wr (hmE w.heap.size g15 g16 Av vr cv Agv vg cgv Aw kr cw Agw wg cgw)) (fun q _=>vr.length-(intOf q).toNat)
    case atStart=>exact ⟨0,by omega,rfl,H8h.out⟩
    case round=>
     clear H8h r00
     obtain ⟨k0,hk,rfl,H⟩:=hrel
     by_cases hlt:k0<vr.length
     ·have hR1:RdR wr wr.heap.size Av vr:=H.rd 2 rfl
      obtain ⟨b1,off,eA,hb1,hrow⟩:=hR1.at_ hlt
      have hmem:=List.getElem_mem hlt
      have hrs:=hVh.out.set_ _ hmem
      have hfn:=Lib.hid (fun hl=>hfnd.out hl _ hmem)
      have hwr2:=Lib.hid (hkept.out _ hmem)
      generalize vr[k0]=r at *
      obtain ⟨c0,c1,c2'⟩:=hrow.head
      obtain ⟨idx,gen,rh,vals,h8⟩:=r
      obtain ⟨z0,z1,z2,z3,z4,z5,z6,z7,rfl⟩:=vals_eight h8
      have v0:=hrow 3 (.int .i64 z0) rfl;have v1:=hrow 4 (.int .i64 z1) rfl;have v2:=hrow 5 (.int .i64 z2) rfl;have v3:=hrow 6 (.int .i64 z3) rfl;have v4:=hrow 7 (.int .i64 z4) rfl;have v5:=hrow 8 (.int .i64 z5) rfl;have v6:=hrow 9 (.int .i64 z6) rfl;have v7:=hrow 10 (.int .i64 z7) rfl
      simp only at c0 c1 c2'
      dsimp only at hfn hwr2 hrs
      have H1:=H.new wr.heap.size rfl 65 (rowCells ⟨idx,gen,rh,[z0,z1,z2,z3,z4,z5,z6,z7],h8⟩)
      have i0:(0:Int)≤(k0:Int):=by omega
      have i1:(k0:Int)<(vr.length:Int):=by omega
      clear hrow hmem hR1 H
      have H1h:=Lib.hid H1
      clear H1
      rw [eA]
      go_upto_region 19 with fail
      obtain ⟨w8,hw8,H1⟩:=H1h.out.name
      change Code.wp _ _ _ _ (wr.alloc (.cells (rowCells ⟨idx,gen,rh,[z0,z1,z2,z3,z4,z5,z6,z7],h8⟩).toArray 65))
      rw [hw8]
      clear hw8 H1h
      obtain ⟨b12,hb12⟩:∃ b12,b12=wr.heap.size:=⟨_,rfl⟩
      rw [← hb12] at H1 ⊢
      clear hb12 c0 c1 c2' v0 v1 v2 v3 v4 v5 v6 v7 i0 i1 hb1
      have g0:=H1.cell 1 0 rfl rfl;have g1:=H1.cell 1 1 rfl rfl;have x0:=H1.cell 6 0 rfl rfl;have x1:=H1.cell 6 1 rfl rfl
      have hrr:=Lib.hid (rrow_at7 kr wg Aw cw Agw cgw idx gen (by omega) w8 (H1.rd 4 rfl))
      have hH1:=Lib.hid H1
      clear H1
      go_wp2_with fail
      refine hrr.out.mono ?_
      rintro e w9 ⟨rfl,hb9⟩
      have H:=hH1.out.grow hb9
      have hQ:=rowPtr_ans7 (H.rd 4 rfl) (Nat.le_refl _) idx gen
      generalize rowPtr7 Aw idx gen kr=P at *
      clear hb9 hH1 hrr x0 x1 g0 g1
      cases ho:rowOf idx gen kr with
      | none=>
       rw [ho] at hQ
       obtain rfl:P=.pointer none:=hQ
       have hlife:nl=true:=by
        cases hn:nl with
        | true=>rfl
        | false=>
         obtain ⟨q,hq⟩:=hfn.out hn
         rw [ho] at hq
         cases hq
       subst hlife
       have Hh:=Lib.hid (H.drop1 6)
       clear ho hfn hwr2 H
       go_wp2_with fail
       go_roundw
       case rel=>exact ⟨k0+1,by omega,by go_num,by rw [← eA];exact Hh.out⟩
       case measure=>simp [intOf];omega
      | some q=>
       rw [ho] at hQ
       obtain ⟨qb,qo,rfl,hqb,hrow2⟩:=hQ
       have hW:=Lib.hid (hwr2.out q ho)
       have hqs:=hWh.out.set_ _ ((rowOf_some_iff hWh.out.rise).1 ho).1
       have hrowh:=Lib.hid hrow2
       obtain ⟨qi,qg,qh,qv,q8⟩:=q
       dsimp only at hqs
       have hql:=Lib.hid hqb
       have Hh:=Lib.hid H
       clear ho hfn hwr2 hrow2 H hqb
       go_wp2_with fail
       go_loopw [93] (fun sq wr=>∃ k:Nat,k≤8∧sq=.int .i64 k∧Below w9.heap.size w9 wr) (fun sq _=>8-(intOf sq).toNat)
       case atStart=>exact ⟨0,by omega,rfl,Below.refl _ _⟩
       case round=>
        obtain ⟨k,hk8,rfl,hBi0⟩:=hrel
        have hBi:=Lib.hid hBi0
        have HL0:=Hh.out.grow hBi0
        have hrow4:=hrowh.out.below hBi0 hql.out
        have hqb:qb<wr.heap.size:=Nat.lt_of_lt_of_le hql.out hBi0.size
        clear hBi0
        by_cases hlk:k<8
        ·have i0:(0:Int)≤(k:Int):=by omega
         have i1:(k:Int)<8:=by omega
         have HL:=Lib.hid HL0
         have hb12:=HL0.lt 6 rfl
         have yr:=HL0.cell 6 (3+k) rfl (row_val7 ⟨idx,gen,rh,[z0,z1,z2,z3,z4,z5,z6,z7],h8⟩ hlk)
         have yz:wr.cell? ⟨qb,qo+3+k,none⟩=some (.int .i64 (qv.getD k 0)):=by
          have:=hrow4 (3+k) _ (row_val7 ⟨qi,qg,qh,qv,q8⟩ hlk)
          rwa [← Nat.add_assoc] at this
         have yh:wr.cell? ⟨qb,qo+2,none⟩=some (.int .i64 qh):=hrow4 2 _ rfl
         have hval:=hW.out k hlk
         dsimp only at hval yr
         obtain ⟨hb8,hhb⟩:∃ hb8,hb8=hasB rh (k:Int):=⟨_,rfl⟩
         obtain ⟨z,hz⟩:∃ z,z=([z0,z1,z2,z3,z4,z5,z6,z7]:List Int).getD k 0:=⟨_,rfl⟩
         rw [← hz] at yr hval
         rw [← hhb] at hval
         have hrk:Hid (hasB rh (k:Int)=hb8):=Lib.hid hhb.symm
         clear hz hhb HL0 hrow4
         cases hkw0:hasB nw (k:Int) with
         | true=>
          have hkw:=Lib.hid hkw0
          clear hkw0 hval yz yr yh
          go_upto_region 26 with fail
          refine wp_region_pred mixed (by kernel_rfl) (by kernel_rfl) (fun q=>([true,true,true,true,true,false,false,false,false,false,false,false,false,false,false,false,false,false,false,false,false,false,false,false,false,false,false,false,false,true]:List Bool).getD q true) (fun j w' v=>v=tab [.int .i64 nw,.int .i64 (k:Int),.bool true,.bool false,.bool false,undef,undef,undef,undef,undef,undef,undef,undef,undef,undef,undef,undef,undef,undef,undef,undef,undef,undef,undef,undef,undef,undef,undef,undef,.bool false] j) ?_ ?_ ?_ ?_ ?_
          ·intro j w' w'' v h hb;exact h
          ·intro q op ho
           have hi:q<30:=lt_of_some ho
           match q,hi,ho with
           | 0,_,ho | 1,_,ho | 2,_,ho | 3,_,ho | 4,_,ho | 29,_,ho=>
            obtain rfl:=sj ho
            rfl
           | 5,_,ho | 6,_,ho | 7,_,ho | 8,_,ho | 9,_,ho | 10,_,ho | 11,_,ho | 12,_,ho | 13,_,ho | 14,_,ho | 15,_,ho | 16,_,ho | 28,_,ho=>
            obtain rfl:=sj ho
            intro w' v h
            have h':v=.bool false:=h
            subst h'
            rfl
           | 17,_,ho | 18,_,ho | 19,_,ho | 20,_,ho | 21,_,ho | 22,_,ho | 23,_,ho | 24,_,ho | 25,_,ho | 26,_,ho | 27,_,ho=>
            obtain rfl:=sj ho
            intro w' v h
            have h':v=undef:=h
            subst h'
            rfl
          ·intro q w' h
           by_cases hq:q<30
           ·match q,hq,h with
            | 5,_,_ | 6,_,_ | 7,_,_ | 8,_,_ | 9,_,_ | 10,_,_ | 11,_,_ | 12,_,_ | 13,_,_ | 14,_,_ | 15,_,_ | 16,_,_ | 17,_,_ | 18,_,_ | 19,_,_ | 20,_,_ | 21,_,_ | 22,_,_ | 23,_,_ | 24,_,_ | 25,_,_ | 26,_,_ | 27,_,_ | 28,_,_=>rfl
            | 0,_,h | 1,_,h | 2,_,h | 3,_,h | 4,_,h | 29,_,h=>cases h
           ·exfalso
            rw [List.getD_eq_getElem?_getD,List.getElem?_eq_none (by simp;omega)] at h
            cases h
          ·intro vs w' hb hv
           rw [putAll_tab _ _ _ _ [(some 96,vs 0),(some 97,vs 1),(some 98,vs 2),(some 99,vs 3),(some 100,vs 4),(some 101,vs 5),(some 102,vs 6),(some 103,vs 7),(some 104,vs 8),(some 105,vs 9),(some 106,vs 10),(some 107,vs 11),(some 108,vs 12),(some 109,vs 13),(some 110,vs 14),(some 111,vs 15),(some 112,vs 16),(some 113,vs 17),(some 114,vs 18),(some 115,vs 19),(some 116,vs 20),(some 117,vs 21),(some 118,vs 22),(some 119,vs 23),(some 120,vs 24),(some 121,vs 25),(some 122,vs 26),(some 123,vs 27),(some 124,vs 28),(some 125,vs 29)] rfl]
           simp only [putL_eq,putT,List.set_cons_succ,List.set_cons_zero]
           have h29:vs 29=.bool false:=hv 29 (by decide)
           rw [h29]
           have HB:=Lib.hid (hBi.out.trans (hb.mono hBi.out.size))
           clear hv hb h29
           go_wp2_with fail
           go_roundw
           case rel=>exact ⟨k+1,by omega,by go_num,HB.out⟩
           case measure=>simp [intOf];omega
          ·intro q op ho hG act w' hb hv hwas K hK
           have e11:=hwas 11 rfl
           have e20:=hwas 20 rfl
           simp at e11 e20
           have H:=HL.out.grow hb
           have hi:q<30:=lt_of_some ho
           match q,hi,ho,hG,hK,hv with
           | 0,_,ho,hG,hK,hv=>
            obtain rfl:=sj ho
            clear hv hwas
            go_simp
            exact hK _ _ (Below.refl _ _) rfl
           | 1,_,ho,hG,hK,hv=>
            obtain rfl:=sj ho
            clear hv hwas
            go_simp
            exact hK _ _ (Below.refl _ _) rfl
           | 2,_,ho,hG,hK,hv=>
            obtain rfl:=sj ho
            have x96:act.tmps[96]?.getD undef=.int .i64 nw:=hv 0 96 rfl rfl
            have x97:act.tmps[97]?.getD undef=.int .i64 (k:Int):=hv 1 97 rfl rfl
            clear hv hwas
            go_simp
            refine (rhas_any nw (k:Int) hnw w').mono ?_
            rintro e w'' ⟨rfl,hb''⟩
            rw [hkw.out]
            exact hK _ _ hb'' rfl
           | 3,_,ho,hG,hK,hv=>
            obtain rfl:=sj ho
            have x98:act.tmps[98]?.getD undef=.bool true:=hv 2 98 rfl rfl
            clear hv hwas
            go_simp
            exact hK _ _ (Below.refl _ _) rfl
           | 4,_,ho,hG,hK,hv=>
            obtain rfl:=sj ho
            have x99:act.tmps[99]?.getD undef=.bool false:=hv 3 99 rfl rfl
            clear hv hwas
            go_simp
            exact hK _ _ (Below.refl _ _) rfl
           | 5,_,ho,hG,hK,hv=>cases hG
           | 6,_,ho,hG,hK,hv=>cases hG
           | 7,_,ho,hG,hK,hv=>cases hG
           | 8,_,ho,hG,hK,hv=>cases hG
           | 9,_,ho,hG,hK,hv=>cases hG
           | 10,_,ho,hG,hK,hv=>cases hG
           | 11,_,ho,hG,hK,hv=>cases hG
           | 12,_,ho,hG,hK,hv=>cases hG
           | 13,_,ho,hG,hK,hv=>cases hG
           | 14,_,ho,hG,hK,hv=>cases hG
           | 15,_,ho,hG,hK,hv=>cases hG
           | 16,_,ho,hG,hK,hv=>cases hG
           | 17,_,ho,hG,hK,hv=>cases hG
           | 18,_,ho,hG,hK,hv=>cases hG
           | 19,_,ho,hG,hK,hv=>cases hG
           | 20,_,ho,hG,hK,hv=>cases hG
           | 21,_,ho,hG,hK,hv=>cases hG
           | 22,_,ho,hG,hK,hv=>cases hG
           | 23,_,ho,hG,hK,hv=>cases hG
           | 24,_,ho,hG,hK,hv=>cases hG
           | 25,_,ho,hG,hK,hv=>cases hG
           | 26,_,ho,hG,hK,hv=>cases hG
           | 27,_,ho,hG,hK,hv=>cases hG
           | 28,_,ho,hG,hK,hv=>cases hG
           | 29,_,ho,hG,hK,hv=>
            obtain rfl:=sj ho
            have x100:act.tmps[100]?.getD undef=.bool false:=hv 4 100 rfl rfl
            clear hv hwas
            go_simp
            exact hK _ _ (Below.refl _ _) rfl
         | false=>
          obtain ⟨hv1,hv2⟩:=hval hkw0
          rw [hv1] at yz
          have hkw:=Lib.hid hkw0;have hqk:Hid (hasB qh (k:Int)=hb8):=Lib.hid hv2
          clear hkw0 hval hv1 hv2
          go_upto_region 26 with fail
          refine wp_region_pred mixed (by kernel_rfl) (by kernel_rfl) (fun _=>true) (fun j w' v=>v=tab [.int .i64 nw,.int .i64 (k:Int),.bool false,.bool true,.bool true,.pointer (some ⟨qb,qo,none⟩),.int .i64 (k:Int),.pointer (some ⟨qb,qo,none⟩),.pointer (some ⟨qb,qo+3,none⟩),.pointer (some ⟨qb,qo+3+k,none⟩),.int .i64 z,.int .i64 (k:Int),.pointer (some ⟨b12,3,none⟩),.pointer (some ⟨b12,3+k,none⟩),.int .i64 z,.bool false,.bool false,.pointer (some ⟨qb,qo,none⟩),.pointer (some ⟨qb,qo,none⟩),.pointer (some ⟨qb,qo+2,none⟩),.int .i64 qh,.int .i64 (k:Int),.bool hb8,.pointer (some ⟨b12,2,none⟩),.int .i64 rh,.int .i64 (k:Int),.bool hb8,.bool false,.bool false,.bool false] j) ?_ ?_ ?_ ?_ ?_
          ·intro j w' w'' v h hb;exact h
          ·intro q op ho
           have hi:q<30:=lt_of_some ho
           match q,hi,ho with
           | 0,_,ho | 1,_,ho | 2,_,ho | 3,_,ho | 4,_,ho | 29,_,ho=>
            obtain rfl:=sj ho
            rfl
           | 5,_,ho | 6,_,ho | 7,_,ho | 8,_,ho | 9,_,ho | 10,_,ho | 11,_,ho | 12,_,ho | 13,_,ho | 14,_,ho | 15,_,ho | 16,_,ho | 28,_,ho=>
            obtain rfl:=sj ho
            intro w' v h
            have h':v=.bool true:=h
            subst h'
            rfl
           | 17,_,ho | 18,_,ho | 19,_,ho | 20,_,ho | 21,_,ho | 22,_,ho | 23,_,ho | 24,_,ho | 25,_,ho | 26,_,ho | 27,_,ho=>
            obtain rfl:=sj ho
            intro w' v h
            have h':v=.bool false:=h
            subst h'
            rfl
          ·intro q w' h;cases h
          ·intro vs w' hb hv
           rw [putAll_tab _ _ _ _ [(some 96,vs 0),(some 97,vs 1),(some 98,vs 2),(some 99,vs 3),(some 100,vs 4),(some 101,vs 5),(some 102,vs 6),(some 103,vs 7),(some 104,vs 8),(some 105,vs 9),(some 106,vs 10),(some 107,vs 11),(some 108,vs 12),(some 109,vs 13),(some 110,vs 14),(some 111,vs 15),(some 112,vs 16),(some 113,vs 17),(some 114,vs 18),(some 115,vs 19),(some 116,vs 20),(some 117,vs 21),(some 118,vs 22),(some 119,vs 23),(some 120,vs 24),(some 121,vs 25),(some 122,vs 26),(some 123,vs 27),(some 124,vs 28),(some 125,vs 29)] rfl]
           simp only [putL_eq,putT,List.set_cons_succ,List.set_cons_zero]
           have h29:vs 29=.bool false:=hv 29 (by decide)
           rw [h29]
           have HB:=Lib.hid (hBi.out.trans (hb.mono hBi.out.size))
           clear hv hb h29
           go_wp2_with fail
           go_roundw
           case rel=>exact ⟨k+1,by omega,by go_num,HB.out⟩
           case measure=>simp [intOf];omega
          ·intro q op ho hG act w' hb hv hwas K hK
           have e11:=hwas 11 rfl
           have e18:=hwas 18 rfl
           have e19:=hwas 19 rfl
           have e20:=hwas 20 rfl
           simp at e11 e18 e19 e20
           have H:=HL.out.grow hb
           have y0:=(hb.cell (p:=⟨qb,qo+3+k,none⟩) hqb).trans yz;have y1:=(hb.cell (p:=⟨qb,qo+2,none⟩) hqb).trans yh;have y2:=H.cell 6 2 rfl rfl;have y3:=(hb.cell (p:=⟨b12,3+k,none⟩) hb12).trans yr
           have hi:q<30:=lt_of_some ho
           match q,hi,ho,hG,hK,hv with
           | 0,_,ho,hG,hK,hv=>
            obtain rfl:=sj ho
            clear hv hwas
            go_simp
            exact hK _ _ (Below.refl _ _) rfl
           | 1,_,ho,hG,hK,hv=>
            obtain rfl:=sj ho
            clear hv hwas
            go_simp
            exact hK _ _ (Below.refl _ _) rfl
           | 2,_,ho,hG,hK,hv=>
            obtain rfl:=sj ho
            have x96:act.tmps[96]?.getD undef=.int .i64 nw:=hv 0 96 rfl rfl
            have x97:act.tmps[97]?.getD undef=.int .i64 (k:Int):=hv 1 97 rfl rfl
            clear hv hwas
            go_simp
            refine (rhas_any nw (k:Int) hnw w').mono ?_
            rintro e w'' ⟨rfl,hb''⟩
            rw [hkw.out]
            exact hK _ _ hb'' rfl
           | 3,_,ho,hG,hK,hv=>
            obtain rfl:=sj ho
            have x98:act.tmps[98]?.getD undef=.bool false:=hv 2 98 rfl rfl
            clear hv hwas
            go_simp
            exact hK _ _ (Below.refl _ _) rfl
           | 4,_,ho,hG,hK,hv=>
            obtain rfl:=sj ho
            have x99:act.tmps[99]?.getD undef=.bool true:=hv 3 99 rfl rfl
            clear hv hwas
            go_simp
            exact hK _ _ (Below.refl _ _) rfl
           | 5,_,ho,hG,hK,hv=>
            obtain rfl:=sj ho
            clear hv hwas
            go_simp
            exact hK _ _ (Below.refl _ _) rfl
           | 6,_,ho,hG,hK,hv=>
            obtain rfl:=sj ho
            clear hv hwas
            go_simp
            exact hK _ _ (Below.refl _ _) rfl
           | 7,_,ho,hG,hK,hv=>
            obtain rfl:=sj ho
            have x101:act.tmps[101]?.getD undef=.pointer (some ⟨qb,qo,none⟩):=hv 5 101 rfl rfl
            clear hv hwas
            go_simp
            exact hK _ _ (Below.refl _ _) rfl
           | 8,_,ho,hG,hK,hv=>
            obtain rfl:=sj ho
            have x103:act.tmps[103]?.getD undef=.pointer (some ⟨qb,qo,none⟩):=hv 7 103 rfl rfl
            clear hv hwas
            go_simp
            exact hK _ _ (Below.refl _ _) rfl
           | 9,_,ho,hG,hK,hv=>
            obtain rfl:=sj ho
            have x102:act.tmps[102]?.getD undef=.int .i64 (k:Int):=hv 6 102 rfl rfl
            have x104:act.tmps[104]?.getD undef=.pointer (some ⟨qb,qo+3,none⟩):=hv 8 104 rfl rfl
            clear hv hwas
            go_simp
            exact hK _ _ (Below.refl _ _) rfl
           | 10,_,ho,hG,hK,hv=>
            obtain rfl:=sj ho
            have x105:act.tmps[105]?.getD undef=.pointer (some ⟨qb,qo+3+k,none⟩):=hv 9 105 rfl rfl
            clear hv hwas
            go_simp
            exact hK _ _ (Below.refl _ _) rfl
           | 11,_,ho,hG,hK,hv=>
            obtain rfl:=sj ho
            clear hv hwas
            go_simp
            exact hK _ _ (Below.refl _ _) rfl
           | 12,_,ho,hG,hK,hv=>
            obtain rfl:=sj ho
            clear hv hwas
            go_simp
            exact hK _ _ (Below.refl _ _) rfl
           | 13,_,ho,hG,hK,hv=>
            obtain rfl:=sj ho
            have x107:act.tmps[107]?.getD undef=.int .i64 (k:Int):=hv 11 107 rfl rfl
            have x108:act.tmps[108]?.getD undef=.pointer (some ⟨b12,3,none⟩):=hv 12 108 rfl rfl
            clear hv hwas
            go_simp
            exact hK _ _ (Below.refl _ _) rfl
           | 14,_,ho,hG,hK,hv=>
            obtain rfl:=sj ho
            have x109:act.tmps[109]?.getD undef=.pointer (some ⟨b12,3+k,none⟩):=hv 13 109 rfl rfl
            clear hv hwas
            go_simp
            exact hK _ _ (Below.refl _ _) rfl
           | 15,_,ho,hG,hK,hv=>
            obtain rfl:=sj ho
            have x106:act.tmps[106]?.getD undef=.int .i64 z:=hv 10 106 rfl rfl
            have x110:act.tmps[110]?.getD undef=.int .i64 z:=hv 14 110 rfl rfl
            clear hv hwas
            go_simp
            exact hK _ _ (Below.refl _ _) rfl
           | 16,_,ho,hG,hK,hv=>
            obtain rfl:=sj ho
            have x111:act.tmps[111]?.getD undef=.bool false:=hv 15 111 rfl rfl
            clear hv hwas
            go_simp
            exact hK _ _ (Below.refl _ _) rfl
           | 17,_,ho,hG,hK,hv=>
            obtain rfl:=sj ho
            clear hv hwas
            go_simp
            exact hK _ _ (Below.refl _ _) rfl
           | 18,_,ho,hG,hK,hv=>
            obtain rfl:=sj ho
            have x113:act.tmps[113]?.getD undef=.pointer (some ⟨qb,qo,none⟩):=hv 17 113 rfl rfl
            clear hv hwas
            go_simp
            exact hK _ _ (Below.refl _ _) rfl
           | 19,_,ho,hG,hK,hv=>
            obtain rfl:=sj ho
            have x114:act.tmps[114]?.getD undef=.pointer (some ⟨qb,qo,none⟩):=hv 18 114 rfl rfl
            clear hv hwas
            go_simp
            exact hK _ _ (Below.refl _ _) rfl
           | 20,_,ho,hG,hK,hv=>
            obtain rfl:=sj ho
            have x115:act.tmps[115]?.getD undef=.pointer (some ⟨qb,qo+2,none⟩):=hv 19 115 rfl rfl
            clear hv hwas
            go_simp
            exact hK _ _ (Below.refl _ _) rfl
           | 21,_,ho,hG,hK,hv=>
            obtain rfl:=sj ho
            clear hv hwas
            go_simp
            exact hK _ _ (Below.refl _ _) rfl
           | 22,_,ho,hG,hK,hv=>
            obtain rfl:=sj ho
            have x116:act.tmps[116]?.getD undef=.int .i64 qh:=hv 20 116 rfl rfl
            have x117:act.tmps[117]?.getD undef=.int .i64 (k:Int):=hv 21 117 rfl rfl
            clear hv hwas
            go_simp
            refine (rhas_any qh (k:Int) hqs w').mono ?_
            rintro e w'' ⟨rfl,hb''⟩
            rw [hqk.out]
            exact hK _ _ hb'' rfl
           | 23,_,ho,hG,hK,hv=>
            obtain rfl:=sj ho
            clear hv hwas
            go_simp
            exact hK _ _ (Below.refl _ _) rfl
           | 24,_,ho,hG,hK,hv=>
            obtain rfl:=sj ho
            have x119:act.tmps[119]?.getD undef=.pointer (some ⟨b12,2,none⟩):=hv 23 119 rfl rfl
            clear hv hwas
            go_simp
            exact hK _ _ (Below.refl _ _) rfl
           | 25,_,ho,hG,hK,hv=>
            obtain rfl:=sj ho
            clear hv hwas
            go_simp
            exact hK _ _ (Below.refl _ _) rfl
           | 26,_,ho,hG,hK,hv=>
            obtain rfl:=sj ho
            have x120:act.tmps[120]?.getD undef=.int .i64 rh:=hv 24 120 rfl rfl
            have x121:act.tmps[121]?.getD undef=.int .i64 (k:Int):=hv 25 121 rfl rfl
            clear hv hwas
            go_simp
            refine (rhas_any rh (k:Int) hrs w').mono ?_
            rintro e w'' ⟨rfl,hb''⟩
            rw [hrk.out]
            exact hK _ _ hb'' rfl
           | 27,_,ho,hG,hK,hv=>
            obtain rfl:=sj ho
            have x118:act.tmps[118]?.getD undef=.bool hb8:=hv 22 118 rfl rfl
            have x122:act.tmps[122]?.getD undef=.bool hb8:=hv 26 122 rfl rfl
            clear hv hwas
            go_simp
            exact hK _ _ (Below.refl _ _) rfl
           | 28,_,ho,hG,hK,hv=>
            obtain rfl:=sj ho
            have x112:act.tmps[112]?.getD undef=.bool false:=hv 16 112 rfl rfl
            have x123:act.tmps[123]?.getD undef=.bool false:=hv 27 123 rfl rfl
            clear hv hwas
            go_simp
            exact hK _ _ (Below.refl _ _) rfl
           | 29,_,ho,hG,hK,hv=>
            obtain rfl:=sj ho
            have x100:act.tmps[100]?.getD undef=.bool true:=hv 4 100 rfl rfl
            have x124:act.tmps[124]?.getD undef=.bool false:=hv 28 124 rfl rfl
            clear hv hwas
            go_simp
            exact hK _ _ (Below.refl _ _) rfl
        ·obtain rfl:k=8:=by omega
         have Hh2:=Lib.hid (HL0.drop1 6)
         clear HL0 hrow4
         go_wp2_with fail
         go_roundw
         case rel=>exact ⟨k0+1,by omega,by go_num,by rw [← eA];exact Hh2.out⟩
         case measure=>simp [intOf];omega
     ·obtain rfl:k0=vr.length:=by omega
      have x0:=H.cell 0 0 rfl rfl;have x1:=H.cell 1 0 rfl rfl
      have Hh:=Lib.hid H
      clear H
      cases hn:nl with
      | true=>
       subst hn
       go_wp2_with fail
       go_ret
       exact ⟨rfl,Hh.out.bel⟩
      | false=>
       have hlen:kr.length=vr.length:=hstay.out hn
       have hle:((vr.length:Int)==(kr.length:Int))=true:=by rw [hlen];simp
       subst hn
       clear hlen
       go_wp2_with fail
       go_ret
       exact ⟨rfl,Hh.out.bel⟩
   ·intro qq op ho u vs act w' hJ hsh hli hd hv hwas K hK
    have hiq:qq<10:=lt_of_some ho
    have s5_:=hwas 5 rfl
    have s8_:=hwas 8 rfl
    simp at s5_ s8_
    match qq,hiq,ho,hli,hK with
    | 0,_,ho,hli,hK=>
     obtain rfl:=sj ho
     clear hv hwas
     go_simp
     exact hK _ _ (fun _=>rfl) hJ
    | 1,_,ho,hli,hK=>
     obtain rfl:=sj ho
     have x72:act.tmps[72]?.getD undef=.pointer (some ⟨g5,0,none⟩):=hv 0 72 rfl (rb hd rfl)
     have q0:=hJ.cell 3 0 rfl rfl;have q1:=hJ.cell 3 1 rfl rfl
     clear hv hwas
     go_simp
     exact hK _ _ (fun _=>rfl) hJ
    | 2,_,ho,hli,hK=>
     obtain rfl:=sj ho
     have x73:act.tmps[73]?.getD undef=.agg #[.slice s.A s.l.length s.c,.slice s.Ag vg.length s.cg]:=hv 1 73 rfl (rb hd rfl)
     have n8:=hsh.not (i:=8) (j:=2) (by rfl) hli
     have hbJ:=hJ.below
     clear hv hwas
     go_simp
     refine (hwl1'.out w' hbJ).mono ?_
     rintro e w9 ⟨v,C,rfl,hwv,H9⟩
     exact hK _ _ (fun h=>by cases h) (hJ.call1 (v:=v) (C:=C) hli n8 H9 hwv)
    | 3,_,ho,hli,hK=>
     obtain rfl:=sj ho
     clear hv hwas
     go_simp
     exact hK _ _ (fun _=>rfl) hJ
    | 4,_,ho,hli,hK=>
     obtain rfl:=sj ho
     have x75:act.tmps[75]?.getD undef=.pointer (some ⟨g8,0,none⟩):=hv 3 75 rfl (rb hd rfl)
     have q0:=hJ.cell 1 0 rfl rfl;have q1:=hJ.cell 1 1 rfl rfl
     clear hv hwas
     go_simp
     exact hK _ _ (fun _=>rfl) hJ
    | 5,_,ho,hli,hK=>
     obtain rfl:=sj ho
     have x76:act.tmps[76]?.getD undef=.agg #[.slice s'.A s'.l.length s'.c,.slice s'.Ag wg.length s'.cg]:=hv 4 76 rfl (rb hd rfl)
     have n9:=hsh.not (i:=9) (j:=5) (by rfl) hli
     have hbJ:=hJ.below
     clear hv hwas
     go_simp
     refine (hwl2'.out w' hbJ).mono ?_
     rintro e w9 ⟨v,C,rfl,hwv,H9⟩
     exact hK _ _ (fun h=>by cases h) (hJ.call2 (v:=v) (C:=C) hli n9 H9 hwv)
    | 6,_,ho,hli,hK=>
     obtain rfl:=sj ho
     have n8:=hsh.not (i:=8) (j:=6) (by rfl) hli
     clear hv hwas
     go_simp
     exact hK _ _ (fun h=>by cases h) (hJ.al1 hli n8)
    | 7,_,ho,hli,hK=>
     obtain rfl:=sj ho
     have n9:=hsh.not (i:=9) (j:=7) (by rfl) hli
     clear hv hwas
     go_simp
     exact hK _ _ (fun h=>by cases h) (hJ.al2 hli n9)
    | 8,_,ho,hli,hK=>
     obtain rfl:=sj ho
     have x15:act.tmps[15]?.getD undef=vs 6:=hv 6 15 rfl (rb hd rfl)
     have x74:act.tmps[74]?.getD undef=vs 2:=hv 2 74 rfl (rb hd rfl)
     have lA:u 6=true:=by simp [Region.binds] at hd;simp [hd]
     have lB:u 2=true:=by simp [Region.binds] at hd;simp [hd]
     obtain ⟨g1,v1,C1,hx,hy,⟨Av,cv,Agv,cgv,rfl,rfl⟩,hz,hfz,hQ⟩:=hJ.st1 lA lB hli
     rw [hx] at x15;rw [hy] at x74
     have z0:=hz 0 _ rfl;have z1:=hz 1 _ rfl
     have y0:=hfz 0;have y1:=hfz 1
     have hQ2:=hQ rfl
     clear hv hwas hz hfz hQ
     go_simp
     exact hK undef _ (fun _=>rfl) hQ2
    | 9,_,ho,hli,hK=>
     obtain rfl:=sj ho
     have x16:act.tmps[16]?.getD undef=vs 7:=hv 7 16 rfl (rb hd rfl)
     have x77:act.tmps[77]?.getD undef=vs 5:=hv 5 77 rfl (rb hd rfl)
     have lA:u 7=true:=by simp [Region.binds] at hd;simp [hd]
     have lB:u 5=true:=by simp [Region.binds] at hd;simp [hd]
     obtain ⟨g1,v1,C1,hx,hy,⟨Av,cv,Agv,cgv,rfl,rfl⟩,hz,hfz,hQ⟩:=hJ.st2 lA lB hli
     rw [hx] at x16;rw [hy] at x77
     have z0:=hz 0 _ rfl;have z1:=hz 1 _ rfl
     have y0:=hfz 0;have y1:=hfz 1
     have hQ2:=hQ rfl
     clear hv hwas hz hfz hQ
     go_simp
     exact hK undef _ (fun _=>rfl) hQ2
end Go.Proofs.YtefdblaolmckmacGreat
