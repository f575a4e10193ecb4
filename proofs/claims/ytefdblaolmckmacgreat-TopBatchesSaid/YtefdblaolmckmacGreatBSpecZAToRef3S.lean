/- Runs without life: row by row; in whatever order. The walk of run.All. -/
import Derived.Test.YtefdblaolmckmacGreatBRef2MToRunG
import Derived.Test.YtefdblaolmckmacGreatBRunA7ToRunR
set_option linter.unusedVariables false
set_option linter.unusedSimpArgs false
namespace Go.Proofs.YtefdblaolmckmacGreat
open Brood
def foldR (acts:List BAct) (r:BRow):BRow:=acts.foldl (fun q a=>actRow a q) r
def rowAct (x:BSys) (r:BRow):BRow:=if meetsB x.all x.non r.has then foldR x.acts r else r
theorem foldR_be:∀ (acts:List BAct) (r:BRow),(foldR acts r).idx=r.idx∧(foldR acts r).gen=r.gen
 | [],r=>⟨rfl,rfl⟩
 | a::l,r=>by
  have h:=foldR_be l (actRow a r)
  have h2:=actRow_idx a r
  exact ⟨h.1.trans h2.1,h.2.trans h2.2⟩
theorem isB_of {i g:Int} {q r:BRow} (h:q.idx=r.idx∧q.gen=r.gen):isB i g q=isB i g r:=by unfold isB;rw [h.1,h.2]
theorem rowOf_upd {i g:Int} {f:BRow→BRow} (hf:∀ r,(f r).idx=r.idx∧(f r).gen=r.gen) (j k:Int):∀ rows:List BRow,rowOf j k (updW i g f rows)=(rowOf j k rows).map fun r=>if isB i g r then f r else r
 | []=>rfl
 | r::l=>by
  have ih:=rowOf_upd (i:=i) (g:=g) hf j k l
  unfold rowOf updW at ih ⊢
  rw [List.map_cons,List.find?_cons,List.find?_cons]
  have e:isB j k (if isB i g r=true then f r else r)=isB j k r:=by
   split
   ·exact isB_of (hf r)
   ·rfl
  rw [e]
  cases isB j k r with
  | true=>rfl
  | false=>exact ih
def upd1 (i g:Int) (f:BRow→BRow) (q:BRow):BRow:=if isB i g q=true then f q else q
theorem upd1_pos {i g:Int} {f:BRow→BRow} {q:BRow} (h:isB i g q=true):upd1 i g f q=f q:=if_pos h
theorem upd1_neg {i g:Int} {f:BRow→BRow} {q:BRow} (h:isB i g q=false):upd1 i g f q=q:=if_neg (by rw [h];simp)
theorem upd1_upd1 {i g:Int} {f1 f2:BRow→BRow} (hf:∀ r,(f1 r).idx=r.idx∧(f1 r).gen=r.gen) (r:BRow):upd1 i g f2 (upd1 i g f1 r)=upd1 i g (fun r=>f2 (f1 r)) r:=by
 have e:=isB_of (i:=i) (g:=g) (hf r)
 cases h:isB i g r with
 | true=>rw [upd1_pos h,upd1_pos h,upd1_pos (e.trans h)]
 | false=>rw [upd1_neg h,upd1_neg h,upd1_neg h]
theorem upd_upd {i g:Int} {f1 f2:BRow→BRow} (hf:∀ r,(f1 r).idx=r.idx∧(f1 r).gen=r.gen) (rows:List BRow):updW i g f2 (updW i g f1 rows)=updW i g (fun r=>f2 (f1 r)) rows:=by
 show (rows.map (upd1 i g f1)).map (upd1 i g f2)=rows.map (upd1 i g fun r=>f2 (f1 r))
 rw [List.map_map]
 exact List.map_congr_left fun r _=>upd1_upd1 hf r
theorem upd_id {i g:Int} (rows:List BRow):updW i g (fun r=>r) rows=rows:=by
 unfold updW
 have:∀ q∈rows,(if isB i g q=true then q else q)=id q:=fun q _=>by split<;>rfl
 rw [List.map_congr_left this,List.map_id]
theorem acts_upd {i g:Int}:∀ {acts:List BAct} {W:BWorld},RightB W→(rowOf i g W.rows).isSome=true→(∀ a∈acts,okAct a∧a.kind≠6∧a.kind≠7) →
  RightB ⟨updW i g (foldR acts) W.rows,W.gens⟩∧actsM i g acts (W,0)=((⟨updW i g (foldR acts) W.rows,W.gens⟩,0),false)
 | [],W,hw,_,_=>by
  have e:updW i g (foldR []) W.rows=W.rows:=upd_id W.rows
  rw [e]
  exact ⟨hw,rfl⟩
 | a::l,W,hw,hb,ha=>by
  obtain ⟨r,hr⟩:=Option.isSome_iff_exists.1 hb
  obtain ⟨h0,h6,h7⟩:=ha a (by simp)
  have hs:=step_upd (W:=W) (g:=g) hw hr h0 h6 h7
  have hR:RightB ⟨updW i g (actRow a) W.rows,W.gens⟩:=by
   have:=step_right (W:=W) hw (i:=i) (g:=g) (a:=a) (by rw [hs])
   rwa [hs] at this
  have h1:oneM (W,0) i g a=(⟨updW i g (actRow a) W.rows,W.gens⟩,0):=by
   unfold oneM keepE
   rw [hs]
   rfl
  have ih:=acts_upd (i:=i) (g:=g) (acts:=l) (W:=⟨updW i g (actRow a) W.rows,W.gens⟩) hR (by rw [rowOf_upd (actRow_idx a),hr];rfl) (fun b hb=>ha b (by simp [hb]))
  have e:updW i g (foldR l) (updW i g (actRow a) W.rows)=updW i g (foldR (a::l)) W.rows:=upd_upd (actRow_idx a) W.rows
  dsimp only at ih
  rw [e] at ih
  rw [actsM,if_neg h6,h1,if_neg (by simp)]
  exact ih
def updL1 (acts:List BAct) (l:List BRow) (q:BRow):BRow:=if l.any (fun b=>isB b.idx b.gen q)=true then foldR acts q else q
def updL (acts:List BAct) (l:List BRow) (rows:List BRow):List BRow:=rows.map (updL1 acts l)
theorem updL1_pos {acts:List BAct} {l:List BRow} {q:BRow} (h:l.any (fun b=>isB b.idx b.gen q)=true):updL1 acts l q=foldR acts q:=if_pos h
theorem updL1_neg {acts:List BAct} {l:List BRow} {q:BRow} (h:l.any (fun b=>isB b.idx b.gen q)=false):updL1 acts l q=q:=if_neg (by rw [h];simp)
theorem bes_upd {acts:List BAct} (ha:∀ a∈acts,okAct a∧a.kind≠6∧a.kind≠7):∀ {l:List BRow} {W:BWorld},RightB W→(∀ b∈l,(rowOf b.idx b.gen W.rows).isSome=true)→l.Pairwise (fun a b=>a.idx<b.idx) →
  RightB ⟨updL acts l W.rows,W.gens⟩∧besM acts l (W,0)=((⟨updL acts l W.rows,W.gens⟩,0),false)
 | [],W,hw,_,_=>by
  have e:updL acts [] W.rows=W.rows:=by
   unfold updL
   have:∀ q∈W.rows,updL1 acts [] q=id q:=fun q _=>updL1_neg rfl
   rw [List.map_congr_left this,List.map_id]
  rw [e]
  exact ⟨hw,rfl⟩
 | b::l,W,hw,hb,hp=>by
  obtain ⟨hR,h1⟩:=acts_upd (i:=b.idx) (g:=b.gen) hw (hb b (by simp)) ha
  have hp':=List.pairwise_cons.1 hp
  have ih:=bes_upd ha (l:=l) hR (fun c hc=>by
   dsimp only
   rw [rowOf_upd (foldR_be acts),Option.isSome_map]
   exact hb c (by simp [hc])) hp'.2
  have e:updL acts l (updW b.idx b.gen (foldR acts) W.rows)=updL acts (b::l) W.rows:=by
   show (W.rows.map (upd1 b.idx b.gen (foldR acts))).map (updL1 acts l)=W.rows.map (updL1 acts (b::l))
   rw [List.map_map]
   refine List.map_congr_left fun q _=>?_
   show updL1 acts l (upd1 b.idx b.gen (foldR acts) q)=updL1 acts (b::l) q
   cases hq:isB b.idx b.gen q with
   | true=>
    have hn:l.any (fun c=>isB c.idx c.gen q)=false:=by
     rw [List.any_eq_false]
     intro c hc hcq
     have:=hp'.1 c hc
     have h1:=isB_iff.1 hq;have h2:=isB_iff.1 hcq
     omega
    have hn2:l.any (fun c=>isB c.idx c.gen (foldR acts q))=false:=by
     rw [← hn]
     congr 1
     funext c
     exact isB_of (foldR_be acts q)
    rw [upd1_pos hq,updL1_neg hn2,updL1_pos (by rw [List.any_cons,hq];rfl)]
   | false=>
    rw [upd1_neg hq]
    cases ha2:l.any (fun c=>isB c.idx c.gen q) with
    | true=>rw [updL1_pos ha2,updL1_pos (by rw [List.any_cons,ha2];simp)]
    | false=>rw [updL1_neg ha2,updL1_neg (by rw [List.any_cons,ha2,hq];rfl)]
  dsimp only at ih
  rw [e] at ih
  rw [besM,h1]
  exact ih
theorem kinds_of {x:BSys} (hx:(sysWrong x).1=0) (hl:(needs x).life=false):∀ a∈x.acts,okAct a∧a.kind≠6∧a.kind≠7:=by
 intro a ha
 have hA:=act_in ha
 refine ⟨okAct_of ((sysOk_of hx).acts a ha),fun h=>?_,fun h=>?_⟩
 ·rw [hA.life (.inl h)] at hl;cases hl
 ·rw [hA.life (.inr h)] at hl;cases hl
theorem asked_any {all non:Int} {W:BWorld} (hw:RightB W) {q:BRow} (hq:q∈W.rows):(matchV all non W.rows).any (fun b=>isB b.idx b.gen q)=meetsB all non q.has:=by
 cases hm:meetsB all non q.has with
 | true=>exact List.any_eq_true.2 ⟨q,asked_iff.2 ⟨hq,hm⟩,isB_iff.2 ⟨rfl,rfl⟩⟩
 | false=>
  rw [List.any_eq_false]
  intro b hb h
  have:=asked_one hw hb hq (isB_iff.1 h).1
  subst this
  rw [(asked_iff.1 hb).2] at hm
  cases hm
theorem run_rows {W:BWorld} {x:BSys} (hw:RightB W) (hx:(sysWrong x).1=0) (hl:(needs x).life=false):RightB ⟨W.rows.map (rowAct x),W.gens⟩∧runM W x=⟨W.rows.map (rowAct x),W.gens,0⟩:=by
 have h:=bes_upd (kinds_of hx hl) (l:=matchV x.all x.non W.rows) hw (fun b hb=>by
  rw [(rowOf_some_iff hw.rise).2 ⟨(asked_iff.1 hb).1,rfl,rfl⟩];rfl) (rise_pair.1 (rise_sub hw.rise List.filter_sublist))
 have e:updL x.acts (matchV x.all x.non W.rows) W.rows=W.rows.map (rowAct x):=by
  refine List.map_congr_left fun q hq=>?_
  have:=asked_any (all:=x.all) (non:=x.non) hw hq
  unfold rowAct
  cases hm:meetsB x.all x.non q.has with
  | true=>rw [updL1_pos (this.trans hm),if_pos rfl]
  | false=>rw [updL1_neg (this.trans hm),if_neg (by simp)]
 rw [e] at h
 refine ⟨h.1,?_⟩
 unfold runM
 rw [if_neg (by simpa using hx),h.2]
 rfl
def allM:Nat→BWorld→List BSys→BWorld×(Int×Int)
 | _,W,[]=>(W,(0,0))
 | i,W,x::l=>if (runM W x).err≠0 then (⟨[],[]⟩,((runM W x).err,(i:Int))) else allM (i+1) (bw (runM W x)) l
open Go.RowKit
open Brood
structure AllT where
 tabs:List BTab
 gens:List Int
 err:Int
 at_:Int
def allT (T:List BTab) (gens:List Int) (l:List BSys):AllT:=
 if (storeErr T gens).1≠0 then ⟨[],[],(storeErr T gens).1,0⟩
 else ⟨tabsW (allM 0 ⟨worldT T,gens⟩ l).1.rows,(allM 0 ⟨worldT T,gens⟩ l).1.gens,(allM 0 ⟨worldT T,gens⟩ l).2.1,(allM 0 ⟨worldT T,gens⟩ l).2.2⟩
theorem runT_right {rows:List BRow} {gens:List Int} (hw:RightW rows gens) (x:BSys):runT (tabsW rows) gens x=⟨tabsW (runM ⟨rows,gens⟩ x).rows,(runM ⟨rows,gens⟩ x).gens,(runM ⟨rows,gens⟩ x).err⟩:=by
 unfold runT
 rw [hw.store,if_neg (by simp),hw.worldT]
theorem allT_right {rows:List BRow} {gens:List Int} (hw:RightW rows gens) (l:List BSys):allT (tabsW rows) gens l=⟨tabsW (allM 0 ⟨rows,gens⟩ l).1.rows,(allM 0 ⟨rows,gens⟩ l).1.gens,(allM 0 ⟨rows,gens⟩ l).2.1,(allM 0 ⟨rows,gens⟩ l).2.2⟩:=by
 unfold allT
 rw [hw.store,if_neg (by simp),hw.worldT]
theorem allM_drop {l:List BSys} {k:Nat} (hk:k<l.length) (W:BWorld):allM k W (l.drop k)=if (runM W l[k]).err≠0 then (⟨[],[]⟩,((runM W l[k]).err,(k:Int))) else allM (k+1) (bw (runM W l[k])) (l.drop (k+1)):=by
 rw [List.drop_eq_getElem_cons hk,allM]
def allE3 (b:Nat) (A:Option Addr) (c:Nat) (l:List TabIn) (Ag:Option Addr) (cg:Nat) (gens:List Int):List Ent:=
 [.box b 27 [.slice A l.length c,.slice Ag gens.length cg],.box (b+1) 27 [.slice none 0 0,.slice none 0 0],.box (b+1+1) 34 [.int .i64 0,.int .i64 0]]++stE A c l Ag cg gens
set_option maxRecDepth 20000 in
set_option maxHeartbeats 12800000 in
theorem sall_any (l:List TabIn) (A:Option Addr) (c:Nat) (gens:List Int) (Ag:Option Addr) (cg:Nat) (hs:StSmall l gens) (xs:List SysIn) (xA:Option Addr) (xc:Nat) (hxl:xs.length≤9223372036854775807) (w:World) (hx:RdS w w.heap.size xA xs) (h:RdSt w w.heap.size ⟨A,c,l,Ag,cg,gens⟩) :
  Calls Tryz.prog 25 #[.agg #[.slice A l.length c,.slice Ag gens.length cg],.slice xA xs.length xc] w fun e w'=>
   ∃ v,e=.returned (.tuple #[v,.agg #[.int .i64 (allT (l.map tabOf) gens (sysOf xs)).err,.int .i64 (allT (l.map tabOf) gens (sysOf xs)).at_]])∧GotSt w w' v (allT (l.map tabOf) gens (sysOf xs)).tabs (allT (l.map tabOf) gens (sysOf xs)).gens:=by
 have hE0:Hid (allT (l.map tabOf) gens (sysOf xs)=if (storeErr (l.map tabOf) gens).1≠0 then ⟨[],[],(storeErr (l.map tabOf) gens).1,0⟩
  else ⟨tabsW (allM 0 ⟨worldT (l.map tabOf),gens⟩ (sysOf xs)).1.rows,(allM 0 ⟨worldT (l.map tabOf),gens⟩ (sysOf xs)).1.gens,(allM 0 ⟨worldT (l.map tabOf),gens⟩ (sysOf xs)).2.1,(allM 0 ⟨worldT (l.map tabOf),gens⟩ (sysOf xs)).2.2⟩):=Lib.hid rfl
 generalize allT (l.map tabOf) gens (sysOf xs)=E at *
 have hh:=Lib.hid h;have hsh:=Lib.hid hs;have hxh:=Lib.hid hx
 clear h hs hx
 have H0:=(((Hp.start w).new w.heap.size rfl 27 [.slice A l.length c,.slice Ag gens.length cg]).new (w.heap.size+1) (by simp) 27 [.slice none 0 0,.slice none 0 0]).new (w.heap.size+1+1) (by simp) 34 [.int .i64 0,.int .i64 0]
 replace H0:Hp w _ [stBox w.heap.size A l.length c Ag gens.length cg,.box (w.heap.size+1) 27 [.slice none 0 0,.slice none 0 0],.box (w.heap.size+1+1) 34 [.int .i64 0,.int .i64 0]]:=H0
 have a0:=H0.cell 0 0 rfl rfl;have a1:=H0.cell 0 1 rfl rfl
 go_enter Tryz.func25,Tryz.ntmps25
 go_wp2_with fail
 obtain ⟨w0,hw0,H0⟩:=H0.name
 rw [hw0];clear hw0 a0 a1
 have hg0:RdSt w0 w0.heap.size ⟨A,c,l,Ag,cg,gens⟩:=hh.out.hp H0
 refine (swrong_any l A c gens Ag cg hsh.out w0 hg0.tabs hg0.gen hg0.ng).mono ?_
 rintro e w1 ⟨rfl,hb1⟩
 replace H0:=H0.grow hb1
 clear hb1 hg0
 have hrt:Hid ((storeErr (l.map tabOf) gens).1=0→RightW (worldT (l.map tabOf)) gens∧l.map tabOf=tabsW (worldT (l.map tabOf))):=Lib.hid store_right
 generalize storeErr (l.map tabOf) gens=F at *
 obtain ⟨f1,f2⟩:=F
 have H2:=H0.new _ rfl 34 [.int .i64 f1,.int .i64 f2]
 simp only at hE0 hrt ⊢
 by_cases hf:f1=0
 case neg=>
  clear H0
  have hf':(f1 != 0)=true:=by simpa using hf
  have hE:Hid (E=⟨[],[],f1,0⟩):=Lib.hid (by rw [hE0.out,if_pos hf])
  clear hE0 hrt
  go_upto_region 3 with fail
  obtain ⟨w2,hw2,H2⟩:=H2.name
  rw [hw2];clear hw2
  have n13:=H2.ne 1 3 rfl rfl (by omega);have n23:=H2.ne 2 3 rfl rfl (by omega);have n31:=n13.symm;have n32:=n23.symm
  have q0:=H2.cell 1 0 rfl rfl;have q1:=H2.cell 1 1 rfl rfl;have q2:=H2.cell 2 0 rfl rfl;have q3:=H2.cell 2 1 rfl rfl
  have y0:=H2.frozen 1 0 rfl;have y1:=H2.frozen 1 1 rfl;have y2:=H2.frozen 2 0 rfl;have y3:=H2.frozen 2 1 rfl
  have c0:=H2.cell 3 0 rfl rfl
  have H4:=((((H2.set 1 0 (.slice none 0 0) rfl).set 1 1 (.slice none 0 0) rfl).set 2 0 (.int .i64 f1) rfl).set 2 1 (.int .i64 0) rfl).drew
  have H5:=((((H2.set 2 0 (.int .i64 f1) rfl).set 2 1 (.int .i64 0) rfl).set 1 0 (.slice none 0 0) rfl).set 1 1 (.slice none 0 0) rfl).drew
  have H4h:=Lib.hid H4;have H5h:=Lib.hid H5
  clear H4 H2 H5
  go_region_held3 (fun w'=>w'.cell? ⟨w1.heap.size,0,none⟩=some (.int .i64 f1)) (go_keep) (fail)
  all_goals go_wp2_with fail
  ·have H4:=H4h.out
   have p0:=H4.cell 1 0 rfl rfl;have p1:=H4.cell 1 1 rfl rfl;have p2:=H4.cell 2 0 rfl rfl;have p3:=H4.cell 2 1 rfl rfl
   refine bodyPost_ret (v:=.tuple #[.agg #[.slice none 0 0,.slice none 0 0],.agg #[.int .i64 f1,.int .i64 0]]) (by simp [results,Tryz.results25,go_sem,p0,p1,p2,p3]) rfl ⟨_,by rw [hE.out],by rw [hE.out];exact GotSt.zero H4.bel⟩
 case pos=>
  subst hf
  obtain ⟨hrw,hfit0⟩:=hrt.out rfl
  obtain ⟨R,hR⟩:∃ R,R=allM 0 ⟨worldT (l.map tabOf),gens⟩ (sysOf xs):=⟨_,rfl⟩
  have hE:Hid (E=⟨tabsW R.1.rows,R.1.gens,R.2.1,R.2.2⟩):=Lib.hid (by rw [hE0.out,if_neg (by simp),hR])
  clear hE0 hrt
  have hfit:=Lib.hid hfit0;have hRh:=Lib.hid hR
  clear hfit0 hR
  generalize hrows:worldT (l.map tabOf)=rows at *
  clear hrows
  have hrwh:=Lib.hid hrw
  clear hrw
  have s0:=H2.cell 0 0 rfl rfl;have s1:=H2.cell 0 1 rfl rfl
  go_wp2_with fail
  clear H0
  obtain ⟨w2,hw2,H2⟩:=H2.name
  rw [hw2];clear hw2 s0 s1
  have hg4:RdSt w2 w2.heap.size ⟨A,c,l,Ag,cg,gens⟩:=hh.out.hp H2
  refine (sown_any l A c gens Ag cg hsh.out w2 hg4).mono ?_
  rintro e w5 ⟨A2,c2,l2,Ag2,cg2,rfl,hl2,H5⟩
  have hfit2:Hid (l2.map tabOf=tabsW rows):=Lib.hid (hl2.trans hfit.out)
  replace H5:=(H2.join H5).drop1 3
  have y0:=H5.frozen 0 0 rfl;have y1:=H5.frozen 0 1 rfl;have q0:=H5.cell 0 0 rfl rfl;have q1:=H5.cell 0 1 rfl rfl
  replace H5:=(H5.set 0 0 (.slice A2 l2.length c2) rfl).set 0 1 (.slice Ag2 gens.length cg2) rfl
  replace H5:Hp w _ (allE3 w.heap.size A2 c2 l2 Ag2 cg2 gens):=H5
  have H5h:=Lib.hid H5
  clear H2 hg4 hl2 H5
  go_wp2_with fail
  go_loopw [24] (fun q wr=>∃ k:Nat,k≤xs.length∧q=.int .i64 k∧∃ (rs:List BRow) (gs:List Int) (A':Option Addr) (c':Nat) (l':List TabIn) (Ag':Option Addr) (cg':Nat),Hid (RightW rs gs∧l'.map tabOf=tabsW rs∧allM k ⟨rs,gs⟩ ((sysOf xs).drop k)=R)∧Hp w wr (allE3 w.heap.size A' c' l' Ag' cg' gs)) (fun q _=>xs.length-(intOf q).toNat)
  case atStart=>exact ⟨0,by omega,rfl,rows,gens,A2,c2,l2,Ag2,cg2,Lib.hid ⟨hrwh.out,hfit2.out,hRh.out.symm⟩,H5h.out⟩
  case round=>
   clear H5h hfit2 hRh hfit y0 y1 q0 q1
   obtain ⟨k,hk,rfl,rs,gs,A',c',l',Ag',cg',hS,H⟩:=hrel
   have q0:=H.cell 0 0 rfl rfl;have q1:=H.cell 0 1 rfl rfl
   by_cases hlt:k<xs.length
   ·obtain ⟨b1,off,hA,hb1,e0,e1,e2,e3⟩:=(hxh.out.under H.bel (Nat.le_refl _)).at_ hlt
    have hact:=hxh.out.acts _ (List.getElem_mem hlt)
    have hsd:Hid ((if (runM ⟨rs,gs⟩ xs[k].s).err≠0 then (⟨[],[]⟩,((runM ⟨rs,gs⟩ xs[k].s).err,(k:Int))) else allM (k+1) (bw (runM ⟨rs,gs⟩ xs[k].s)) ((sysOf xs).drop (k+1)))=R):=Lib.hid (by
     have h1:=hS.out.2.2
     rw [allM_drop (by rw [sysOf_length];exact hlt)] at h1
     simpa only [sysOf,List.getElem_map] using h1)
    have hS2:=Lib.hid (And.intro hS.out.1 hS.out.2.1)
    generalize xs[k]=X at *
    obtain ⟨s,sA,sc⟩:=X
    subst hA
    dsimp only at e0 e1 e2 e3 hact hsd
    have H1:=H.new wr.heap.size rfl 51 [.int .i64 s.mod,.int .i64 s.all,.int .i64 s.non,.slice sA s.acts.length sc]
    have i0:(0:Int)≤(k:Int):=by omega
    have i1:(k:Int)<(xs.length:Int):=by omega
    have lt0:=H.lt 0 rfl
    have hacth:=Lib.hid hact
    clear hS H hact
    go_wp2_with fail
    obtain ⟨w6,hw6,H6⟩:=H1.name
    rw [hw6];clear hw6 H1 q0 q1 e0 e1 e2 e3 lt0
    have hR6:RdSt w6 w6.heap.size ⟨A',c',l',Ag',cg',gs⟩:=H6.stRd (fun p hp=>by unfold allE3;simp [hp])
    have hrun:=srun_any l' A' c' gs Ag' cg' (right_small hS2.out.1 hS2.out.2) s sA sc w6 (Rd.more (Rd.under hacth.out H6.bel (Nat.le_refl _)) H6.bel.size) hR6
    rw [hS2.out.2,runT_right hS2.out.1] at hrun
    refine hrun.mono ?_
    have hrr:=Lib.hid (fun h=>runM_right (W:=⟨rs,gs⟩) (x:=s) h hS2.out.1)
    generalize runM ⟨rs,gs⟩ s=X at *
    obtain ⟨xr,xg,xe⟩:=X
    rintro e w7 ⟨v,rfl,A3,c3,l3,Ag3,cg3,rfl,hl3,HN⟩
    dsimp only at hl3 HN hsd hrr ⊢
    have H7:=H6.elder.join HN
    have hl3h:=Lib.hid hl3
    clear hrun HN H6 hR6 hl3
    by_cases he:xe=0
    ·subst he
     have hnx:Hid (allM (k+1) ⟨xr,xg⟩ ((sysOf xs).drop (k+1))=R):=Lib.hid (by
      have h1:=hsd.out
      rw [if_neg (by simp)] at h1
      exact h1)
     have hrw2:=Lib.hid (hrr.out rfl)
     have H8:=H7
     have y0:=H8.frozen 0 0 rfl;have y1:=H8.frozen 0 1 rfl;have z0:=H8.cell 0 0 rfl rfl;have z1:=H8.cell 0 1 rfl rfl
     have lt0:=H8.lt 0 rfl
     have H9:Hp w ((w7.setCell ⟨w.heap.size,0,none⟩ (.slice A3 l3.length c3)).setCell ⟨w.heap.size,1,none⟩ (.slice Ag3 xg.length cg3)) ([.box w.heap.size 27 [.slice A3 l3.length c3,.slice Ag3 xg.length cg3],.box (w.heap.size+1) 27 [.slice none 0 0,.slice none 0 0],.box (w.heap.size+1+1) 34 [.int .i64 0,.int .i64 0]]++(stE A' c' l' Ag' cg' gs++[])++stE A3 c3 l3 Ag3 cg3 xg):=by
      rw [List.append_nil]
      exact (H8.set 0 0 (.slice A3 l3.length c3) rfl).set 0 1 (.slice Ag3 xg.length cg3) rfl
     have H10:=Hp.newer H9
     rw [List.append_nil] at H10
     have H11:=Lib.hid (H10.alloc (.cells #[.slice A3 l3.length c3,.slice Ag3 xg.length cg3] 27))
     clear hsd hrr H7 H8 H9 H10
     go_wp2_with fail
     go_roundw
     case rel=>exact ⟨k+1,by omega,by go_num,xr,xg,A3,c3,l3,Ag3,cg3,Lib.hid ⟨hrw2.out,hl3h.out,hnx.out⟩,H11.out⟩
     case measure=>simp [intOf];omega
    ·have he':(xe != 0)=true:=by simpa using he
     have hE3:Hid (E=⟨[],[],xe,(k:Int)⟩):=Lib.hid (by
      have h1:=hsd.out
      rw [if_pos he] at h1
      rw [hE.out,← h1]
      rfl)
     have H8:=H7
     have y0:=H8.frozen 1 0 rfl;have y1:=H8.frozen 1 1 rfl;have z0:=H8.cell 1 0 rfl rfl;have z1:=H8.cell 1 1 rfl rfl
     have y2:=H8.frozen 2 0 rfl;have y3:=H8.frozen 2 1 rfl;have z2:=H8.cell 2 0 rfl rfl;have z3:=H8.cell 2 1 rfl rfl
     have lt1:=H8.lt 1 rfl;have lt2:=H8.lt 2 rfl
     have H9:=((((H8.set 1 0 (.slice none 0 0) rfl).set 1 1 (.slice none 0 0) rfl).set 2 0 (.int .i64 xe) rfl).set 2 1 (.int .i64 (k:Int)) rfl).alloc (.cells #[.slice A3 l3.length c3,.slice Ag3 xg.length cg3] 27)
     have p0:=H9.cell 1 0 rfl rfl;have p1:=H9.cell 1 1 rfl rfl;have p2:=H9.cell 2 0 rfl rfl;have p3:=H9.cell 2 1 rfl rfl
     have H9h:=Lib.hid H9
     clear hsd hrr H7 H8 H9 hE he
     go_wp2_with fail
     refine bodyPost_ret (v:=.tuple #[.agg #[.slice none 0 0,.slice none 0 0],.agg #[.int .i64 xe,.int .i64 (k:Int)]]) (by simp [results,Tryz.results25,go_sem,p0,p1,p2,p3]) rfl ⟨_,by rw [hE3.out],by rw [hE3.out];exact GotSt.zero H9h.out.bel⟩
   ·obtain rfl:k=xs.length:=by omega
    have hE3:Hid (E=⟨tabsW rs,gs,0,0⟩):=Lib.hid (by
     have h1:=hS.out.2.2
     rw [List.drop_of_length_le (by rw [sysOf_length];omega)] at h1
     rw [hE.out,← h1]
     rfl)
    have hl4h:Hid (l'.map tabOf=tabsW rs):=Lib.hid hS.out.2.1
    clear hE hS
    have y0:=H.frozen 1 0 rfl;have y1:=H.frozen 1 1 rfl;have z0:=H.cell 1 0 rfl rfl;have z1:=H.cell 1 1 rfl rfl
    have y2:=H.frozen 2 0 rfl;have y3:=H.frozen 2 1 rfl;have z2:=H.cell 2 0 rfl rfl;have z3:=H.cell 2 1 rfl rfl
    have H9:=(((H.set 1 0 (.slice A' l'.length c') rfl).set 1 1 (.slice Ag' gs.length cg') rfl).set 2 0 (.int .i64 0) rfl).set 2 1 (.int .i64 0) rfl
    have p0:=H9.cell 1 0 rfl rfl;have p1:=H9.cell 1 1 rfl rfl;have p2:=H9.cell 2 0 rfl rfl;have p3:=H9.cell 2 1 rfl rfl
    have H9h:=Lib.hid H9
    clear H H9
    go_wp2_with fail
    refine bodyPost_ret (v:=.tuple #[.agg #[.slice A' l'.length c',.slice Ag' gs.length cg'],.agg #[.int .i64 0,.int .i64 0]]) (by simp [results,Tryz.results25,go_sem,p0,p1,p2,p3]) rfl ⟨_,by rw [hE3.out],by rw [hE3.out];exact ⟨A',c',l',Ag',cg',rfl,hl4h.out,((H9h.out.drop1 2).drop1 1).drop1 0⟩⟩
end Go.Proofs.YtefdblaolmckmacGreat
