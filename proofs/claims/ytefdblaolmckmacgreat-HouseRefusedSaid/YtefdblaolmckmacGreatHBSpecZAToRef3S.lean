/- Lemmas of the proof. -/
import Derived.Test.YtefdblaolmckmacGreatHBRef2MToRunG
import Derived.Test.YtefdblaolmckmacGreatHBRunA7ToRunR
import Derived.Test.YtefdblaolmckmacGreatHBSpecVToStoA
import Derived.Test.YtefdblaolmckmacGreatHBStoBToKg
import Derived.Test.YtefdblaolmckmacGreatHBSortTRToStoO
import Derived.Test.YtefdblaolmckmacGreatHBSpecOToSpecR
import Derived.Test.YtefdblaolmckmacGreatHBRowToInv
set_option linter.unusedVariables false
set_option linter.unusedSimpArgs false
set_option maxRecDepth 100000
set_option maxHeartbeats 12800000
namespace Go.Proofs.YtefdblaolmckmacGreat
open Brood
def foldR (acts:List BAct) (r:BRow):BRow:=acts.foldl (fun q a=>actRow a q) r
def rowAct (x:BSys) (r:BRow):BRow:=if meetsB x.all x.non r.has then foldR x.acts r else r
theorem foldR_be:∀ (acts:List BAct) (r:BRow),(foldR acts r).idx=r.idx∧(foldR acts r).gen=r.gen
 | [],r=>⟨rfl,rfl⟩
 | a::l,r=>by
  have h:=foldR_be l (actRow a r)
  have h2:=actRow_idx a r
  exact ⟨h.1.trans h2.1,h.2.trans h2.2⟩
theorem isB_of {i g:Int} {q r:BRow} (h:q.idx=r.idx∧q.gen=r.gen):isB i g q=isB i g r:=by unfold isB;rw [h.1,h.2]
theorem rowOf_upd {i g:Int} {f:BRow→BRow} (hf:∀ r,(f r).idx=r.idx∧(f r).gen=r.gen) (j k:Int):∀ rows:List BRow,rowOf j k (updW i g f rows)=(rowOf j k rows).map fun r=>if isB i g r then f r else r
 | []=>rfl
 | r::l=>by
  have ih:=rowOf_upd (i:=i) (g:=g) hf j k l
  unfold rowOf updW at ih ⊢
  rw [List.map_cons,List.find?_cons,List.find?_cons]
  have e:isB j k (if isB i g r=true then f r else r)=isB j k r:=by
   split
   ·exact isB_of (hf r)
   ·rfl
  rw [e]
  cases isB j k r with
  | true=>rfl
  | false=>exact ih
def upd1 (i g:Int) (f:BRow→BRow) (q:BRow):BRow:=if isB i g q=true then f q else q
theorem upd1_pos {i g:Int} {f:BRow→BRow} {q:BRow} (h:isB i g q=true):upd1 i g f q=f q:=if_pos h
theorem upd1_neg {i g:Int} {f:BRow→BRow} {q:BRow} (h:isB i g q=false):upd1 i g f q=q:=if_neg (by rw [h];simp)
theorem upd1_upd1 {i g:Int} {f1 f2:BRow→BRow} (hf:∀ r,(f1 r).idx=r.idx∧(f1 r).gen=r.gen) (r:BRow):upd1 i g f2 (upd1 i g f1 r)=upd1 i g (fun r=>f2 (f1 r)) r:=by
 have e:=isB_of (i:=i) (g:=g) (hf r)
 cases h:isB i g r with
 | true=>rw [upd1_pos h,upd1_pos h,upd1_pos (e.trans h)]
 | false=>rw [upd1_neg h,upd1_neg h,upd1_neg h]
theorem upd_upd {i g:Int} {f1 f2:BRow→BRow} (hf:∀ r,(f1 r).idx=r.idx∧(f1 r).gen=r.gen) (rows:List BRow):updW i g f2 (updW i g f1 rows)=updW i g (fun r=>f2 (f1 r)) rows:=by
 show (rows.map (upd1 i g f1)).map (upd1 i g f2)=rows.map (upd1 i g fun r=>f2 (f1 r))
 rw [List.map_map]
 exact List.map_congr_left fun r _=>upd1_upd1 hf r
theorem upd_id {i g:Int} (rows:List BRow):updW i g (fun r=>r) rows=rows:=by
 unfold updW
 have:∀ q∈rows,(if isB i g q=true then q else q)=id q:=fun q _=>by split<;>rfl
 rw [List.map_congr_left this,List.map_id]
theorem acts_upd {i g:Int}:∀ {acts:List BAct} {W:BWorld},RightB W→(rowOf i g W.rows).isSome=true→(∀ a∈acts,okAct a∧a.kind≠6∧a.kind≠7) →
  RightB ⟨updW i g (foldR acts) W.rows,W.gens⟩∧actsM i g acts (W,0)=((⟨updW i g (foldR acts) W.rows,W.gens⟩,0),false)
 | [],W,hw,_,_=>by
  have e:updW i g (foldR []) W.rows=W.rows:=upd_id W.rows
  rw [e]
  exact ⟨hw,rfl⟩
 | a::l,W,hw,hb,ha=>by
  obtain ⟨r,hr⟩:=Option.isSome_iff_exists.1 hb
  obtain ⟨h0,h6,h7⟩:=ha a (by simp)
  have hs:=step_upd (W:=W) (g:=g) hw hr h0 h6 h7
  have hR:RightB ⟨updW i g (actRow a) W.rows,W.gens⟩:=by
   have:=step_right (W:=W) hw (i:=i) (g:=g) (a:=a) (by rw [hs])
   rwa [hs] at this
  have h1:oneM (W,0) i g a=(⟨updW i g (actRow a) W.rows,W.gens⟩,0):=by
   unfold oneM keepE
   rw [hs]
   rfl
  have ih:=acts_upd (i:=i) (g:=g) (acts:=l) (W:=⟨updW i g (actRow a) W.rows,W.gens⟩) hR (by rw [rowOf_upd (actRow_idx a),hr];rfl) (fun b hb=>ha b (by simp [hb]))
  have e:updW i g (foldR l) (updW i g (actRow a) W.rows)=updW i g (foldR (a::l)) W.rows:=upd_upd (actRow_idx a) W.rows
  dsimp only at ih
  rw [e] at ih
  rw [actsM,if_neg h6,h1,if_neg (by simp)]
  exact ih
def updL1 (acts:List BAct) (l:List BRow) (q:BRow):BRow:=if l.any (fun b=>isB b.idx b.gen q)=true then foldR acts q else q
def updL (acts:List BAct) (l:List BRow) (rows:List BRow):List BRow:=rows.map (updL1 acts l)
theorem updL1_pos {acts:List BAct} {l:List BRow} {q:BRow} (h:l.any (fun b=>isB b.idx b.gen q)=true):updL1 acts l q=foldR acts q:=if_pos h
theorem updL1_neg {acts:List BAct} {l:List BRow} {q:BRow} (h:l.any (fun b=>isB b.idx b.gen q)=false):updL1 acts l q=q:=if_neg (by rw [h];simp)
theorem bes_upd {acts:List BAct} (ha:∀ a∈acts,okAct a∧a.kind≠6∧a.kind≠7):∀ {l:List BRow} {W:BWorld},RightB W→(∀ b∈l,(rowOf b.idx b.gen W.rows).isSome=true)→l.Pairwise (fun a b=>a.idx<b.idx) →
  RightB ⟨updL acts l W.rows,W.gens⟩∧besM acts l (W,0)=((⟨updL acts l W.rows,W.gens⟩,0),false)
 | [],W,hw,_,_=>by
  have e:updL acts [] W.rows=W.rows:=by
   unfold updL
   have:∀ q∈W.rows,updL1 acts [] q=id q:=fun q _=>updL1_neg rfl
   rw [List.map_congr_left this,List.map_id]
  rw [e]
  exact ⟨hw,rfl⟩
 | b::l,W,hw,hb,hp=>by
  obtain ⟨hR,h1⟩:=acts_upd (i:=b.idx) (g:=b.gen) hw (hb b (by simp)) ha
  have hp':=List.pairwise_cons.1 hp
  have ih:=bes_upd ha (l:=l) hR (fun c hc=>by
   dsimp only
   rw [rowOf_upd (foldR_be acts),Option.isSome_map]
   exact hb c (by simp [hc])) hp'.2
  have e:updL acts l (updW b.idx b.gen (foldR acts) W.rows)=updL acts (b::l) W.rows:=by
   show (W.rows.map (upd1 b.idx b.gen (foldR acts))).map (updL1 acts l)=W.rows.map (updL1 acts (b::l))
   rw [List.map_map]
   refine List.map_congr_left fun q _=>?_
   show updL1 acts l (upd1 b.idx b.gen (foldR acts) q)=updL1 acts (b::l) q
   cases hq:isB b.idx b.gen q with
   | true=>
    have hn:l.any (fun c=>isB c.idx c.gen q)=false:=by
     rw [List.any_eq_false]
     intro c hc hcq
     have:=hp'.1 c hc
     have h1:=isB_iff.1 hq;have h2:=isB_iff.1 hcq
     omega
    have hn2:l.any (fun c=>isB c.idx c.gen (foldR acts q))=false:=by
     rw [← hn]
     congr 1
     funext c
     exact isB_of (foldR_be acts q)
    rw [upd1_pos hq,updL1_neg hn2,updL1_pos (by rw [List.any_cons,hq];rfl)]
   | false=>
    rw [upd1_neg hq]
    cases ha2:l.any (fun c=>isB c.idx c.gen q) with
    | true=>rw [updL1_pos ha2,updL1_pos (by rw [List.any_cons,ha2];simp)]
    | false=>rw [updL1_neg ha2,updL1_neg (by rw [List.any_cons,ha2,hq];rfl)]
  dsimp only at ih
  rw [e] at ih
  rw [besM,h1]
  exact ih
theorem kinds_of {x:BSys} (hx:(sysWrong x).1=0) (hl:(needs x).life=false):∀ a∈x.acts,okAct a∧a.kind≠6∧a.kind≠7:=by
 intro a ha
 have hA:=act_in ha
 refine ⟨okAct_of ((sysOk_of hx).acts a ha),fun h=>?_,fun h=>?_⟩
 ·rw [hA.life (.inl h)] at hl;cases hl
 ·rw [hA.life (.inr h)] at hl;cases hl
theorem asked_any {all non:Int} {W:BWorld} (hw:RightB W) {q:BRow} (hq:q∈W.rows):(matchV all non W.rows).any (fun b=>isB b.idx b.gen q)=meetsB all non q.has:=by
 cases hm:meetsB all non q.has with
 | true=>exact List.any_eq_true.2 ⟨q,asked_iff.2 ⟨hq,hm⟩,isB_iff.2 ⟨rfl,rfl⟩⟩
 | false=>
  rw [List.any_eq_false]
  intro b hb h
  have:=asked_one hw hb hq (isB_iff.1 h).1
  subst this
  rw [(asked_iff.1 hb).2] at hm
  cases hm
theorem run_rows {W:BWorld} {x:BSys} (hw:RightB W) (hx:(sysWrong x).1=0) (hl:(needs x).life=false):RightB ⟨W.rows.map (rowAct x),W.gens⟩∧runM W x=⟨W.rows.map (rowAct x),W.gens,0⟩:=by
 have h:=bes_upd (kinds_of hx hl) (l:=matchV x.all x.non W.rows) hw (fun b hb=>by
  rw [(rowOf_some_iff hw.rise).2 ⟨(asked_iff.1 hb).1,rfl,rfl⟩];rfl) (rise_pair.1 (rise_sub hw.rise List.filter_sublist))
 have e:updL x.acts (matchV x.all x.non W.rows) W.rows=W.rows.map (rowAct x):=by
  refine List.map_congr_left fun q hq=>?_
  have:=asked_any (all:=x.all) (non:=x.non) hw hq
  unfold rowAct
  cases hm:meetsB x.all x.non q.has with
  | true=>rw [updL1_pos (this.trans hm),if_pos rfl]
  | false=>rw [updL1_neg (this.trans hm),if_neg (by simp)]
 rw [e] at h
 refine ⟨h.1,?_⟩
 unfold runM
 rw [if_neg (by simpa using hx),h.2]
 rfl
structure Apart (a b:BAct):Prop where
 part:a.part≠b.part
 ab:isFrom a=true→a.src≠b.part
 ba:isFrom b=true→b.src≠a.part
theorem Apart.symm {a b:BAct} (h:Apart a b):Apart b a:=⟨h.part.symm,h.ba,h.ab⟩
structure Quiet (r:BRow) (a:BAct):Prop where
 ok:okAct a
 n5:a.kind≠5
 n6:a.kind≠6
 n7:a.kind≠7
 has:hasB r.has a.part=true
theorem Quiet.part {r:BRow} {a:BAct} (h:Quiet r a):isPart a.part=true:=has_part h.has
theorem quiet_row {r:BRow} {a:BAct} (hr:isSet r.has=true) (h:Quiet r a):(actRow a r).has=r.has∧(actRow a r).vals=r.vals.set a.part.toNat (clip (amountR a r)):=by
 unfold actRow
 rw [if_neg h.n5]
 unfold putF
 rw [h.part,clip_val]
 exact ⟨with_same hr h.has,rfl⟩
theorem amount_other {r q:BRow} {a b:BAct} (hb:isPart b.part=true) (h:Apart a b) (ha:okAct a) (n6:a.kind≠6) (n7:a.kind≠7) {z:Int} (hv:q.vals=r.vals.set b.part.toNat z):amountR a q=amountR a r:=by
 have hp:isPart a.part=true:=by
  rcases ha with h | ⟨h,_⟩ | ⟨_,h,_⟩
  ·exact absurd h n6
  ·exact absurd h n7
  ·exact h
 have hs:isFrom a=true→isPart a.src=true:=by
  intro hf
  rcases ha with h | ⟨h,_⟩ | ⟨_,_,h,_⟩
  ·exact absurd h n6
  ·exact absurd h n7
  ·exact h hf
 have key:∀ k:Int,isPart k=true→k≠b.part→q.vals.getD k.toNat 0=r.vals.getD k.toNat 0:=by
  intro k hk hne
  rw [isPart_iff] at hk hb
  rw [hv]
  simp only [List.getD_eq_getElem?_getD]
  rw [List.getElem?_set_ne (by omega)]
 unfold amountR
 split
 ·rename_i h2
  have hf:isFrom a=true:=by simp [isFrom,h2]
  exact key _ (hs hf) (h.ab hf)
 ·split
  ·rename_i h2
   have hf:isFrom a=true:=by simp [isFrom,h2]
   rw [key _ (hs hf) (h.ab hf),key _ hp h.part]
  ·split
   ·rw [key _ hp h.part]
   ·rfl
theorem act_comm {r:BRow} {a b:BAct} (hr:isSet r.has=true) (ha:Quiet r a) (hb:Quiet r b) (h:Apart a b):actRow a (actRow b r)=actRow b (actRow a r):=by
 have qa:=quiet_row hr ha;have qb:=quiet_row hr hb
 have ha':Quiet (actRow b r) a:=⟨ha.ok,ha.n5,ha.n6,ha.n7,by rw [qb.1];exact ha.has⟩
 have hb':Quiet (actRow a r) b:=⟨hb.ok,hb.n5,hb.n6,hb.n7,by rw [qa.1];exact hb.has⟩
 have qab:=quiet_row (by rw [qb.1];exact hr) ha'
 have qba:=quiet_row (by rw [qa.1];exact hr) hb'
 have ea:=amount_other hb.part h ha.ok ha.n6 ha.n7 qb.2
 have eb:=amount_other ha.part h.symm hb.ok hb.n6 hb.n7 qa.2
 have hpa:=isPart_iff.1 ha.part;have hpb:=isPart_iff.1 hb.part
 have hne:=h.part
 refine brow_ext ?_ ?_ ?_ ?_
 ·rw [(actRow_idx a _).1,(actRow_idx b _).1,(actRow_idx b _).1,(actRow_idx a _).1]
 ·rw [(actRow_idx a _).2,(actRow_idx b _).2,(actRow_idx b _).2,(actRow_idx a _).2]
 ·rw [qab.1,qba.1,qa.1,qb.1]
 ·intro j hj
  rw [qab.2,qba.2,ea,eb,qa.2,qb.2,List.set_comm _ _ (by omega)]
theorem quiet_fold {r:BRow}:∀ {l:List BAct} (hr:isSet r.has=true),(∀ a∈l,Quiet r a)→(foldR l r).has=r.has
 | [],_,_=>rfl
 | a::l,hr,h=>by
  have q:=quiet_row hr (h a (by simp))
  have ih:=quiet_fold (r:=actRow a r) (l:=l) (by rw [q.1];exact hr) (fun b hb=>by
   have:=h b (by simp [hb])
   exact ⟨this.ok,this.n5,this.n6,this.n7,by rw [q.1];exact this.has⟩)
  exact ih.trans q.1
theorem Quiet.of {r q:BRow} {a:BAct} (h:Quiet r a) (e:q.has=r.has):Quiet q a:=⟨h.ok,h.n5,h.n6,h.n7,by rw [e];exact h.has⟩
theorem act_fold {a:BAct}:∀ {l:List BAct} {r:BRow},isSet r.has=true→Quiet r a→(∀ b∈l,Quiet r b∧Apart a b)→actRow a (foldR l r)=foldR l (actRow a r)
 | [],_,_,_,_=>rfl
 | b::l,r,hr,ha,h=>by
  obtain ⟨hb,hab⟩:=h b (by simp)
  have q:=quiet_row hr hb
  have ih:=act_fold (a:=a) (l:=l) (r:=actRow b r) (by rw [q.1];exact hr) (ha.of q.1) (fun c hc=>⟨(h c (by simp [hc])).1.of q.1,(h c (by simp [hc])).2⟩)
  show actRow a (foldR l (actRow b r))=foldR l (actRow b (actRow a r))
  rw [ih,act_comm hr ha hb hab]
theorem fold_comm {m:List BAct}:∀ {l:List BAct} {r:BRow},isSet r.has=true→(∀ a∈l,Quiet r a)→(∀ b∈m,Quiet r b)→(∀ a∈l,∀ b∈m,Apart a b)→foldR l (foldR m r)=foldR m (foldR l r)
 | [],_,_,_,_,_=>rfl
 | a::l,r,hr,hl,hm,h=>by
  have q:=quiet_row hr (hl a (by simp))
  have e:=act_fold (a:=a) (l:=m) hr (hl a (by simp)) (fun b hb=>⟨hm b hb,h a (by simp) b hb⟩)
  show foldR l (actRow a (foldR m r))=foldR m (foldR l (actRow a r))
  rw [e]
  exact fold_comm (by rw [q.1];exact hr) (fun b hb=>(hl b (by simp [hb])).of q.1) (fun b hb=>(hm b hb).of q.1) (fun b hb=>h b (by simp [hb]))
theorem meet_of {s t k:Int} (h1:hasB s k=true) (h2:hasB t k=true):meetS s t=true:=by
 unfold hasB at h1 h2
 rw [Bool.and_eq_true] at h1 h2
 unfold meetS
 cases h:(s.toNat &&& t.toNat==0) with
 | false=>rfl
 | true=>
  have:=congrArg (fun n=>n.testBit k.toNat) (eq_of_beq h)
  simp only [Nat.testBit_and,Nat.zero_testBit] at this
  rw [h1.2,h2.2] at this
  cases this
structure NoClash (x y:BSys):Prop where
 mx:(needs x).moves=false
 my:(needs y).moves=false
 lx:(needs x).life=false
 ly:(needs y).life=false
 w:∀ k,hasB (needs x).writes k=true→hasB (needs y).reads k=false∧hasB (needs y).writes k=false
 v:∀ k,hasB (needs y).writes k=true→hasB (needs x).reads k=false
theorem noClash {x y:BSys} (h:clash x y=false):NoClash x y:=by
 unfold clash clashN at h
 simp only [Bool.or_eq_false_iff] at h
 obtain ⟨⟨⟨⟨⟨h1,h2⟩,h3⟩,h4⟩,h5⟩,h6⟩:=h
 refine ⟨h1,h2,h3,h4,fun k hk=>?_,fun k hk=>?_⟩
 ·have:hasB (orS (needs y).reads (needs y).writes) k=false:=by
   cases he:hasB (orS (needs y).reads (needs y).writes) k with
   | false=>rfl
   | true=>rw [meet_of hk he] at h5;cases h5
  rw [has_or,Bool.or_eq_false_iff] at this
  exact this
 ·cases he:hasB (needs x).reads k with
  | false=>rfl
  | true=>rw [meet_of hk he] at h6;cases h6
theorem quiet_in {x:BSys} (hx:(sysWrong x).1=0) (hm:(needs x).moves=false) (hl:(needs x).life=false) {r:BRow} (hr:meetsB x.all x.non r.has=true):∀ a∈x.acts,Quiet r a:=by
 intro a ha
 obtain ⟨h0,h6,h7⟩:=kinds_of hx hl a ha
 have hmv:=(act_in ha).moves h6 h7 hm
 exact ⟨h0,hmv.1,h6,h7,meets_all hr hmv.2⟩
theorem apart_in {x y:BSys} (hx:(sysWrong x).1=0) (hy:(sysWrong y).1=0) (hc:NoClash x y):∀ a∈x.acts,∀ b∈y.acts,Apart a b:=by
 intro a ha b hb
 obtain ⟨h0,h6,h7⟩:=kinds_of hx hc.lx a ha
 obtain ⟨k0,k6,k7⟩:=kinds_of hy hc.ly b hb
 have hp:∀ {a:BAct},okAct a→a.kind≠6→a.kind≠7→isPart a.part=true∧(isFrom a=true→isPart a.src=true):=by
  intro a h n6 n7
  rcases h with h | ⟨h,_⟩ | ⟨_,h1,h2,_⟩
  ·exact absurd h n6
  ·exact absurd h n7
  ·exact ⟨h1,h2⟩
 have pa:=hp h0 h6 h7;have pb:=hp k0 k6 k7
 have wa:=(act_in ha).writes h6 h7 pa.1
 have wb:=(act_in hb).writes k6 k7 pb.1
 refine ⟨fun e=>?_,fun hf e=>?_,fun hf e=>?_⟩
 ·have:=(hc.w _ wa).2
  rw [e,wb] at this;cases this
 ·have:=hc.v _ wb
  rw [← e,(act_in ha).from_ hf (pa.2 hf)] at this;cases this
 ·have:=(hc.w _ wa).1
  rw [← e,(act_in hb).from_ hf (pb.2 hf)] at this;cases this
theorem rowAct_has {x:BSys} (hx:(sysWrong x).1=0) (hm:(needs x).moves=false) (hl:(needs x).life=false) {r:BRow} (hr:isSet r.has=true):(rowAct x r).has=r.has:=by
 unfold rowAct
 split
 ·rename_i h;exact quiet_fold hr (quiet_in hx hm hl h)
 ·rfl
theorem rowAct_comm {x y:BSys} (hx:(sysWrong x).1=0) (hy:(sysWrong y).1=0) (hc:NoClash x y) {r:BRow} (hr:isSet r.has=true):rowAct x (rowAct y r)=rowAct y (rowAct x r):=by
 have e1:=rowAct_has hx hc.mx hc.lx hr
 have e2:=rowAct_has hy hc.my hc.ly hr
 unfold rowAct at e1 e2 ⊢
 cases h1:meetsB x.all x.non r.has with
 | false=>
  simp only [h1,Bool.false_eq_true,if_false]
  cases h2:meetsB y.all y.non r.has with
  | false=>simp [h1,h2]
  | true=>
   rw [h2] at e2
   simp only [if_true] at e2 ⊢
   rw [e2,h1]
   rfl
 | true=>
  rw [h1] at e1
  simp only [if_true] at e1
  cases h2:meetsB y.all y.non r.has with
  | false=>simp [h1,h2,e1]
  | true=>
   rw [h2] at e2
   simp only [if_true] at e2 ⊢
   rw [e2,e1,h1,h2]
   simp only [if_true]
   exact fold_comm hr (quiet_in hx hc.mx hc.lx h1) (quiet_in hy hc.my hc.ly h2) (apart_in hx hy hc)
def allM:Nat→BWorld→List BSys→BWorld×(Int×Int)
 | _,W,[]=>(W,(0,0))
 | i,W,x::l=>if (runM W x).err≠0 then (⟨[],[]⟩,((runM W x).err,(i:Int))) else allM (i+1) (bw (runM W x)) l
theorem run_two {W:BWorld} {x y:BSys} (hw:RightB W) (hx:(sysWrong x).1=0) (hy:(sysWrong y).1=0) (hc:clash x y=false) :
  (runM W x).err=0∧(runM W y).err=0∧(runM (bw (runM W x)) y).err=0∧(runM (bw (runM W y)) x).err=0∧bw (runM (bw (runM W x)) y)=bw (runM (bw (runM W y)) x):=by
 have hn:=noClash hc
 obtain ⟨rx,ex⟩:=run_rows hw hx hn.lx
 obtain ⟨ry,ey⟩:=run_rows hw hy hn.ly
 obtain ⟨_,exy⟩:=run_rows rx hy hn.ly
 obtain ⟨_,eyx⟩:=run_rows ry hx hn.lx
 have e1:bw (runM W x)=⟨W.rows.map (rowAct x),W.gens⟩:=by rw [ex];rfl
 have e2:bw (runM W y)=⟨W.rows.map (rowAct y),W.gens⟩:=by rw [ey];rfl
 rw [e1,e2,exy,eyx,ex,ey]
 refine ⟨rfl,rfl,rfl,rfl,?_⟩
 unfold bw
 dsimp only
 rw [List.map_map,List.map_map]
 congr 1
 refine List.map_congr_left fun r hr=>?_
 exact (rowAct_comm hx hy hn (hw.set_ r hr)).symm
open Go.RowKit
open Brood
structure AllT where
 tabs:List BTab
 gens:List Int
 err:Int
 at_:Int
def allT (T:List BTab) (gens:List Int) (l:List BSys):AllT:=
 if (storeErr T gens).1≠0 then ⟨[],[],(storeErr T gens).1,0⟩
 else ⟨tabsW (allM 0 ⟨worldT T,gens⟩ l).1.rows,(allM 0 ⟨worldT T,gens⟩ l).1.gens,(allM 0 ⟨worldT T,gens⟩ l).2.1,(allM 0 ⟨worldT T,gens⟩ l).2.2⟩
theorem runT_right {rows:List BRow} {gens:List Int} (hw:RightW rows gens) (x:BSys):runT (tabsW rows) gens x=⟨tabsW (runM ⟨rows,gens⟩ x).rows,(runM ⟨rows,gens⟩ x).gens,(runM ⟨rows,gens⟩ x).err⟩:=by
 unfold runT
 rw [hw.store,if_neg (by simp),hw.worldT]
theorem allT_right {rows:List BRow} {gens:List Int} (hw:RightW rows gens) (l:List BSys):allT (tabsW rows) gens l=⟨tabsW (allM 0 ⟨rows,gens⟩ l).1.rows,(allM 0 ⟨rows,gens⟩ l).1.gens,(allM 0 ⟨rows,gens⟩ l).2.1,(allM 0 ⟨rows,gens⟩ l).2.2⟩:=by
 unfold allT
 rw [hw.store,if_neg (by simp),hw.worldT]
theorem allM_drop {l:List BSys} {k:Nat} (hk:k<l.length) (W:BWorld):allM k W (l.drop k)=if (runM W l[k]).err≠0 then (⟨[],[]⟩,((runM W l[k]).err,(k:Int))) else allM (k+1) (bw (runM W l[k])) (l.drop (k+1)):=by
 rw [List.drop_eq_getElem_cons hk,allM]
def allE3 (b:Nat) (A:Option Addr) (c:Nat) (l:List TabIn) (Ag:Option Addr) (cg:Nat) (gens:List Int):List Ent:=
 [.box b 27 [.slice A l.length c,.slice Ag gens.length cg],.box (b+1) 27 [.slice none 0 0,.slice none 0 0],.box (b+1+1) 34 [.int .i64 0,.int .i64 0]]++stE A c l Ag cg gens
theorem sall_any (l:List TabIn) (A:Option Addr) (c:Nat) (gens:List Int) (Ag:Option Addr) (cg:Nat) (hs:StSmall l gens) (xs:List SysIn) (xA:Option Addr) (xc:Nat) (hxl:xs.length≤9223372036854775807) (w:World) (hx:RdS w w.heap.size xA xs) (h:RdSt w w.heap.size ⟨A,c,l,Ag,cg,gens⟩) :
  Calls Tryz.prog 25 #[.agg #[.slice A l.length c,.slice Ag gens.length cg],.slice xA xs.length xc] w fun e w'=>
   ∃ v,e=.returned (.tuple #[v,.agg #[.int .i64 (allT (l.map tabOf) gens (sysOf xs)).err,.int .i64 (allT (l.map tabOf) gens (sysOf xs)).at_]])∧GotSt w w' v (allT (l.map tabOf) gens (sysOf xs)).tabs (allT (l.map tabOf) gens (sysOf xs)).gens:=by
 have hE0:Hid (allT (l.map tabOf) gens (sysOf xs)=if (storeErr (l.map tabOf) gens).1≠0 then ⟨[],[],(storeErr (l.map tabOf) gens).1,0⟩
  else ⟨tabsW (allM 0 ⟨worldT (l.map tabOf),gens⟩ (sysOf xs)).1.rows,(allM 0 ⟨worldT (l.map tabOf),gens⟩ (sysOf xs)).1.gens,(allM 0 ⟨worldT (l.map tabOf),gens⟩ (sysOf xs)).2.1,(allM 0 ⟨worldT (l.map tabOf),gens⟩ (sysOf xs)).2.2⟩):=Lib.hid rfl
 generalize allT (l.map tabOf) gens (sysOf xs)=E at *
 have hh:=Lib.hid h;have hsh:=Lib.hid hs;have hxh:=Lib.hid hx
 clear h hs hx
 have H0:=(((Hp.start w).new w.heap.size rfl 27 [.slice A l.length c,.slice Ag gens.length cg]).new (w.heap.size+1) (by simp) 27 [.slice none 0 0,.slice none 0 0]).new (w.heap.size+1+1) (by simp) 34 [.int .i64 0,.int .i64 0]
 replace H0:Hp w _ [stBox w.heap.size A l.length c Ag gens.length cg,.box (w.heap.size+1) 27 [.slice none 0 0,.slice none 0 0],.box (w.heap.size+1+1) 34 [.int .i64 0,.int .i64 0]]:=H0
 have a0:=H0.cell 0 0 rfl rfl;have a1:=H0.cell 0 1 rfl rfl
 go_enter Tryz.func25,Tryz.ntmps25
 go_wp2_with fail
 obtain ⟨w0,hw0,H0⟩:=H0.name
 rw [hw0];clear hw0 a0 a1
 have hg0:RdSt w0 w0.heap.size ⟨A,c,l,Ag,cg,gens⟩:=hh.out.hp H0
 refine (swrong_any l A c gens Ag cg hsh.out w0 hg0.tabs hg0.gen hg0.ng).mono ?_
 rintro e w1 ⟨rfl,hb1⟩
 replace H0:=H0.grow hb1
 clear hb1 hg0
 have hrt:Hid ((storeErr (l.map tabOf) gens).1=0→RightW (worldT (l.map tabOf)) gens∧l.map tabOf=tabsW (worldT (l.map tabOf))):=Lib.hid store_right
 generalize storeErr (l.map tabOf) gens=F at *
 obtain ⟨f1,f2⟩:=F
 have H2:=H0.new _ rfl 34 [.int .i64 f1,.int .i64 f2]
 simp only at hE0 hrt ⊢
 by_cases hf:f1=0
 case neg=>
  clear H0
  have hf':(f1 != 0)=true:=by simpa using hf
  have hE:Hid (E=⟨[],[],f1,0⟩):=Lib.hid (by rw [hE0.out,if_pos hf])
  clear hE0 hrt
  go_upto_region 3 with fail
  obtain ⟨w2,hw2,H2⟩:=H2.name
  rw [hw2];clear hw2
  have n13:=H2.ne 1 3 rfl rfl (by omega);have n23:=H2.ne 2 3 rfl rfl (by omega);have n31:=n13.symm;have n32:=n23.symm
  have q0:=H2.cell 1 0 rfl rfl;have q1:=H2.cell 1 1 rfl rfl;have q2:=H2.cell 2 0 rfl rfl;have q3:=H2.cell 2 1 rfl rfl
  have y0:=H2.frozen 1 0 rfl;have y1:=H2.frozen 1 1 rfl;have y2:=H2.frozen 2 0 rfl;have y3:=H2.frozen 2 1 rfl
  have c0:=H2.cell 3 0 rfl rfl
  have H4:=((((H2.set 1 0 (.slice none 0 0) rfl).set 1 1 (.slice none 0 0) rfl).set 2 0 (.int .i64 f1) rfl).set 2 1 (.int .i64 0) rfl).drew
  have H5:=((((H2.set 2 0 (.int .i64 f1) rfl).set 2 1 (.int .i64 0) rfl).set 1 0 (.slice none 0 0) rfl).set 1 1 (.slice none 0 0) rfl).drew
  have H4h:=Lib.hid H4;have H5h:=Lib.hid H5
  clear H4 H2 H5
  go_region_held3 (fun w'=>w'.cell? ⟨w1.heap.size,0,none⟩=some (.int .i64 f1)) (go_keep) (fail)
  all_goals go_wp2_with fail
  ·have H4:=H4h.out
   have p0:=H4.cell 1 0 rfl rfl;have p1:=H4.cell 1 1 rfl rfl;have p2:=H4.cell 2 0 rfl rfl;have p3:=H4.cell 2 1 rfl rfl
   refine bodyPost_ret (v:=.tuple #[.agg #[.slice none 0 0,.slice none 0 0],.agg #[.int .i64 f1,.int .i64 0]]) (by simp [results,Tryz.results25,go_sem,p0,p1,p2,p3]) rfl ⟨_,by rw [hE.out],by rw [hE.out];exact GotSt.zero H4.bel⟩
 case pos=>
  subst hf
  obtain ⟨hrw,hfit0⟩:=hrt.out rfl
  obtain ⟨R,hR⟩:∃ R,R=allM 0 ⟨worldT (l.map tabOf),gens⟩ (sysOf xs):=⟨_,rfl⟩
  have hE:Hid (E=⟨tabsW R.1.rows,R.1.gens,R.2.1,R.2.2⟩):=Lib.hid (by rw [hE0.out,if_neg (by simp),hR])
  clear hE0 hrt
  have hfit:=Lib.hid hfit0;have hRh:=Lib.hid hR
  clear hfit0 hR
  generalize hrows:worldT (l.map tabOf)=rows at *
  clear hrows
  have hrwh:=Lib.hid hrw
  clear hrw
  have s0:=H2.cell 0 0 rfl rfl;have s1:=H2.cell 0 1 rfl rfl
  go_wp2_with fail
  clear H0
  obtain ⟨w2,hw2,H2⟩:=H2.name
  rw [hw2];clear hw2 s0 s1
  have hg4:RdSt w2 w2.heap.size ⟨A,c,l,Ag,cg,gens⟩:=hh.out.hp H2
  refine (sown_any l A c gens Ag cg hsh.out w2 hg4).mono ?_
  rintro e w5 ⟨A2,c2,l2,Ag2,cg2,rfl,hl2,H5⟩
  have hfit2:Hid (l2.map tabOf=tabsW rows):=Lib.hid (hl2.trans hfit.out)
  replace H5:=(H2.join H5).drop1 3
  have y0:=H5.frozen 0 0 rfl;have y1:=H5.frozen 0 1 rfl;have q0:=H5.cell 0 0 rfl rfl;have q1:=H5.cell 0 1 rfl rfl
  replace H5:=(H5.set 0 0 (.slice A2 l2.length c2) rfl).set 0 1 (.slice Ag2 gens.length cg2) rfl
  replace H5:Hp w _ (allE3 w.heap.size A2 c2 l2 Ag2 cg2 gens):=H5
  have H5h:=Lib.hid H5
  clear H2 hg4 hl2 H5
  go_wp2_with fail
  go_loopw [24] (fun q wr=>∃ k:Nat,k≤xs.length∧q=.int .i64 k∧∃ (rs:List BRow) (gs:List Int) (A':Option Addr) (c':Nat) (l':List TabIn) (Ag':Option Addr) (cg':Nat),Hid (RightW rs gs∧l'.map tabOf=tabsW rs∧allM k ⟨rs,gs⟩ ((sysOf xs).drop k)=R)∧Hp w wr (allE3 w.heap.size A' c' l' Ag' cg' gs)) (fun q _=>xs.length-(intOf q).toNat)
  case atStart=>exact ⟨0,by omega,rfl,rows,gens,A2,c2,l2,Ag2,cg2,Lib.hid ⟨hrwh.out,hfit2.out,hRh.out.symm⟩,H5h.out⟩
  case round=>
   clear H5h hfit2 hRh hfit y0 y1 q0 q1
   obtain ⟨k,hk,rfl,rs,gs,A',c',l',Ag',cg',hS,H⟩:=hrel
   have q0:=H.cell 0 0 rfl rfl;have q1:=H.cell 0 1 rfl rfl
   by_cases hlt:k<xs.length
   ·obtain ⟨b1,off,hA,hb1,e0,e1,e2,e3⟩:=(hxh.out.under H.bel (Nat.le_refl _)).at_ hlt
    have hact:=hxh.out.acts _ (List.getElem_mem hlt)
    have hsd:Hid ((if (runM ⟨rs,gs⟩ xs[k].s).err≠0 then (⟨[],[]⟩,((runM ⟨rs,gs⟩ xs[k].s).err,(k:Int))) else allM (k+1) (bw (runM ⟨rs,gs⟩ xs[k].s)) ((sysOf xs).drop (k+1)))=R):=Lib.hid (by
     have h1:=hS.out.2.2
     rw [allM_drop (by rw [sysOf_length];exact hlt)] at h1
     simpa only [sysOf,List.getElem_map] using h1)
    have hS2:=Lib.hid (And.intro hS.out.1 hS.out.2.1)
    generalize xs[k]=X at *
    obtain ⟨s,sA,sc⟩:=X
    subst hA
    dsimp only at e0 e1 e2 e3 hact hsd
    have H1:=H.new wr.heap.size rfl 51 [.int .i64 s.mod,.int .i64 s.all,.int .i64 s.non,.slice sA s.acts.length sc]
    have i0:(0:Int)≤(k:Int):=by omega
    have i1:(k:Int)<(xs.length:Int):=by omega
    have lt0:=H.lt 0 rfl
    have hacth:=Lib.hid hact
    clear hS H hact
    go_wp2_with fail
    obtain ⟨w6,hw6,H6⟩:=H1.name
    rw [hw6];clear hw6 H1 q0 q1 e0 e1 e2 e3 lt0
    have hR6:RdSt w6 w6.heap.size ⟨A',c',l',Ag',cg',gs⟩:=H6.stRd (fun p hp=>by unfold allE3;simp [hp])
    have hrun:=srun_any l' A' c' gs Ag' cg' (right_small hS2.out.1 hS2.out.2) s sA sc w6 (Rd.more (Rd.under hacth.out H6.bel (Nat.le_refl _)) H6.bel.size) hR6
    rw [hS2.out.2,runT_right hS2.out.1] at hrun
    refine hrun.mono ?_
    have hrr:=Lib.hid (fun h=>runM_right (W:=⟨rs,gs⟩) (x:=s) h hS2.out.1)
    generalize runM ⟨rs,gs⟩ s=X at *
    obtain ⟨xr,xg,xe⟩:=X
    rintro e w7 ⟨v,rfl,A3,c3,l3,Ag3,cg3,rfl,hl3,HN⟩
    dsimp only at hl3 HN hsd hrr ⊢
    have H7:=H6.elder.join HN
    have hl3h:=Lib.hid hl3
    clear hrun HN H6 hR6 hl3
    by_cases he:xe=0
    ·subst he
     have hnx:Hid (allM (k+1) ⟨xr,xg⟩ ((sysOf xs).drop (k+1))=R):=Lib.hid (by
      have h1:=hsd.out
      rw [if_neg (by simp)] at h1
      exact h1)
     have hrw2:=Lib.hid (hrr.out rfl)
     have H8:=H7
     have y0:=H8.frozen 0 0 rfl;have y1:=H8.frozen 0 1 rfl;have z0:=H8.cell 0 0 rfl rfl;have z1:=H8.cell 0 1 rfl rfl
     have lt0:=H8.lt 0 rfl
     have H9:Hp w ((w7.setCell ⟨w.heap.size,0,none⟩ (.slice A3 l3.length c3)).setCell ⟨w.heap.size,1,none⟩ (.slice Ag3 xg.length cg3)) ([.box w.heap.size 27 [.slice A3 l3.length c3,.slice Ag3 xg.length cg3],.box (w.heap.size+1) 27 [.slice none 0 0,.slice none 0 0],.box (w.heap.size+1+1) 34 [.int .i64 0,.int .i64 0]]++(stE A' c' l' Ag' cg' gs++[])++stE A3 c3 l3 Ag3 cg3 xg):=by
      rw [List.append_nil]
      exact (H8.set 0 0 (.slice A3 l3.length c3) rfl).set 0 1 (.slice Ag3 xg.length cg3) rfl
     have H10:=Hp.newer H9
     rw [List.append_nil] at H10
     have H11:=Lib.hid (H10.alloc (.cells #[.slice A3 l3.length c3,.slice Ag3 xg.length cg3] 27))
     clear hsd hrr H7 H8 H9 H10
     go_wp2_with fail
     go_roundw
     case rel=>exact ⟨k+1,by omega,by go_num,xr,xg,A3,c3,l3,Ag3,cg3,Lib.hid ⟨hrw2.out,hl3h.out,hnx.out⟩,H11.out⟩
     case measure=>simp [intOf];omega
    ·have he':(xe != 0)=true:=by simpa using he
     have hE3:Hid (E=⟨[],[],xe,(k:Int)⟩):=Lib.hid (by
      have h1:=hsd.out
      rw [if_pos he] at h1
      rw [hE.out,← h1]
      rfl)
     have H8:=H7
     have y0:=H8.frozen 1 0 rfl;have y1:=H8.frozen 1 1 rfl;have z0:=H8.cell 1 0 rfl rfl;have z1:=H8.cell 1 1 rfl rfl
     have y2:=H8.frozen 2 0 rfl;have y3:=H8.frozen 2 1 rfl;have z2:=H8.cell 2 0 rfl rfl;have z3:=H8.cell 2 1 rfl rfl
     have lt1:=H8.lt 1 rfl;have lt2:=H8.lt 2 rfl
     have H9:=((((H8.set 1 0 (.slice none 0 0) rfl).set 1 1 (.slice none 0 0) rfl).set 2 0 (.int .i64 xe) rfl).set 2 1 (.int .i64 (k:Int)) rfl).alloc (.cells #[.slice A3 l3.length c3,.slice Ag3 xg.length cg3] 27)
     have p0:=H9.cell 1 0 rfl rfl;have p1:=H9.cell 1 1 rfl rfl;have p2:=H9.cell 2 0 rfl rfl;have p3:=H9.cell 2 1 rfl rfl
     have H9h:=Lib.hid H9
     clear hsd hrr H7 H8 H9 hE he
     go_wp2_with fail
     refine bodyPost_ret (v:=.tuple #[.agg #[.slice none 0 0,.slice none 0 0],.agg #[.int .i64 xe,.int .i64 (k:Int)]]) (by simp [results,Tryz.results25,go_sem,p0,p1,p2,p3]) rfl ⟨_,by rw [hE3.out],by rw [hE3.out];exact GotSt.zero H9h.out.bel⟩
   ·obtain rfl:k=xs.length:=by omega
    have hE3:Hid (E=⟨tabsW rs,gs,0,0⟩):=Lib.hid (by
     have h1:=hS.out.2.2
     rw [List.drop_of_length_le (by rw [sysOf_length];omega)] at h1
     rw [hE.out,← h1]
     rfl)
    have hl4h:Hid (l'.map tabOf=tabsW rs):=Lib.hid hS.out.2.1
    clear hE hS
    have y0:=H.frozen 1 0 rfl;have y1:=H.frozen 1 1 rfl;have z0:=H.cell 1 0 rfl rfl;have z1:=H.cell 1 1 rfl rfl
    have y2:=H.frozen 2 0 rfl;have y3:=H.frozen 2 1 rfl;have z2:=H.cell 2 0 rfl rfl;have z3:=H.cell 2 1 rfl rfl
    have H9:=(((H.set 1 0 (.slice A' l'.length c') rfl).set 1 1 (.slice Ag' gs.length cg') rfl).set 2 0 (.int .i64 0) rfl).set 2 1 (.int .i64 0) rfl
    have p0:=H9.cell 1 0 rfl rfl;have p1:=H9.cell 1 1 rfl rfl;have p2:=H9.cell 2 0 rfl rfl;have p3:=H9.cell 2 1 rfl rfl
    have H9h:=Lib.hid H9
    clear H H9
    go_wp2_with fail
    refine bodyPost_ret (v:=.tuple #[.agg #[.slice A' l'.length c',.slice Ag' gs.length cg'],.agg #[.int .i64 0,.int .i64 0]]) (by simp [results,Tryz.results25,go_sem,p0,p1,p2,p3]) rfl ⟨_,by rw [hE3.out],by rw [hE3.out];exact ⟨A',c',l',Ag',cg',rfl,hl4h.out,((H9h.out.drop1 2).drop1 1).drop1 0⟩⟩
open Go.RowKit
open Brood
theorem samebs_any (l:List (Int×Int)) (A:Option Addr) (c:Nat) (A':Option Addr) (c':Nat) (hl:l.length≤1048576) (w:World) (hA:Rd w w.heap.size 2 A l.length (l.flatMap beC)) (hA':Rd w w.heap.size 2 A' l.length (l.flatMap beC)) :
  Calls Tryz.prog 39 #[.slice A l.length c,.slice A' l.length c'] w fun e w'=>e=.returned (.bool true)∧Below w.heap.size w w':=by
 go_enter Tryz.func39,Tryz.ntmps39
 go_wp2_with fail
 go_loopw [13] (fun q wx=>∃ k:Nat,k≤l.length∧q=.int .i64 k∧Below w.heap.size w wx) (fun q _=>l.length-(intOf q).toNat)
 case atStart=>exact ⟨0,by omega,rfl,Below.refl _ _⟩
 case round=>
  obtain ⟨k,hk,rfl,hbel⟩:=hrel
  by_cases hlt:k<l.length
  ·obtain ⟨b,off,rfl,hb,c0,c1⟩:=rdBe_at (Rd.under hA hbel (Nat.le_refl _)) hlt
   obtain ⟨b',off',rfl,hb',d0,d1⟩:=rdBe_at (Rd.under hA' hbel (Nat.le_refl _)) hlt
   clear hA hA'
   generalize l[k]=r at *
   obtain ⟨ri,rg⟩:=r
   dsimp only at c0 c1 d0 d1
   have i0:(0:Int)≤(k:Int):=by omega
   have i1:(k:Int)<(l.length:Int):=by omega
   have hne:∀ W,(binOp .neq 41 (.agg #[.int .i64 ri,.int .i64 rg]) (.agg #[.int .i64 ri,.int .i64 rg])).run Tryz.prog W=.ok (.bool false) W:=fun W=>by rw [neBeing];simp
   go_upto_region 6 with fail
   go_cut [24] (fun s24 wx=>s24=.bool false∧∃ n,wx=wr.drewN n)
   case first=>
    go_quiet (fail)
    go_wp2_with fail
    go_meet
    exact ⟨rfl,_,rfl⟩
   case rest=>
    obtain ⟨rfl,n,rfl⟩:=hcut
    have hbel2:=below_drewN hbel n
    go_wp2_with fail
    go_roundw
    case rel=>exact ⟨k+1,by omega,by go_num,hbel2⟩
    case measure=>simp [intOf];omega
  ·obtain rfl:k=l.length:=by omega
   go_wp2_with fail
   go_ret
   exact ⟨rfl,hbel⟩
def twoE (B:Nat) (A:Option Addr) (n c:Nat) (Ag:Option Addr) (m cg:Nat) (A':Option Addr) (c':Nat) (Ag':Option Addr) (cg':Nat):List Ent:=[stBox B A n c Ag m cg,stBox (B+1) A' n c' Ag' m cg']
def fourE (B:Nat) (A:Option Addr) (n c:Nat) (Ag:Option Addr) (m cg:Nat) (A':Option Addr) (c':Nat) (Ag':Option Addr) (cg':Nat) (b7 b8:Nat) (has:Int) (bA:Option Addr) (nb bc:Nat) (cA:Option Addr) (nc cc:Nat) (bA':Option Addr) (bc':Nat) (cA':Option Addr) (cc':Nat):List Ent:=
 twoE B A n c Ag m cg A' c' Ag' cg'++[.box b7 102 [.int .i64 has,.slice bA nb bc,.slice cA nc cc]]++[.box b8 102 [.int .i64 has,.slice bA' nb bc',.slice cA' nc cc']]
theorem rsamest_any (l l':List TabIn) (gens:List Int) (A:Option Addr) (c:Nat) (Ag:Option Addr) (cg:Nat) (A':Option Addr) (c':Nat) (Ag':Option Addr) (cg':Nat) (hs:StSmall l gens) (hll:l'.map tabOf=l.map tabOf)
  (w:World) (h:RdSt w w.heap.size ⟨A,c,l,Ag,cg,gens⟩) (h':RdSt w w.heap.size ⟨A',c',l',Ag',cg',gens⟩) :
  Calls Tryz.prog 26 #[.agg #[.slice A l.length c,.slice Ag gens.length cg],.agg #[.slice A' l'.length c',.slice Ag' gens.length cg']] w fun e w'=>e=.returned (.bool true)∧Below w.heap.size w w':=by
 have hlen:l'.length=l.length:=by simpa using congrArg List.length hll
 rw [hlen]
 have hllh:=Lib.hid hll;have hlenh:=Lib.hid hlen
 obtain ⟨hT,hg,_,_⟩:=h
 obtain ⟨hT',hg',_,_⟩:=h'
 dsimp only at hT hg hT' hg'
 obtain ⟨s1,s2,s3,s4⟩:=hs
 have s2h:=Lib.hid s2
 clear hll hlen s2 s3
 have H:=((Hp.start w).new w.heap.size rfl 27 [.slice A l.length c,.slice Ag gens.length cg]).new (w.heap.size+1) (by simp) 27 [.slice A' l.length c',.slice Ag' gens.length cg']
 replace H:Hp w _ (twoE w.heap.size A l.length c Ag gens.length cg A' c' Ag' cg'):=H
 have hTh:=Lib.hid hT;have hTh':=Lib.hid hT'
 clear hT hT'
 go_enter Tryz.func26,Tryz.ntmps26
 go_wp2_with fail
 go_loopw [30] (fun q wr=>∃ k:Nat,k≤gens.length∧q=.int .i64 k∧Hp w wr (twoE w.heap.size A l.length c Ag gens.length cg A' c' Ag' cg')) (fun q _=>gens.length-(intOf q).toNat)
 case atStart=>exact ⟨0,by omega,rfl,H⟩
 case round=>
  clear H
  obtain ⟨k,hk,rfl,H⟩:=hrel
  by_cases hlt:k<gens.length
  ·obtain ⟨b1,off,rfl,hb1,c0⟩:=RdG.at_ (Rd.under hg H.bel (Nat.le_refl _)) hlt
   obtain ⟨b2,off2,rfl,hb2,d0⟩:=RdG.at_ (Rd.under hg' H.bel (Nat.le_refl _)) hlt
   clear hg hg'
   generalize gens[k]=r at *
   have i0:(0:Int)≤(k:Int):=by omega
   have i1:(k:Int)<(gens.length:Int):=by omega
   have e0:=H.cell 0 1 rfl rfl;have e1:=H.cell 1 1 rfl rfl
   have Hh:=Lib.hid H
   clear H
   go_upto_region 6 with fail
   go_cut [43] (fun s wx=>s=.bool false∧∃ n,wx=wr.drewN n)
   case first=>
    go_quiet (fail)
    go_wp2_with fail
    go_meet
    exact ⟨by simp,_,rfl⟩
   case rest=>
    obtain ⟨rfl,n,rfl⟩:=hcut
    have H2:=Lib.hid (Hh.out.drewN n)
    go_wp2_with fail
    go_roundw
    case rel=>exact ⟨k+1,by omega,by go_num,H2.out⟩
    case measure=>simp [intOf];omega
  ·obtain rfl:k=gens.length:=by omega
   have e0:=H.cell 0 0 rfl rfl
   clear hg hg'
   have Hh:=Lib.hid H
   clear H
   go_wp2_with fail
   clear e0
   go_loopw [48] (fun q wr=>∃ k:Nat,k≤l.length∧q=.int .i64 k∧Hp w wr (twoE w.heap.size A l.length c Ag gens.length cg A' c' Ag' cg')) (fun q _=>l.length-(intOf q).toNat)
   case atStart=>exact ⟨0,by omega,rfl,Hh.out⟩
   case round=>
    clear Hh
    obtain ⟨k,hk,rfl,H⟩:=hrel
    by_cases hlt:k<l.length
    ·have hlt':k<l'.length:=by have:=hlenh.out;omega
     have hT:=hTh.out.under H.bel (Nat.le_refl _);have hT':=hTh'.out.under H.bel (Nat.le_refl _)
     obtain ⟨b1,off,rfl,hb1,f0,f1,f2⟩:=hT.at_ hlt
     obtain ⟨b2,off2,rfl,hb2,g0,g1,g2⟩:=hT'.at_ hlt'
     clear hT hT'
     have hrb:=hTh.out.bs _ (List.getElem_mem hlt);have hrc:=hTh.out.cs _ (List.getElem_mem hlt);have hrz:=Lib.hid (hTh.out.zs _ (List.getElem_mem hlt))
     have hrb':=hTh'.out.bs _ (List.getElem_mem hlt');have hrc':=hTh'.out.cs _ (List.getElem_mem hlt');have hrz':=Lib.hid (hTh'.out.zs _ (List.getElem_mem hlt'))
     have hsm:=s2h.out _ (List.getElem_mem hlt)
     have hte:tabOf l'[k]=tabOf l[k]:=by
      have h1:(l'.map tabOf)[k]?=(l.map tabOf)[k]?:=by rw [hllh.out]
      rw [List.getElem?_map,List.getElem?_map,List.getElem?_eq_getElem hlt,List.getElem?_eq_getElem hlt'] at h1
      exact Option.some.inj h1
     generalize l[k]=t at *
     generalize l'[k]=u at *
     obtain ⟨has,bA,bc,bs,cA,cc,cols⟩:=t
     obtain ⟨has',bA',bc',bs',cA',cc',cols'⟩:=u
     obtain ⟨rfl,rfl,hce⟩:has'=has∧bs'=bs∧cols'.map ColIn.zs=cols.map ColIn.zs:=by
      have:=hte;unfold tabOf at this;injection this with h1 h2 h3;exact ⟨h1,h2,h3⟩
     obtain ⟨m1,m2,m3⟩:=hsm
     have hcl:cols'.length=cols.length:=by simpa using congrArg List.length hce
     have m3h:=Lib.hid m3;have hceh:=Lib.hid hce;have hclh:=Lib.hid hcl
     dsimp only at f0 f1 f2 g0 g1 g2 hrb hrb' hrc hrc' m1 m2
     rw [hcl] at g2 hrc'
     clear m3 hte hce hcl
     have i0:(0:Int)≤(k:Int):=by omega
     have i1:(k:Int)<(l.length:Int):=by omega
     have e0:=H.cell 0 0 rfl rfl;have e1:=H.cell 1 0 rfl rfl
     have l0:=H.lt 0 rfl;have l1:=H.lt 1 rfl
     have hsz:=H.bel.size
     have H4:=(H.new wr.heap.size rfl 102 [.int .i64 has',.slice bA bs'.length bc,.slice cA cols.length cc]).new (wr.heap.size+1) (by simp) 102 [.int .i64 has',.slice bA' bs'.length bc',.slice cA' cols.length cc']
     have hb1':b1<wr.heap.size:=by omega
     have hb2':b2<wr.heap.size:=by omega
     clear H
     go_wp2_with fail
     obtain ⟨w4,hw4,H4⟩:=H4.name
     rw [hw4]
     clear hw4 f0 f1 f2 g0 g1 g2 e0 e1
     obtain ⟨b8,hb8⟩:∃ b8,b8=wr.heap.size+1:=⟨_,rfl⟩
     rw [← hb8] at H4 ⊢
     obtain ⟨b7,hb7⟩:∃ b7,b7=wr.heap.size:=⟨_,rfl⟩
     rw [← hb7] at H4 ⊢
     clear hb7 hb8 l0 l1 hsz hb1' hb2'
     replace H4:Hp w w4 (fourE w.heap.size (some ⟨b1,off,none⟩) l.length c Ag gens.length cg (some ⟨b2,off2,none⟩) c' Ag' cg' b7 b8 has' bA bs'.length bc cA cols.length cc bA' bc' cA' cc'):=H4
     refine (samebs_any bs' bA bc bA' bc' m1 w4 (Rd.more (Rd.under hrb H4.bel (Nat.le_refl _)) H4.bel.size) (Rd.more (Rd.under hrb' H4.bel (Nat.le_refl _)) H4.bel.size)).mono ?_
     rintro e w5 ⟨rfl,hb5⟩
     have H5:=H4.grow hb5
     clear H4 hb5
     have e0:=H5.cell 2 2 rfl rfl;have e1:=H5.cell 3 2 rfl rfl
     have H5h:=Lib.hid H5
     clear H5
     go_wp2_with fail
     clear e0 e1
     go_loopw [83] (fun q wr=>∃ j:Nat,j≤cols.length∧q=.int .i64 j∧Hp w wr (fourE w.heap.size (some ⟨b1,off,none⟩) l.length c Ag gens.length cg (some ⟨b2,off2,none⟩) c' Ag' cg' b7 b8 has' bA bs'.length bc cA cols.length cc bA' bc' cA' cc')) (fun q _=>cols.length-(intOf q).toNat)
     case atStart=>exact ⟨0,by omega,rfl,H5h.out⟩
     case round=>
      clear H5h
      obtain ⟨j,hj,rfl,H5⟩:=hrel
      by_cases hjl:j<cols.length
      ·have hjl':j<cols'.length:=by have:=hclh.out;omega
       rw [← hclh.out] at hrc'
       obtain ⟨d1,o1,rfl,hd1,f0⟩:=rdC_at (Rd.under hrc H5.bel (Nat.le_refl _)) hjl
       obtain ⟨d2,o2,rfl,hd2,g0⟩:=rdC_at (Rd.under hrc' H5.bel (Nat.le_refl _)) hjl'
       have hz1:=hrz.out _ (List.getElem_mem hjl);have hz2:=hrz'.out _ (List.getElem_mem hjl')
       have hzs:=m3h.out _ (List.getElem_mem hjl)
       have hze:cols'[j].zs=cols[j].zs:=by
        have h1:(cols'.map ColIn.zs)[j]?=(cols.map ColIn.zs)[j]?:=by rw [hceh.out]
        rw [List.getElem?_map,List.getElem?_map,List.getElem?_eq_getElem hjl,List.getElem?_eq_getElem hjl'] at h1
        exact Option.some.inj h1
       generalize cols[j]=X at *
       generalize cols'[j]=Y at *
       obtain ⟨zA,zc,zs⟩:=X
       obtain ⟨zA',zc',zs'⟩:=Y
       dsimp only at f0 g0 hz1 hz2 hzs hze
       subst hze
       clear hrc hrc' hrb hrb'
       have i2:(0:Int)≤(j:Int):=by omega
       have i3:(j:Int)<(cols.length:Int):=by omega
       have e0:=H5.cell 2 2 rfl rfl;have e1:=H5.cell 3 2 rfl rfl
       have H5h:=Lib.hid H5
       have hz1h:=Lib.hid hz1;have hz2h:=Lib.hid hz2
       clear H5 hz1 hz2
       go_upto_region 18 with fail
       go_cut [98] (fun s wx=>s=.bool false∧∃ n,wx=wr.drewN n)
       case first=>
        go_quiet (fail)
        go_wp2_with fail
        go_meet
        exact ⟨by simp,_,rfl⟩
       case rest=>
        obtain ⟨rfl,n,rfl⟩:=hcut
        have H6:=H5h.out.drewN n
        clear H5h e0 e1
        have e0:=H6.cell 2 2 rfl rfl
        have f0':(wr.drewN n).cell? ⟨d1,o1+j,none⟩=some (.slice zA zs'.length zc):=f0
        have H6h:=Lib.hid H6
        clear H6 f0
        go_wp2_with fail
        clear e0
        go_loopw [105] (fun q wx=>∃ i:Nat,i≤zs'.length∧q=.int .i64 i∧Hp w wx (fourE w.heap.size (some ⟨b1,off,none⟩) l.length c Ag gens.length cg (some ⟨b2,off2,none⟩) c' Ag' cg' b7 b8 has' bA bs'.length bc (some ⟨d1,o1,none⟩) cols.length cc bA' bc' (some ⟨d2,o2,none⟩) cc')∧wx.cell? ⟨d1,o1+j,none⟩=some (.slice zA zs'.length zc)∧wx.cell? ⟨d2,o2+j,none⟩=some (.slice zA' zs'.length zc')) (fun q _=>zs'.length-(intOf q).toNat)
        case atStart=>exact ⟨0,by omega,rfl,H6h.out,f0',g0⟩
        case round=>
         clear H6h f0' g0
         obtain ⟨i,hi,rfl,H7,f0,g0⟩:=hrel
         by_cases hil:i<zs'.length
         ·obtain ⟨v1,p1,rfl,hv1,y0⟩:=rdZ_at (Rd.under hz1h.out H7.bel (Nat.le_refl _)) hil
          obtain ⟨v2,p2,rfl,hv2,y1⟩:=rdZ_at (Rd.under hz2h.out H7.bel (Nat.le_refl _)) hil
          clear hz1h hz2h
          generalize zs'[i]=z at *
          have i4:(0:Int)≤(i:Int):=by omega
          have i5:(i:Int)<(zs'.length:Int):=by omega
          have e0:=H7.cell 2 2 rfl rfl;have e1:=H7.cell 3 2 rfl rfl
          have H7h:=Lib.hid H7
          clear H7
          obtain ⟨wr2,rfl⟩:∃ wr2:World,wr2=wr:=⟨_,rfl⟩
          go_upto_region 23 with fail
          go_cut [124] (fun s wx=>s=.bool false∧∃ n,wx=wr2.drewN n)
          case first=>
           go_quiet (fail)
           go_wp2_with fail
           go_meet
           exact ⟨by simp,_,rfl⟩
          case rest=>
           obtain ⟨rfl,n2,rfl⟩:=hcut
           have H8:=Lib.hid (H7h.out.drewN n2)
           have f1':(wr2.drewN n2).cell? ⟨d1,o1+j,none⟩=some (.slice (some ⟨v1,p1,none⟩) zs'.length zc):=f0
           have g1':(wr2.drewN n2).cell? ⟨d2,o2+j,none⟩=some (.slice (some ⟨v2,p2,none⟩) zs'.length zc'):=g0
           go_wp2_with fail
           go_roundw
           case rel=>exact ⟨i+1,by omega,by go_num,H8.out,f1',g1'⟩
           case measure=>simp [intOf];omega
         ·obtain rfl:i=zs'.length:=by omega
          have H7h:=Lib.hid H7
          clear H7
          go_wp2_with fail
          go_roundw
          case rel=>exact ⟨j+1,by omega,by go_num,H7h.out⟩
          case measure=>simp [intOf];omega
      ·obtain rfl:j=cols.length:=by omega
       have H6:=Lib.hid ((H5.drop1 3).drop1 2)
       clear H5
       go_wp2_with fail
       go_roundw
       case rel=>exact ⟨k+1,by omega,by go_num,H6.out⟩
       case measure=>simp [intOf];omega
    ·obtain rfl:k=l.length:=by omega
     have hb:=H.bel
     clear H
     go_wp2_with fail
     go_ret
     exact ⟨rfl,hb⟩
end Go.Proofs.YtefdblaolmckmacGreat
