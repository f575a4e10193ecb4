/- Lemmas of the proof. -/
import Derived.Test.YtefdblaolmckmabGreatRBSpecOToSpecR
import Derived.Test.YtefdblaolmckmabGreatRBRowToInv
set_option linter.unusedVariables false
set_option linter.unusedSimpArgs false
set_option maxRecDepth 100000
set_option maxHeartbeats 12800000
namespace Go.Proofs.YtefdblaolmckmabGreat
open Brood
theorem rise_set {rows:List BRow} (hr:Rise rows) {k:Nat} (hk:k<rows.length) {r:BRow} (h:r.idx=rows[k].idx):Rise (rows.set k r):=by
 intro i j hi hj hij
 simp only [List.length_set] at hi hj
 have:=hr i j hi hj hij
 simp only [List.getElem_set]
 split
 ·rename_i e;subst e
  rw [if_neg (by omega),h];exact this
 ·split
  ·rename_i e;subst e
   rw [h];exact this
  ·exact this
theorem mem_set_iff {rows:List BRow} (hr:Rise rows) {k:Nat} (hk:k<rows.length) {r q:BRow} (h:r.idx=rows[k].idx):q∈rows.set k r↔q=r∨(q∈rows∧q.idx≠r.idx):=by
 constructor
 ·intro hq
  obtain ⟨j,hj,rfl⟩:=List.getElem_of_mem hq
  simp only [List.length_set] at hj
  rw [List.getElem_set]
  split
  ·exact .inl rfl
  ·rename_i hne
   refine .inr ⟨List.getElem_mem hj,fun e=>?_⟩
   rw [h] at e
   rcases Nat.lt_trichotomy k j with h' | h' | h'
   ·have:=hr k j hk hj h';omega
   ·exact hne h'
   ·have:=hr j k hj hk h';omega
 ·rintro (rfl | ⟨hq,hne⟩)
  ·exact List.mem_set hk _
  ·obtain ⟨j,hj,rfl⟩:=List.getElem_of_mem hq
   have hjk:k≠j:=by rintro rfl;exact hne h.symm
   have:(rows.set k r)[j]'(by simpa using hj)=rows[j]:=List.getElem_set_ne hjk _
   rw [← this]
   exact List.getElem_mem _
structure FnOk (fr:BRow→BRow×Int):Prop where
 idx:∀ r,(fr r).1.idx=r.idx
 gen:∀ r,(fr r).1.gen=r.gen
 ok:∀ r,rowErr r=0→(fr r).2=0→rowErr (fr r).1=0
structure ChangeOk (rows:List BRow) (gens:List Int) (i g:Int) (fr:BRow→BRow×Int) (k:Nat) (r:BRow) (E:Changed):Prop where
 was:RightW rows gens
 find:findR i g rows=some k
 lt:k<rows.length
 at_:rows[k]?=some r
 isb:r.idx=i∧r.gen=g
 ok:(fr r).2=0
 rows_:E.rows=rows.set k (fr r).1
 gens_:E.gens=gens
 err:E.err=0
theorem change_ok {rows:List BRow} {gens:List Int} {i g:Int} {fr:BRow→BRow×Int} (h:(changeV rows gens i g fr).err=0):∃ k r,ChangeOk rows gens i g fr k r (changeV rows gens i g fr):=by
 unfold changeV at h ⊢
 by_cases h1:(worldErr ⟨rows,gens⟩).1=0
 ·rw [if_neg (by simpa using h1)] at h ⊢
  have hw:=(right_iff rows gens).1 h1
  cases hf:findR i g rows with
  | none=>rw [hf] at h;cases h
  | some k=>
   have hk:=findR_lt hf
   have he:=List.getElem?_eq_getElem hk
   simp only [hf,he] at h ⊢
   obtain ⟨_,hb⟩:=findR_spec hf
   by_cases h2:(fr rows[k]).2=0
   ·rw [if_neg (by simpa using h2)] at h ⊢
    exact ⟨k,rows[k],hw,hf,hk,he,isB_iff.1 hb,h2,rfl,rfl,rfl⟩
   ·rw [if_pos h2] at h
    exact absurd h h2
 ·rw [if_pos h1] at h
  exact absurd h h1
theorem change_mk {rows:List BRow} {gens:List Int} {i g:Int} (fr:BRow→BRow×Int) (hw:RightW rows gens) {k:Nat} {r:BRow} (hf:findR i g rows=some k) (hr:rows[k]?=some r) :
  changeV rows gens i g fr=if (fr r).2≠0 then ⟨[],[],(fr r).2⟩ else ⟨rows.set k (fr r).1,gens,0⟩:=by
 unfold changeV
 rw [if_neg (by simpa using (right_iff rows gens).2 hw),hf]
 simp only [hr]
theorem ext_some {α:Type} {a b:Option α} (h:∀ p,a=some p↔b=some p):a=b:=by
 cases a with
 | none=>cases b with
  | none=>rfl
  | some q=>exact ((h q).2 rfl)
 | some p=>exact ((h p).1 rfl).symm
section
variable {rows:List BRow} {gens:List Int} {i g:Int} {fr:BRow→BRow×Int} {k:Nat} {r:BRow} {E:Changed}
theorem ChangeOk.get (h:ChangeOk rows gens i g fr k r E):rows[k]'h.lt=r:=by
 have:=h.at_
 rw [List.getElem?_eq_getElem h.lt] at this
 exact Option.some.inj this
theorem ChangeOk.mem (h:ChangeOk rows gens i g fr k r E):r∈rows:=List.mem_of_getElem? h.at_
theorem ChangeOk.is (h:ChangeOk rows gens i g fr k r E) (hf:FnOk fr):RightW E.rows E.gens:=by
 have hi:(fr r).1.idx=(rows[k]'h.lt).idx:=by rw [h.get,hf.idx]
 have hw:=h.was
 rw [h.rows_,h.gens_]
 have hmem:∀ q∈rows.set k (fr r).1,q=(fr r).1∨q∈rows:=fun q hq=>(List.mem_or_eq_of_mem_set hq).symm
 refine ⟨hw.len,hw.gen,?_,?_,?_,rise_set hw.rise h.lt hi⟩
 ·intro q hq
  rcases hmem q hq with rfl | hq
  ·exact hf.ok r (hw.row r h.mem) h.ok
  ·exact hw.row q hq
 ·intro q hq
  rcases hmem q hq with rfl | hq
  ·rw [hf.idx];exact hw.idx r h.mem
  ·exact hw.idx q hq
 ·intro q hq
  rcases hmem q hq with rfl | hq
  ·rw [hf.idx,hf.gen];exact hw.fit r h.mem
  ·exact hw.fit q hq
theorem ChangeOk.at2 (h:ChangeOk rows gens i g fr k r E):E.rows[k]?=some (fr r).1:=by
 rw [h.rows_,List.getElem?_set_self h.lt]
theorem ChangeOk.rest (h:ChangeOk rows gens i g fr k r E) (hf:FnOk fr) {i' g':Int} (hne:¬ (i'=i∧g'=g)):rowOf i' g' E.rows=rowOf i' g' rows:=by
 have hi:(fr r).1.idx=(rows[k]'h.lt).idx:=by rw [h.get,hf.idx]
 refine ext_some fun p=>?_
 rw [rowOf_some_iff (h.is hf).rise,rowOf_some_iff h.was.rise,h.rows_,mem_set_iff h.was.rise h.lt hi]
 constructor
 ·rintro ⟨rfl | ⟨hp,_⟩,h2,h3⟩
  ·rw [hf.idx,h.isb.1] at h2
   rw [hf.gen,h.isb.2] at h3
   exact absurd ⟨h2.symm,h3.symm⟩ hne
  ·exact ⟨hp,h2,h3⟩
 ·rintro ⟨hp,h2,h3⟩
  refine ⟨.inr ⟨hp,fun e=>hne ?_⟩,h2,h3⟩
  rw [hf.idx] at e
  have:=rise_inj h.was.rise hp h.mem e
  subst this
  exact ⟨h2.symm.trans h.isb.1,h3.symm.trans h.isb.2⟩
end
theorem putF_ok (part n:Int):FnOk (putF part n):=by
 refine ⟨?_,?_,?_⟩
 ·intro r;unfold putF;split<;>rfl
 ·intro r;unfold putF;split<;>rfl
 ·intro r hr h
  unfold putF at h ⊢
  by_cases hc:(isPart part && isVal n)=true
  ·rw [if_pos hc] at h ⊢
   rw [Bool.and_eq_true] at hc
   have hp:=isPart_iff.1 hc.1
   rw [rowErr_iff] at hr ⊢
   refine ⟨with_set hr.1,fun j hj=>?_⟩
   have hj2:=hr.2 j hj
   dsimp only
   rw [has_with]
   have h8:=r.h8
   by_cases he:j=part.toNat
   ·subst he
    have:(r.vals.set part.toNat n).getD part.toNat 0=n:=by simp [List.getD_eq_getElem?_getD,h8,hj]
    rw [this]
    refine ⟨hc.2,fun _=>?_⟩
    rw [hc.1,decide_eq_true (by omega)];simp
   ·have:(r.vals.set part.toNat n).getD j 0=r.vals.getD j 0:=by
     simp only [List.getD_eq_getElem?_getD]
     rw [List.getElem?_set_ne (by omega)]
    rw [this]
    exact ⟨hj2.1,fun h'=>by rw [hj2.2 h'];rfl⟩
  ·rw [if_neg hc] at h;cases h
theorem dropF_ok (part:Int):FnOk (dropF part):=by
 refine ⟨?_,?_,?_⟩
 ·intro r;unfold dropF;split<;>rfl
 ·intro r;unfold dropF;split<;>rfl
 ·intro r hr h
  unfold dropF at h ⊢
  by_cases hc:hasB r.has part=true
  ·rw [if_pos hc] at h ⊢
   have hp:isPart part=true:=by unfold hasB at hc;rw [Bool.and_eq_true] at hc;exact hc.1
   rw [isPart_iff] at hp
   rw [rowErr_iff] at hr ⊢
   refine ⟨without_set hr.1,fun j hj=>?_⟩
   have hj2:=hr.2 j hj
   dsimp only
   rw [has_without hr.1]
   have h8:=r.h8
   by_cases he:j=part.toNat
   ·subst he
    have:(r.vals.set part.toNat 0).getD part.toNat 0=0:=by simp [List.getD_eq_getElem?_getD,h8,hj]
    rw [this]
    exact ⟨by decide,fun h=>absurd rfl h⟩
   ·have:(r.vals.set part.toNat 0).getD j 0=r.vals.getD j 0:=by
     simp only [List.getD_eq_getElem?_getD]
     rw [List.getElem?_set_ne (by omega)]
    rw [this]
    refine ⟨hj2.1,fun h'=>?_⟩
    rw [hj2.2 h',decide_eq_false (by omega)];rfl
  ·rw [if_neg hc] at h;cases h
structure KillOk (rows:List BRow) (gens:List Int) (i g:Int) (E:Changed):Prop where
 was:RightW rows gens
 there:∃ r∈rows,r.idx=i∧r.gen=g
 rows_:E.rows=keepR (isB i g) rows
 gens_:E.gens=gens
 err:E.err=0
theorem kill_ok {rows:List BRow} {gens:List Int} {i g:Int} (h:(killV rows gens i g).err=0):KillOk rows gens i g (killV rows gens i g):=by
 unfold killV at h ⊢
 dsimp only at h ⊢
 by_cases hc:(changeV rows gens i g keepF).err=0
 ·rw [if_pos hc]
  obtain ⟨k,r,H⟩:=change_ok hc
  have hs:rows.set k (keepF r).1=rows:=by
   show rows.set k r=rows
   rw [← H.get];exact List.set_getElem_self _
  refine ⟨H.was,⟨r,H.mem,H.isb⟩,?_,H.gens_,rfl⟩
  show keepR (isB i g) (changeV rows gens i g keepF).rows=_
  rw [H.rows_,hs]
 ·rw [if_neg hc] at h
  exact absurd h hc
theorem kill_mk {rows:List BRow} {gens:List Int} {i g:Int} (hw:RightW rows gens) {r:BRow} (hr:r∈rows) (hi:r.idx=i) (hg:r.gen=g):(killV rows gens i g).err=0:=by
 have hf:∃ k,findR i g rows=some k:=by
  cases hf:findR i g rows with
  | some k=>exact ⟨k,rfl⟩
  | none=>
   have:=rowOf_none_iff.1 (findR_none hf) r hr
   rw [isB_iff.2 ⟨hi,hg⟩] at this
   cases this
 obtain ⟨k,hf⟩:=hf
 have hk:=findR_lt hf
 have hc:(changeV rows gens i g keepF).err=0:=by
  rw [change_mk keepF hw hf (List.getElem?_eq_getElem hk)]
  rfl
 unfold killV
 dsimp only
 rw [if_pos hc]
theorem mem_keepR {i g:Int} {rows:List BRow} {q:BRow}:q∈keepR (isB i g) rows↔q∈rows∧¬ (q.idx=i∧q.gen=g):=by
 unfold keepR
 rw [List.mem_filter]
 constructor
 ·rintro ⟨h1,h2⟩
  exact ⟨h1,isB_false.1 (by simpa using h2)⟩
 ·rintro ⟨h1,h2⟩
  exact ⟨h1,by rw [isB_false.2 h2];rfl⟩
theorem rise_filter (p:BRow→Bool):∀ {rows:List BRow},Rise rows→Rise (rows.filter p)
 | [],h=>h
 | r::l,h=>by
  have h':=rise_cons.1 h
  rw [List.filter_cons]
  split
  ·rw [rise_cons]
   exact ⟨fun q hq=>h'.1 q (List.mem_filter.1 hq).1,rise_filter p h'.2⟩
  ·exact rise_filter p h'.2
section
variable {rows:List BRow} {gens:List Int} {i g:Int} {E:Changed}
theorem KillOk.is (h:KillOk rows gens i g E):RightW E.rows E.gens:=by
 have hw:=h.was
 rw [h.rows_,h.gens_]
 exact ⟨hw.len,hw.gen,fun q hq=>hw.row q (mem_keepR.1 hq).1,fun q hq=>hw.idx q (mem_keepR.1 hq).1,fun q hq=>hw.fit q (mem_keepR.1 hq).1,rise_filter _ hw.rise⟩
theorem KillOk.rest (h:KillOk rows gens i g E) {i' g':Int} (hne:¬ (i'=i∧g'=g)):rowOf i' g' E.rows=rowOf i' g' rows:=by
 refine ext_some fun p=>?_
 rw [rowOf_some_iff h.is.rise,rowOf_some_iff h.was.rise,h.rows_,mem_keepR]
 constructor
 ·rintro ⟨⟨h1,_⟩,h2⟩;exact ⟨h1,h2⟩
 ·rintro ⟨h1,h2,h3⟩;exact ⟨⟨h1,fun h'=>hne ⟨h2.symm.trans h'.1,h3.symm.trans h'.2⟩⟩,h2,h3⟩
end
open Brood
theorem with_done {r:BRow}:∀ {l:List BRow},(∀ q∈l,r.idx<q.idx)→withFrom r true l=l
 | [],_=>rfl
 | x::l,h=>by
  have hx:=h x (by simp)
  have ih:=with_done (r:=r) (l:=l) (fun q hq=>h q (by simp [hq]))
  have hne:(x.idx != r.idx)=true:=by simp;omega
  unfold withFrom
  rw [hne]
  simp only [Bool.not_true,Bool.false_and,Bool.true_or,ih]
  rfl
theorem with_ins {r:BRow}:∀ {l:List BRow},Rise l→(∀ q∈l,q.idx≠r.idx)→withV r l=insRow l (posOf r.idx l) r
 | [],_,_=>rfl
 | x::l,hr,hne=>by
  have h':=rise_cons.1 hr
  have hx:=hne x (by simp)
  have hxb:(x.idx != r.idx)=true:=by simpa using hx
  unfold withV withFrom
  rw [hxb]
  by_cases h:r.idx≤x.idx
  ·have hd:=with_done (r:=r) (l:=l) (fun q hq=>by have:=h'.1 q hq;omega)
   have hp:posOf r.idx (x::l)=0:=by rw [posOf,if_neg (by omega)]
   rw [hp]
   simp [h,hd,insRow]
  ·have ih:=with_ins (r:=r) (l:=l) h'.2 (fun q hq=>hne q (by simp [hq]))
   unfold withV at ih
   have hp:posOf r.idx (x::l)=posOf r.idx l+1:=by rw [posOf,if_pos (by omega)]
   rw [hp]
   simp [h,ih,insRow]
theorem with_set {r:BRow}:∀ {l:List BRow} {k:Nat} (hk:k<l.length),Rise l→l[k].idx=r.idx→withV r l=l.set k r
 | [],k,hk,_,_=>by simp at hk
 | x::l,0,hk,hr,h=>by
  have h':=rise_cons.1 hr
  simp only [List.getElem_cons_zero] at h
  have hd:=with_done (r:=r) (l:=l) (fun q hq=>by have:=h'.1 q hq;omega)
  unfold withV withFrom
  simp [h,hd]
 | x::l,k+1,hk,hr,h=>by
  have h':=rise_cons.1 hr
  simp only [List.getElem_cons_succ] at h
  have hk':k<l.length:=by simpa using hk
  have hx:=h'.1 (l[k]'hk') (List.getElem_mem _)
  have ih:=with_set (r:=r) (l:=l) (k:=k) hk' h'.2 h
  unfold withV at ih
  unfold withV withFrom
  rw [show (x.idx != r.idx)=true by simp;omega,decide_eq_false (by omega)]
  simp [ih]
theorem findR_of_none {i g:Int} {rows:List BRow} (h:rowOf i g rows=none):findR i g rows=none:=by
 rw [findR_rowOf] at h
 cases hf:findR i g rows with
 | none=>rfl
 | some k=>
  rw [hf] at h
  simp only [Option.bind_some,List.getElem?_eq_getElem (findR_lt hf)] at h
  cases h
theorem findR_of_some {i g:Int} {rows:List BRow} {r:BRow} (h:rowOf i g rows=some r):∃ k,∃ hk:k<rows.length,findR i g rows=some k∧rows[k]=r:=by
 rw [findR_rowOf] at h
 cases hf:findR i g rows with
 | none=>rw [hf] at h;cases h
 | some k=>
  have hk:=findR_lt hf
  rw [hf] at h
  simp only [Option.bind_some,List.getElem?_eq_getElem hk] at h
  exact ⟨k,hk,rfl,Option.some.inj h⟩
theorem change_wrong {rows:List BRow} {gens:List Int} (i g:Int) (fr:BRow→BRow×Int) (h:(worldErr ⟨rows,gens⟩).1≠0):changeV rows gens i g fr=⟨[],[],(worldErr ⟨rows,gens⟩).1⟩:=by
 unfold changeV
 rw [if_pos h]
theorem change_none {rows:List BRow} {gens:List Int} {i g:Int} (fr:BRow→BRow×Int) (hw:RightW rows gens) (h:rowOf i g rows=none):changeV rows gens i g fr=⟨[],[],5⟩:=by
 unfold changeV
 rw [if_neg (by simpa using (right_iff rows gens).2 hw),findR_of_none h]
theorem change_some {rows:List BRow} {gens:List Int} {i g:Int} (fr:BRow→BRow×Int) (hw:RightW rows gens) {r:BRow} (h:rowOf i g rows=some r) (hf:FnOk fr) :
  changeV rows gens i g fr=if (fr r).2≠0 then ⟨[],[],(fr r).2⟩ else ⟨withV (fr r).1 rows,gens,0⟩:=by
 obtain ⟨k,hk,h1,h2⟩:=findR_of_some h
 rw [change_mk fr hw h1 (by rw [List.getElem?_eq_getElem hk,h2]),with_set hk hw.rise (by rw [h2,hf.idx])]
theorem kill_wrong {rows:List BRow} {gens:List Int} (i g:Int) (h:(worldErr ⟨rows,gens⟩).1≠0):killV rows gens i g=⟨[],[],(worldErr ⟨rows,gens⟩).1⟩:=by
 unfold killV
 dsimp only
 rw [change_wrong i g keepF h,if_neg h]
theorem kill_none {rows:List BRow} {gens:List Int} {i g:Int} (hw:RightW rows gens) (h:rowOf i g rows=none):killV rows gens i g=⟨[],[],5⟩:=by
 unfold killV
 dsimp only
 rw [change_none keepF hw h,if_neg (by decide)]
theorem kill_some {rows:List BRow} {gens:List Int} {i g:Int} (hw:RightW rows gens) {r:BRow} (h:rowOf i g rows=some r):killV rows gens i g=⟨keepR (isB i g) rows,gens,0⟩:=by
 have h1:=(rowOf_some_iff hw.rise).1 h
 have hk:=kill_ok (kill_mk hw h1.1 h1.2.1 h1.2.2)
 have e1:=hk.rows_;have e2:=hk.gens_;have e3:=hk.err
 generalize killV rows gens i g=K at *
 obtain ⟨a,b,c⟩:=K
 dsimp only at e1 e2 e3
 rw [e1,e2,e3]
theorem spawn_wrong {rows:List BRow} {gens:List Int} (has n:Int) (h:(worldErr ⟨rows,gens⟩).1≠0):spawnV rows gens has n=⟨[],[],0,0,(worldErr ⟨rows,gens⟩).1⟩:=by
 unfold spawnV
 rw [if_pos h]
theorem spawn_arg {rows:List BRow} {gens:List Int} {has n:Int} (hw:RightW rows gens) (h:isSet has=false∨isVal n=false):spawnV rows gens has n=⟨[],[],0,0,3⟩:=by
 unfold spawnV
 rw [if_neg (by simpa using (right_iff rows gens).2 hw),if_pos h]
theorem spawn_none {rows:List BRow} {gens:List Int} {has n:Int} (hw:RightW rows gens) (h1:isSet has=true) (h2:isVal n=true) (h:(nextV rows gens).2.2≠0):spawnV rows gens has n=⟨[],[],0,0,(nextV rows gens).2.2⟩:=by
 unfold spawnV
 rw [if_neg (by simpa using (right_iff rows gens).2 hw),if_neg (by simp [h1,h2]),if_pos h]
theorem spawn_some {rows:List BRow} {gens:List Int} {has n:Int} (hw:RightW rows gens) (h1:isSet has=true) (h2:isVal n=true) (h:(nextV rows gens).2.2=0) :
  spawnV rows gens has n=⟨withV (newRow (nextV rows gens).1 (nextV rows gens).2.1 has n) rows,gensPut gens (nextV rows gens).1 (nextV rows gens).2.1,(nextV rows gens).1,(nextV rows gens).2.1,0⟩:=by
 have e:spawnV rows gens has n=⟨insRow rows (posOf (nextV rows gens).1 rows) (newRow (nextV rows gens).1 (nextV rows gens).2.1 has n),gensPut gens (nextV rows gens).1 (nextV rows gens).2.1,(nextV rows gens).1,(nextV rows gens).2.1,0⟩:=by
  unfold spawnV
  rw [if_neg (by simpa using (right_iff rows gens).2 hw),if_neg (by simp [h1,h2]),if_neg (by simpa using h)]
 have hS:=spawn_ok (rows:=rows) (gens:=gens) (has:=has) (n:=n) (by rw [e])
 have hn:=hS.new
 rw [e] at hn
 rw [e,with_ins (r:=newRow (nextV rows gens).1 (nextV rows gens).2.1 has n) hw.rise hn]
 rfl
theorem getP_none {i g:Int} {rows:List BRow} (part:Int) (h:rowOf i g rows=none):getP i g rows part=(0,false):=by
 unfold getP
 rw [findR_of_none h]
theorem getP_some {i g:Int} {rows:List BRow} (part:Int) {r:BRow} (h:rowOf i g rows=some r):getP i g rows part=if hasB r.has part then (r.vals.getD part.toNat 0,true) else (0,false):=by
 obtain ⟨k,hk,h1,h2⟩:=findR_of_some h
 unfold getP
 rw [h1]
 simp only [List.getElem?_eq_getElem hk,h2]
end Go.Proofs.YtefdblaolmckmabGreat
namespace Brood
section
variable {α:Type}
def Srt (key:α→Int) (xs:List α):Prop:=xs.Pairwise fun x y=>key x≤key y
def Eqf (key:α→Int) (X Y:List α):Prop:=Y.length=X.length∧∀ k,Y.filter (fun x=>key x==k)=X.filter (fun x=>key x==k)
def Stb (key:α→Int) (X Y:List α):Prop:=Srt key Y∧Eqf key X Y
variable {key:α→Int}
theorem Eqf.refl (X:List α):Eqf key X X:=⟨rfl,fun _=>rfl⟩
theorem Eqf.trans {X Y Z:List α} (h:Eqf key X Y) (k:Eqf key Y Z):Eqf key X Z:=⟨k.1.trans h.1,fun i=>(k.2 i).trans (h.2 i)⟩
theorem Eqf.mem {X Y:List α} (h:Eqf key X Y) {x:α}:x∈Y↔x∈X:=by
 have e:=h.2 (key x)
 constructor
 ·intro hx
  have:x∈Y.filter (fun y=>key y==key x):=List.mem_filter.2 ⟨hx,by simp⟩
  rw [e] at this
  exact (List.mem_filter.1 this).1
 ·intro hx
  have:x∈X.filter (fun y=>key y==key x):=List.mem_filter.2 ⟨hx,by simp⟩
  rw [← e] at this
  exact (List.mem_filter.1 this).1
theorem Eqf.app {X Y X' Y':List α} (h:Eqf key X Y) (h':Eqf key X' Y'):Eqf key (X++X') (Y++Y'):=
 ⟨by simp [h.1,h'.1],fun k=>by rw [List.filter_append,List.filter_append,h.2,h'.2]⟩
theorem Eqf.comm {A B:List α} (h:∀ a∈A,∀ b∈B,key a≠key b):Eqf key (A++B) (B++A):=by
 refine ⟨by simp;omega,fun k=>?_⟩
 rw [List.filter_append,List.filter_append]
 by_cases hA:A.filter (fun x=>key x==k)=[]
 ·rw [hA];simp
 ·have hB:B.filter (fun x=>key x==k)=[]:=by
   rw [List.filter_eq_nil_iff]
   intro b hb hk
   obtain ⟨a,ha⟩:=List.exists_mem_of_ne_nil _ hA
   obtain ⟨ha,hak⟩:=List.mem_filter.1 ha
   exact h a ha b hb (by simp at hak hk;omega)
  rw [hB];simp
theorem Srt.app {A B:List α}:Srt key (A++B)↔Srt key A∧Srt key B∧∀ a∈A,∀ b∈B,key a≤key b:=List.pairwise_append
theorem Srt.single (x:α):Srt key [x]:=List.pairwise_singleton _ _
theorem Srt.nil_:Srt key ([]:List α):=List.Pairwise.nil
theorem srt_one:∀ {Y Z:List α},Srt key Y→Srt key Z→(∀ k,Y.filter (fun x=>key x==k)=Z.filter (fun x=>key x==k))→Y=Z
 | [],[],_,_,_=>rfl
 | [],z::Z,_,_,h=>by have:=h (key z);simp at this
 | y::Y,[],_,_,h=>by have:=h (key y);simp at this
 | y::Y,z::Z,hY,hZ,h=>by
  have hy:=List.pairwise_cons.1 hY
  have hz:=List.pairwise_cons.1 hZ
  have m1:y∈z::Z:=by
   have:y∈(y::Y).filter (fun x=>key x==key y):=List.mem_filter.2 ⟨by simp,by simp⟩
   rw [h] at this
   exact (List.mem_filter.1 this).1
  have m2:z∈y::Y:=by
   have:z∈(z::Z).filter (fun x=>key x==key z):=List.mem_filter.2 ⟨by simp,by simp⟩
   rw [← h] at this
   exact (List.mem_filter.1 this).1
  have l1:key z≤key y:=by
   rcases List.mem_cons.1 m1 with e | e
   ·rw [e];exact Int.le_refl _
   ·exact hz.1 _ e
  have l2:key y≤key z:=by
   rcases List.mem_cons.1 m2 with e | e
   ·rw [e];exact Int.le_refl _
   ·exact hy.1 _ e
  have e:key y=key z:=by omega
  have h1:=h (key y)
  rw [List.filter_cons,List.filter_cons,if_pos (by simp),if_pos (by simp [e])] at h1
  injection h1 with h1 h2
  subst h1
  rw [srt_one hy.2 hz.2 (fun k=>?_)]
  have h3:=h k
  rw [List.filter_cons,List.filter_cons] at h3
  split at h3
  ·injection h3
  ·exact h3
theorem Stb.one {X Y Z:List α} (h:Stb key X Y) (k:Stb key X Z):Y=Z:=srt_one h.1 k.1 (fun i=>(h.2.2 i).trans (k.2.2 i).symm)
def atJ (P L S:List α) (x:α) (j:Nat):List α:=P++L.take (j-P.length)++x::L.drop (j-P.length)++S
def swp (xs:List α) (i j:Nat):List α:=
 match xs[i]?,xs[j]? with
 | some a,some b=>(xs.set i b).set j a
 | _,_=>xs
theorem swp_length (xs:List α) (i j:Nat):(swp xs i j).length=xs.length:=by
 unfold swp;split<;>simp
theorem swp_some {xs:List α} {i j:Nat} {a b:α} (ha:xs[i]?=some a) (hb:xs[j]?=some b):(xs.set i b).set j a=swp xs i j:=by
 unfold swp;rw [ha,hb]
theorem swp_comm (xs:List α) (i j:Nat):swp xs i j=swp xs j i:=by
 unfold swp
 cases h:xs[i]? with
 | none=>cases h2:xs[j]?<;>rfl
 | some a=>
  cases h2:xs[j]? with
  | none=>rfl
  | some b=>
   by_cases e:i=j
   ·subst e
    rw [h] at h2
    injection h2 with h2
    subst h2
    rfl
   ·exact List.set_comm _ _ e
theorem swp_mid (P M S:List α) (a b:α):swp (P++a::M++b::S) P.length (P.length+1+M.length)=P++b::M++a::S:=by
 have h1:(P++a::M++b::S)[P.length]?=some a:=by simp
 have h2:(P++a::M++b::S)[P.length+1+M.length]?=some b:=by
  rw [show P++a::M++b::S=(P++a::M)++b::S by simp,List.getElem?_append_right (by simp;omega)]
  simp
  rw [show P.length+1+M.length-(P.length+(M.length+1))=0 by omega]
  rfl
 rw [← swp_some h1 h2]
 rw [show P++a::M++b::S=P++(a::M++b::S) by simp,List.set_append_right _ _ (Nat.le_refl _),Nat.sub_self]
 simp only [List.cons_append,List.set_cons_zero]
 rw [List.set_append_right _ _ (by omega),show P.length+1+M.length-P.length=M.length+1 by omega,List.set_cons_succ,List.set_append_right _ _ (Nat.le_refl _),Nat.sub_self]
 simp
theorem swp_mid' {P M S:List α} {a b:α} {i j:Nat} (hi:i=P.length) (hj:j=P.length+1+M.length):swp (P++a::M++b::S) i j=P++b::M++a::S:=by
 subst hi;subst hj;exact swp_mid P M S a b
theorem atJ_length (P L S:List α) (x:α) (j:Nat):(atJ P L S x j).length=P.length+L.length+1+S.length:=by
 simp [atJ];omega
theorem atJ_at {P L S:List α} {x:α} {j:Nat} (h:P.length≤j) (h2:j≤P.length+L.length):(atJ P L S x j)[j]?=some x:=by
 unfold atJ
 rw [show P++L.take (j-P.length)++x::L.drop (j-P.length)++S=(P++L.take (j-P.length))++x::(L.drop (j-P.length)++S) by simp,List.getElem?_append_right (by simp;omega),List.length_append,List.length_take,show j-(P.length+min (j-P.length) L.length)=0 by omega]
 rfl
theorem take_last {L:List α} {k:Nat} (h:k<L.length):L.take (k+1)=L.take k++[L[k]]:=by simp
theorem atJ_ahead {P L S:List α} {x:α} {j:Nat} (h:P.length<j) (h2:j≤P.length+L.length):(atJ P L S x j)[j-1]?=L[j-1-P.length]?:=by
 unfold atJ
 rw [show P++L.take (j-P.length)++x::L.drop (j-P.length)++S=P++(L.take (j-P.length)++(x::(L.drop (j-P.length)++S))) by simp,List.getElem?_append_right (by omega),List.getElem?_append_left (by simp;omega),List.getElem?_take,if_pos (by omega)]
theorem atJ_behind {P L S:List α} {x:α} {j:Nat} (h:P.length≤j) (h2:j<P.length+L.length):(atJ P L S x j)[j+1]?=L[j-P.length]?:=by
 unfold atJ
 rw [show P++L.take (j-P.length)++x::L.drop (j-P.length)++S=(P++L.take (j-P.length)++[x])++(L.drop (j-P.length)++S) by simp,List.getElem?_append_right (by simp;omega),List.getElem?_append_left (by simp;omega),List.getElem?_drop]
 congr 1
 simp
 rw [Nat.min_eq_left (by omega)];omega
theorem atJ_down {P L S:List α} {x:α} {j:Nat} (h:P.length<j) (h2:j≤P.length+L.length):swp (atJ P L S x j) j (j-1)=atJ P L S x (j-1):=by
 obtain ⟨k,rfl⟩:∃ k,j=P.length+(k+1):=⟨j-P.length-1,by omega⟩
 have hk:k<L.length:=by omega
 unfold atJ
 rw [show P.length+(k+1)-P.length=k+1 by omega,show P.length+(k+1)-1-P.length=k by omega,take_last hk,swp_comm,
  show P++(L.take k++[L[k]])++x::L.drop (k+1)++S=(P++L.take k)++L[k]::[]++x::(L.drop (k+1)++S) by simp]
 rw [swp_mid' (by simp;omega) (by simp;omega)]
 have e:=List.drop_eq_getElem_cons (i:=k) hk
 simp
 rw [e]
 rfl
theorem swp_swp {xs:List α} {i j:Nat} (hi:i<xs.length) (hj:j<xs.length) (hne:i≠j):swp (swp xs j i) i j=xs:=by
 have h1:xs[i]?=some xs[i]:=List.getElem?_eq_getElem hi
 have h2:xs[j]?=some xs[j]:=List.getElem?_eq_getElem hj
 rw [← swp_some h2 h1]
 have h3:((xs.set j xs[i]).set i xs[j])[i]?=some xs[j]:=by simp [hi]
 have h4:((xs.set j xs[i]).set i xs[j])[j]?=some xs[i]:=by rw [List.getElem?_set_ne hne];simp [hj]
 rw [← swp_some h3 h4]
 apply List.ext_getElem?
 intro k
 by_cases e1:j=k
 ·subst e1;simp [hj]
 ·rw [List.getElem?_set_ne e1]
  by_cases e2:i=k
  ·subst e2;simp [hi]
  ·rw [List.getElem?_set_ne e2,List.getElem?_set_ne e2,List.getElem?_set_ne e1]
theorem atJ_up {P L S:List α} {x:α} {j:Nat} (h:P.length≤j) (h2:j<P.length+L.length):swp (atJ P L S x j) j (j+1)=atJ P L S x (j+1):=by
 have:=atJ_down (P:=P) (L:=L) (S:=S) (x:=x) (j:=j+1) (by omega) (by omega)
 rw [Nat.add_sub_cancel] at this
 rw [← this]
 exact swp_swp (by rw [atJ_length];omega) (by rw [atJ_length];omega) (by omega)
theorem atJ_start (P L S:List α) (x:α):atJ P L S x P.length=P++x::L++S:=by simp [atJ]
theorem atJ_end (P L S:List α) (x:α):atJ P L S x (P.length+L.length)=P++L++x::S:=by simp [atJ]
theorem atJ_eq (P L S:List α) (x:α) (k:Nat):atJ P L S x (P.length+k)=P++(L.take k++x::L.drop k)++S:=by simp [atJ]
theorem Srt.at_ {L:List α} (h:Srt key L) {i j:Nat} {a b:α} (ha:L[i]?=some a) (hb:L[j]?=some b) (hij:i≤j):key a≤key b:=by
 rcases Nat.lt_or_ge i j with hlt | hge
 ·have h1:=(List.getElem?_eq_some_iff.1 ha)
  have h2:=(List.getElem?_eq_some_iff.1 hb)
  obtain ⟨l1,e1⟩:=h1
  obtain ⟨l2,e2⟩:=h2
  have:=List.pairwise_iff_getElem.1 h i j l1 l2 hlt
  rw [e1,e2] at this
  exact this
 ·obtain rfl:i=j:=by omega
  rw [ha] at hb
  injection hb with hb
  subst hb
  exact Int.le_refl _
theorem mem_take_at {L:List α} {k:Nat} {a:α} (h:a∈L.take k):∃ i,i<k∧L[i]?=some a:=by
 obtain ⟨i,hi⟩:=List.getElem?_of_mem h
 rw [List.getElem?_take] at hi
 split at hi
 ·exact ⟨i,by assumption,hi⟩
 ·cases hi
theorem mem_drop_at {L:List α} {k:Nat} {a:α} (h:a∈L.drop k):∃ i,k≤i∧L[i]?=some a:=by
 obtain ⟨i,hi⟩:=List.getElem?_of_mem h
 rw [List.getElem?_drop] at hi
 exact ⟨k+i,by omega,hi⟩
theorem stb_down {L:List α} {x:α} {k:Nat} (hL:Srt key L) (h1:∀ i y,i<k→L[i]?=some y→key y≤key x) (h2:∀ i y,k≤i→L[i]?=some y→key x<key y):Stb key (L++[x]) (L.take k++x::L.drop k):=by
 have e:Srt key (L.take k++L.drop k):=by rw [List.take_append_drop];exact hL
 have e:=Srt.app.1 e
 have d1:∀ y∈L.take k,key y≤key x:=fun y hy=>by obtain ⟨i,hi,hy⟩:=mem_take_at hy;exact h1 i y hi hy
 have d2:∀ y∈L.drop k,key x<key y:=fun y hy=>by obtain ⟨i,hi,hy⟩:=mem_drop_at hy;exact h2 i y hi hy
 refine ⟨Srt.app.2 ⟨e.1,List.pairwise_cons.2 ⟨fun y hy=>Int.le_of_lt (d2 y hy),e.2.1⟩,fun a ha b hb=>?_⟩,?_⟩
 ·rcases List.mem_cons.1 hb with rfl | hb
  ·exact d1 a ha
  ·exact e.2.2 a ha b hb
 ·have:=(Eqf.refl (key:=key) (L.take k)).app (Eqf.comm (A:=L.drop k) (B:=[x]) (key:=key) (fun a ha b hb=>by
   obtain rfl:b=x:=by simpa using hb
   have:=d2 a ha
   omega))
  rw [← List.append_assoc,List.take_append_drop] at this
  simpa using this
theorem stb_up {L:List α} {x:α} {k:Nat} (hL:Srt key L) (h1:∀ i y,i<k→L[i]?=some y→key y<key x) (h2:∀ i y,k≤i→L[i]?=some y→key x≤key y):Stb key (x::L) (L.take k++x::L.drop k):=by
 have e:Srt key (L.take k++L.drop k):=by rw [List.take_append_drop];exact hL
 have e:=Srt.app.1 e
 have d1:∀ y∈L.take k,key y<key x:=fun y hy=>by obtain ⟨i,hi,hy⟩:=mem_take_at hy;exact h1 i y hi hy
 have d2:∀ y∈L.drop k,key x≤key y:=fun y hy=>by obtain ⟨i,hi,hy⟩:=mem_drop_at hy;exact h2 i y hi hy
 refine ⟨Srt.app.2 ⟨e.1,List.pairwise_cons.2 ⟨fun y hy=>d2 y hy,e.2.1⟩,fun a ha b hb=>?_⟩,?_⟩
 ·rcases List.mem_cons.1 hb with rfl | hb
  ·exact Int.le_of_lt (d1 a ha)
  ·exact e.2.2 a ha b hb
 ·have:=(Eqf.comm (A:=[x]) (B:=L.take k) (key:=key) (fun a ha b hb=>by
   obtain rfl:a=x:=by simpa using ha
   have:=d1 b hb
   omega)).app (Eqf.refl (key:=key) (L.drop k))
  rw [List.append_assoc,List.take_append_drop] at this
  simpa using this
def swR (xs:List α) (a b:Nat):Nat→List α
 | 0=>xs
 | n+1=>swR (swp xs a b) (a+1) (b+1) n
theorem swR_length:∀ (n:Nat) (xs:List α) (a b:Nat),(swR xs a b n).length=xs.length
 | 0,_,_,_=>rfl
 | n+1,xs,a,b=>by rw [swR,swR_length n,swp_length]
theorem swR_eq:∀ (U V P M S:List α) (a b:Nat),U.length=V.length→a=P.length→b=P.length+U.length+M.length→swR (P++U++M++V++S) a b U.length=P++V++M++U++S
 | [],[],P,M,S,a,b,_,_,_=>rfl
 | u::U,v::V,P,M,S,a,b,hl,ha,hb=>by
  simp at hl hb
  rw [List.length_cons,swR,show P++u::U++M++v::V++S=P++u::(U++M)++v::(V++S) by simp,swp_mid' ha (by simp;omega)]
  have:=swR_eq U V (P++[v]) (M++[u]) S (a+1) (b+1) hl (by simp;omega) (by simp;omega)
  simp only [List.append_assoc,List.cons_append,List.nil_append,List.singleton_append] at this ⊢
  exact this
theorem swR_eq' {U V P M S xs:List α} {a b n:Nat} (hx:xs=P++U++M++V++S) (hu:U.length=n) (hv:V.length=n) (ha:a=P.length) (hb:b=P.length+n+M.length):swR xs a b n=P++V++M++U++S:=by
 subst hx;subst hu;exact swR_eq U V P M S a b hv.symm ha hb
def RotI (G:List α) (m i j:Nat) (cur:List α):Prop:=∃ A u v B,cur=A++u++v++B∧G=A++v++u++B∧m=A.length+i∧u.length=i∧v.length=j∧0<i∧0<j
theorem RotI.start {P U V S:List α} {a m b:Nat} (ha:a=P.length) (hm:m=a+U.length) (hb:b=m+V.length) (h1:a<m) (h2:m<b):RotI (P++V++U++S) m (m-a) (b-m) (P++U++V++S):=
 ⟨P,U,V,S,rfl,rfl,by omega,by omega,by omega,by omega,by omega⟩
theorem RotI.low {G cur:List α} {m i j:Nat} (h:RotI G m i j cur):0<i∧0<j∧i≤m∧m+j≤cur.length:=by
 obtain ⟨A,u,v,B,rfl,_,h1,h2,h3,h4,h5⟩:=h
 simp;omega
theorem RotI.left {G cur:List α} {m i j:Nat} (h:RotI G m i j cur) (hij:j<i):RotI G m (i-j) j (swR cur (m-i) m j):=by
 obtain ⟨A,u,v,B,rfl,hG,h1,h2,h3,h4,h5⟩:=h
 have hu:u=u.take j++u.drop j:=(List.take_append_drop j u).symm
 have hx:A++u++v++B=A++u.take j++u.drop j++v++B:=by simp
 refine ⟨A++v,u.drop j,u.take j,B,?_,?_,by simp;omega,by simp;omega,by simp;omega,by omega,h5⟩
 ·rw [swR_eq' hx (by simp;omega) h3 (by omega) (by simp;omega)]
 ·rw [hG];conv=>lhs;rw [hu]
  simp
theorem RotI.right {G cur:List α} {m i j:Nat} (h:RotI G m i j cur) (hij:i<j):RotI G m i (j-i) (swR cur (m-i) (m+j-i) i):=by
 obtain ⟨A,u,v,B,rfl,hG,h1,h2,h3,h4,h5⟩:=h
 have hv:v=v.take (j-i)++v.drop (j-i):=(List.take_append_drop (j-i) v).symm
 have hx:A++u++v++B=A++u++v.take (j-i)++v.drop (j-i)++B:=by simp
 refine ⟨A,v.drop (j-i),v.take (j-i),u++B,?_,?_,by omega,by simp;omega,by simp;omega,h4,by omega⟩
 ·rw [swR_eq' hx h2 (by simp;omega) (by omega) (by simp;omega)]
  simp
 ·rw [hG];conv=>lhs;rw [hv]
  simp
theorem RotI.last {G cur:List α} {m i:Nat} (h:RotI G m i i cur):swR cur (m-i) m i=G:=by
 obtain ⟨A,u,v,B,rfl,hG,h1,h2,h3,h4,h5⟩:=h
 rw [hG,swR_eq' (M:=[]) (U:=u) (V:=v) (P:=A) (S:=B) (by simp) h2 h3 (by omega) (by simp;omega)]
 simp
structure MrgI (key:α→Int) (L R:List α) (a m n lo r0 start r:Nat):Prop where
 le1:lo≤start
 le2:start≤r
 le3:r≤r0
 low:∀ c x y,lo≤c→c<start→L[c-a]?=some x→R[n-1-c-m]?=some y→key x≤key y
 high:∀ c x y,r≤c→c<r0→L[c-a]?=some x→R[n-1-c-m]?=some y→key y<key x
theorem MrgI.begin {L R:List α} {a m n lo r0:Nat} (h:lo≤r0):MrgI key L R a m n lo r0 lo r0:=
 ⟨Nat.le_refl _,h,Nat.le_refl _,fun c x y h1 h2=>absurd h2 (by omega),fun c x y h1 h2=>absurd h2 (by omega)⟩
theorem MrgI.up {L R:List α} {a m n lo r0 start r c:Nat} {x y:α} (h:MrgI key L R a m n lo r0 start r) (hL:Srt key L) (hR:Srt key R) (ha:a≤lo) (h1:start≤c) (h2:c<r) (hx:L[c-a]?=some x) (hy:R[n-1-c-m]?=some y) (hxy:¬ key y<key x):MrgI key L R a m n lo r0 (c+1) r:=by
 refine ⟨by have:=h.le1;omega,by omega,h.le3,fun d u v g1 g2 hu hv=>?_,h.high⟩
 have e1:=hL.at_ hu hx (by omega)
 have e2:=hR.at_ hy hv (by omega)
 omega
theorem MrgI.down {L R:List α} {a m n lo r0 start r c:Nat} {x y:α} (h:MrgI key L R a m n lo r0 start r) (hL:Srt key L) (hR:Srt key R) (h1:start≤c) (h2:c<r) (hx:L[c-a]?=some x) (hy:R[n-1-c-m]?=some y) (hxy:key y<key x):MrgI key L R a m n lo r0 start c:=by
 refine ⟨h.le1,h1,by have:=h.le3;omega,h.low,fun d u v g1 g2 hu hv=>?_⟩
 have e1:=hL.at_ hx hu (by omega)
 have e2:=hR.at_ hv hy (by omega)
 omega
theorem MrgI.ends {L R:List α} {a m b n lo r0 s:Nat} (h:MrgI key L R a m n lo r0 s s) (hL:Srt key L) (hR:Srt key R) (hm:a+L.length=m) (hb:m+R.length=b)
  (hlo:a≤lo) (hr0:r0≤m) (hnb:n≤b+lo) (hlo2:lo=a∨n=b+lo) (hr2:r0=m∨n=m+r0) :
  (∀ x∈L.take (s-a),∀ y∈R.drop (n-s-m),key x≤key y)∧(∀ y∈R.take (n-s-m),∀ x∈L.drop (s-a),key y<key x):=by
 have l1:=h.le1
 have l3:=h.le3
 constructor
 ·intro x hx y hy
  obtain ⟨i,hi,hx⟩:=mem_take_at hx
  obtain ⟨j,hj,hy⟩:=mem_drop_at hy
  have hj2:=(List.getElem?_eq_some_iff.1 hy).1
  rcases Nat.lt_or_ge lo s with hs | hs
  ·have e1:L[s-1-a]?=some L[s-1-a]:=List.getElem?_eq_getElem (by omega)
   have e2:R[n-1-(s-1)-m]?=some R[n-1-(s-1)-m]:=List.getElem?_eq_getElem (by omega)
   have e3:=h.low (s-1) _ _ (by omega) (by omega) e1 e2
   have e4:=hL.at_ hx e1 (by omega)
   have e5:=hR.at_ e2 hy (by omega)
   omega
  ·omega
 ·intro y hy x hx
  obtain ⟨j,hj,hy⟩:=mem_take_at hy
  obtain ⟨i,hi,hx⟩:=mem_drop_at hx
  have hi2:=(List.getElem?_eq_some_iff.1 hx).1
  have hj2:=(List.getElem?_eq_some_iff.1 hy).1
  rcases Nat.lt_or_ge s r0 with hs | hs
  ·rcases Nat.lt_or_ge (n-1-s-m) R.length with hq | hq
   ·have e1:L[s-a]?=some L[s-a]:=List.getElem?_eq_getElem (by omega)
    have e2:R[n-1-s-m]?=some R[n-1-s-m]:=List.getElem?_eq_getElem hq
    have e3:=h.high s _ _ (by omega) (by omega) e1 e2
    have e4:=hL.at_ e1 hx (by omega)
    have e5:=hR.at_ hy e2 (by omega)
    omega
   ·omega
  ·omega
theorem stb_two {L1 L2 R1 R2 Y1 Y2:List α} (h1:Stb key (L1++R1) Y1) (h2:Stb key (L2++R2) Y2) (hL:Srt key (L1++L2)) (hR:Srt key (R1++R2)) (d1:∀ x∈L1,∀ y∈R2,key x≤key y) (d2:∀ y∈R1,∀ x∈L2,key y<key x) :
  Stb key (L1++L2++(R1++R2)) (Y1++Y2):=by
 have eL:=Srt.app.1 hL
 have eR:=Srt.app.1 hR
 refine ⟨Srt.app.2 ⟨h1.1,h2.1,fun a ha b hb=>?_⟩,?_⟩
 ·rw [h1.2.mem] at ha
  rw [h2.2.mem] at hb
  rcases List.mem_append.1 ha with ha | ha<;>rcases List.mem_append.1 hb with hb | hb
  ·exact eL.2.2 a ha b hb
  ·exact d1 a ha b hb
  ·exact Int.le_of_lt (d2 a ha b hb)
  ·exact eR.2.2 a ha b hb
 ·have e:=((Eqf.refl (key:=key) L1).app (Eqf.comm (A:=L2) (B:=R1) (key:=key) (fun a ha b hb=>by have:=d2 b hb a ha;omega))).app (Eqf.refl (key:=key) R2)
  have:=e.trans (Y:=L1++(R1++L2)++R2) (Z:=Y1++Y2) (by
   have:=h1.2.app h2.2
   simpa using this)
  simpa using this
theorem Srt.stb {X:List α} (h:Srt key X):Stb key X X:=⟨h,Eqf.refl X⟩
def PartI (key:α→Int) (a b:Nat) (xs ys:List α):Prop:=∃ P X S Y,xs=P++X++S∧P.length=a∧a+X.length=b∧ys=P++Y++S∧Stb key X Y
def Sg (key:α→Int) (ys:List α) (s e:Nat):Prop:=Srt key ((ys.drop s).take (e-s))
theorem PartI.eqf {a b:Nat} {xs ys:List α} (h:PartI key a b xs ys):Eqf key xs ys:=by
 obtain ⟨P,X,S,Y,rfl,_,_,rfl,hs⟩:=h
 exact ((Eqf.refl P).app hs.2).app (Eqf.refl S)
theorem PartI.len {a b:Nat} {xs ys:List α} (h:PartI key a b xs ys):ys.length=xs.length:=h.eqf.1
theorem seg_mid {P X S:List α} {a b:Nat} (h1:P.length=a) (h2:a+X.length=b):((P++X++S).drop a).take (b-a)=X:=by
 rw [List.append_assoc,List.drop_append,← h1]
 simp
 rw [show b-P.length=X.length by omega]
 simp
theorem PartI.sg {a b:Nat} {xs ys:List α} (h:PartI key a b xs ys):Sg key ys a b:=by
 obtain ⟨P,X,S,Y,rfl,h1,h2,rfl,hs⟩:=h
 unfold Sg
 rw [seg_mid h1 (by rw [hs.2.1];exact h2)]
 exact hs.1
theorem PartI.other {a b s e:Nat} {xs ys:List α} (h:PartI key a b xs ys) (hse:e≤a∨b≤s) (hs:Sg key xs s e):Sg key ys s e:=by
 have hl:=h.len
 obtain ⟨P,X,S,Y,rfl,h1,h2,rfl,hst⟩:=h
 have hY:=hst.2.1
 have:((P++Y++S).drop s).take (e-s)=((P++X++S).drop s).take (e-s):=by
  apply List.ext_getElem?
  intro i
  rw [List.getElem?_take,List.getElem?_take]
  by_cases hi:i<e-s
  ·rw [if_pos hi,if_pos hi,List.getElem?_drop,List.getElem?_drop]
   rcases hse with hse | hse
   ·rw [List.append_assoc,List.append_assoc,List.getElem?_append_left (by omega),List.getElem?_append_left (by omega)]
   ·rw [List.getElem?_append_right (by simp;omega),List.getElem?_append_right (by simp;omega)]
    simp [hY]
  ·rw [if_neg hi,if_neg hi]
 unfold Sg at hs ⊢
 rw [this]
 exact hs
theorem Sg.cut {ys:List α} {s e e':Nat} (h:Sg key ys s e) (he:e'≤e):Sg key ys s e':=by
 unfold Sg at h ⊢
 rw [show (ys.drop s).take (e' - s)=((ys.drop s).take (e-s)).take (e' - s) by rw [List.take_take];congr 1;omega]
 exact h.sublist (List.take_sublist _ _)
theorem Sg.over {ys:List α} {s e e':Nat} (h:Sg key ys s e) (he:ys.length≤e):Sg key ys s e':=by
 unfold Sg at h ⊢
 rw [List.take_of_length_le (by simp;omega)] at h
 exact h.sublist (List.take_sublist _ _)
theorem Sg.past {ys:List α} {s e:Nat} (he:ys.length≤s):Sg key ys s e:=by
 unfold Sg
 rw [List.drop_of_length_le he]
 simp [Srt]
def AllB (key:α→Int) (B:Nat) (cur:List α):Prop:=∀ j,Sg key cur (j*B) (j*B+B)
def OneA (key:α→Int) (B a:Nat) (cur:List α):Prop:=∃ k,a=k*B∧∀ j,j<k→Sg key cur (j*B) (j*B+B)
theorem OneA.begin {B:Nat} {xs:List α}:OneA key B 0 xs:=⟨0,by simp,fun j h=>absurd h (by omega)⟩
theorem mul_lt_le {j k B:Nat} (h:j<k):j*B+B≤k*B:=by
 have:=Nat.mul_le_mul_right B (show j+1≤k by omega)
 rwa [Nat.add_mul,Nat.one_mul] at this
theorem OneA.step {B a:Nat} {xs ys:List α} (h:OneA key B a xs) (hp:PartI key a (a+B) xs ys):OneA key B (a+B) ys:=by
 obtain ⟨k,rfl,h⟩:=h
 refine ⟨k+1,by rw [Nat.add_mul,Nat.one_mul],fun j hj=>?_⟩
 rcases Nat.lt_or_ge j k with hjk | hjk
 ·exact hp.other (.inl (mul_lt_le hjk)) (h j hjk)
 ·obtain rfl:j=k:=by omega
  exact hp.sg
theorem OneA.last {B a n:Nat} {xs ys:List α} (h:OneA key B a xs) (hn:n=xs.length) (ha:n<a+B) (hp:PartI key a n xs ys):AllB key B ys:=by
 obtain ⟨k,rfl,h⟩:=h
 have hl:=hp.len
 intro j
 rcases Nat.lt_trichotomy j k with hjk | hjk | hjk
 ·exact hp.other (.inl (mul_lt_le hjk)) (h j hjk)
 ·subst hjk
  exact hp.sg.over (by omega)
 ·have:=mul_lt_le (B:=B) hjk
  exact Sg.past (by omega)
def MidA (key:α→Int) (B a:Nat) (cur:List α):Prop:=∃ k,a=k*(2*B)∧(∀ j,j<k→Sg key cur (j*(2*B)) (j*(2*B)+2*B))∧∀ j,2*k≤j→Sg key cur (j*B) (j*B+B)
theorem AllB.begin {B:Nat} {xs:List α} (h:AllB key B xs):MidA key B 0 xs:=⟨0,by simp,fun j h=>absurd h (by omega),fun j _=>h j⟩
theorem two_mul_B (k B:Nat):2*k*B=k*(2*B):=by rw [Nat.mul_comm 2 k,Nat.mul_assoc]
theorem MidA.pre {B a:Nat} {xs:List α} (h:MidA key B a xs):Sg key xs a (a+B)∧Sg key xs (a+B) (a+2*B):=by
 obtain ⟨k,rfl,_,h⟩:=h
 have h1:=h (2*k) (by omega)
 have h2:=h (2*k+1) (by omega)
 rw [Nat.add_mul,Nat.one_mul,two_mul_B] at h2
 rw [two_mul_B] at h1
 exact ⟨h1,by rw [show k*(2*B)+2*B=k*(2*B)+B+B by omega];exact h2⟩
theorem MidA.step {B a:Nat} {xs ys:List α} (h:MidA key B a xs) (hp:PartI key a (a+2*B) xs ys):MidA key B (a+2*B) ys:=by
 obtain ⟨k,rfl,h,h2⟩:=h
 refine ⟨k+1,by rw [Nat.add_mul,Nat.one_mul],fun j hj=>?_,fun j hj=>?_⟩
 ·rcases Nat.lt_or_ge j k with hjk | hjk
  ·exact hp.other (.inl (mul_lt_le hjk)) (h j hjk)
  ·obtain rfl:j=k:=by omega
   exact hp.sg
 ·refine hp.other (.inr ?_) (h2 j (by omega))
  have:=Nat.mul_le_mul_right B hj
  rw [two_mul_B,Nat.add_mul,Nat.one_mul] at this
  exact this
theorem MidA.last {B a n:Nat} {xs ys:List α} (h:MidA key B a xs) (hn:n=xs.length) (ha:n<a+2*B) (hp:PartI key a n xs ys):AllB key (2*B) ys:=by
 obtain ⟨k,rfl,h,h2⟩:=h
 have hl:=hp.len
 intro j
 rcases Nat.lt_trichotomy j k with hjk | hjk | hjk
 ·exact hp.other (.inl (mul_lt_le hjk)) (h j hjk)
 ·subst hjk
  exact hp.sg.over (by omega)
 ·have:=mul_lt_le (B:=2*B) hjk
  exact Sg.past (by omega)
theorem MidA.skip {B a:Nat} {xs:List α} (h:MidA key B a xs) (ha:xs.length≤a+B):AllB key (2*B) xs:=by
 have hpre:=h.pre
 obtain ⟨k,rfl,h,h2⟩:=h
 intro j
 rcases Nat.lt_trichotomy j k with hjk | hjk | hjk
 ·exact h j hjk
 ·subst hjk
  exact hpre.1.over (by omega)
 ·have:=mul_lt_le (B:=2*B) hjk
  exact Sg.past (by omega)
theorem AllB.whole {B:Nat} {xs:List α} (h:AllB key B xs) (hB:xs.length≤B):Srt key xs:=by
 have:=h 0
 unfold Sg at this
 simp at this
 rwa [List.take_of_length_le hB] at this
theorem cut3 (xs:List α) {a b:Nat} (h1:a≤b) (h2:b≤xs.length):∃ P X S,xs=P++X++S∧P.length=a∧a+X.length=b∧X=(xs.drop a).take (b-a):=by
 refine ⟨xs.take a,(xs.drop a).take (b-a),xs.drop b,?_,by simp;omega,by simp;omega,rfl⟩
 have h3:xs.drop b=(xs.drop a).drop (b-a):=by rw [List.drop_drop];congr 1;omega
 rw [h3,List.append_assoc,List.take_append_drop,List.take_append_drop]
theorem cut4 (xs:List α) {a m b:Nat} (h0:a≤m) (h1:m≤b) (h2:b≤xs.length):∃ P L R S,xs=P++L++R++S∧P.length=a∧a+L.length=m∧m+R.length=b∧L=(xs.drop a).take (m-a)∧R=(xs.drop m).take (b-m):=by
 obtain ⟨P,L,S,e,h3,h4,h5⟩:=cut3 xs h0 (by omega)
 obtain ⟨P2,R,S2,e2,h6,h7,h8⟩:=cut3 xs h1 h2
 refine ⟨P,L,R,S2,?_,h3,h4,h7,h5,h8⟩
 have hx:P++L=P2:=by
  have:=congrArg (List.take m) (e.symm.trans e2)
  rwa [List.take_append_of_le_length (by simp;omega),List.take_of_length_le (by simp;omega),List.append_assoc,List.take_append_of_le_length (by omega),List.take_of_length_le (by omega)] at this
 rw [hx];exact e2
def insK (key:α→Int) (x:α) (xs:List α):List α:=xs.takeWhile (fun y=>decide (key y≤key x))++x::xs.dropWhile (fun y=>decide (key y≤key x))
def sortK (key:α→Int) (xs:List α):List α:=xs.foldl (fun acc x=>insK key x acc) []
theorem insK_stb {X Y:List α} {x:α} (h:Stb key X Y):Stb key (X++[x]) (insK key x Y):=by
 have e:Y.takeWhile (fun y=>decide (key y≤key x))++Y.dropWhile (fun y=>decide (key y≤key x))=Y:=List.takeWhile_append_dropWhile
 have hs:Srt key (Y.takeWhile (fun y=>decide (key y≤key x))++Y.dropWhile (fun y=>decide (key y≤key x))):=by rw [e];exact h.1
 have hs:=Srt.app.1 hs
 have d1:∀ y∈Y.takeWhile (fun y=>decide (key y≤key x)),key y≤key x:=by
  have:∀ (l:List α),∀ y∈l.takeWhile (fun y=>decide (key y≤key x)),key y≤key x:=by
   intro l
   induction l with
   | nil=>simp
   | cons z l ih=>
    intro y hy
    rw [List.takeWhile_cons] at hy
    split at hy
    ·rename_i hz
     rcases List.mem_cons.1 hy with rfl | hy
     ·simpa using hz
     ·exact ih y hy
    ·simp at hy
  exact this Y
 have d2:∀ y∈Y.dropWhile (fun y=>decide (key y≤key x)),key x<key y:=by
  intro y hy
  cases hd:Y.dropWhile (fun y=>decide (key y≤key x)) with
  | nil=>rw [hd] at hy;simp at hy
  | cons z l=>
   have hz:¬ key z≤key x:=by
    have:=List.head_dropWhile_not (fun y=>decide (key y≤key x)) (l:=Y) (by rw [hd];simp)
    simpa [hd] using this
   rw [hd] at hy hs
   rcases List.mem_cons.1 hy with rfl | hy
   ·omega
   ·have:=(List.pairwise_cons.1 hs.2.1).1 y hy
    omega
 refine ⟨Srt.app.2 ⟨hs.1,List.pairwise_cons.2 ⟨fun y hy=>Int.le_of_lt (d2 y hy),hs.2.1⟩,fun a ha b hb=>?_⟩,?_⟩
 ·rcases List.mem_cons.1 hb with rfl | hb
  ·exact d1 a ha
  ·exact hs.2.2 a ha b hb
 ·have h1:Eqf key (X++[x]) (Y++[x]):=h.2.app (Eqf.refl _)
  have h2:=(Eqf.refl (key:=key) (Y.takeWhile (fun y=>decide (key y≤key x)))).app (Eqf.comm (A:=Y.dropWhile (fun y=>decide (key y≤key x))) (B:=[x]) (key:=key) (fun a ha b hb=>by
   obtain rfl:b=x:=by simpa using hb
   have:=d2 a ha
   omega))
  rw [← List.append_assoc,e] at h2
  have:=h1.trans h2
  simpa [insK] using this
theorem sortK_stb (xs:List α):Stb key xs (sortK key xs):=by
 have:∀ (l X Y:List α),Stb key X Y→Stb key (X++l) (l.foldl (fun acc x=>insK key x acc) Y):=by
  intro l
  induction l with
  | nil=>intro X Y h;simpa using h
  | cons x l ih=>
   intro X Y h
   have:=ih (X++[x]) (insK key x Y) (insK_stb h)
   simpa using this
 simpa [sortK] using this xs [] [] ⟨Srt.nil_,Eqf.refl _⟩
theorem Stb.sortK {X Y:List α} (h:Stb key X Y):Y=sortK key X:=h.one (sortK_stb X)
theorem srt_small {X:List α} (h:X.length≤1):Srt key X:=by
 match X,h with
 | [],_=>exact Srt.nil_
 | [x],_=>exact Srt.single x
theorem PartI.first {a b:Nat} {xs:List α} (hab:a≤b) (hb:b≤xs.length):PartI key a (min (a+1) b) xs xs:=by
 obtain ⟨P,X,S,e,h1,h2,_⟩:=cut3 xs (a:=a) (b:=min (a+1) b) (by omega) (by omega)
 exact ⟨P,X,S,X,e,h1,h2,e,(srt_small (by omega)).stb⟩
theorem PartI.opens {a i:Nat} {xs cur:List α} (h:PartI key a i xs cur) (hi:i<xs.length) (ha:a≤i):∃ P L x Q,cur=P++L++x::Q∧P.length=a∧P.length+L.length=i∧Srt key L ∧
  ∀ k,(∀ t y,t<k→L[t]?=some y→key y≤key x)→(∀ t y,k≤t→L[t]?=some y→key x<key y)→PartI key a (i+1) xs (P++(L.take k++x::L.drop k)++Q):=by
 obtain ⟨P,X,S,Y,hxs,hP,hX,hcur,hs⟩:=h
 match S,hxs,hcur with
 | [],hxs,_=>
  exfalso
  rw [hxs] at hi
  simp at hi
  omega
 | x::Q,hxs,hcur=>
  refine ⟨P,Y,x,Q,hcur,hP,by have:=hs.2.1;omega,hs.1,fun k h1 h2=>⟨P,X++[x],Q,_,by simp [hxs],hP,by simp;omega,rfl,?_⟩⟩
  have d:=stb_down hs.1 h1 h2
  exact ⟨d.1,(hs.2.app (Eqf.refl [x])).trans d.2⟩
end
end Brood
namespace Go.Proofs.YtefdblaolmckmabGreat
open Brood
structure Grp where
 h:Int
 rs:List BRow
def hpos (x:Int):List Grp→Nat
 | []=>0
 | g::l=>if g.h<x then hpos x l+1 else 0
theorem hpos_le (x:Int):∀ G:List Grp,hpos x G≤G.length
 | []=>Nat.le_refl _
 | g::l=>by
  have:=hpos_le x l
  rw [hpos,List.length_cons]
  split<;>omega
def hfound (x:Int) (G:List Grp):Bool:=match G[hpos x G]? with | some g=>g.h==x | none=>false
def opened (x:Int) (G:List Grp):List Grp:=if hfound x G then G else G.take (hpos x G)++⟨x,[]⟩::G.drop (hpos x G)
def putRow (r:BRow) (g:Grp):Grp:=⟨g.h,insRow g.rs (posOf r.idx g.rs) r⟩
def insG (r:BRow) (G:List Grp):List Grp:=(opened r.has G).set (hpos r.has G) (putRow r ((opened r.has G).getD (hpos r.has G) ⟨0,[]⟩))
def cutRow (at_:Nat) (g:Grp):Grp:=⟨g.h,g.rs.eraseIdx at_⟩
def remG (k at_:Nat) (G:List Grp):List Grp:=if (cutRow at_ (G.getD k ⟨0,[]⟩)).rs=[] then G.eraseIdx k else G.set k (cutRow at_ (G.getD k ⟨0,[]⟩))
def flatG (G:List Grp):List BRow:=G.flatMap Grp.rs
def Up (G:List Grp):Prop:=G.Pairwise fun a b=>a.h<b.h
structure Gok (G:List Grp):Prop where
 up:Up G
 full:∀ g∈G,g.rs≠[]
 fit:∀ g∈G,∀ r∈g.rs,r.has=g.h
 rise:∀ g∈G,Rise g.rs
 row:∀ g∈G,∀ r∈g.rs,rowErr r=0
theorem Gok.nil_:Gok []:=⟨List.Pairwise.nil,by simp,by simp,by simp,by simp⟩
theorem hpos_spec {x:Int}:∀ {G:List Grp},Up G→(∀ g∈G.take (hpos x G),g.h<x)∧(∀ g∈G.drop (hpos x G),x≤g.h)
 | [],_=>by simp
 | g::l,h=>by
  have h':=List.pairwise_cons.1 h
  have ih:=hpos_spec (x:=x) (G:=l) h'.2
  rw [hpos]
  split
  ·rename_i hlt
   refine ⟨?_,?_⟩
   ·intro q hq
    rw [List.take_succ_cons] at hq
    rcases List.mem_cons.1 hq with rfl | hq
    ·exact hlt
    ·exact ih.1 q hq
   ·intro q hq
    rw [List.drop_succ_cons] at hq
    exact ih.2 q hq
  ·rename_i hge
   refine ⟨by simp,?_⟩
   intro q hq
   rw [List.drop_zero] at hq
   rcases List.mem_cons.1 hq with rfl | hq
   ·omega
   ·have:=h'.1 q hq;omega
structure OpenedAt (x:Int) (G:List Grp) (G1:List Grp) (g:Grp) (G2:List Grp):Prop where
 eq:opened x G=G1++g::G2
 len:G1.length=hpos x G
 h:g.h=x
 lo:∀ a∈G1,a.h<x
 hi:∀ a∈G2,x<a.h
 or_:(g.rs=[]∧G=G1++G2∧hfound x G=false)∨(G=G1++g::G2∧hfound x G=true)
theorem opened_at (x:Int) {G:List Grp} (hG:Up G):∃ G1 g G2,OpenedAt x G G1 g G2:=by
 have hs:=hpos_spec (x:=x) hG
 have hle:=hpos_le x G
 cases hk:G[hpos x G]? with
 | none=>
  have hl:G.length≤hpos x G:=List.getElem?_eq_none_iff.1 hk
  have hf:hfound x G=false:=by unfold hfound;rw [hk]
  have hd:G.drop (hpos x G)=[]:=List.drop_of_length_le hl
  refine ⟨G.take (hpos x G),⟨x,[]⟩,[],by unfold opened;rw [hf,hd];rfl,by simp;omega,rfl,hs.1,by simp,.inl ⟨rfl,?_,hf⟩⟩
  rw [List.append_nil,List.take_of_length_le hl]
 | some g=>
  obtain ⟨hl,hg⟩:=List.getElem?_eq_some_iff.1 hk
  have hd:G.drop (hpos x G)=g::G.drop (hpos x G+1):=by rw [← hg];exact List.drop_eq_getElem_cons hl
  have hcut:G=G.take (hpos x G)++g::G.drop (hpos x G+1):=by rw [← hd,List.take_append_drop]
  have hgx:x≤g.h:=hs.2 g (by rw [hd];simp)
  have hup:∀ a∈G.drop (hpos x G+1),g.h<a.h:=by
   have h2:Up (G.take (hpos x G)++g::G.drop (hpos x G+1)):=by rw [← hcut];exact hG
   exact (List.pairwise_cons.1 (List.pairwise_append.1 h2).2.1).1
  by_cases he:g.h=x
  ·have hf:hfound x G=true:=by unfold hfound;rw [hk];simpa using he
   exact ⟨G.take (hpos x G),g,G.drop (hpos x G+1),by unfold opened;rw [if_pos hf];exact hcut,by simp;omega,he,hs.1,fun a ha=>by have:=hup a ha;omega,.inr ⟨hcut,hf⟩⟩
  ·have hf:hfound x G=false:=by unfold hfound;rw [hk];simpa using he
   refine ⟨G.take (hpos x G),⟨x,[]⟩,G.drop (hpos x G),by unfold opened;rw [hf];rfl,by simp;omega,rfl,hs.1,fun a ha=>?_,.inl ⟨rfl,(List.take_append_drop _ _).symm,hf⟩⟩
   rw [hd] at ha
   rcases List.mem_cons.1 ha with rfl | ha
   ·omega
   ·have:=hup a ha;omega
theorem OpenedAt.ins {r:BRow} {G G1 G2:List Grp} {g:Grp} (h:OpenedAt r.has G G1 g G2):insG r G=G1++putRow r g::G2:=by
 unfold insG
 rw [h.eq,← h.len]
 simp [List.getD_eq_getElem?_getD]
theorem flatG_mid (G1 G2:List Grp) (g:Grp):flatG (G1++g::G2)=flatG G1++(g.rs++flatG G2):=by simp [flatG]
theorem insRow_perm (rows:List BRow) (k:Nat) (r:BRow):(insRow rows k r).Perm (r::rows):=by
 unfold insRow
 refine List.perm_middle.trans ?_
 rw [List.take_append_drop]
theorem insG_ok {r:BRow} {G:List Grp} (hG:Gok G) (hr:rowErr r=0) (hne:∀ q∈flatG G,q.idx≠r.idx):Gok (insG r G)∧(flatG (insG r G)).Perm (r::flatG G):=by
 obtain ⟨G1,g,G2,h⟩:=opened_at r.has hG.up
 rw [h.ins]
 have hmem:∀ a,a∈G1∨a∈G2→a∈G:=by
  intro a ha
  rcases h.or_ with ⟨_,e,_⟩ | ⟨e,_⟩<;>rw [e]<;>rcases ha with ha | ha<;>simp [ha]
 have hgr:∀ q∈g.rs,q∈flatG G∧q.has=g.h∧rowErr q=0:=by
  intro q hq
  rcases h.or_ with ⟨e,_⟩ | ⟨e,_⟩
  ·rw [e] at hq;simp at hq
  ·have hm:g∈G:=by rw [e];simp
   exact ⟨List.mem_flatMap.2 ⟨g,hm,hq⟩,hG.fit g hm q hq,hG.row g hm q hq⟩
 have hgrise:Rise g.rs:=by
  rcases h.or_ with ⟨e,_⟩ | ⟨e,_⟩
  ·rw [e];intro i j hi;simp at hi
  ·exact hG.rise g (by rw [e];simp)
 have hup12:Up G1∧Up G2∧∀ a∈G1,∀ b∈G2,a.h<b.h:=by
  refine ⟨?_,?_,fun a ha b hb=>by have:=h.lo a ha;have:=h.hi b hb;omega⟩
  ·rcases h.or_ with ⟨_,e,_⟩ | ⟨e,_⟩
   ·have:=hG.up;rw [e] at this;exact (List.pairwise_append.1 this).1
   ·have:=hG.up;rw [e] at this;exact (List.pairwise_append.1 this).1
  ·rcases h.or_ with ⟨_,e,_⟩ | ⟨e,_⟩
   ·have:=hG.up;rw [e] at this;exact (List.pairwise_append.1 this).2.1
   ·have:=hG.up;rw [e] at this;exact (List.pairwise_cons.1 (List.pairwise_append.1 this).2.1).2
 have hcase:∀ {p:Grp→Prop},(∀ a∈G,p a)→p (putRow r g)→∀ a∈G1++putRow r g::G2,p a:=by
  intro p h1 h2 a ha
  rcases List.mem_append.1 ha with ha | ha
  ·exact h1 a (hmem a (.inl ha))
  ·rcases List.mem_cons.1 ha with rfl | ha
   ·exact h2
   ·exact h1 a (hmem a (.inr ha))
 refine ⟨⟨?_,hcase hG.full ?_,hcase hG.fit ?_,hcase hG.rise ?_,hcase hG.row ?_⟩,?_⟩
 ·refine List.pairwise_append.2 ⟨hup12.1,List.pairwise_cons.2 ⟨fun a ha=>by show g.h<a.h;rw [h.h];exact h.hi a ha,hup12.2.1⟩,fun a ha b hb=>?_⟩
  rcases List.mem_cons.1 hb with rfl | hb
  ·show a.h<g.h;rw [h.h];exact h.lo a ha
  ·exact hup12.2.2 a ha b hb
 ·show insRow g.rs (posOf r.idx g.rs) r≠[]
  unfold insRow
  simp
 ·intro q hq
  rcases mem_insRow.1 hq with rfl | hq
  ·exact h.h.symm
  ·exact (hgr q hq).2.1
 ·exact rise_ins hgrise (fun q hq=>hne q (hgr q hq).1)
 ·intro q hq
  rcases mem_insRow.1 hq with rfl | hq
  ·exact hr
  ·exact (hgr q hq).2.2
 ·rw [flatG_mid]
  have e:flatG G=flatG G1++(g.rs++flatG G2):=by
   rcases h.or_ with ⟨e1,e,_⟩ | ⟨e,_⟩
   ·rw [e1];conv=>lhs;rw [e]
    simp [flatG]
   ·conv=>lhs;rw [e]
    exact flatG_mid _ _ _
  rw [e]
  refine List.Perm.trans (List.Perm.append_left _ ((insRow_perm g.rs _ r).append_right _)) ?_
  rw [List.cons_append]
  exact List.perm_middle
theorem eraseIdx_perm {α:Type}:∀ {l:List α} {k:Nat} (hk:k<l.length),l.Perm (l[k]::l.eraseIdx k)
 | x::l,0,_=>by simp
 | x::l,k+1,hk=>by
  have:=eraseIdx_perm (l:=l) (k:=k) (by simpa using hk)
  simp only [List.getElem_cons_succ,List.eraseIdx_cons_succ]
  exact (this.cons x).trans (List.Perm.swap _ _ _)
theorem rise_sub {l m:List BRow} (h:Rise m) (hs:l.Sublist m):Rise l:=by
 have h2:m.Pairwise (fun a b=>a.idx<b.idx):=List.pairwise_iff_getElem.2 (fun i j hi hj hij=>h i j hi hj hij)
 have h3:=h2.sublist hs
 exact fun i j hi hj hij=>List.pairwise_iff_getElem.1 h3 i j hi hj hij
theorem rise_pair {m:List BRow}:Rise m↔m.Pairwise (fun a b=>a.idx<b.idx):=by
 rw [List.pairwise_iff_getElem];rfl
structure CutAt (k at_:Nat) (G G1:List Grp) (g:Grp) (G2:List Grp):Prop where
 eq:G=G1++g::G2
 len:G1.length=k
 lt:at_<g.rs.length
theorem CutAt.get {k at_:Nat} {G G1 G2:List Grp} {g:Grp} (h:CutAt k at_ G G1 g G2):G.getD k ⟨0,[]⟩=g:=by
 rw [h.eq,← h.len];simp [List.getD_eq_getElem?_getD]
theorem CutAt.rem {k at_:Nat} {G G1 G2:List Grp} {g:Grp} (h:CutAt k at_ G G1 g G2):remG k at_ G=if (cutRow at_ g).rs=[] then G1++G2 else G1++cutRow at_ g::G2:=by
 unfold remG
 rw [h.get]
 split
 ·rw [h.eq,← h.len];simp [List.eraseIdx_append_of_length_le]
 ·rw [h.eq,← h.len];simp
theorem cut_at {k at_:Nat} {G:List Grp} {g:Grp} (hk:G[k]?=some g) (hat:at_<g.rs.length):∃ G1 G2,CutAt k at_ G G1 g G2:=by
 obtain ⟨hl,hg⟩:=List.getElem?_eq_some_iff.1 hk
 refine ⟨G.take k,G.drop (k+1),?_,by simp;omega,hat⟩
 rw [← hg,← List.drop_eq_getElem_cons hl,List.take_append_drop]
theorem remG_ok {k at_:Nat} {G:List Grp} {g:Grp} (hG:Gok G) (hk:G[k]?=some g) (hat:at_<g.rs.length):Gok (remG k at_ G)∧(flatG G).Perm (g.rs[at_]::flatG (remG k at_ G)):=by
 obtain ⟨G1,G2,h⟩:=cut_at hk hat
 have hm:g∈G:=by rw [h.eq];simp
 have hsub:(g.rs.eraseIdx at_).Sublist g.rs:=List.eraseIdx_sublist _ _
 have hU:Up (G1++g::G2):=by rw [← h.eq];exact hG.up
 have hU':=List.pairwise_append.1 hU
 have hperm:(flatG G).Perm (g.rs[at_]::(flatG G1++(g.rs.eraseIdx at_++flatG G2))):=by
  rw [h.eq,flatG_mid]
  refine List.Perm.trans (List.Perm.append_left _ ((eraseIdx_perm hat).append_right _)) ?_
  rw [List.cons_append]
  exact List.perm_middle
 have hmem1:∀ a∈G1++G2,a∈G:=fun a ha=>by
  rw [h.eq];rcases List.mem_append.1 ha with ha | ha<;>simp [ha]
 rw [h.rem]
 split
 ·rename_i he
  have he':g.rs.eraseIdx at_=[]:=he
  have hs2:(G1++G2).Sublist G:=by rw [h.eq];exact List.Sublist.append_left (List.sublist_cons_self _ _) _
  refine ⟨⟨hG.up.sublist hs2,fun a ha=>hG.full a (hmem1 a ha),fun a ha=>hG.fit a (hmem1 a ha),fun a ha=>hG.rise a (hmem1 a ha),fun a ha=>hG.row a (hmem1 a ha)⟩,?_⟩
  rw [he'] at hperm
  simpa [flatG] using hperm
 ·rename_i he
  have hcase:∀ {p:Grp→Prop},(∀ a∈G,p a)→p (cutRow at_ g)→∀ a∈G1++cutRow at_ g::G2,p a:=by
   intro p h1 h2 a ha
   rcases List.mem_append.1 ha with ha | ha
   ·exact h1 a (hmem1 a (by simp [ha]))
   ·rcases List.mem_cons.1 ha with rfl | ha
    ·exact h2
    ·exact h1 a (hmem1 a (by simp [ha]))
  refine ⟨⟨?_,hcase hG.full he,hcase hG.fit (fun q hq=>hG.fit g hm q (hsub.mem hq)),hcase hG.rise (rise_sub (hG.rise g hm) hsub),hcase hG.row (fun q hq=>hG.row g hm q (hsub.mem hq))⟩,?_⟩
  ·refine List.pairwise_append.2 ⟨hU'.1,List.pairwise_cons.2 ⟨(List.pairwise_cons.1 hU'.2.1).1,(List.pairwise_cons.1 hU'.2.1).2⟩,fun a ha b hb=>?_⟩
   rcases List.mem_cons.1 hb with rfl | hb
   ·exact hU'.2.2 a ha g (by simp)
   ·exact hU'.2.2 a ha b (by simp [hb])
  ·rw [flatG_mid]
   exact hperm
structure Rep (G:List Grp) (rows:List BRow):Prop where
 ok:Gok G
 perm:(flatG G).Perm rows
 rise:Rise rows
theorem filter_key {k:Int}:∀ {rows:List BRow},rows.Pairwise (fun a b=>a.idx≠b.idx)→∀ {x:BRow},x∈rows→x.idx=k→rows.filter (fun r=>r.idx==k)=[x]
 | [],_,x,hx,_=>by simp at hx
 | r::l,h,x,hx,hk=>by
  have h':=List.pairwise_cons.1 h
  rw [List.filter_cons]
  rcases List.mem_cons.1 hx with rfl | hx
  ·rw [if_pos (by simpa using hk)]
   have:l.filter (fun r=>r.idx==k)=[]:=by
    rw [List.filter_eq_nil_iff]
    intro a ha
    have:=h'.1 a ha
    simp;omega
   rw [this]
  ·have:=h'.1 x hx
   rw [if_neg (by simp;omega)]
   exact filter_key h'.2 hx hk
theorem eqf_perm {X Y:List BRow} (hp:X.Perm Y) (hd:Y.Pairwise (fun a b=>a.idx≠b.idx)):Eqf BRow.idx X Y:=by
 have hdX:X.Pairwise (fun a b=>a.idx≠b.idx):=hp.symm.pairwise hd (fun h=>h.symm)
 refine ⟨hp.length_eq.symm,fun k=>?_⟩
 by_cases hk:∃ x∈Y,x.idx=k
 ·obtain ⟨x,hx,hxk⟩:=hk
  rw [filter_key hd hx hxk,filter_key hdX (hp.symm.mem_iff.1 hx) hxk]
 ·have h1:Y.filter (fun r=>r.idx==k)=[]:=by
   rw [List.filter_eq_nil_iff]
   intro a ha
   have:a.idx≠k:=fun e=>hk ⟨a,ha,e⟩
   simpa using this
  have h2:X.filter (fun r=>r.idx==k)=[]:=by
   rw [List.filter_eq_nil_iff]
   intro a ha
   have:a.idx≠k:=fun e=>hk ⟨a,hp.mem_iff.1 ha,e⟩
   simpa using this
  rw [h1,h2]
theorem sort_perm {X Y:List BRow} (hp:X.Perm Y) (hr:Rise Y):sortK BRow.idx X=Y:=by
 have hd:=rise_pair.1 hr
 have:Stb BRow.idx X Y:=⟨hd.imp (fun h=>Int.le_of_lt h),eqf_perm hp (hd.imp (fun h=>by omega))⟩
 exact this.sortK.symm
theorem Rep.world {G:List Grp} {rows:List BRow} (h:Rep G rows):sortK BRow.idx (flatG G)=rows:=sort_perm h.perm h.rise
theorem Rep.nil_:Rep [] []:=⟨Gok.nil_,List.Perm.refl _,fun i j hi=>by simp at hi⟩
theorem Rep.ins {G:List Grp} {rows:List BRow} {r:BRow} (h:Rep G rows) (hr:rowErr r=0) (hne:∀ q∈rows,q.idx≠r.idx):Rep (insG r G) (insRow rows (posOf r.idx rows) r):=by
 have:=insG_ok h.ok hr (fun q hq=>hne q (h.perm.mem_iff.1 hq))
 exact ⟨this.1,this.2.trans ((h.perm.cons r).trans (insRow_perm _ _ _).symm),rise_ins h.rise hne⟩
end Go.Proofs.YtefdblaolmckmabGreat
