/- Lemmas of the proof. -/
import Derived.Laws.AppendOwnNone
import Derived.Deep.QuietTactic
import Derived.BigQuiet
import Derived.Test.YtefdblaolmckmabGreatRBSpecSToSpecU
import Derived.Test.YtefdblaolmckmabGreatRBSpecOToSpecR
import Derived.Test.YtefdblaolmckmabGreatRBRowToInv
set_option linter.unusedVariables false
set_option linter.unusedSimpArgs false
set_option maxRecDepth 100000
set_option maxHeartbeats 12800000
namespace Go.Proofs.YtefdblaolmckmabGreat
open Brood
def placeG (i g:Int):Nat→List Grp→Option (Nat×Nat)
 | _,[]=>none
 | k,t::l=>match findR i g t.rs with
  | some j=>some (k,j)
  | none=>placeG i g (k+1) l
theorem placeG_some {i g:Int}:∀ {G:List Grp} {k0 k j:Nat},placeG i g k0 G=some (k,j)→∃ n t,k=k0+n∧G[n]?=some t∧findR i g t.rs=some j
 | [],_,_,_,h=>by cases h
 | t::l,k0,k,j,h=>by
  rw [placeG] at h
  split at h
  ·rename_i j' hj
   injection h with h
   injection h with h1 h2
   subst h1 h2
   exact ⟨0,t,rfl,rfl,hj⟩
  ·obtain ⟨n,t',h1,h2,h3⟩:=placeG_some h
   exact ⟨n+1,t',by omega,by simpa using h2,h3⟩
theorem placeG_none {i g:Int}:∀ {G:List Grp} {k0:Nat},placeG i g k0 G=none→∀ t∈G,findR i g t.rs=none
 | [],_,_=>by simp
 | t::l,k0,h=>by
  rw [placeG] at h
  split at h
  ·cases h
  ·rename_i hn
   intro a ha
   rcases List.mem_cons.1 ha with rfl | ha
   ·exact hn
   ·exact placeG_none h a ha
theorem mem_flatG {G:List Grp} {r:BRow}:r∈flatG G↔∃ t∈G,r∈t.rs:=List.mem_flatMap
theorem Rep.mem {G:List Grp} {rows:List BRow} (h:Rep G rows) {r:BRow}:r∈rows↔∃ t∈G,r∈t.rs:=h.perm.mem_iff.symm.trans mem_flatG
theorem Rep.place_some {G:List Grp} {rows:List BRow} (h:Rep G rows) {i g:Int} {k j:Nat} (hp:placeG i g 0 G=some (k,j)) :
  ∃ t,G[k]?=some t∧∃ hj:j<t.rs.length,isB i g t.rs[j]=true∧rowOf i g rows=some t.rs[j]:=by
 obtain ⟨n,t,h1,h2,h3⟩:=placeG_some hp
 obtain rfl:n=k:=by omega
 obtain ⟨hj,hb⟩:=findR_spec h3
 refine ⟨t,h2,hj,hb,(rowOf_some_iff h.rise).2 ⟨h.mem.2 ⟨t,List.mem_of_getElem? h2,List.getElem_mem hj⟩,isB_iff.1 hb⟩⟩
theorem Rep.place_none {G:List Grp} {rows:List BRow} (h:Rep G rows) {i g:Int} (hp:placeG i g 0 G=none):rowOf i g rows=none:=by
 rw [rowOf_none_iff]
 intro r hr
 obtain ⟨t,ht,hrt⟩:=h.mem.1 hr
 exact rowOf_none_iff.1 (findR_none (placeG_none hp t ht)) r hrt
def matchG (fa fn:Int) (G:List Grp):List BRow:=(G.filter fun t=>meetsB fa fn t.h).flatMap Grp.rs
theorem matchG_flat (fa fn:Int):∀ {G:List Grp},(∀ t∈G,∀ r∈t.rs,r.has=t.h)→matchG fa fn G=matchV fa fn (flatG G)
 | [],_=>rfl
 | t::l,h=>by
  have ih:=matchG_flat fa fn (G:=l) (fun a ha=>h a (by simp [ha]))
  unfold matchG matchV flatG at ih ⊢
  rw [List.flatMap_cons,List.filter_append,← ih,List.filter_cons]
  have ht:=h t (by simp)
  by_cases hm:meetsB fa fn t.h=true
  ·rw [if_pos hm,List.flatMap_cons]
   congr 1
   symm
   rw [List.filter_eq_self]
   intro r hr
   rw [ht r hr];exact hm
  ·rw [if_neg hm]
   have:t.rs.filter (fun r=>meetsB fa fn r.has)=[]:=by
    rw [List.filter_eq_nil_iff]
    intro r hr
    rw [ht r hr];exact hm
   rw [this];rfl
theorem Rep.match_ {G:List Grp} {rows:List BRow} (h:Rep G rows) (fa fn:Int):sortK BRow.idx (matchG fa fn G)=matchV fa fn rows:=by
 rw [matchG_flat fa fn h.ok.fit]
 exact sort_perm (h.perm.filter _) (rise_sub h.rise List.filter_sublist)
theorem rise_unique {X Y:List BRow} (hx:Rise X) (hy:Rise Y) (hp:X.Perm Y):X=Y:=(sort_perm (List.Perm.refl X) hx).symm.trans (sort_perm hp hy)
theorem set_perm {α:Type}:∀ {l:List α} {k:Nat} (hk:k<l.length) (a:α),(l.set k a).Perm (a::l.eraseIdx k)
 | x::l,0,_,a=>by simp
 | x::l,k+1,hk,a=>by
  have:=set_perm (l:=l) (k:=k) (by simpa using hk) a
  simp only [List.set_cons_succ,List.eraseIdx_cons_succ]
  exact (this.cons x).trans (List.Perm.swap _ _ _)
theorem Rep.cut {G:List Grp} {rows:List BRow} (h:Rep G rows) {k j m:Nat} {t:Grp} (hk:G[k]?=some t) (hj:j<t.rs.length) (hm:m<rows.length) (e:rows[m]=t.rs[j]):Rep (remG k j G) (rows.eraseIdx m):=by
 have h1:=remG_ok h.ok hk hj
 have h2:(rows[m]::flatG (remG k j G)).Perm (rows[m]::rows.eraseIdx m):=by
  rw [e]
  refine (h1.2.symm.trans h.perm).trans ?_
  rw [← e]
  exact eraseIdx_perm hm
 exact ⟨h1.1,h2.cons_inv,rise_sub h.rise (List.eraseIdx_sublist _ _)⟩
theorem erase_ne {rows:List BRow} (hr:Rise rows) {m:Nat} (hm:m<rows.length):∀ q∈rows.eraseIdx m,q.idx≠rows[m].idx:=by
 have h1:=(eraseIdx_perm hm)
 have h2:(rows[m]::rows.eraseIdx m).Pairwise (fun a b=>a.idx≠b.idx):=h1.pairwise ((rise_pair.1 hr).imp (fun h=>by omega)) (fun h=>h.symm)
 intro q hq e
 exact (List.pairwise_cons.1 h2).1 q hq e.symm
theorem Rep.chg {G:List Grp} {rows:List BRow} (h:Rep G rows) {k j m:Nat} {t:Grp} (hk:G[k]?=some t) (hj:j<t.rs.length) (hm:m<rows.length) (e:rows[m]=t.rs[j]) {r:BRow} (hr:rowErr r=0) (hi:r.idx=rows[m].idx) (hR:Rise (rows.set m r)) :
  Rep (insG r (remG k j G)) (rows.set m r):=by
 have h1:=(h.cut hk hj hm e).ins hr (fun q hq=>by rw [hi];exact erase_ne h.rise hm q hq)
 have h2:insRow (rows.eraseIdx m) (posOf r.idx (rows.eraseIdx m)) r=rows.set m r:=
  rise_unique h1.rise hR ((insRow_perm _ _ _).trans (set_perm hm r).symm)
 rw [← h2];exact h1
def ofG (rows:List BRow):List Grp:=rows.foldl (fun G r=>insG r G) []
theorem ofG_take {rows:List BRow} {k:Nat} (hk:k<rows.length):ofG (rows.take (k+1))=insG rows[k] (ofG (rows.take k)):=by
 unfold ofG
 rw [List.take_add_one,List.getElem?_eq_getElem hk,Option.toList_some,List.foldl_append]
 rfl
theorem rise_snoc_ins {rows:List BRow} {r:BRow} (h:∀ q∈rows,q.idx<r.idx):insRow rows (posOf r.idx rows) r=rows++[r]:=by
 have:posOf r.idx rows=rows.length:=posOf_eq (Nat.le_refl _) (fun t ht _=>h _ (List.getElem_mem ht)) (fun t ht ht2=>by omega)
 rw [this,insRow];simp
theorem ofG_rep {rows:List BRow} (hr:Rise rows) (he:∀ r∈rows,rowErr r=0):∀ k,k≤rows.length→Rep (ofG (rows.take k)) (rows.take k)
 | 0,_=>by simpa [ofG] using Rep.nil_
 | k+1,hk=>by
  have ih:=ofG_rep hr he k (by omega)
  have hlt:∀ q∈rows.take k,q.idx<(rows[k]).idx:=by
   intro q hq
   obtain ⟨i,hi,rfl⟩:=List.getElem_of_mem hq
   rw [List.length_take] at hi
   rw [List.getElem_take]
   exact hr i k (by omega) (by omega) (by omega)
  rw [ofG_take (by omega)]
  have:=ih.ins (r:=rows[k]'(by omega)) (he _ (List.getElem_mem (by omega))) (fun q hq=>by have:=hlt q hq;omega)
  rw [rise_snoc_ins hlt] at this
  rw [List.take_add_one,List.getElem?_eq_getElem (by omega),Option.toList_some]
  exact this
theorem RightW.rep {rows:List BRow} {gens:List Int} (h:RightW rows gens):Rep (ofG rows) rows:=by
 have:=ofG_rep h.rise h.row rows.length (Nat.le_refl _)
 rwa [List.take_length] at this
open Brood
structure BTab where
 has:Int
 bs:List (Int×Int)
 cols:List (List Int)
def beOf (r:BRow):Int×Int:=(r.idx,r.gen)
def colOf (rs:List BRow) (k:Int):List Int:=rs.map fun r=>r.vals.getD k.toNat 0
theorem colOf_get (rs:List BRow) (k:Int) {i:Nat} (h:i<rs.length):(colOf rs k)[i]'(by simpa [colOf] using h)=rs[i].vals.getD k.toNat 0:=by simp [colOf]
def tabG (g:Grp):BTab:=⟨g.h,g.rs.map beOf,(listS g.h).map (colOf g.rs)⟩
def colsErr (n:Nat):List (List Int)→Int
 | []=>0
 | c::l=>if c.length≠n then 4 else if (c.any fun v=>!isVal v)=true then 3 else colsErr n l
def bsErr:Option Int→List (Int×Int)→Int
 | _,[]=>0
 | p,b::l=>if prevGe p b.1=true then 2 else bsErr (some b.1) l
def tabErr (t:BTab):Int:=
 if isSet t.has=false then 3
 else if t.bs.length=0∨t.cols.length≠(listS t.has).length then 4
 else if colsErr t.bs.length t.cols≠0 then colsErr t.bs.length t.cols
 else bsErr none t.bs
def tabsFrom:Nat→Option Int→List BTab→Int×Int
 | _,_,[]=>(0,0)
 | i,p,t::l=>
  if tabErr t≠0 then (tabErr t,(i:Int))
  else if prevGe p t.has=true then (2,(i:Int))
  else tabsFrom (i+1) (some t.has) l
def valsC (i:Nat):List Int→List (List Int)→List Int→List Int
 | k::ks,c::cs,vs=>valsC i ks cs (vs.set k.toNat (c.getD i 0))
 | _,_,vs=>vs
theorem valsC_len (i:Nat):∀ (ks:List Int) (cs:List (List Int)) (vs:List Int),(valsC i ks cs vs).length=vs.length
 | k::ks,c::cs,vs=>by rw [valsC,valsC_len i ks cs];simp
 | [],_,_=>by rw [valsC];simp
 | _::_,[],_=>by rw [valsC];simp
def rowT (t:BTab) (i:Nat) (b:Int×Int):BRow:=⟨b.1,b.2,t.has,valsC i (listS t.has) t.cols zeros8,by rw [valsC_len];rfl⟩
def rowsT (t:BTab):List BRow:=t.bs.zipIdx.map fun p=>rowT t p.2 p.1
def grpOf (t:BTab):Grp:=⟨t.has,rowsT t⟩
theorem rowsT_len (t:BTab):(rowsT t).length=t.bs.length:=by simp [rowsT]
theorem rowsT_get (t:BTab) {i:Nat} (h:i<t.bs.length):(rowsT t)[i]'(by rw [rowsT_len];exact h)=rowT t i t.bs[i]:=by simp [rowsT]
theorem valsC_get (i:Nat):∀ (ks:List Int) (cs:List (List Int)) (vs:List Int),vs.length=8→(∀ k∈ks,0≤k∧k<8)→ks.Nodup→cs.length=ks.length→∀ j:Nat,j<8 →
  (∀ n (hn:n<ks.length) (hc:n<cs.length),ks[n]=(j:Int)→(valsC i ks cs vs).getD j 0=cs[n].getD i 0)∧((j:Int) ∉ ks→(valsC i ks cs vs).getD j 0=vs.getD j 0)
 | [],cs,vs,_,_,_,_,j,_=>by
  rw [valsC]
  ·exact ⟨fun n hn=>absurd hn (by simp),fun _=>rfl⟩
  ·simp
 | k::ks,[],vs,_,_,_,h,j,_=>by simp at h
 | k::ks,c::cs,vs,h8,hr,hd,hl,j,hj=>by
  have hd':=List.nodup_cons.1 hd
  have hk:=hr k (by simp)
  obtain ⟨m,rfl⟩:=nat_of hk.1
  have ih:=valsC_get i ks cs (vs.set (m:Int).toNat (c.getD i 0)) (by simp [h8]) (fun q hq=>hr q (by simp [hq])) hd'.2 (by simpa using hl) j hj
  rw [valsC]
  refine ⟨?_,?_⟩
  ·intro n hn hc he
   cases n with
   | zero=>
    simp only [List.getElem_cons_zero] at he ⊢
    have hm:m=j:=by omega
    subst hm
    rw [ih.2 hd'.1]
    simp only [List.getD_eq_getElem?_getD,Int.toNat_natCast]
    rw [List.getElem?_set_self (by omega)]
    rfl
   | succ n=>
    simp only [List.getElem_cons_succ] at he ⊢
    exact ih.1 n (by simpa using hn) (by simpa using hc) he
  ·intro hn
   simp only [List.mem_cons,not_or] at hn
   rw [ih.2 hn.2]
   simp only [List.getD_eq_getElem?_getD,Int.toNat_natCast]
   rw [List.getElem?_set_ne (by omega)]
theorem listS_nodup (s:Int):(listS s).Nodup:=by
 unfold listS listN
 exact List.Pairwise.map _ (fun a b h e=>h (Int.ofNat.inj e)) ((List.nodup_range).filter _)
structure Clean (g:Grp):Prop where
 set_:isSet g.h=true
 has:∀ r∈g.rs,r.has=g.h
 zero:∀ r∈g.rs,∀ j:Nat,j<8→hasB g.h (j:Int)=false→r.vals.getD j 0=0
theorem ext8 {a b:List Int} (ha:a.length=8) (hb:b.length=8) (h:∀ j:Nat,j<8→a.getD j 0=b.getD j 0):a=b:=by
 refine List.ext_getElem (by omega) fun j h1 h2=>?_
 have:=h j (by omega)
 rwa [getD_get h1,getD_get h2] at this
theorem brow_ext {a b:BRow} (h1:a.idx=b.idx) (h2:a.gen=b.gen) (h3:a.has=b.has) (h4:∀ j:Nat,j<8→a.vals.getD j 0=b.vals.getD j 0):a=b:=by
 obtain ⟨_,_,_,va,ha⟩:=a
 obtain ⟨_,_,_,vb,hb⟩:=b
 obtain rfl:=ext8 ha hb h4
 simp_all
theorem rowT_clean {t:BTab} (hs:isSet t.has=true) (hc:t.cols.length=(listS t.has).length) (i:Nat) (b:Int×Int):∀ j:Nat,j<8 →
  (∀ n (hn:n<(listS t.has).length) (hc:n<t.cols.length),(listS t.has)[n]=(j:Int)→(rowT t i b).vals.getD j 0=t.cols[n].getD i 0)∧(hasB t.has (j:Int)=false→(rowT t i b).vals.getD j 0=0):=by
 intro j hj
 have h:=valsC_get i (listS t.has) t.cols zeros8 rfl listS_range (listS_nodup _) hc j hj
 refine ⟨h.1,fun hb=>?_⟩
 refine (h.2 ?_).trans ?_
 ·rw [mem_listS hs,hb];simp
 ·unfold zeros8
  rcases (show j=0∨j=1∨j=2∨j=3∨j=4∨j=5∨j=6∨j=7 by omega) with rfl | rfl | rfl | rfl | rfl | rfl | rfl | rfl<;>rfl
theorem grpOf_clean {t:BTab} (hs:isSet t.has=true) (hc:t.cols.length=(listS t.has).length):Clean (grpOf t):=by
 have hm:∀ r∈(grpOf t).rs,∃ i b,r=rowT t i b:=by
  intro r hr
  obtain ⟨p,_,rfl⟩:=List.mem_map.1 (show r∈t.bs.zipIdx.map fun p=>rowT t p.2 p.1 from hr)
  exact ⟨_,_,rfl⟩
 refine ⟨hs,fun r hr=>?_,fun r hr j hj h=>?_⟩
 ·obtain ⟨i,b,rfl⟩:=hm r hr;rfl
 ·obtain ⟨i,b,rfl⟩:=hm r hr
  exact (rowT_clean hs hc i b j hj).2 h
theorem tabG_grpOf {t:BTab} (hs:isSet t.has=true) (hc:t.cols.length=(listS t.has).length) (hl:∀ c∈t.cols,c.length=t.bs.length):tabG (grpOf t)=t:=by
 obtain ⟨has,bs,cols⟩:=t
 have h1:(rowsT ⟨has,bs,cols⟩).map beOf=bs:=by
  refine List.ext_getElem (by simp [rowsT_len]) fun i h1 h2=>?_
  rw [List.getElem_map,rowsT_get _ h2]
  rfl
 have h2:(listS has).map (colOf (rowsT ⟨has,bs,cols⟩))=cols:=by
  refine List.ext_getElem (by simpa using hc.symm) fun n h1 h2=>?_
  have hn:n<(listS has).length:=by simpa using h1
  have hcl:=hl cols[n] (List.getElem_mem h2)
  rw [List.getElem_map]
  obtain ⟨hk0,hk8⟩:=listS_range (listS has)[n] (List.getElem_mem hn)
  obtain ⟨m,hm⟩:=nat_of hk0
  refine List.ext_getElem (by simp [colOf,rowsT_len,hcl]) fun i h3 h4=>?_
  have hi:i<bs.length:=by rw [← hcl];exact h4
  rw [colOf_get _ _ (by rw [rowsT_len];exact hi),rowsT_get _ hi]
  have:=(rowT_clean (t:=⟨has,bs,cols⟩) hs hc i bs[i] m (by omega)).1 n hn h2 hm
  rw [hm,Int.toNat_natCast,this,getD_get h4]
 show BTab.mk has ((rowsT ⟨has,bs,cols⟩).map beOf) ((listS has).map (colOf (rowsT ⟨has,bs,cols⟩)))=_
 rw [h1,h2]
theorem grpOf_tabG {g:Grp} (h:Clean g):grpOf (tabG g)=g:=by
 obtain ⟨h0,rs⟩:=g
 have hc:(tabG ⟨h0,rs⟩).cols.length=(listS (tabG ⟨h0,rs⟩).has).length:=by simp [tabG]
 have e:rowsT (tabG ⟨h0,rs⟩)=rs:=by
  refine List.ext_getElem (by rw [rowsT_len];simp [tabG]) fun i h1 h2=>?_
  have hi:i<(tabG ⟨h0,rs⟩).bs.length:=by simpa [tabG] using h2
  rw [rowsT_get _ hi]
  have hb:(tabG ⟨h0,rs⟩).bs[i]=beOf rs[i]:=by simp [tabG]
  have hr:=List.getElem_mem h2
  refine brow_ext (by rw [hb];rfl) (by rw [hb];rfl) (h.has _ hr).symm fun j hj=>?_
  have hx:=rowT_clean (t:=tabG ⟨h0,rs⟩) h.set_ hc i (tabG ⟨h0,rs⟩).bs[i] j hj
  cases hh:hasB h0 (j:Int) with
  | false=>exact (hx.2 hh).trans (h.zero _ hr j hj hh).symm
  | true=>
   obtain ⟨n,hn,he⟩:=List.getElem_of_mem ((mem_listS h.set_).2 hh)
   have hn2:n<(tabG ⟨h0,rs⟩).cols.length:=by simpa [tabG] using hn
   refine (hx.1 n hn hn2 he).trans ?_
   have:(tabG ⟨h0,rs⟩).cols[n]=colOf rs (listS h0)[n]:=by simp [tabG]
   rw [this,he]
   rw [getD_get (by simpa [colOf] using h2),colOf_get _ _ h2,Int.toNat_natCast]
 show Grp.mk h0 (rowsT (tabG ⟨h0,rs⟩))=_
 rw [e]
theorem colsErr_iff (n:Nat):∀ cols:List (List Int),colsErr n cols=0↔∀ c∈cols,c.length=n∧∀ v∈c,isVal v=true
 | []=>by simp [colsErr]
 | c::l=>by
  rw [colsErr]
  split
  ·rename_i h
   simp only [List.mem_cons,forall_eq_or_imp]
   exact ⟨fun h'=>by simp at h',fun h'=>absurd h'.1.1 h⟩
  ·rename_i h
   split
   ·rename_i h2
    simp only [List.mem_cons,forall_eq_or_imp]
    refine ⟨fun h'=>by simp at h',fun h'=>?_⟩
    obtain ⟨v,hv,hb⟩:=List.any_eq_true.1 h2
    rw [h'.1.2 v hv] at hb
    simp at hb
   ·rename_i h2
    rw [colsErr_iff n l]
    simp only [List.mem_cons,forall_eq_or_imp]
    refine ⟨fun h'=>⟨⟨by simpa using h,fun v hv=>?_⟩,h'⟩,fun h'=>h'.2⟩
    cases hb:isVal v with
    | true=>rfl
    | false=>exact absurd (List.any_eq_true.2 ⟨v,hv,by rw [hb];rfl⟩) h2
theorem bsErr_iff:∀ (bs:List (Int×Int)) (p:Option Int),bsErr p bs=0↔bs.Pairwise (fun a b=>a.1<b.1)∧∀ q,p=some q→∀ b∈bs,q<b.1
 | [],p=>by simp [bsErr]
 | b::l,p=>by
  rw [bsErr]
  split
  ·rename_i h
   refine ⟨fun h'=>by simp at h',fun h'=>?_⟩
   cases p with
   | none=>simp [prevGe] at h
   | some q=>simp [prevGe] at h;have:=h'.2 q rfl b (by simp);omega
  ·rename_i h
   rw [bsErr_iff l (some b.1),List.pairwise_cons]
   have hp:∀ q,p=some q→q<b.1:=by
    rintro q rfl
    simp [prevGe] at h
    exact h
   constructor
   ·rintro ⟨h1,h2⟩
    refine ⟨⟨h2 _ rfl,h1⟩,fun q hq x hx=>?_⟩
    rcases List.mem_cons.1 hx with rfl | hx
    ·exact hp q hq
    ·have:=hp q hq;have:=h2 _ rfl x hx;omega
   ·rintro ⟨⟨h1,h2⟩,_⟩
    exact ⟨h2,fun q hq x hx=>by injection hq with hq;subst hq;exact h1 x hx⟩
structure TabOk (t:BTab):Prop where
 set_:isSet t.has=true
 some_:t.bs≠[]
 many:t.cols.length=(listS t.has).length
 len:∀ c∈t.cols,c.length=t.bs.length
 val:∀ c∈t.cols,∀ v∈c,isVal v=true
 rise:t.bs.Pairwise (fun a b=>a.1<b.1)
theorem tabErr_iff (t:BTab):tabErr t=0↔TabOk t:=by
 unfold tabErr
 split
 ·rename_i h
  exact ⟨fun h'=>by simp at h',fun h'=>by rw [h'.set_] at h;cases h⟩
 ·rename_i h
  split
  ·rename_i h2
   refine ⟨fun h'=>by simp at h',fun h'=>?_⟩
   rcases h2 with h2 | h2
   ·exact absurd (List.eq_nil_of_length_eq_zero h2) h'.some_
   ·exact absurd h'.many h2
  ·rename_i h2
   split
   ·rename_i h3
    exact ⟨fun h'=>absurd h' h3,fun h'=>absurd ((colsErr_iff _ _).2 fun c hc=>⟨h'.len c hc,h'.val c hc⟩) h3⟩
   ·rename_i h3
    have h3':=(colsErr_iff _ _).1 (Classical.not_not.1 h3)
    rw [bsErr_iff]
    constructor
    ·rintro ⟨h4,_⟩
     exact ⟨by simpa using h,fun e=>h2 (.inl (by rw [e];rfl)),Classical.not_not.1 (fun e=>h2 (.inr e)),fun c hc=>(h3' c hc).1,fun c hc=>(h3' c hc).2,h4⟩
    ·exact fun h'=>⟨h'.rise,fun q hq=>by cases hq⟩
theorem tabsFrom_iff:∀ (l:List BTab) (i:Nat) (p:Option Int),(tabsFrom i p l).1=0↔(∀ t∈l,TabOk t)∧l.Pairwise (fun a b=>a.has<b.has)∧∀ q,p=some q→∀ t∈l,q<t.has
 | [],i,p=>by simp [tabsFrom]
 | t::l,i,p=>by
  rw [tabsFrom]
  split
  ·rename_i h
   exact ⟨fun h'=>absurd h' h,fun h'=>absurd ((tabErr_iff t).2 (h'.1 t (by simp))) h⟩
  ·rename_i h
   have ht:=(tabErr_iff t).1 (Classical.not_not.1 h)
   split
   ·rename_i h2
    refine ⟨fun h'=>by simp at h',fun h'=>?_⟩
    cases p with
    | none=>simp [prevGe] at h2
    | some q=>simp [prevGe] at h2;have:=h'.2.2 q rfl t (by simp);omega
   ·rename_i h2
    rw [tabsFrom_iff l (i+1) (some t.has),List.pairwise_cons]
    have hp:∀ q,p=some q→q<t.has:=by
     rintro q rfl
     simp [prevGe] at h2
     exact h2
    constructor
    ·rintro ⟨h1,h3,h4⟩
     refine ⟨fun x hx=>?_,⟨h4 _ rfl,h3⟩,fun q hq x hx=>?_⟩
     ·rcases List.mem_cons.1 hx with rfl | hx
      ·exact ht
      ·exact h1 x hx
     ·rcases List.mem_cons.1 hx with rfl | hx
      ·exact hp q hq
      ·have:=hp q hq;have:=h4 _ rfl x hx;omega
    ·rintro ⟨h1,⟨h3,h4⟩,_⟩
     exact ⟨fun x hx=>h1 x (by simp [hx]),h4,fun q hq x hx=>by injection hq with hq;subst hq;exact h3 x hx⟩
def worldT (T:List BTab):List BRow:=sortK BRow.idx (flatG (T.map grpOf))
def storeErr (T:List BTab) (gens:List Int):Int×Int:=if (tabsFrom 0 none T).1≠0 then tabsFrom 0 none T else ((worldErr ⟨worldT T,gens⟩).1,0)
def tabsW (rows:List BRow):List BTab:=(ofG rows).map tabG
theorem sortK_perm (X:List BRow):∀ r,r∈sortK BRow.idx X↔r∈X:=fun r=>(sortK_stb X).2.mem
theorem Rep.uniq {G G':List Grp} {rows:List BRow} (h:Rep G rows) (h':Rep G' rows):G=G':=by
 have hrs:∀ {G:List Grp},Rep G rows→∀ g∈G,g.rs=rows.filter (fun r=>r.has==g.h):=by
  intro G h g hg
  have e:(flatG G).filter (fun r=>r.has==g.h)=g.rs:=by
   have hup:=h.ok.up
   have hfit:=h.ok.fit
   clear h
   induction G with
   | nil=>simp at hg
   | cons a l ih=>
    have hu:=List.pairwise_cons.1 hup
    show ((a::l).flatMap Grp.rs).filter _=_
    rw [List.flatMap_cons,List.filter_append]
    rcases List.mem_cons.1 hg with rfl | hg
    ·have h1:(g.rs).filter (fun r=>r.has==g.h)=g.rs:=by
      rw [List.filter_eq_self]
      intro r hr
      rw [hfit g (by simp) r hr];simp
     have h2:(l.flatMap Grp.rs).filter (fun r=>r.has==g.h)=[]:=by
      rw [List.filter_eq_nil_iff]
      intro r hr
      obtain ⟨b,hb,hrb⟩:=List.mem_flatMap.1 hr
      have:=hfit b (by simp [hb]) r hrb
      have:=hu.1 b hb
      simp;omega
     rw [h1,h2,List.append_nil]
    ·have h1:(a.rs).filter (fun r=>r.has==g.h)=[]:=by
      rw [List.filter_eq_nil_iff]
      intro r hr
      have:=hfit a (by simp) r hr
      have:=hu.1 g hg
      simp;omega
     rw [h1,List.nil_append]
     exact ih hg hu.2 (fun b hb=>hfit b (by simp [hb]))
  exact rise_unique (h.ok.rise g hg) (rise_sub h.rise List.filter_sublist) (by rw [← e];exact h.perm.filter _)
 have hmem:∀ {G G':List Grp},Rep G rows→Rep G' rows→∀ g∈G,g∈G':=by
  intro G G' h h' g hg
  obtain ⟨r,hr⟩:=List.exists_mem_of_ne_nil _ (h.ok.full g hg)
  obtain ⟨g',hg',hr'⟩:=h'.mem.1 (h.mem.2 ⟨g,hg,hr⟩)
  have e1:=h.ok.fit g hg r hr
  have e2:=h'.ok.fit g' hg' r hr'
  have:g=g':=by
   have a1:=hrs h g hg
   have a2:=hrs h' g' hg'
   obtain ⟨gh,grs⟩:=g
   obtain ⟨gh',grs'⟩:=g'
   dsimp only at a1 a2 e1 e2
   have:gh=gh':=by rw [← e1,e2]
   subst this
   rw [a1,a2]
  rw [this];exact hg'
 have hnd:∀ {G:List Grp},Up G→∀ {G':List Grp},Up G'→(∀ g,g∈G↔g∈G')→G=G':=by
  intro G
  induction G with
  | nil=>
   intro _ G' _ hm
   cases G' with
   | nil=>rfl
   | cons a l=>exact absurd ((hm a).2 (by simp)) (by simp)
  | cons a l ih=>
   intro hu G' hu' hm
   cases G' with
   | nil=>exact absurd ((hm a).1 (by simp)) (by simp)
   | cons b m=>
    have h1:=List.pairwise_cons.1 hu
    have h2:=List.pairwise_cons.1 hu'
    have hab:a=b:=by
     rcases List.mem_cons.1 ((hm a).1 (by simp)) with e | e
     ·exact e
     ·rcases List.mem_cons.1 ((hm b).2 (by simp)) with e' | e'
      ·exact e'.symm
      ·have:=h2.1 a e;have:=h1.1 b e';omega
    subst hab
    rw [ih h1.2 h2.2 (fun g=>?_)]
    constructor
    ·intro hg
     rcases List.mem_cons.1 ((hm g).1 (by simp [hg])) with e | e
     ·subst e;have:=h1.1 g hg;omega
     ·exact e
    ·intro hg
     rcases List.mem_cons.1 ((hm g).2 (by simp [hg])) with e | e
     ·subst e;have:=h2.1 g hg;omega
     ·exact e
 exact hnd h.ok.up h'.ok.up (fun g=>⟨hmem h h' g,hmem h' h g⟩)
theorem Rep.of {G:List Grp} {rows:List BRow} {gens:List Int} (h:Rep G rows) (hw:RightW rows gens):G=ofG rows:=h.uniq hw.rep
theorem Rep.clean {G:List Grp} {rows:List BRow} (h:Rep G rows):∀ g∈G,Clean g:=by
 intro g hg
 have hr:∀ r∈g.rs,isSet g.h=true∧∀ j:Nat,j<8→hasB g.h (j:Int)=false→r.vals.getD j 0=0:=by
  intro r hr
  have h1:=(rowErr_iff r).1 (h.ok.row g hg r hr)
  rw [h.ok.fit g hg r hr] at h1
  refine ⟨h1.1,fun j hj hb=>?_⟩
  have h2:=(h1.2 j hj).2
  by_cases h0:r.vals.getD j 0=0
  ·exact h0
  ·rw [h2 h0] at hb;cases hb
 obtain ⟨r,hm⟩:=List.exists_mem_of_ne_nil _ (h.ok.full g hg)
 exact ⟨(hr r hm).1,h.ok.fit g hg,fun r hm=>(hr r hm).2⟩
theorem Rep.back {G:List Grp} {rows:List BRow} (h:Rep G rows):(G.map tabG).map grpOf=G:=by
 rw [List.map_map]
 have:∀ g∈G,(grpOf ∘ tabG) g=id g:=fun g hg=>grpOf_tabG (h.clean g hg)
 rw [List.map_congr_left this,List.map_id]
theorem tabG_ok {G:List Grp} {rows:List BRow} (h:Rep G rows) {g:Grp} (hg:g∈G):TabOk (tabG g):=by
 have hc:=h.clean g hg
 refine ⟨hc.set_,?_,by simp [tabG],?_,?_,?_⟩
 ·simpa [tabG] using h.ok.full g hg
 ·intro c hcm
  obtain ⟨k,_,rfl⟩:=List.mem_map.1 (show c∈(listS g.h).map (colOf g.rs) from hcm)
  simp [colOf,tabG]
 ·intro c hcm v hv
  obtain ⟨k,hk,rfl⟩:=List.mem_map.1 (show c∈(listS g.h).map (colOf g.rs) from hcm)
  obtain ⟨r,hr,rfl⟩:=List.mem_map.1 (show v∈g.rs.map _ from hv)
  obtain ⟨k0,k8⟩:=listS_range k hk
  exact (((rowErr_iff r).1 (h.ok.row g hg r hr)).2 k.toNat (by omega)).1
 ·show (g.rs.map beOf).Pairwise _
  rw [List.pairwise_map]
  exact rise_pair.1 (h.ok.rise g hg)
theorem store_right {T:List BTab} {gens:List Int} (h:(storeErr T gens).1=0):RightW (worldT T) gens∧T=tabsW (worldT T):=by
 unfold storeErr at h
 split at h
 ·rename_i h1;exact absurd h h1
 ·rename_i h1
  obtain ⟨hok,hup,_⟩:=(tabsFrom_iff T 0 none).1 (Classical.not_not.1 h1)
  have hw:=(right_iff (worldT T) gens).1 h
  have hback:(T.map grpOf).map tabG=T:=by
   rw [List.map_map]
   have:∀ t∈T,(tabG ∘ grpOf) t=id t:=fun t ht=>tabG_grpOf (hok t ht).set_ (hok t ht).many (hok t ht).len
   rw [List.map_congr_left this,List.map_id]
  have hrep:Rep (T.map grpOf) (worldT T):=by
   refine ⟨⟨?_,?_,?_,?_,?_⟩,?_,hw.rise⟩
   ·show (T.map grpOf).Pairwise _
    rw [List.pairwise_map]
    exact hup
   ·intro g hg
    obtain ⟨t,ht,rfl⟩:=List.mem_map.1 hg
    intro e
    have:=congrArg List.length e
    rw [show (grpOf t).rs=rowsT t from rfl,rowsT_len] at this
    exact (hok t ht).some_ (List.eq_nil_of_length_eq_zero this)
   ·intro g hg
    obtain ⟨t,ht,rfl⟩:=List.mem_map.1 hg
    exact (grpOf_clean (hok t ht).set_ (hok t ht).many).has
   ·intro g hg
    obtain ⟨t,ht,rfl⟩:=List.mem_map.1 hg
    have h1:(grpOf t).rs.map beOf=t.bs:=congrArg BTab.bs (tabG_grpOf (hok t ht).set_ (hok t ht).many (hok t ht).len)
    have h2:=(hok t ht).rise
    rw [← h1,List.pairwise_map] at h2
    exact rise_pair.2 h2
   ·intro g hg r hr
    exact hw.row r ((sortK_perm _ r).2 (List.mem_flatMap.2 ⟨g,hg,hr⟩))
   ·have hst:=(sortK_stb (key:=BRow.idx) (flatG (T.map grpOf))).2
    refine List.perm_iff_count.2 fun r=>?_
    have e:=hst.2 r.idx
    have c1:=List.count_filter (p:=fun x:BRow=>x.idx==r.idx) (a:=r) (l:=flatG (T.map grpOf)) (by simp)
    have c2:=List.count_filter (p:=fun x:BRow=>x.idx==r.idx) (a:=r) (l:=worldT T) (by simp)
    rw [← c1,← c2]
    rw [show (worldT T).filter (fun x=>x.idx==r.idx)=_ from e]
  refine ⟨hw,?_⟩
  unfold tabsW
  rw [← hrep.of hw,hback]
theorem RightW.worldT {rows:List BRow} {gens:List Int} (h:RightW rows gens):Go.Proofs.YtefdblaolmckmabGreat.worldT (tabsW rows)=rows:=by
 unfold Go.Proofs.YtefdblaolmckmabGreat.worldT tabsW
 rw [h.rep.back]
 exact h.rep.world
theorem RightW.store {rows:List BRow} {gens:List Int} (h:RightW rows gens):storeErr (tabsW rows) gens=(0,0):=by
 have h1:(tabsFrom 0 none (tabsW rows)).1=0:=by
  rw [tabsFrom_iff]
  refine ⟨?_,?_,fun q hq=>by cases hq⟩
  ·intro t ht
   obtain ⟨g,hg,rfl⟩:=List.mem_map.1 ht
   exact tabG_ok h.rep hg
  ·show ((ofG rows).map tabG).Pairwise _
   rw [List.pairwise_map]
   exact h.rep.ok.up
 unfold storeErr
 rw [if_neg (by simpa using h1),h.worldT,(right_iff rows gens).2 h]
open Go.RowKit
open Brood
def beC (b:Int×Int):List Value:=[.int .i64 b.1,.int .i64 b.2]
theorem beC_len (b:Int×Int):(beC b).length=2:=rfl
theorem be_flat (rs:List BRow):(rs.map beOf).flatMap beC=rs.flatMap beCells:=by rw [List.flatMap_map];rfl
theorem be_one (bs:List (Int×Int)):∀ u∈bs.flatMap beC,u.oneCell'=true:=by
 intro u hu
 obtain ⟨b,_,hb⟩:=List.mem_flatMap.1 hu
 simp only [beC,List.mem_cons,List.not_mem_nil,or_false] at hb
 rcases hb with rfl | rfl<;>rfl
structure ColIn where
 A:Option Addr
 c:Nat
 zs:List Int
structure TabIn where
 has:Int
 bA:Option Addr
 bc:Nat
 bs:List (Int×Int)
 cA:Option Addr
 cc:Nat
 cols:List ColIn
def tabOf (t:TabIn):BTab:=⟨t.has,t.bs,t.cols.map ColIn.zs⟩
def colV (c:ColIn):Value:=.slice c.A c.zs.length c.c
def tabCells (t:TabIn):List Value:=[.int .i64 t.has,.slice t.bA t.bs.length t.bc,.slice t.cA t.cols.length t.cc]
theorem tabCells_len (t:TabIn):(tabCells t).length=3:=rfl
theorem tab_one (l:List TabIn):∀ u∈l.flatMap tabCells,u.oneCell'=true:=by
 intro u hu
 obtain ⟨b,_,hb⟩:=List.mem_flatMap.1 hu
 simp only [tabCells,List.mem_cons,List.not_mem_nil,or_false] at hb
 rcases hb with rfl | rfl | rfl<;>rfl
structure RdT (w:World) (B:Nat) (A:Option Addr) (l:List TabIn):Prop where
 cells:Rd w B 3 A l.length (l.flatMap tabCells)
 bs:∀ t∈l,Rd w B 2 t.bA t.bs.length (t.bs.flatMap beC)
 cs:∀ t∈l,Rd w B 1 t.cA t.cols.length (t.cols.map colV)
 zs:∀ t∈l,∀ c∈t.cols,Rd w B 1 c.A c.zs.length (ints c.zs)
section
variable {w w':World} {B:Nat} {A:Option Addr} {l:List TabIn}
theorem RdT.keep (h:RdT w B A l) (hk:∀ p:Addr,p.block<B→w'.cell? p=w.cell? p):RdT w' B A l:=
 ⟨h.cells.keep hk,fun x hx=>Rd.keep (h.bs x hx) hk,fun x hx=>Rd.keep (h.cs x hx) hk,fun x hx c hc=>Rd.keep (h.zs x hx c hc) hk⟩
theorem RdT.under (h:RdT w B A l) {C:Nat} (hb:Below C w w') (hC:B≤C):RdT w' B A l:=h.keep fun _ hp=>hb.cell (by omega)
theorem RdT.alloc (h:RdT w B A l) (hB:B≤w.heap.size) (o:Obj):RdT (w.alloc o) B A l:=h.keep fun p hp=>World.cell?_alloc_lt w o p (by omega)
theorem RdT.more (h:RdT w B A l) {C:Nat} (hB:B≤C):RdT w C A l:=⟨h.cells.more hB,fun x hx=>Rd.more (h.bs x hx) hB,fun x hx=>Rd.more (h.cs x hx) hB,fun x hx c hc=>Rd.more (h.zs x hx c hc) hB⟩
theorem RdT.drewN (h:RdT w B A l) (n:Nat):RdT (w.drewN n) B A l:=h.keep fun _ _=>rfl
theorem RdT.grow (h:RdT w w.heap.size A l) (hb:Below w.heap.size w w'):RdT w' w'.heap.size A l:=(h.under hb (Nat.le_refl _)).more hb.size
theorem RdT.at_ (h:RdT w B A l) {k:Nat} (hk:k<l.length) :
  ∃ b off,A=some ⟨b,off,none⟩∧b<B∧w.cell? ⟨b,off+k*3,none⟩=some (.int .i64 l[k].has)∧w.cell? ⟨b,off+k*3+1,none⟩=some (.slice l[k].bA l[k].bs.length l[k].bc) ∧
   w.cell? ⟨b,off+k*3+2,none⟩=some (.slice l[k].cA l[k].cols.length l[k].cc):=by
 obtain ⟨b,off,e,hb,hc⟩:=h.cells.2 (by omega)
 refine ⟨b,off,e,hb,?_,?_,?_⟩
 ·have:=hc (k*3+0) _ (flat_get tabCells_len l k hk 0 (by omega));simpa using this
 ·have:=hc (k*3+1) _ (flat_get tabCells_len l k hk 1 (by omega));simpa [Nat.add_assoc] using this
 ·have:=hc (k*3+2) _ (flat_get tabCells_len l k hk 2 (by omega));simpa [Nat.add_assoc] using this
theorem rdC_at {A:Option Addr} {cols:List ColIn} (h:Rd w B 1 A cols.length (cols.map colV)) {k:Nat} (hk:k<cols.length) :
  ∃ b off,A=some ⟨b,off,none⟩∧b<B∧w.cell? ⟨b,off+k,none⟩=some (.slice cols[k].A cols[k].zs.length cols[k].c):=by
 obtain ⟨b,off,e,hb,hc⟩:=h.2 (by omega)
 exact ⟨b,off,e,hb,hc k _ (by simp [hk,colV])⟩
theorem rdBe_at {A:Option Addr} {bs:List (Int×Int)} (h:Rd w B 2 A bs.length (bs.flatMap beC)) {k:Nat} (hk:k<bs.length) :
  ∃ b off,A=some ⟨b,off,none⟩∧b<B∧w.cell? ⟨b,off+k*2,none⟩=some (.int .i64 bs[k].1)∧w.cell? ⟨b,off+k*2+1,none⟩=some (.int .i64 bs[k].2):=by
 obtain ⟨b,off,e,hb,hc⟩:=h.2 (by omega)
 have hl:∀ x:Int×Int,(beC x).length=2:=fun _=>rfl
 refine ⟨b,off,e,hb,hc (k*2) _ ((flat_get hl bs k hk 0 (by omega)).trans rfl),?_⟩
 have:=hc (k*2+1) _ ((flat_get hl bs k hk 1 (by omega)).trans rfl)
 rwa [← Nat.add_assoc] at this
theorem rdZ_at {A:Option Addr} {zs:List Int} (h:Rd w B 1 A zs.length (ints zs)) {k:Nat} (hk:k<zs.length) :
  ∃ b off,A=some ⟨b,off,none⟩∧b<B∧w.cell? ⟨b,off+k,none⟩=some (.int .i64 zs[k]):=by
 obtain ⟨b,off,e,hb,hc⟩:=h.2 (by omega)
 exact ⟨b,off,e,hb,hc k _ (ints_get hk)⟩
end
structure NilT (A:Option Addr) (c:Nat) (l:List TabIn):Prop where
 out:A=none→c=0∧l=[]
 bs:∀ t∈l,t.bA=none→t.bc=0∧t.bs=[]
 cs:∀ t∈l,t.cA=none→t.cc=0∧t.cols=[]
 zs:∀ t∈l,∀ c∈t.cols,c.A=none→c.c=0∧c.zs=[]
structure StIn where
 A:Option Addr
 c:Nat
 l:List TabIn
 Ag:Option Addr
 cg:Nat
 gens:List Int
def stV (s:StIn):Value:=.agg #[.slice s.A s.l.length s.c,.slice s.Ag s.gens.length s.cg]
structure RdSt (w:World) (B:Nat) (s:StIn):Prop where
 tabs:RdT w B s.A s.l
 gen:RdG w B s.Ag s.gens
 nt:NilT s.A s.c s.l
 ng:s.Ag=none→s.cg=0∧s.gens=[]
section
variable {w w':World} {B:Nat} {s:StIn}
theorem RdSt.under (h:RdSt w B s) {C:Nat} (hb:Below C w w') (hC:B≤C):RdSt w' B s:=⟨h.tabs.under hb hC,Rd.under h.gen hb hC,h.nt,h.ng⟩
theorem RdSt.more (h:RdSt w B s) {C:Nat} (hB:B≤C):RdSt w C s:=⟨h.tabs.more hB,Rd.more h.gen hB,h.nt,h.ng⟩
theorem RdSt.grow (h:RdSt w w.heap.size s) (hb:Below w.heap.size w w'):RdSt w' w'.heap.size s:=(h.under hb (Nat.le_refl _)).more hb.size
theorem RdSt.alloc (h:RdSt w w.heap.size s) (o:Obj):RdSt (w.alloc o) (w.alloc o).heap.size s:=h.grow ((Below.refl _ _).alloc (Nat.le_refl _) o)
theorem RdSt.hp {w0:World} {E:List Ent} (h:RdSt w0 w0.heap.size s) (hh:Hp w0 w E):RdSt w w.heap.size s:=h.grow hh.bel
theorem RdSt.drewN (h:RdSt w B s) (n:Nat):RdSt (w.drewN n) B s:=⟨h.tabs.drewN n,h.gen,h.nt,h.ng⟩
end
def IsSt (w:World) (v:Value) (T:List BTab) (gens:List Int):Prop:=∃ s:StIn,v=stV s∧RdSt w w.heap.size s∧s.l.map tabOf=T∧s.gens=gens
theorem IsSt.grow {w w':World} {v:Value} {T:List BTab} {gens:List Int} (h:IsSt w v T gens) (hb:Below w.heap.size w w'):IsSt w' v T gens:=by
 obtain ⟨s,h1,h2,h3,h4⟩:=h
 exact ⟨s,h1,h2.grow hb,h3,h4⟩
theorem IsSt.zero (w:World):IsSt w (.agg #[.slice none 0 0,.slice none 0 0]) [] []:=
 ⟨⟨none,0,[],none,0,[]⟩,rfl,⟨⟨Rd.nil_,by simp,by simp,by simp⟩,Rd.nil_,⟨fun _=>⟨rfl,rfl⟩,by simp,by simp,by simp⟩,fun _=>⟨rfl,rfl⟩⟩,rfl,rfl⟩
def colE (c:ColIn):Ent:=.own (colV c) 3 1 c.zs.length (ints c.zs)
def bsE (t:TabIn):Ent:=.own (.slice t.bA t.bs.length t.bc) 24 2 t.bs.length (t.bs.flatMap beC)
def csE (t:TabIn):Ent:=.own (.slice t.cA t.cols.length t.cc) 38 1 t.cols.length (t.cols.map colV)
def tabE (t:TabIn):List Ent:=bsE t::csE t::t.cols.map colE
def outE (A:Option Addr) (c:Nat) (l:List TabIn):Ent:=.own (.slice A l.length c) 100 3 l.length (l.flatMap tabCells)
def tabsE (A:Option Addr) (c:Nat) (l:List TabIn):List Ent:=outE A c l::l.flatMap tabE
theorem holds_nil {B:Nat} {w:World} {A:Option Addr} {e:TypeId} {sz n c:Nat} {xs:List Value} (h:(Ent.own (.slice A n c) e sz n xs).holds B w) (hA:A=none):c=0∧n=0:=by
 subst hA;exact own_none h
theorem Hp.rdT {w0 w:World} {E:List Ent} {A:Option Addr} {c:Nat} {l:List TabIn} (h:Hp w0 w E) (hs:∀ p∈tabsE A c l,p∈E):RdT w w.heap.size A l∧NilT A c l:=by
 have hx:∀ p∈tabsE A c l,p.holds w0.heap.size w:=fun p hp=>h.all p (hs p hp)
 have ht:∀ t∈l,∀ p∈tabE t,p.holds w0.heap.size w:=fun t ht p hp=>hx p (List.mem_cons_of_mem _ (List.mem_flatMap.2 ⟨t,ht,hp⟩))
 have h0:(outE A c l).holds w0.heap.size w:=hx _ (List.mem_cons_self ..)
 have h1:∀ t∈l,(bsE t).holds w0.heap.size w:=fun t h1=>ht t h1 _ (List.mem_cons_self ..)
 have h2:∀ t∈l,(csE t).holds w0.heap.size w:=fun t h1=>ht t h1 _ (List.mem_cons_of_mem _ (List.mem_cons_self ..))
 have h3:∀ t∈l,∀ q∈t.cols,(colE q).holds w0.heap.size w:=fun t h1 q hq=>ht t h1 _ (List.mem_cons_of_mem _ (List.mem_cons_of_mem _ (List.mem_map.2 ⟨q,hq,rfl⟩)))
 refine ⟨⟨Rd.of_own h0,fun t ht=>Rd.of_own (h1 t ht),fun t ht=>Rd.of_own (h2 t ht),fun t ht q hq=>Rd.of_own (h3 t ht q hq)⟩,⟨?_,?_,?_,?_⟩⟩
 ·intro e;have:=holds_nil h0 e;exact ⟨this.1,List.eq_nil_of_length_eq_zero this.2⟩
 ·intro t ht e;have:=holds_nil (h1 t ht) e;exact ⟨this.1,List.eq_nil_of_length_eq_zero this.2⟩
 ·intro t ht e;have:=holds_nil (h2 t ht) e;exact ⟨this.1,List.eq_nil_of_length_eq_zero this.2⟩
 ·intro t ht q hq e;have:=holds_nil (h3 t ht q hq) e;exact ⟨this.1,List.eq_nil_of_length_eq_zero this.2⟩
def insAt {α:Type} (l:List α) (k:Nat) (a:α):List α:=l.take k++a::l.drop k
theorem insAt_len {α:Type} {l:List α} {k:Nat} (a:α) (h:k≤l.length):(insAt l k a).length=l.length+1:=by simp [insAt];omega
theorem flat_take {α:Type} {f:α→List Value} {m:Nat} (hf:∀ x,(f x).length=m):∀ (l:List α) (k:Nat),(l.flatMap f).take (k*m)=(l.take k).flatMap f∧(l.flatMap f).drop (k*m)=(l.drop k).flatMap f
 | [],k=>by simp
 | x::l,0=>by simp
 | x::l,k+1=>by
  have ih:=flat_take hf l k
  have e:(k+1)*m=(f x).length+k*m:=by rw [hf,Nat.succ_mul,Nat.add_comm]
  rw [List.flatMap_cons,e,List.take_length_add_append,List.drop_length_add_append,ih.1,ih.2]
  exact ⟨rfl,rfl⟩
theorem flat_ins {α:Type} {f:α→List Value} {m:Nat} (hf:∀ x,(f x).length=m) (l:List α) (k:Nat) (a:α):(insAt l k a).flatMap f=(l.flatMap f).take (k*m)++f a++(l.flatMap f).drop (k*m):=by
 rw [(flat_take hf l k).1,(flat_take hf l k).2]
 simp [insAt]
theorem ints_ins (zs:List Int) (k:Nat) (z:Int):ints (insAt zs k z)=(ints zs).take k++[.int .i64 z]++(ints zs).drop k:=by
 simp [insAt,ints,List.map_take,List.map_drop]
open Go.RowKit
open Brood
theorem sl_some_g (ad:Addr) (n c:Nat) (w:World):(binOp .eql 38 (.slice (some ad) n c) (.slice none 0 0)).run Tryz.prog w=.ok (.bool false) w:=by kernel_rfl
theorem sl_none_g (n c:Nat) (w:World):(binOp .eql 38 (.slice none n c) (.slice none 0 0)).run Tryz.prog w=.ok (.bool true) w:=by kernel_rfl
theorem cloneG_any (zs:List Int) (A:Option Addr) (c:Nat) (hlen:zs.length*8≤140737488355328) (hn:A=none→c=0∧zs=[]) (w:World) (hA:RdG w w.heap.size A zs) :
  Calls Tryz.prog 41 #[.slice A zs.length c] w fun e w'=>∃ v,e=.returned v∧w'.ownsRow w.heap.size 3 1 v zs.length (ints zs)∧Below w.heap.size w w':=by
 obtain ⟨i0',hi0,hz0a,hz0b,hz0c⟩:=info_parts infoInt
 have hs1:=sl_some_g
 have hs2:=sl_none_g
 cases A with
 | none=>
  obtain ⟨rfl,rfl⟩:=hn rfl
  go_enter Tryz.func41,Tryz.ntmps41
  go_wp2_with fail
  go_ret
  exact ⟨_,rfl,own_nil _ _ _ _,Below.refl _ _⟩
 | some ad=>
  have hown0:(w.alloc (.cells #[] 3)).ownsRow w.heap.size 3 1 (.slice (some ⟨w.heap.size,0,none⟩) 0 0) 0 []:=World.ownsRow_lit w #[] 0 (Nat.le_refl _) (by unfold maxLen;omega) (by simp)
  have hA':=Rd.alloc hA (Nat.le_refl _) (.cells #[] 3)
  have hce:∀ j u,(ints zs)[j]?=some u→(w.alloc (.cells #[] 3)).cell? (ad.add j)=some u:=by
   intro j u hu
   have h0:0<zs.length:=by
    rcases Nat.eq_zero_or_pos zs.length with e | e
    ·have:zs=[]:=List.eq_nil_of_length_eq_zero e
     subst this
     simp [ints] at hu
    ·exact e
   obtain ⟨b,off,he,_,hc⟩:=hA'.2 h0
   obtain rfl:=Option.some.inj he
   rw [add_mk]
   exact hc j u hu
  have hcl:(ints zs).length=zs.length*1:=hA.1
  go_enter Tryz.func41,Tryz.ntmps41
  go_wp2_with (at_builtin;refine wpList_append_own _ rfl _ _ 38 rfl w.heap.size 3 i0' (.int .i64 0) 1 8 Tryz.underlying38 hi0 hz0a hz0b hz0c rfl (by decide) _ _ _ rfl hown0 ad zs.length c (ints zs) rfl hcl hce (ints_one _) ?c3 ?c4 ?c5 ?_;rotate_left 3;intro v' w1 hown' hgrow _)
  case c3=>unfold maxLen;omega
  case c4=>omega
  case c5=>simp
  go_ret
  exact ⟨_,rfl,by simpa using hown',((Below.refl _ _).alloc (Nat.le_refl _) _).grown hgrow (by simp) (fun k e=>by cases e;exact Nat.le_refl _)⟩
open Go.RowKit
open Brood
theorem sl_some_b (ad:Addr) (n c:Nat) (w:World):(binOp .eql 58 (.slice (some ad) n c) (.slice none 0 0)).run Tryz.prog w=.ok (.bool false) w:=by kernel_rfl
theorem sl_none_b (n c:Nat) (w:World):(binOp .eql 58 (.slice none n c) (.slice none 0 0)).run Tryz.prog w=.ok (.bool true) w:=by kernel_rfl
theorem infoBe2:(Tryz.prog.info? 24).map (fun i=>(i.zero,i.size,i.bytes))=some (some (.agg #[.int .i64 0,.int .i64 0]),2,16):=by kernel_rfl
theorem cloneB_any (bs:List (Int×Int)) (A:Option Addr) (c:Nat) (hlen:bs.length*16≤140737488355328) (hn:A=none→c=0∧bs=[]) (w:World) (hA:Rd w w.heap.size 2 A bs.length (bs.flatMap beC)) :
  Calls Tryz.prog 93 #[.slice A bs.length c] w fun e w'=>∃ v,e=.returned v∧w'.ownsRow w.heap.size 24 2 v bs.length (bs.flatMap beC)∧Below w.heap.size w w':=by
 obtain ⟨i0',hi0,hz0a,hz0b,hz0c⟩:=info_parts infoBe2
 have hs1:=sl_some_b
 have hs2:=sl_none_b
 cases A with
 | none=>
  obtain ⟨rfl,rfl⟩:=hn rfl
  go_enter Tryz.func93,Tryz.ntmps93
  go_wp2_with fail
  go_ret
  exact ⟨_,rfl,own_nil _ _ _ _,Below.refl _ _⟩
 | some ad=>
  have hown0:(w.alloc (.cells #[] 24)).ownsRow w.heap.size 24 2 (.slice (some ⟨w.heap.size,0,none⟩) 0 0) 0 []:=World.ownsRow_lit w #[] 0 (Nat.le_refl _) (by unfold maxLen;omega) (by simp)
  have hA':=Rd.alloc hA (Nat.le_refl _) (.cells #[] 24)
  have hcl:(bs.flatMap beC).length=bs.length*2:=hA.1
  have hce:∀ j u,(bs.flatMap beC)[j]?=some u→(w.alloc (.cells #[] 24)).cell? (ad.add j)=some u:=by
   intro j u hu
   have h0:0<bs.length:=by
    have:=(List.getElem?_eq_some_iff.1 hu).1
    omega
   obtain ⟨b,off,he,_,hc⟩:=hA'.2 h0
   obtain rfl:=Option.some.inj he
   rw [add_mk]
   exact hc j u hu
  go_enter Tryz.func93,Tryz.ntmps93
  go_wp2_with (at_builtin;refine wpList_append_own _ rfl _ _ 58 rfl w.heap.size 24 i0' (.agg #[.int .i64 0,.int .i64 0]) 2 16 Tryz.underlying58 hi0 hz0a hz0b hz0c rfl (by decide) _ _ _ rfl hown0 ad bs.length c (bs.flatMap beC) rfl hcl hce (be_one _) ?c3 ?c4 ?c5 ?_;rotate_left 3;intro v' w1 hown' hgrow _)
  case c3=>unfold maxLen;omega
  case c4=>omega
  case c5=>simp
  go_ret
  exact ⟨_,rfl,by simpa using hown',((Below.refl _ _).alloc (Nat.le_refl _) _).grown hgrow (by simp) (fun k e=>by cases e;exact Nat.le_refl _)⟩
def idxQ {α:Type} (p:α→Bool):List α→Option Nat
 | []=>none
 | a::l=>if p a then some 0 else (idxQ p l).map (·+1)
def ixV (o:Option Nat):Int:=match o with | some k=>(k:Int) | none=>-1
theorem idxQ_drop {α:Type} {p:α→Bool} {l:List α} {k:Nat} (h:k<l.length):(idxQ p (l.drop k)).map (·+k)=if p l[k] then some k else (idxQ p (l.drop (k+1))).map (·+(k+1)):=by
 rw [drop_cons h,idxQ]
 split
 ·simp
 ·rw [Option.map_map]
  congr 1
  funext x
  simp only [Function.comp_apply]
  omega
theorem idxQ_map {α β:Type} (p:β→Bool) (f:α→β):∀ l:List α,idxQ p (l.map f)=idxQ (fun a=>p (f a)) l
 | []=>rfl
 | a::l=>by rw [List.map_cons,idxQ,idxQ,idxQ_map p f l]
theorem findR_idxQ (i g:Int):∀ rows:List BRow,findR i g rows=idxQ (isB i g) rows
 | []=>rfl
 | r::l=>by rw [findR,idxQ,findR_idxQ i g l]
def sameB (i g:Int) (b:Int×Int):Bool:=i==b.1 && g==b.2
theorem findR_be (i g:Int) (rows:List BRow):idxQ (sameB i g) (rows.map beOf)=findR i g rows:=by
 rw [idxQ_map,findR_idxQ]
 congr 1
 funext r
 unfold sameB isB beOf
 rw [Bool.eq_iff_iff]
 simp only [Bool.and_eq_true,beq_iff_eq]
 constructor<;>rintro ⟨h1,h2⟩<;>exact ⟨h1.symm,h2.symm⟩
theorem idxB_any (bs:List (Int×Int)) (A:Option Addr) (c:Nat) (hlen:bs.length≤1000000000) (i g:Int) (w:World) (hR:Rd w w.heap.size 2 A bs.length (bs.flatMap beC)) :
  Calls Tryz.prog 80 #[.slice A bs.length c,.agg #[.int .i64 i,.int .i64 g]] w fun e w'=>e=.returned (.int .i64 (ixV (idxQ (sameB i g) bs)))∧Below w.heap.size w w':=by
 have heq:=eqBeing i g
 have HB:=Blk.new w 24 #[.int .i64 i,.int .i64 g]
 have hb0:Below w.heap.size w (w.alloc (.cells #[.int .i64 i,.int .i64 g] 24)):=(Below.refl _ _).alloc (Nat.le_refl _) _
 go_enter Tryz.func80,Tryz.ntmps80
 go_wp2_with fail
 go_loopw [8] (fun q wr=>∃ k:Nat,k≤bs.length∧q=.int .i64 k∧Hid (idxQ (sameB i g) bs=(idxQ (sameB i g) (bs.drop k)).map (·+k))∧Below w.heap.size w wr∧Blk wr w.heap.size 24 #[.int .i64 i,.int .i64 g]) (fun q _=>bs.length-(intOf q).toNat)
 case atStart=>exact ⟨0,by omega,rfl,Lib.hid (by simp),hb0,HB⟩
 case round=>
  obtain ⟨k,hk,rfl,hfr,hbel,hB⟩:=hrel
  clear HB hb0
  by_cases hlt:k<bs.length
  ·obtain ⟨b1,off,rfl,hb1,c0,c1⟩:=rdBe_at (Rd.under hR hbel (Nat.le_refl _)) hlt
   have hst:=Lib.hid (@idxQ_drop _ (sameB i g) bs k hlt)
   have hsB:Hid (sameB i g bs[k]=(i==bs[k].1 && g==bs[k].2)):=Lib.hid rfl
   generalize bs[k]=r at *
   obtain ⟨ri,rg⟩:=r
   have i0:(0:Int)≤(k:Int):=by omega
   have i1:(k:Int)<(bs.length:Int):=by omega
   have d0:=hB.cell 0;have d1:=hB.cell 1
   simp at d0 d1
   have heq2:=heq ri rg
   simp only at c0 c1 hsB
   obtain ⟨B,hBv⟩:∃ B,(i==ri && g==rg)=B:=⟨_,rfl⟩
   rw [hBv] at heq2 hsB
   have heqh:=Lib.hid heq
   clear heq hBv
   cases B with
   | true=>
    have hf:Hid (idxQ (sameB i g) bs=some k):=Lib.hid (by rw [hfr.out,hst.out,if_pos hsB.out])
    go_wp2_with fail
    go_quiet (fail)
    go_wp2_with fail
    go_ret
    exact ⟨by rw [hf.out];rfl,below_drewN hbel _⟩
   | false=>
    have hf:Hid (idxQ (sameB i g) bs=(idxQ (sameB i g) (bs.drop (k+1))).map (·+(k+1))):=Lib.hid (by rw [hfr.out,hst.out,if_neg (by rw [hsB.out];decide)])
    go_wp2_with fail
    go_quiet (fail)
    go_wp2_with fail
    go_roundw
    case rel=>exact ⟨k+1,by omega,by go_num,hf,below_drewN hbel _,hB.drewN _⟩
    case measure=>simp [intOf];omega
  ·obtain rfl:k=bs.length:=by omega
   have hf:Hid (idxQ (sameB i g) bs=none):=Lib.hid (by rw [hfr.out,List.drop_length];rfl)
   go_wp2_with fail
   go_ret
   exact ⟨by rw [hf.out];rfl,hbel⟩
theorem idxI_any (zs:List Int) (A:Option Addr) (c:Nat) (hlen:zs.length≤1000000000) (z:Int) (w:World) (hR:Rd w w.heap.size 1 A zs.length (ints zs)) :
  Calls Tryz.prog 37 #[.slice A zs.length c,.int .i64 z] w fun e w'=>e=.returned (.int .i64 (ixV (idxQ (fun y=>z==y) zs)))∧w=w':=by
 go_enter Tryz.func37,Tryz.ntmps37
 go_wp2_with fail
 go_loop [8] (fun q=>∃ k:Nat,k≤zs.length∧q=.int .i64 k∧Hid (idxQ (fun y=>z==y) zs=(idxQ (fun y=>z==y) (zs.drop k)).map (·+k))) (fun q=>zs.length-(intOf q).toNat)
 case atStart=>exact ⟨0,by omega,rfl,Lib.hid (by simp)⟩
 case round=>
  obtain ⟨k,hk,rfl,hfr⟩:=hrel
  by_cases hlt:k<zs.length
  ·obtain ⟨b1,off,rfl,hb1,c0⟩:=rdZ_at hR hlt
   have hst:=Lib.hid (@idxQ_drop _ (fun y=>z==y) zs k hlt)
   generalize zs[k]=r at *
   have i0:(0:Int)≤(k:Int):=by omega
   have i1:(k:Int)<(zs.length:Int):=by omega
   by_cases hz:z=r
   ·have hf:Hid (idxQ (fun y=>z==y) zs=some k):=Lib.hid (by rw [hfr.out,hst.out,if_pos (by simpa using hz)])
    have hzb:(z==r)=true:=by simpa using hz
    clear hz
    go_wp2_with fail
    go_ret
    exact ⟨by rw [hf.out];rfl,rfl⟩
   ·have hf:Hid (idxQ (fun y=>z==y) zs=(idxQ (fun y=>z==y) (zs.drop (k+1))).map (·+(k+1))):=Lib.hid (by rw [hfr.out,hst.out,if_neg (by simpa using hz)])
    have hzb:(z==r)=false:=by simpa using hz
    go_wp2_with fail
    go_round
    case rel=>exact ⟨k+1,by omega,by go_num,hf⟩
    case measure=>simp [intOf];omega
  ·obtain rfl:k=zs.length:=by omega
   have hf:Hid (idxQ (fun y=>z==y) zs=none):=Lib.hid (by rw [hfr.out,List.drop_length];rfl)
   go_wp2_with fail
   go_ret
   exact ⟨by rw [hf.out];rfl,rfl⟩
theorem bad_any (z:Int) (w:World):Calls Tryz.prog 102 #[.int .i64 z] w fun e w'=>e=.returned (.bool (!isVal z))∧w=w':=by
 have hc:=value_any z w
 generalize isVal z=B at *
 have hch:=Lib.hid hc
 clear hc
 go_enter Tryz.func102,Tryz.ntmps102
 go_wp2_with fail
 refine hch.out.mono ?_
 rintro e w1 ⟨rfl,rfl⟩
 go_wp2_with fail
 go_ret
 exact ⟨rfl,rfl⟩
theorem badIx_any (zs:List Int) (A:Option Addr) (c:Nat) (hlen:zs.length≤1000000000) (w:World) (hR:Rd w w.heap.size 1 A zs.length (ints zs)) :
  Calls Tryz.prog 140 #[.slice A zs.length c,.func (.func 102) #[] #[]] w fun e w'=>e=.returned (.int .i64 (ixV (idxQ (fun y=>!isVal y) zs)))∧w=w':=by
 go_enter Tryz.func140,Tryz.ntmps140
 go_wp2_with fail
 go_loop [8] (fun q=>∃ k:Nat,k≤zs.length∧q=.int .i64 k∧Hid (idxQ (fun y=>!isVal y) zs=(idxQ (fun y=>!isVal y) (zs.drop k)).map (·+k))) (fun q=>zs.length-(intOf q).toNat)
 case atStart=>exact ⟨0,by omega,rfl,Lib.hid (by simp)⟩
 case round=>
  obtain ⟨k,hk,rfl,hfr⟩:=hrel
  by_cases hlt:k<zs.length
  ·obtain ⟨b1,off,rfl,hb1,c0⟩:=rdZ_at hR hlt
   have hst:=Lib.hid (@idxQ_drop _ (fun y=>!isVal y) zs k hlt)
   have hcall:=bad_any zs[k] w
   generalize zs[k]=r at *
   have i0:(0:Int)≤(k:Int):=by omega
   have i1:(k:Int)<(zs.length:Int):=by omega
   obtain ⟨B,hB⟩:∃ B,B = !isVal r:=⟨_,rfl⟩
   rw [← hB] at hcall hst
   have hcallh:=Lib.hid hcall
   clear hcall hB
   go_wp2_with fail
   refine hcallh.out.mono ?_
   rintro e w1 ⟨rfl,rfl⟩
   cases B with
   | true=>
    have hf:Hid (idxQ (fun y=>!isVal y) zs=some k):=Lib.hid (by rw [hfr.out,hst.out,if_pos rfl])
    go_wp2_with fail
    go_ret
    exact ⟨by rw [hf.out];rfl,rfl⟩
   | false=>
    have hf:Hid (idxQ (fun y=>!isVal y) zs=(idxQ (fun y=>!isVal y) (zs.drop (k+1))).map (·+(k+1))):=Lib.hid (by rw [hfr.out,hst.out,if_neg (by decide)])
    go_wp2_with fail
    go_round
    case rel=>exact ⟨k+1,by omega,by go_num,hf⟩
    case measure=>simp [intOf];omega
  ·obtain rfl:k=zs.length:=by omega
   have hf:Hid (idxQ (fun y=>!isVal y) zs=none):=Lib.hid (by rw [hfr.out,List.drop_length];rfl)
   go_wp2_with fail
   go_ret
   exact ⟨by rw [hf.out];rfl,rfl⟩
theorem ixV_any {α:Type} (p:α→Bool):∀ l:List α,decide (ixV (idxQ p l) ≥ 0)=l.any p
 | []=>rfl
 | a::l=>by
  have ih:=ixV_any p l
  rw [idxQ,List.any_cons]
  cases h:p a with
  | true=>rfl
  | false=>
   rw [if_neg (by decide),Bool.false_or,← ih]
   cases idxQ p l with
   | none=>rfl
   | some k=>simp [ixV];omega
theorem badCol_any (zs:List Int) (A:Option Addr) (c:Nat) (hlen:zs.length≤1000000000) (w:World) (hR:Rd w w.heap.size 1 A zs.length (ints zs)) :
  Calls Tryz.prog 101 #[.slice A zs.length c,.func (.func 102) #[] #[]] w fun e w'=>e=.returned (.bool (zs.any fun y=>!isVal y))∧w=w':=by
 have hx:=ixV_any (fun y=>!isVal y) zs
 have hcall:=badIx_any zs A c hlen w hR
 generalize ixV (idxQ (fun y=>!isVal y) zs)=z at *
 rw [← hx]
 have hcallh:=Lib.hid hcall
 clear hcall hx
 by_cases hz:0≤z
 ·have hd:decide (z ≥ 0)=true:=by simpa using hz
  rw [hd]
  go_enter Tryz.func101,Tryz.ntmps101
  go_wp2_with fail
  refine hcallh.out.mono ?_
  rintro e w1 ⟨rfl,rfl⟩
  go_wp2_with fail
  go_ret
  exact ⟨ret_bool (by simp [hz]),rfl⟩
 ·have hd:decide (z ≥ 0)=false:=by simpa using hz
  rw [hd]
  go_enter Tryz.func101,Tryz.ntmps101
  go_wp2_with fail
  refine hcallh.out.mono ?_
  rintro e w1 ⟨rfl,rfl⟩
  go_wp2_with fail
  go_ret
  exact ⟨ret_bool (by simp [hz]),rfl⟩
end Go.Proofs.YtefdblaolmckmabGreat
