/- Lemmas of the proof. -/
import Derived.BigQuiet
import Derived.Test.YtefdblaolmckmabGreatRSpecRR
import Derived.Test.YtefdblaolmckmabGreatRBRunA7ToRunR
import Derived.Test.YtefdblaolmckmabGreatRRefClip
import Derived.Test.YtefdblaolmckmabGreatRBRef2MRToNumB
import Derived.Test.YtefdblaolmckmabGreatRRef2S
import Derived.Test.YtefdblaolmckmabGreatRRuleA
import Derived.Test.YtefdblaolmckmabGreatRBStoBToKg
import Derived.Test.YtefdblaolmckmabGreatRBInsIToMx
set_option linter.unusedVariables false
set_option linter.unusedSimpArgs false
set_option maxRecDepth 100000
set_option maxHeartbeats 12800000
namespace Go.Proofs.YtefdblaolmckmabGreat
open Go.RowKit
open Brood
def rrE (b:Nat) (Ar:Option Addr) (n cr:Nat) (Ag:Option Addr) (m cg:Nat) (mod all non:Int) (xA:Option Addr) (xn xc:Nat) (Am:Option Addr) (bs:List BRow) (cm:Nat):List Ent:=
 [.box b 64 [.slice Ar n cr,.slice Ag m cg],.box (b+1) 29 [.int .i64 mod,.int .i64 all,.int .i64 non,.slice xA xn xc],.box (b+1+1) 64 [.slice none 0 0,.slice none 0 0],.own (.slice Am bs.length cm) 24 2 bs.length (bs.flatMap beCells)]
structure Got3 (Q:Nat→Prop) (w:World) (rows:List BRow) (gens:List Int) (A:Option Addr) (A':Option Addr) (c':Nat):Prop where
 row:RdR w w.heap.size A rows
 gen:RdG w w.heap.size A' gens
 onr:On Q A rows.length
 ong:On Q A' gens.length
 nil_:A'=none→c'=0
theorem Got3.grow {Q:Nat→Prop} {w w':World} {rows:List BRow} {gens:List Int} {A A':Option Addr} {c':Nat} (h:Got3 Q w rows gens A A' c') (hb:Below w.heap.size w w'):Got3 Q w' rows gens A A' c':=
 ⟨Rd.grow h.row hb,Rd.grow h.gen hb,h.onr,h.ong,h.nil_⟩
theorem Got3.set {Q:Nat→Prop} {w:World} {rows:List BRow} {gens:List Int} {A A':Option Addr} {c':Nat} (h:Got3 Q w rows gens A A' c') {p:Addr} (hp:¬ Q p.block) (u:Value):Got3 Q (w.setCell p u) rows gens A A' c':=
 ⟨Rd.more (rd_setQ h.row h.onr hp u) (by simp),Rd.more (rd_setQ h.gen h.ong hp u) (by simp),h.onr,h.ong,h.nil_⟩
theorem Got3.ng {Q:Nat→Prop} {w:World} {rows:List BRow} {gens:List Int} {A A':Option Addr} {c':Nat} (h:Got3 Q w rows gens A A' c'):A'=none→c'=0∧gens=[]:=fun e=>⟨h.nil_ e,by
 rcases Nat.eq_zero_or_pos gens.length with h4 | h4
 ·exact List.eq_nil_of_length_eq_zero h4
 ·obtain ⟨b,off,h5,_⟩:=h.gen.2 h4
  rw [e] at h5
  cases h5⟩
theorem GotQ.open_ {N:Prop} (hn:N) {Q:Nat→Prop} {w:World} {v:Value} {rows:List BRow} {gens:List Int} (h:GotQ N Q w v rows gens):∃ A c A' c',v=.agg #[.slice A rows.length c,.slice A' gens.length c']∧Got3 Q w rows gens A A' c':=by
 obtain ⟨A,c,A',c',h0,h1,h2,h3,h4,h5⟩:=h
 exact ⟨A,c,A',c',h0,h1,h2,h3,h4,h5 hn⟩
theorem On.both {Q:Nat→Prop} {w:World} {B sz n:Nat} {A:Option Addr} {xs:List Value} (h1:On Q A n) (h2:Rd w B sz A n xs):On (fun b=>Q b∧b<B) A n:=fun hn=>by
 obtain ⟨a,e,hq⟩:=h1 hn
 obtain ⟨b,off,e2,hb,_⟩:=h2.2 hn
 rw [e] at e2
 injection e2 with e2
 subst e2
 exact ⟨_,e,hq,hb⟩
theorem pw_drop {bs:List BRow} (h:bs.Pairwise (fun a b=>¬ (b.idx=a.idx∧b.gen=a.gen))) {j:Nat} (hj:j<bs.length):∀ b∈bs.drop (j+1),¬ (b.idx=bs[j].idx∧b.gen=bs[j].gen):=by
 have h1:(bs.drop j).Pairwise (fun a b=>¬ (b.idx=a.idx∧b.gen=a.gen)):=h.sublist (List.drop_sublist _ _)
 rw [List.drop_eq_getElem_cons hj] at h1
 exact (List.pairwise_cons.1 h1).1
structure Ahead (bs:List BRow) (j:Nat) (T:BWorld) (i g:Int):Prop where
 now:There T i g
 rest:∀ b∈bs.drop (j+1),There T b.idx b.gen∧¬ (b.idx=i∧b.gen=g)
theorem Ahead.step {bs:List BRow} {j:Nat} {T:BWorld} {i g:Int} (h:Ahead bs j T i g) (hw:RightB T) {a:BAct} (he:(stepV T i g a).err=0) (h6:a.kind≠6):Ahead bs j (bw (stepV T i g a)) i g:=
 ⟨step_stay hw he (.inl h6) h.now,fun b hb=>⟨step_stay hw he (.inl h6) (h.rest b hb).1,(h.rest b hb).2⟩⟩
theorem Ahead.kill {bs:List BRow} {j:Nat} {T:BWorld} {i g:Int} (h:Ahead bs j T i g) (hw:RightB T) {a:BAct} (he:(stepV T i g a).err=0):∀ b∈bs.drop (j+1),There (bw (stepV T i g a)) b.idx b.gen:=
 fun b hb=>step_stay hw he (.inr (h.rest b hb).2) (h.rest b hb).1
structure P26 (w1:World) (e:Int) (C:World→Value→Prop) (Fin:World→Prop) (l6 l7 l8 l10:Bool) (v6 v7 v8:Value) (w':World):Prop where
 bel:l10=false→Below w1.heap.size w1 w'
 c6:l6=true→l10=false→∃ v,v6=.tuple #[v,.int .i64 e]∧C w' v
 c7:l7=true→l6=true∧v7=v6
 c8:l8=true→l7=true∧∃ v,v8=v∧v6=.tuple #[v,.int .i64 e]
 fin:l10=true→Fin w'
section
variable {w1:World} {e:Int} {C:World→Value→Prop} {Fin:World→Prop} {l6 l7 l8 l10:Bool} {v6 v7 v8:Value} {w':World}
theorem P26.start (h:Below w1.heap.size w1 w') (u v x:Value):P26 w1 e C Fin false false false false u v x w':=
 ⟨fun _=>h,fun h=>(by cases h),fun h=>(by cases h),fun h=>(by cases h),fun h=>(by cases h)⟩
theorem P26.call (h:P26 w1 e C Fin l6 l7 l8 l10 v6 v7 v8 w') (n6:l6=false) (n10:l10=false) {w'':World} (hb:Below w'.heap.size w' w'') {v:Value} (hC:C w'' v):P26 w1 e C Fin true l7 l8 l10 (.tuple #[v,.int .i64 e]) v7 v8 w'':=by
 have h1:=h.bel n10
 have n7:l7=false:=by
  cases l7 with
  | false=>rfl
  | true=>have:=(h.c7 rfl).1;rw [n6] at this;cases this
 have n8:l8=false:=by
  cases l8 with
  | false=>rfl
  | true=>have:=(h.c8 rfl).1;rw [n7] at this;cases this
 exact ⟨fun _=>h1.trans (hb.mono h1.size),fun _ _=>⟨v,rfl,hC⟩,fun h=>by rw [n7] at h;(cases h),fun h=>by rw [n8] at h;(cases h),fun h=>by rw [n10] at h;(cases h)⟩
theorem P26.move (h:P26 w1 e C Fin l6 l7 l8 l10 v6 v7 v8 w') (n6:l6=true):P26 w1 e C Fin l6 true l8 l10 v6 v6 v8 w':=
 ⟨h.bel,h.c6,fun _=>⟨n6,rfl⟩,fun h8=>⟨rfl,(h.c8 h8).2⟩,h.fin⟩
theorem P26.at7 (h:P26 w1 e C Fin l6 l7 l8 l10 v6 v7 v8 w') (n7:l7=true) (n10:l10=false):∃ v,v7=.tuple #[v,.int .i64 e]∧C w' v∧P26 w1 e C Fin l6 l7 true l10 v6 v7 v w':=by
 obtain ⟨h6,h7⟩:=h.c7 n7
 obtain ⟨v,h1,h2⟩:=h.c6 h6 n10
 exact ⟨v,h7.trans h1,h2,h.bel,h.c6,h.c7,fun _=>⟨n7,v,rfl,h1⟩,h.fin⟩
theorem P26.tup7 (h:P26 w1 e C Fin l6 l7 l8 l10 v6 v7 v8 w') (n7:l7=true) (n6:l10=true→l8=true):∃ v,v7=.tuple #[v,.int .i64 e]:=by
 obtain ⟨h6,h7⟩:=h.c7 n7
 cases hl:l10 with
 | false=>obtain ⟨v,h1,_⟩:=h.c6 h6 hl;exact ⟨v,h7.trans h1⟩
 | true=>obtain ⟨_,v,_,h1⟩:=h.c8 (n6 hl);exact ⟨v,h7.trans h1⟩
theorem P26.at8 (h:P26 w1 e C Fin l6 l7 l8 l10 v6 v7 v8 w') (n8:l8=true) (n10:l10=false):C w' v8:=by
 obtain ⟨h7,v,h1,h2⟩:=h.c8 n8
 obtain ⟨u,h3,h4⟩:=h.c6 (h.c7 h7).1 n10
 rw [h3] at h2
 have:u=v:=by injection h2 with h2;injection h2 with h2;injection h2
 subst this
 rw [h1]
 exact h4
theorem P26.done (h:P26 w1 e C Fin l6 l7 l8 l10 v6 v7 v8 w') {w'':World} (hF:Fin w''):P26 w1 e C Fin l6 l7 l8 true v6 v7 v8 w'':=
 ⟨fun h=>(by cases h),fun _ h=>(by cases h),h.c7,h.c8,fun _=>hF⟩
end
def aEnt (b:Nat) (k p s n:Int):Ent:=.box b 35 [.int .i64 k,.int .i64 p,.int .i64 s,.int .i64 n]
theorem runM_eqR {W:BWorld} {x:BSys} (hx:(sysWrong x).1=0) {R:(BWorld×Int)×Bool} (hR:besM x.acts (matchV x.all x.non W.rows) (W,0)=R):runM W x=if R.2 then ⟨[],[],R.1.2⟩ else ⟨R.1.1.rows,R.1.1.gens,0⟩:=by
 unfold runM
 rw [if_neg (by simpa using hx),hR]
theorem GotQ.t {N:Prop} (hn:N) {Q:Nat→Prop} {w:World} {v:Value} {rows:List BRow} {gens:List Int} (h:GotQ N Q w v rows gens):GotQ True Q w v rows gens:=by
 obtain ⟨A,c,A',c',h0,h1,h2,h3,h4,h5⟩:=h
 exact ⟨A,c,A',c',h0,h1,h2,h3,h4,fun _=>h5 hn⟩
theorem run_next {T:BWorld} {i g:Int} {a:BAct} {l:List BAct} {Z:(BWorld×Int)×Bool} (h:(if a.kind=6 then (oneM (T,0) i g a,false) else if (oneM (T,0) i g a).2≠0 then (oneM (T,0) i g a,true) else actsM i g l (oneM (T,0) i g a))=Z)
  (h6:a.kind≠6) {D:Changed} (hst:stepV T i g a=D) (he:D.err=0) (hw:RightB T) {bs:List BRow} {j:Nat} (hA:Ahead bs j T i g):RightB (bw D)∧actsM i g l (bw D,0)=Z∧Ahead bs j (bw D) i g:=by
 subst hst
 rw [if_neg h6,oneM_eq he,if_neg (by simp)] at h
 exact ⟨step_right hw he,h,hA.step hw he h6⟩
theorem run_kill {T:BWorld} {i g:Int} {a:BAct} {l:List BAct} {Z:(BWorld×Int)×Bool} (h:(if a.kind=6 then (oneM (T,0) i g a,false) else if (oneM (T,0) i g a).2≠0 then (oneM (T,0) i g a,true) else actsM i g l (oneM (T,0) i g a))=Z)
  (h6:a.kind=6) {D:Changed} (hst:stepV T i g a=D) (he:D.err=0) (hw:RightB T) {bs:List BRow} {j:Nat} (hA:Ahead bs j T i g) {acts:List BAct} {R:(BWorld×Int)×Bool}
  (hb:(if Z.2 then Z else besM acts (bs.drop (j+1)) Z.1)=R):RightB (bw D)∧besM acts (bs.drop (j+1)) (bw D,0)=R∧∀ b∈bs.drop (j+1),There (bw D) b.idx b.gen:=by
 subst hst
 rw [if_pos h6,oneM_eq he] at h
 subst h
 exact ⟨step_right hw he,by simpa using hb,hA.kill hw he⟩
theorem run_bad {T:BWorld} {i g:Int} {a:BAct} {l:List BAct} {Z:(BWorld×Int)×Bool} (h:(if a.kind=6 then (oneM (T,0) i g a,false) else if (oneM (T,0) i g a).2≠0 then (oneM (T,0) i g a,true) else actsM i g l (oneM (T,0) i g a))=Z)
  (h6:a.kind≠6) {D:Changed} (hst:stepV T i g a=D) (he:D.err≠0) {B:(BWorld×Int)×Bool} {R:(BWorld×Int)×Bool}
  (hb:(if Z.2 then Z else B)=R):R=((T,D.err),true):=by
 subst hst
 rw [if_neg h6,oneM_bad he,if_pos he] at h
 subst h
 simpa using hb.symm
theorem part_bd {r:BRow} (h:rowErr r=0) {k:Int} (hk:isPart k=true):-1000000≤r.vals.getD k.toNat 0∧r.vals.getD k.toNat 0≤1000000:=by
 rw [isPart_iff] at hk
 exact isVal_iff.1 (((rowErr_iff r).1 h).2 k.toNat (by omega)).1
theorem part_cell {w:World} {b o:Nat} {r:BRow} (h:RowAt w b o r) {k:Int} (hk:isPart k=true):w.cell? ⟨b,o+3+k.toNat,none⟩=some (.int .i64 (r.vals.getD k.toNat 0)):=by
 rw [isPart_iff] at hk
 have h8:k.toNat<8:=by omega
 have:=h.val h8
 rw [this]
 have hlen:=r.h8
 simp [List.getD_eq_getElem?_getD,hlen,h8]
theorem rrun_any (rows:List BRow) (gens:List Int) (Ar:Option Addr) (cr:Nat) (Ag:Option Addr) (cg:Nat) (x:BSys) (xA:Option Addr) (xc:Nat) (hw:RightW rows gens) (hx:(sysWrong x).1=0) (Q:Nat→Prop)
  (w:World) (hQ:∀ b,w.heap.size≤b→Q b) (hG:Got3 Q w rows gens Ar Ag cg) (hA:RdAB w w.heap.size xA x.acts) :
  Calls Tryz.prog 73 #[.agg #[.slice Ar rows.length cr,.slice Ag gens.length cg],.agg #[.int .i64 x.mod,.int .i64 x.all,.int .i64 x.non,.slice xA x.acts.length xc]] w fun e w'=>
   ∃ v,e=.returned (.tuple #[v,.int .i64 (runM ⟨rows,gens⟩ x).err])∧GotQ True Q w' v (runM ⟨rows,gens⟩ x).rows (runM ⟨rows,gens⟩ x).gens∧Below w.heap.size w w':=by
 have hM:=Lib.hid (fun (R:(BWorld×Int)×Bool) (h2:besM x.acts (matchV x.all x.non rows) (⟨rows,gens⟩,0)=R)=>runM_eqR (W:=⟨rows,gens⟩) hx h2)
 have hokx:=sysOk_of hx
 generalize runM ⟨rows,gens⟩ x=E at *
 clear hx
 obtain ⟨mod,all,non,acts⟩:=x
 dsimp only at *
 have hacts:acts.length≤8:=hokx.many
 have hall:isSet all=true:=hokx.all
 have hnon:isSet non=true:=hokx.non
 have hoka:Hid (∀ a∈acts,okAct a):=Lib.hid (fun a ha=>okAct_of (hokx.acts a ha))
 have hmk:Hid (∀ b∈matchV all non rows,There ⟨rows,gens⟩ b.idx b.gen):=Lib.hid (asked_there (W:=⟨rows,gens⟩) hw)
 have hmp:Hid ((matchV all non rows).Pairwise (fun a b=>¬ (b.idx=a.idx∧b.gen=a.gen))):=Lib.hid (asked_apart (W:=⟨rows,gens⟩) hw)
 have hwh:=Lib.hid hw;have hAh:=Lib.hid hA;have hQh:=Lib.hid hQ
 have hlr:rows.length≤60:=Nat.le_trans hw.rows_le hw.len
 have hsets:=Lib.hid hw.set_
 have hG0:Hid (Got3 (fun b=>Q b∧b≠w.heap.size∧b≠w.heap.size+1+1) w rows gens Ar Ag cg):=Lib.hid ⟨hG.row,hG.gen,(On.both hG.onr hG.row).mono (fun b hb=>⟨hb.1,by omega,by omega⟩),(On.both hG.ong hG.gen).mono (fun b hb=>⟨hb.1,by omega,by omega⟩),hG.nil_⟩
 clear hokx hw hA hQ hG
 have H0:=(((Hp.start w).new w.heap.size rfl 64 [.slice Ar rows.length cr,.slice Ag gens.length cg]).new (w.heap.size+1) (by simp) 29 [.int .i64 mod,.int .i64 all,.int .i64 non,.slice xA acts.length xc]).new (w.heap.size+1+1) (by simp) 64 [.slice none 0 0,.slice none 0 0]
 have a0:=H0.cell 0 0 rfl rfl;have a1:=H0.cell 0 1 rfl rfl;have s1:=H0.cell 1 1 rfl rfl;have s2:=H0.cell 1 2 rfl rfl
 go_enter Tryz.func73,Tryz.ntmps73
 go_wp2_with fail
 obtain ⟨w0,hw0,H0⟩:=H0.name
 rw [hw0]
 clear hw0 a0 a1 s1 s2
 refine (rmatch_any rows gens Ar cr Ag cg all non hlr hsets.out hall hnon w0 (Rd.grow hG0.out.row H0.bel)).mono ?_
 rintro e w1 ⟨⟨Am,cm,rfl,hom⟩,hb1⟩
 have hbl:(matchV all non rows).length≤60:=Nat.le_trans (List.length_filter_le _ _) hlr
 obtain ⟨R,hR⟩:∃ R,besM acts (matchV all non rows) (⟨rows,gens⟩,0)=R:=⟨_,rfl⟩
 have hE:=Lib.hid (hM.out R hR)
 have hRh:=Lib.hid hR
 clear hR hM
 generalize matchV all non rows=bs at *
 have H1:=H0.got hb1 hom
 have hG1:=Lib.hid (hG0.out.grow H1.bel)
 have hH1:Hid (Hp w w1 (rrE w.heap.size Ar rows.length cr Ag gens.length cg mod all non xA acts.length xc Am bs cm)):=Lib.hid H1
 clear H0 hom hb1 H1 hG0
 go_wp2_with fail
 go_loopw [20] (fun q wr=>∃ j:Nat,j≤bs.length∧q=.int .i64 j∧∃ (W:BWorld) (A2:Option Addr) (c2:Nat) (Ag2:Option Addr) (cg2:Nat),Hid (RightB W∧besM acts (bs.drop j) (W,0)=R∧∀ b∈bs.drop j,There W b.idx b.gen)∧Hp w wr (rrE w.heap.size A2 W.rows.length c2 Ag2 W.gens.length cg2 mod all non xA acts.length xc Am bs cm)∧Got3 (fun b=>Q b∧b≠w.heap.size∧b≠w.heap.size+1+1) wr W.rows W.gens A2 Ag2 cg2) (fun q _=>bs.length-(intOf q).toNat)
 case atStart=>exact ⟨0,by omega,rfl,⟨rows,gens⟩,Ar,cr,Ag,cg,Lib.hid ⟨hwh.out,hRh.out,hmk.out⟩,hH1.out,hG1.out⟩
 case round=>
  clear hH1 hG1 hRh hmk hwh hsets hlr
  obtain ⟨j,hj,rfl,W,A2,c2,Ag2,cg2,hS,H,hG2⟩:=hrel
  by_cases hlt:j<bs.length
  ·have hb2:=hS.out.2.1
   rw [bes_drop hlt] at hb2
   obtain ⟨b1,off,hA,hb1,e0,e1⟩:=RdB.at_ (w:=wr) (H.rd 3 rfl) hlt
   have s3:=H.cell 1 3 rfl rfl
   have ls:=H.lt 1 rfl
   have hah:Hid (Ahead bs j W bs[j].idx bs[j].gen):=Lib.hid ⟨hS.out.2.2 _ (by rw [List.drop_eq_getElem_cons hlt];exact List.mem_cons_self ..),fun b hb=>⟨hS.out.2.2 b (by rw [List.drop_eq_getElem_cons hlt];exact List.mem_cons_of_mem _ hb),pw_drop hmp.out hlt b hb⟩⟩
   generalize bs[j]=B at *
   obtain ⟨bi,bg,bh,bv,b8⟩:=B
   dsimp only at hb2 e0 e1 hah
   subst hA
   have hb2h:=Lib.hid hb2;have Hh:=Lib.hid H;have hS1:=Lib.hid hS.out.1;have hG2h:=Lib.hid hG2
   have i0:(0:Int)≤(j:Int):=by omega
   have i1:(j:Int)<(bs.length:Int):=by omega
   clear hb2 H hS hG2
   go_wp2_with fail
   have HB:=Hh.out.new wr.heap.size rfl 24 [.int .i64 bi,.int .i64 bg]
   have hG3:=Lib.hid (hG2h.out.grow ((Below.refl _ _).alloc (Nat.le_refl _) (.cells #[.int .i64 bi,.int .i64 bg] 24)))
   obtain ⟨w3,hw3,HB⟩:=HB.name
   rw [hw3] at hG3 ⊢
   obtain ⟨b10,hb10⟩:∃ b10,b10=wr.heap.size:=⟨_,rfl⟩
   rw [← hb10] at HB ⊢
   have hHB:Hid (Hp w w3 (rrE w.heap.size A2 W.rows.length c2 Ag2 W.gens.length cg2 mod all non xA acts.length xc (some ⟨b1,off,none⟩) bs cm++[bEnt b10 bi bg])):=Lib.hid HB
   clear HB Hh hb10 hw3 hG2h s3 ls e0 e1 hb1
   go_loopw [27] (fun q wx=>∃ k:Nat,k≤acts.length∧q=.int .i64 k∧∃ (T:BWorld) (A3:Option Addr) (c3:Nat) (Ag3:Option Addr) (cg3:Nat),Hid (RightB T∧actsM bi bg (acts.drop k) (T,0)=actsM bi bg acts (W,0)∧Ahead bs j T bi bg)∧Hp w wx (rrE w.heap.size A3 T.rows.length c3 Ag3 T.gens.length cg3 mod all non xA acts.length xc (some ⟨b1,off,none⟩) bs cm++[bEnt b10 bi bg])∧Got3 (fun b=>Q b∧b≠w.heap.size∧b≠w.heap.size+1+1) wx T.rows T.gens A3 Ag3 cg3) (fun q _=>acts.length-(intOf q).toNat)
   case atStart=>exact ⟨0,by omega,rfl,W,A2,c2,Ag2,cg2,Lib.hid ⟨hS1.out,rfl,hah.out⟩,hHB.out,hG3.out⟩
   case round=>
    clear hHB hG3 hS1 hah
    obtain ⟨k,hk,rfl,T,A3,c3,Ag3,cg3,hT,H,hG⟩:=hrel
    by_cases hlk:k<acts.length
    ·obtain ⟨ab,ao,rfl,hab,hat⟩:=hAh.out.at_ hlk
     have hT3:=hT.out.2.1
     rw [acts_drop hlk] at hT3
     have hoa:=hoka.out _ (List.getElem_mem hlk)
     have hT3h:=Lib.hid hT3;have hoah:=Lib.hid hoa
     obtain ⟨m0,m1,m2,m3⟩:=hat
     have m0:=(H.bel.cell (p:=⟨ab,ao+k*4,none⟩) (by simpa using hab)).trans m0;have m1:=(H.bel.cell (p:=⟨ab,ao+k*4+1,none⟩) (by simpa using hab)).trans m1;have m2:=(H.bel.cell (p:=⟨ab,ao+k*4+2,none⟩) (by simpa using hab)).trans m2;have m3:=(H.bel.cell (p:=⟨ab,ao+k*4+3,none⟩) (by simpa using hab)).trans m3
     have k0:(0:Int)≤(k:Int):=by omega
     have k1:(k:Int)<(acts.length:Int):=by omega
     have hTr:=Lib.hid hT.out.1;have hTa:=Lib.hid hT.out.2.2
     clear hT3 hoa hT
     generalize acts[k]=a at *
     obtain ⟨kind,part,src,n⟩:=a
     dsimp only at m0 m1 m2 m3
     have hHh:=Lib.hid H;have hGh:=Lib.hid hG
     have lab:ab<wr.heap.size:=by have:=H.bel.size;omega
     clear H hG hab
     go_upto_region 7 with fail
     have HA:=hHh.out.new _ rfl 35 [.int .i64 kind,.int .i64 part,.int .i64 src,.int .i64 n]
     have hGA:=Lib.hid (hGh.out.grow ((Below.refl _ _).alloc (Nat.le_refl _) (.cells #[.int .i64 kind,.int .i64 part,.int .i64 src,.int .i64 n] 35)))
     obtain ⟨w4,hw4,HA⟩:=HA.name
     rw [hw4] at hGA ⊢
     obtain ⟨ab9,hab9⟩:∃ ab9,ab9=wr.heap.size:=⟨_,rfl⟩
     rw [← hab9] at HA ⊢
     have hHA:Hid (Hp w w4 (rrE w.heap.size A3 T.rows.length c3 Ag3 T.gens.length cg3 mod all non (some ⟨ab,ao,none⟩) acts.length xc (some ⟨b1,off,none⟩) bs cm++[bEnt b10 bi bg]++[aEnt ab9 kind part src n])):=Lib.hid HA
     clear HA hHh hGh hw4 hab9 m0 m1 m2 m3 lab
     have hkd:kind=6∨kind=7∨kind=5∨(kind=2∨kind=3∨kind=4∨kind=1):=by
      rcases hoah.out with h | ⟨h,_⟩ | ⟨h,_⟩
      ·exact .inl h
      ·exact .inr (.inl h)
      ·have:1≤kind∧kind≤5:=by simpa [isWrite] using h
       omega
     have hsz4:w.heap.size+1+1<w4.heap.size:=hHA.out.lt 2 rfl
     have hlrT:T.rows.length≤60:=Nat.le_trans (RightW.rows_le hTr.out) (RightW.len hTr.out)
     rcases hkd with rfl | rfl | rfl | hk4
     ·obtain ⟨D,hD0⟩:∃ D,D=killV T.rows T.gens bi bg:=⟨_,rfl⟩
      have hst:stepV T bi bg ⟨6,part,src,n⟩=D:=(step_kill rfl).trans hD0.symm
      have hDe:Hid (D.err=0):=Lib.hid (by rw [← hst];exact step_ok hTr.out hTa.out.now hoah.out (show (6:Int)≠7 by decide))
      have hnx:=Lib.hid (run_kill hT3h.out rfl hst hDe.out hTr.out hTa.out hb2h.out)
      have hD:=Lib.hid hD0
      clear hst hD0 hT3h hTr hTa hoah hb2h
      have hcall:Hid (∀ W',Below w4.heap.size w4 W'→Calls Tryz.prog 113 #[.agg #[.slice A3 T.rows.length c3,.slice Ag3 T.gens.length cg3],.agg #[.int .i64 bi,.int .i64 bg]] W' fun e w''=>∃ v,e=.returned (.tuple #[v,.int .i64 0])∧GotQ True (fun b=>Q b∧b≠w.heap.size∧b≠w.heap.size+1+1) w'' v D.rows D.gens∧Below W'.heap.size W' w''):=Lib.hid (fun W' hb=>by
       have h1:=rkill_on T.rows T.gens A3 c3 Ag3 cg3 bi bg (by omega) (fun b=>Q b∧b≠w.heap.size∧b≠w.heap.size+1+1) W' (Rd.grow hGA.out.row hb) (Rd.grow hGA.out.gen hb) (fun b hb2=>⟨hQh.out b (by have:=hsz4;have:=hb.size;omega),by have:=hsz4;have:=hb.size;omega,by have:=hsz4;have:=hb.size;omega⟩) hGA.out.ong
       rw [← hD.out,hDe.out] at h1
       exact h1.mono (fun e w'' ⟨v,h2,h3,h4⟩=>⟨v,h2,h3.t hGA.out.nil_,h4⟩))
      clear hD hDe
      have q0:=hHA.out.cell 0 0 rfl rfl;have q1:=hHA.out.cell 0 1 rfl rfl;have p0:=hHA.out.cell 4 0 rfl rfl;have p1:=hHA.out.cell 4 1 rfl rfl;have m0:=hHA.out.cell 5 0 rfl rfl;have m1:=hHA.out.cell 5 1 rfl rfl;have m2:=hHA.out.cell 5 2 rfl rfl;have m3:=hHA.out.cell 5 3 rfl rfl
      go_wp2_with fail
      refine (hcall.out w4 (Below.refl _ _)).mono ?_
      rintro e w5 ⟨v,rfl,hG4,hb5⟩
      obtain ⟨A4,c4,Ag4,cg4,rfl,G4⟩:=GotQ.open_ trivial hG4
      have H4:=hHA.out.grow hb5
      clear q0 q1 p0 p1 m0 m1 m2 m3
      have q0:=H4.cell 0 0 rfl rfl;have q1:=H4.cell 0 1 rfl rfl;have y0:=H4.frozen 0 0 rfl;have y1:=H4.frozen 0 1 rfl
      have H5:=(H4.set 0 0 (.slice A4 D.rows.length c4) rfl).set 0 1 (.slice Ag4 D.gens.length cg4) rfl
      have G5:=(G4.set (p:=⟨w.heap.size,0,none⟩) (by simp) (.slice A4 D.rows.length c4)).set (p:=⟨w.heap.size,1,none⟩) (by simp) (.slice Ag4 D.gens.length cg4)
      have H9:=Lib.hid ((H5.drop1 5).drop1 4);have G9:=Lib.hid G5
      clear H4 H5 G4 G5 hG4 hb5 hcall hGA hHA
      go_wp2_with fail
      go_roundw
      case rel=>exact ⟨j+1,by omega,by go_num,bw D,A4,c4,Ag4,cg4,hnx,H9.out,G9.out⟩
      case measure=>simp [intOf];omega
     ·obtain ⟨r,hr⟩:=hTa.out.now
      have q0:=hHA.out.cell 0 0 rfl rfl;have q1:=hHA.out.cell 0 1 rfl rfl;have p0:=hHA.out.cell 4 0 rfl rfl;have p1:=hHA.out.cell 4 1 rfl rfl;have m0:=hHA.out.cell 5 0 rfl rfl;have m1:=hHA.out.cell 5 1 rfl rfl;have m2:=hHA.out.cell 5 2 rfl rfl;have m3:=hHA.out.cell 5 3 rfl rfl
      go_wp2_with fail
      refine (rrow_any T.rows T.gens A3 c3 Ag3 cg3 bi bg (by omega) w4 hGA.out.row).mono ?_
      rintro e w5 ⟨⟨v,rfl,hans⟩,hb5⟩
      rw [hr] at hans
      obtain ⟨pb,po,rfl,hpb,hrow⟩:=hans
      have hH5:=Lib.hid (hHA.out.grow hb5);have hG5:=Lib.hid (hGA.out.grow hb5)
      have hrow5:Hid (RowAt w5 pb po r):=Lib.hid (hrow.below hb5 hpb)
      have hpb5:pb<w5.heap.size:=Nat.lt_of_lt_of_le hpb hb5.size
      have hsz5:w.heap.size+1+1<w5.heap.size:=hH5.out.lt 2 rfl
      have hre:=Lib.hid (RightW.row hTr.out r ((rowOf_some_iff (RightW.rise hTr.out)).1 hr).1)
      have hrh:=Lib.hid hr
      clear q0 q1 p0 p1 m0 m1 m2 m3
      clear hrow hpb hb5 hHA hGA hsz4 hr
      obtain ⟨S,hS0⟩:∃ S,S=spawnV T.rows T.gens part n:=⟨_,rfl⟩
      have hst:stepV T bi bg ⟨7,part,src,n⟩=⟨S.rows,S.gens,S.err⟩:=by rw [step_spawn rfl,hS0];rfl
      have hcall:Hid (Calls Tryz.prog 115 #[.agg #[.slice A3 T.rows.length c3,.slice Ag3 T.gens.length cg3],.int .i64 part,.int .i64 n] w5 fun e w''=>∃ v,e=.returned (.tuple #[v,.agg #[.int .i64 S.i,.int .i64 S.g],.int .i64 S.err])∧GotQ True (fun b=>Q b∧b≠w.heap.size∧b≠w.heap.size+1+1) w'' v S.rows S.gens∧Below w5.heap.size w5 w''):=Lib.hid (by
       have h1:=rspawn_on T.rows T.gens A3 c3 Ag3 cg3 part n (by omega) hG5.out.ng (fun b=>Q b∧b≠w.heap.size∧b≠w.heap.size+1+1) w5 hG5.out.row hG5.out.gen (fun b hb2=>⟨hQh.out b (by omega),by omega,by omega⟩)
       rw [← hS0] at h1
       exact h1)
      have hnx:Hid (S.err=0→RightB (bw ⟨S.rows,S.gens,S.err⟩)∧actsM bi bg (acts.drop (k+1)) (bw ⟨S.rows,S.gens,S.err⟩,0)=actsM bi bg acts (W,0)∧Ahead bs j (bw ⟨S.rows,S.gens,S.err⟩) bi bg):=Lib.hid (fun he=>run_next hT3h.out (show (7:Int)≠6 by decide) hst he hTr.out hTa.out)
      have hbad:Hid (S.err≠0→E=⟨[],[],S.err⟩):=Lib.hid (fun he=>by
       have h1:=run_bad hT3h.out (show (7:Int)≠6 by decide) hst he hb2h.out
       have h2:=hE.out
       rw [h1] at h2
       simpa using h2)
      clear hst hS0 hT3h hTr hTa hoah hrh hre hrow5 hpb5
      have q0:=hH5.out.cell 0 0 rfl rfl;have q1:=hH5.out.cell 0 1 rfl rfl;have p0:=hH5.out.cell 4 0 rfl rfl;have p1:=hH5.out.cell 4 1 rfl rfl;have m0:=hH5.out.cell 5 0 rfl rfl;have m1:=hH5.out.cell 5 1 rfl rfl;have m2:=hH5.out.cell 5 2 rfl rfl;have m3:=hH5.out.cell 5 3 rfl rfl
      go_wp2_with fail
      refine hcall.out.mono ?_
      rintro e w6 ⟨v,rfl,hG4,hb6⟩
      obtain ⟨A4,c4,Ag4,cg4,rfl,G4⟩:=GotQ.open_ trivial hG4
      have H6:=((hH5.out.grow hb6).new _ rfl 64 [.slice A4 S.rows.length c4,.slice Ag4 S.gens.length cg4]).new (w6.heap.size+1) (by simp) 24 [.int .i64 S.i,.int .i64 S.g]
      have G6:=(G4.grow ((Below.refl _ _).alloc (Nat.le_refl _) (.cells #[.slice A4 S.rows.length c4,.slice Ag4 S.gens.length cg4] 64))).grow ((Below.refl _ _).alloc (Nat.le_refl _) (.cells #[.int .i64 S.i,.int .i64 S.g] 24))
      obtain ⟨w7,hw7,H7⟩:=H6.name
      rw [hw7] at G6
      clear q0 q1 p0 p1 m0 m1 m2 m3
      clear H6 G4 hG4 hb6 hcall hH5 hG5
      by_cases he:S.err=0
      ·have hnx2:=Lib.hid (hnx.out he)
       have x0:=H7.cell 6 0 rfl rfl;have x1:=H7.cell 6 1 rfl rfl
       have q0:=H7.cell 0 0 rfl rfl;have q1:=H7.cell 0 1 rfl rfl;have y0:=H7.frozen 0 0 rfl;have y1:=H7.frozen 0 1 rfl
       have H8:=(H7.set 0 0 (.slice A4 S.rows.length c4) rfl).set 0 1 (.slice Ag4 S.gens.length cg4) rfl
       have G8:=(G6.set (p:=⟨w.heap.size,0,none⟩) (by simp) (.slice A4 S.rows.length c4)).set (p:=⟨w.heap.size,1,none⟩) (by simp) (.slice Ag4 S.gens.length cg4)
       have H9:=Lib.hid (((H8.drop1 7).drop1 6).drop1 5);have G9:=Lib.hid G8
       clear H7 H8 G6 G8 hnx hbad hE
       generalize S.err=se at *
       subst he
       go_upto_region 14 with fail
       clear hw7
       go_wp2_with fail
       go_roundw
       case rel=>exact ⟨k+1,by omega,by go_num,bw ⟨S.rows,S.gens,0⟩,A4,c4,Ag4,cg4,hnx2,H9.out,G9.out⟩
       case measure=>simp [intOf];omega
      ·have he':(S.err != 0)=true:=by simpa using he
       have hE3:=Lib.hid (hbad.out he)
       have q0:=H7.cell 2 0 rfl rfl;have q1:=H7.cell 2 1 rfl rfl;have y0:=H7.frozen 2 0 rfl;have y1:=H7.frozen 2 1 rfl
       have H8:=(H7.set 2 0 (.slice none 0 0) rfl).set 2 1 (.slice none 0 0) rfl
       have p2:=H8.cell 2 0 rfl rfl;have p3:=H8.cell 2 1 rfl rfl
       have H9:=Lib.hid H8
       clear H7 H8 G6 hnx hbad hE
       generalize S.err=se at *
       go_upto_region 14 with fail
       clear hw7
       go_wp2_with fail
       refine bodyPost_ret (v:=.tuple #[.agg #[.slice none 0 0,.slice none 0 0],.int .i64 se]) (by simp [results,Tryz.results73,go_sem,p2,p3]) rfl ⟨_,by rw [hE3.out],by rw [hE3.out];exact GotQ.zero _ _ _,H9.out.bel⟩
     ·obtain ⟨r,hr⟩:=hTa.out.now
      have q0:=hHA.out.cell 0 0 rfl rfl;have q1:=hHA.out.cell 0 1 rfl rfl;have p0:=hHA.out.cell 4 0 rfl rfl;have p1:=hHA.out.cell 4 1 rfl rfl;have m0:=hHA.out.cell 5 0 rfl rfl;have m1:=hHA.out.cell 5 1 rfl rfl;have m2:=hHA.out.cell 5 2 rfl rfl;have m3:=hHA.out.cell 5 3 rfl rfl
      go_wp2_with fail
      refine (rrow_any T.rows T.gens A3 c3 Ag3 cg3 bi bg (by omega) w4 hGA.out.row).mono ?_
      rintro e w5 ⟨⟨v,rfl,hans⟩,hb5⟩
      rw [hr] at hans
      obtain ⟨pb,po,rfl,hpb,hrow⟩:=hans
      have hH5:=Lib.hid (hHA.out.grow hb5);have hG5:=Lib.hid (hGA.out.grow hb5)
      have hrow5:Hid (RowAt w5 pb po r):=Lib.hid (hrow.below hb5 hpb)
      have hpb5:pb<w5.heap.size:=Nat.lt_of_lt_of_le hpb hb5.size
      have hsz5:w.heap.size+1+1<w5.heap.size:=hH5.out.lt 2 rfl
      have hre:=Lib.hid (RightW.row hTr.out r ((rowOf_some_iff (RightW.rise hTr.out)).1 hr).1)
      have hrh:=Lib.hid hr
      clear q0 q1 p0 p1 m0 m1 m2 m3
      clear hrow hpb hb5 hHA hGA hsz4 hr
      obtain ⟨hh,hh0⟩:∃ hh,hasB r.has part=hh:=⟨_,rfl⟩
      have hhh:=Lib.hid hh0
      have hset:Hid (isSet r.has=true):=Lib.hid ((rowErr_iff r).1 hre.out).1
      have hst0:=step_drop (W:=T) (a:=⟨5,part,src,n⟩) hrh.out rfl
      dsimp only at hst0
      rw [hh0] at hst0
      have hDe0:=step_ok hTr.out hTa.out.now hoah.out (a:=⟨5,part,src,n⟩) (show (5:Int)≠7 by decide)
      have q0:=hH5.out.cell 0 0 rfl rfl;have q1:=hH5.out.cell 0 1 rfl rfl;have p0:=hH5.out.cell 4 0 rfl rfl;have p1:=hH5.out.cell 4 1 rfl rfl;have m0:=hH5.out.cell 5 0 rfl rfl;have m1:=hH5.out.cell 5 1 rfl rfl;have m2:=hH5.out.cell 5 2 rfl rfl;have m3:=hH5.out.cell 5 3 rfl rfl
      have a1:=Lib.hid m1
      have hab9:ab9<w5.heap.size:=hH5.out.lt 5 rfl
      have hrow2:=Lib.hid hrow5.out.head.2.2
      have hpb:pb<w5.heap.size:=hpb5
      clear hh0 hrow5
      go_upto_region 18 with fail
      go_cut [72] (fun s wx=>s=.bool hh∧Below w5.heap.size w5 wx)
      case first=>
       clear q0 q1 p0 p1 m0 m1 m2 m3 hst0 hDe0 hT3h hE hb2h
       refine wp_region_pred mixed (by kernel_rfl) (by kernel_rfl) (fun _=>true) (fun j w' v=>v=tab [.pointer (some ⟨pb,po,none⟩),.pointer (some ⟨pb,po,none⟩),.pointer (some ⟨pb,po+2,none⟩),.int .i64 r.has,.pointer (some ⟨ab9,1,none⟩),.int .i64 part,.bool hh] j) ?_ ?_ ?_ ?_ ?_
       ·intro j w' w'' v h hb;exact h
       ·intro q op ho
        have hi:q<7:=lt_of_some ho
        match q,hi,ho with
        | 0,_,ho | 1,_,ho | 2,_,ho | 3,_,ho | 4,_,ho | 5,_,ho | 6,_,ho=>
         obtain rfl:=sj ho
         rfl
       ·intro q w' h;cases h
       ·intro vs w' hb hv
        rw [putAll_tab _ _ _ _ [(some 66,vs 0),(some 67,vs 1),(some 68,vs 2),(some 69,vs 3),(some 70,vs 4),(some 71,vs 5),(some 72,vs 6)] rfl]
        simp only [putL_eq,putT,List.set_cons_succ,List.set_cons_zero]
        have h6:vs 6=.bool hh:=hv 6 (by decide)
        rw [h6]
        clear hv h6
        go_wp2_with fail
        go_meet
        exact ⟨rfl,hb⟩
       ·intro q op ho hG act w' hb hv hwas K hK
        have e9:=hwas 9 rfl
        have e10:=hwas 10 rfl
        simp at e9 e10
        have r2:=(hb.cell (p:=⟨pb,po+2,none⟩) hpb).trans hrow2.out
        have q0:=(hb.cell (p:=⟨ab9,1,none⟩) hab9).trans a1.out
        have hi:q<7:=lt_of_some ho
        match q,hi,ho,hG,hK,hv with
        | 0,_,ho,hG,hK,hv=>
         obtain rfl:=sj ho
         clear hv hwas
         go_simp
         exact hK _ _ (Below.refl _ _) rfl
        | 1,_,ho,hG,hK,hv=>
         obtain rfl:=sj ho
         have x66:act.tmps[66]?.getD undef=.pointer (some ⟨pb,po,none⟩):=hv 0 66 rfl rfl
         clear hv hwas
         go_simp
         exact hK _ _ (Below.refl _ _) rfl
        | 2,_,ho,hG,hK,hv=>
         obtain rfl:=sj ho
         have x67:act.tmps[67]?.getD undef=.pointer (some ⟨pb,po,none⟩):=hv 1 67 rfl rfl
         clear hv hwas
         go_simp
         exact hK _ _ (Below.refl _ _) rfl
        | 3,_,ho,hG,hK,hv=>
         obtain rfl:=sj ho
         have x68:act.tmps[68]?.getD undef=.pointer (some ⟨pb,po+2,none⟩):=hv 2 68 rfl rfl
         clear hv hwas
         go_simp
         exact hK _ _ (Below.refl _ _) rfl
        | 4,_,ho,hG,hK,hv=>
         obtain rfl:=sj ho
         clear hv hwas
         go_simp
         exact hK _ _ (Below.refl _ _) rfl
        | 5,_,ho,hG,hK,hv=>
         obtain rfl:=sj ho
         have x70:act.tmps[70]?.getD undef=.pointer (some ⟨ab9,1,none⟩):=hv 4 70 rfl rfl
         clear hv hwas
         go_simp
         exact hK _ _ (Below.refl _ _) rfl
        | 6,_,ho,hG,hK,hv=>
         obtain rfl:=sj ho
         have x69:act.tmps[69]?.getD undef=.int .i64 r.has:=hv 3 69 rfl rfl
         have x71:act.tmps[71]?.getD undef=.int .i64 part:=hv 5 71 rfl rfl
         clear hv hwas
         go_simp
         refine (rhas_any r.has part hset.out w').mono ?_
         rintro e w'' ⟨rfl,hb''⟩
         rw [hhh.out]
         exact hK _ _ hb'' rfl
      obtain ⟨rfl,hb6⟩:=hcut
      have hHA:=Lib.hid (hH5.out.grow hb6);have hGA:=Lib.hid (hG5.out.grow hb6)
      have hsz4:w.heap.size+1+1<wc.heap.size:=hHA.out.lt 2 rfl
      clear q0 q1 p0 p1 m0 m1 m2 m3
      clear a1 hrow2 hpb hH5 hG5 hb6 hset hab9 hpb5 hhh
      cases hh with
      | false=>
       simp only [Bool.false_eq_true,if_false] at hst0
       have hnx:=Lib.hid (run_next hT3h.out (show (5:Int)≠6 by decide) hst0 rfl hTr.out hTa.out)
       have H9:=Lib.hid (hHA.out.drop1 5)
       clear hst0 hDe0 hT3h hTr hTa hoah hb2h hrh hre
       go_wp2_with fail
       go_roundw
       case rel=>exact ⟨k+1,by omega,by go_num,T,A3,c3,Ag3,cg3,hnx,H9.out,hGA.out⟩
       case measure=>simp [intOf];omega
      | true=>
       simp only [if_true] at hst0
       obtain ⟨D,hD0⟩:∃ D,D=dropV T.rows T.gens bi bg part:=⟨_,rfl⟩
       have hst:stepV T bi bg ⟨5,part,src,n⟩=D:=hst0.trans hD0.symm
       have hDe:Hid (D.err=0):=Lib.hid (by rw [← hst];exact hDe0)
       have hnx:=Lib.hid (run_next hT3h.out (show (5:Int)≠6 by decide) hst hDe.out hTr.out hTa.out)
       have hD:=Lib.hid hD0
       clear hst hst0 hD0 hDe0 hT3h hTr hTa hoah hb2h hrh hre
       have hcall:Hid (∀ W',Below wc.heap.size wc W'→Calls Tryz.prog 117 #[.agg #[.slice A3 T.rows.length c3,.slice Ag3 T.gens.length cg3],.agg #[.int .i64 bi,.int .i64 bg],.int .i64 part] W' fun e w''=>∃ v,e=.returned (.tuple #[v,.int .i64 0])∧GotQ True (fun b=>Q b∧b≠w.heap.size∧b≠w.heap.size+1+1) w'' v D.rows D.gens∧Below W'.heap.size W' w''):=Lib.hid (fun W' hb=>by
        have h1:=rdrop_on T.rows T.gens A3 c3 Ag3 cg3 bi bg part (by omega) (fun b=>Q b∧b≠w.heap.size∧b≠w.heap.size+1+1) W' (Rd.grow hGA.out.row hb) (Rd.grow hGA.out.gen hb) (fun b hb2=>⟨hQh.out b (by have:=hsz4;have:=hb.size;omega),by have:=hsz4;have:=hb.size;omega,by have:=hsz4;have:=hb.size;omega⟩) hGA.out.ong
        rw [← hD.out,hDe.out] at h1
        exact h1.mono (fun e w'' ⟨v,h2,h3,h4⟩=>⟨v,h2,h3.t hGA.out.nil_,h4⟩))
       clear hD hDe
       have q0:=hHA.out.cell 0 0 rfl rfl;have q1:=hHA.out.cell 0 1 rfl rfl;have p0:=hHA.out.cell 4 0 rfl rfl;have p1:=hHA.out.cell 4 1 rfl rfl;have m0:=hHA.out.cell 5 0 rfl rfl;have m1:=hHA.out.cell 5 1 rfl rfl;have m2:=hHA.out.cell 5 2 rfl rfl;have m3:=hHA.out.cell 5 3 rfl rfl
       go_wp2_with fail
       refine (hcall.out wc (Below.refl _ _)).mono ?_
       rintro e w7 ⟨v,rfl,hG4,hb5⟩
       obtain ⟨A4,c4,Ag4,cg4,rfl,G4⟩:=GotQ.open_ trivial hG4
       have H4:=hHA.out.grow hb5
       clear q0 q1 p0 p1 m0 m1 m2 m3
       have q0:=H4.cell 0 0 rfl rfl;have q1:=H4.cell 0 1 rfl rfl;have y0:=H4.frozen 0 0 rfl;have y1:=H4.frozen 0 1 rfl
       have H5:=(H4.set 0 0 (.slice A4 D.rows.length c4) rfl).set 0 1 (.slice Ag4 D.gens.length cg4) rfl
       have G5:=(G4.set (p:=⟨w.heap.size,0,none⟩) (by simp) (.slice A4 D.rows.length c4)).set (p:=⟨w.heap.size,1,none⟩) (by simp) (.slice Ag4 D.gens.length cg4)
       have H9:=Lib.hid (H5.drop1 5);have G9:=Lib.hid G5
       clear H4 H5 G4 G5 hG4 hb5 hcall hGA hHA
       go_wp2_with fail
       go_roundw
       case rel=>exact ⟨k+1,by omega,by go_num,bw D,A4,c4,Ag4,cg4,hnx,H9.out,G9.out⟩
       case measure=>simp [intOf];omega
     ·obtain ⟨r,hr⟩:=hTa.out.now
      have q0:=hHA.out.cell 0 0 rfl rfl;have q1:=hHA.out.cell 0 1 rfl rfl;have p0:=hHA.out.cell 4 0 rfl rfl;have p1:=hHA.out.cell 4 1 rfl rfl;have m0:=hHA.out.cell 5 0 rfl rfl;have m1:=hHA.out.cell 5 1 rfl rfl;have m2:=hHA.out.cell 5 2 rfl rfl;have m3:=hHA.out.cell 5 3 rfl rfl
      go_wp2_with fail
      refine (rrow_any T.rows T.gens A3 c3 Ag3 cg3 bi bg (by omega) w4 hGA.out.row).mono ?_
      rintro e w5 ⟨⟨v,rfl,hans⟩,hb5⟩
      rw [hr] at hans
      obtain ⟨pb,po,rfl,hpb,hrow⟩:=hans
      have hH5:=Lib.hid (hHA.out.grow hb5);have hG5:=Lib.hid (hGA.out.grow hb5)
      have hrow5:Hid (RowAt w5 pb po r):=Lib.hid (hrow.below hb5 hpb)
      have hpb5:pb<w5.heap.size:=Nat.lt_of_lt_of_le hpb hb5.size
      have hsz5:w.heap.size+1+1<w5.heap.size:=hH5.out.lt 2 rfl
      have hre:=Lib.hid (RightW.row hTr.out r ((rowOf_some_iff (RightW.rise hTr.out)).1 hr).1)
      have hrh:=Lib.hid hr
      clear q0 q1 p0 p1 m0 m1 m2 m3
      clear hrow hpb hb5 hHA hGA hsz4 hr
      have hp:isPart part=true:=by
       rcases hoah.out with h | ⟨h,_⟩ | ⟨_,h,_⟩
       ·exact absurd (show kind=6 from h) (by omega)
       ·exact absurd (show kind=7 from h) (by omega)
       ·exact h
      have hsrc:Hid (kind=2∨kind=3→isPart src=true):=Lib.hid (fun hk=>by
       rcases hoah.out with h | ⟨h,_⟩ | ⟨_,_,h,_⟩
       ·exact absurd (show kind=6 from h) (by omega)
       ·exact absurd (show kind=7 from h) (by omega)
       ·exact h (by rcases hk with rfl | rfl<;>rfl))
      have hnval:Hid (kind=4→isVal n=true):=Lib.hid (fun hk=>by
       rcases hoah.out with h | ⟨h,_⟩ | ⟨_,_,_,h⟩
       ·exact absurd (show kind=6 from h) (by omega)
       ·exact absurd (show kind=7 from h) (by omega)
       ·exact h (.inr hk))
      obtain ⟨nn,hn0'⟩:∃ nn,nn=amountR ⟨kind,part,src,n⟩ r:=⟨_,rfl⟩
      have hn0:=Lib.hid hn0'
      obtain ⟨zz,hz⟩:∃ zz,clip nn=zz:=⟨_,rfl⟩
      have hzz:=Lib.hid hz
      obtain ⟨D,hD0⟩:∃ D,D=putV T.rows T.gens bi bg part zz:=⟨_,rfl⟩
      have hst:stepV T bi bg ⟨kind,part,src,n⟩=D:=by
       rw [step_put hTr.out hrh.out hoah.out (show kind≠5 by omega) (show kind≠6 by omega) (show kind≠7 by omega),← hn0',hz,hD0]
      have hDe:Hid (D.err=0):=Lib.hid (by rw [← hst];exact step_ok hTr.out hTa.out.now hoah.out (show kind≠7 by omega))
      have hnx:=Lib.hid (run_next hT3h.out (show kind≠6 by omega) hst hDe.out hTr.out hTa.out)
      have hD:=Lib.hid hD0
      clear hst hD0 hT3h hTr hTa hoah hb2h hz hrh hn0'
      have hcall:Hid (∀ W',Below w5.heap.size w5 W'→Calls Tryz.prog 118 #[.agg #[.slice A3 T.rows.length c3,.slice Ag3 T.gens.length cg3],.agg #[.int .i64 bi,.int .i64 bg],.int .i64 part,.int .i64 zz] W' fun e w''=>∃ v,e=.returned (.tuple #[v,.int .i64 0])∧GotQ True (fun b=>Q b∧b≠w.heap.size∧b≠w.heap.size+1+1) w'' v D.rows D.gens∧Below W'.heap.size W' w''):=Lib.hid (fun W' hb=>by
       have h1:=rput_on T.rows T.gens A3 c3 Ag3 cg3 bi bg part zz (by omega) (fun b=>Q b∧b≠w.heap.size∧b≠w.heap.size+1+1) W' (Rd.grow hG5.out.row hb) (Rd.grow hG5.out.gen hb) (fun b hb2=>⟨hQh.out b (by have:=hsz5;have:=hb.size;omega),by have:=hsz5;have:=hb.size;omega,by have:=hsz5;have:=hb.size;omega⟩) hG5.out.ong
       rw [← hD.out,hDe.out] at h1
       exact h1.mono (fun e w'' ⟨v,h2,h3,h4⟩=>⟨v,h2,h3.t hG5.out.nil_,h4⟩))
      clear hD hDe hG5
      have q0:=hH5.out.cell 0 0 rfl rfl;have q1:=hH5.out.cell 0 1 rfl rfl;have p0:=hH5.out.cell 4 0 rfl rfl;have p1:=hH5.out.cell 4 1 rfl rfl;have m0:=hH5.out.cell 5 0 rfl rfl;have m1:=hH5.out.cell 5 1 rfl rfl;have m2:=hH5.out.cell 5 2 rfl rfl;have m3:=hH5.out.cell 5 3 rfl rfl
      go_upto_region 11 with fail
      go_step
      go_step
      go_step
      go_step
      go_step
      go_step
      go_step
      go_step
      go_step
      go_step
      go_cut [11] (fun s wx=>s=.int .i64 nn∧∃ m,wx=w5.drewN m)
      case first=>
       clear hE
       rcases hk4 with rfl | rfl | rfl | rfl
       ·have hsr:=hsrc.out (by decide)
        obtain ⟨v0,hv0⟩:∃ v,v=r.vals.getD src.toNat 0:=⟨_,rfl⟩
        have bd0:-1000000≤v0∧v0≤1000000:=by rw [hv0];exact part_bd hre.out hsr
        have cv0:=part_cell hrow5.out hsr
        rw [← hv0] at cv0
        have hnn:nn=v0:=by
         rw [hn0.out]
         show r.vals.getD src.toNat 0=v0
         rw [hv0]
        clear hn0 hrow5 hre hsrc hnval hcall hnx hv0
        obtain ⟨src0,src1⟩:=isPart_iff.1 hsr
        obtain ⟨nsrc,rfl⟩:=nat_of src0
        simp only [Int.toNat_natCast] at cv0
        clear hp hH5
        go_upto_region 21 with fail
        go_quiet (fail)
        go_wp2_with fail
        go_meet
        exact ⟨by rw [hnn],nq,rfl⟩
       ·obtain ⟨v0,hv0⟩:∃ v,v=r.vals.getD part.toNat 0:=⟨_,rfl⟩
        have bd0:-1000000≤v0∧v0≤1000000:=by rw [hv0];exact part_bd hre.out hp
        have cv0:=part_cell hrow5.out hp
        rw [← hv0] at cv0
        have hsr:=hsrc.out (by decide)
        obtain ⟨v1,hv1⟩:∃ v,v=r.vals.getD src.toNat 0:=⟨_,rfl⟩
        have bd1:-1000000≤v1∧v1≤1000000:=by rw [hv1];exact part_bd hre.out hsr
        have cv1:=part_cell hrow5.out hsr
        rw [← hv1] at cv1
        have hnn:nn=v0+v1:=by
         rw [hn0.out]
         show r.vals.getD part.toNat 0+r.vals.getD src.toNat 0=v0+v1
         rw [hv0,hv1]
        clear hn0 hrow5 hre hsrc hnval hcall hnx hv0 hv1
        obtain ⟨part0,part1⟩:=isPart_iff.1 hp
        obtain ⟨npart,rfl⟩:=nat_of part0
        obtain ⟨src0,src1⟩:=isPart_iff.1 hsr
        obtain ⟨nsrc,rfl⟩:=nat_of src0
        simp only [Int.toNat_natCast] at cv0
        simp only [Int.toNat_natCast] at cv1
        clear hH5
        go_upto_region 23 with fail
        go_quiet (fail)
        go_wp2_with fail
        go_meet
        exact ⟨by rw [hnn],nq,rfl⟩
       ·obtain ⟨v0,hv0⟩:∃ v,v=r.vals.getD part.toNat 0:=⟨_,rfl⟩
        have bd0:-1000000≤v0∧v0≤1000000:=by rw [hv0];exact part_bd hre.out hp
        have cv0:=part_cell hrow5.out hp
        rw [← hv0] at cv0
        obtain ⟨nv0,nv1⟩:=isVal_iff.1 (hnval.out rfl)
        have hnn:nn=v0+n:=by
         rw [hn0.out]
         show n+r.vals.getD part.toNat 0=v0+n
         rw [hv0];omega
        clear hn0 hrow5 hre hsrc hnval hcall hnx hv0
        obtain ⟨part0,part1⟩:=isPart_iff.1 hp
        obtain ⟨npart,rfl⟩:=nat_of part0
        simp only [Int.toNat_natCast] at cv0
        clear hH5
        go_upto_region 25 with fail
        go_quiet (fail)
        go_wp2_with fail
        go_meet
        exact ⟨by rw [hnn],nq,rfl⟩
       ·have hnn:nn=n:=by
         rw [hn0.out]
         show n=n
         rfl
        clear hn0 hrow5 hre hsrc hnval hcall hnx
        clear hp
        go_wp2_with fail
        go_meet
        exact ⟨by rw [hnn],0,rfl⟩
      obtain ⟨rfl,mm,rfl⟩:=hcut
      clear q0 q1 p0 p1 m0 m1 m2 m3 hrow5 hre hsrc hnval hn0
      obtain ⟨w6,hw6⟩:∃ w6,w6=w5.drewN mm:=⟨_,rfl⟩
      have hHh:Hid (Hp w w6 (rrE w.heap.size A3 T.rows.length c3 Ag3 T.gens.length cg3 mod all non (some ⟨ab,ao,none⟩) acts.length xc (some ⟨b1,off,none⟩) bs cm++[bEnt b10 bi bg]++[aEnt ab9 kind part src n])):=Lib.hid (by rw [hw6];exact hH5.out.drewN mm)
      have hcall6:Hid (∀ W',Below w6.heap.size w6 W'→Calls Tryz.prog 118 #[.agg #[.slice A3 T.rows.length c3,.slice Ag3 T.gens.length cg3],.agg #[.int .i64 bi,.int .i64 bg],.int .i64 part,.int .i64 zz] W' fun e w''=>∃ v,e=.returned (.tuple #[v,.int .i64 0])∧GotQ True (fun b=>Q b∧b≠w.heap.size∧b≠w.heap.size+1+1) w'' v D.rows D.gens∧Below W'.heap.size W' w''):=Lib.hid (fun W' hb=>hcall.out W' (by
       rw [hw6] at hb
       exact (below_drewN (Below.refl _ _) mm).trans hb))
      rw [← hw6]
      clear hw6 hH5 hcall hp hk4
      have hcall:=hcall6
      clear hcall6
      go_upto_region 26 with fail
      refine wp_region_mx mixed (by kernel_rfl) (by kernel_rfl) (fun q=>!(q==6) && !(q==7) && !(q==8)) (tab [.agg #[.slice A3 T.rows.length c3,.slice Ag3 T.gens.length cg3],.agg #[.int .i64 bi,.int .i64 bg],.pointer (some ⟨ab9,1,none⟩),.int .i64 part,.int .i64 nn,.int .i64 zz,undef,undef,undef,.int .i64 0,undef]) (fun u vs w'=>P26 w6 0 (fun w' v=>GotQ True (fun b=>Q b∧b≠w.heap.size∧b≠w.heap.size+1+1) w' v D.rows D.gens) (fun w'=>∃ A4 c4 Ag4 cg4,Hp w w' (rrE w.heap.size A4 D.rows.length c4 Ag4 D.gens.length cg4 mod all non (some ⟨ab,ao,none⟩) acts.length xc (some ⟨b1,off,none⟩) bs cm++[bEnt b10 bi bg]++[aEnt ab9 kind part src n])∧Got3 (fun b=>Q b∧b≠w.heap.size∧b≠w.heap.size+1+1) w' D.rows D.gens A4 Ag4 cg4) (u 6) (u 7) (u 8) (u 10) (vs 6) (vs 7) (vs 8) w') ?_ ?_ ?_
      ·exact P26.start ((Below.refl _ _).drew) _ _ _
      ·intro vs w' l1 hJ hl
       rw [putAll_tab _ _ _ _ [(some 120,.agg #[.slice A3 T.rows.length c3,.slice Ag3 T.gens.length cg3]),(some 121,.agg #[.int .i64 bi,.int .i64 bg]),(some 122,.pointer (some ⟨ab9,1,none⟩)),(some 123,.int .i64 part),(some 124,.int .i64 nn),(some 125,.int .i64 zz),(some 126,vs 6),(some 119,vs 7),(some 127,vs 8),(some 128,.int .i64 0),(none,undef)] rfl]
       simp only [putL_eq,putT,List.set_cons_succ,List.set_cons_zero]
       obtain ⟨A4,c4,Ag4,cg4,H9',G9'⟩:=hJ.fin (hl 10 (by decide))
       have H9:=Lib.hid (H9'.drop1 5);have G9:=Lib.hid G9'
       clear hJ hl H9' G9' hcall hHh
       go_wp2_with fail
       go_roundw
       case rel=>exact ⟨k+1,by omega,by go_num,bw D,A4,c4,Ag4,cg4,hnx.out,H9.out,G9.out⟩
       case measure=>simp [intOf];omega
      ·intro qq op ho u vs act w' hJ hsh hli hd hv hwas K hK
       have hiq:qq<11:=lt_of_some ho
       have s2_:=hwas 2 rfl
       have s7_:=hwas 7 rfl
       have s9_:=hwas 9 rfl
       have s11_:=hwas 11 rfl
       simp at s2_ s7_ s9_ s11_
       match qq,hiq,ho,hli,hK with
       | 0,_,ho,hli,hK=>
        obtain rfl:=sj ho
        have n6:=hsh.not (i:=6) (j:=0) (by rfl) hli
        have n7:=hsh.not (i:=7) (j:=6) (by rfl) n6
        have n8:=hsh.not (i:=8) (j:=7) (by rfl) n7
        have n10:=hsh.not (i:=10) (j:=8) (by rfl) n8
        have H:=hHh.out.grow (hJ.bel n10)
        have q0:=H.cell 0 0 rfl rfl;have q1:=H.cell 0 1 rfl rfl
        clear H
        clear hv hwas
        go_simp
        exact hK _ _ (fun _=>rfl) hJ
       | 1,_,ho,hli,hK=>
        obtain rfl:=sj ho
        have n6:=hsh.not (i:=6) (j:=1) (by rfl) hli
        have n7:=hsh.not (i:=7) (j:=6) (by rfl) n6
        have n8:=hsh.not (i:=8) (j:=7) (by rfl) n7
        have n10:=hsh.not (i:=10) (j:=8) (by rfl) n8
        have H:=hHh.out.grow (hJ.bel n10)
        have q0:=H.cell 4 0 rfl rfl;have q1:=H.cell 4 1 rfl rfl
        clear H
        clear hv hwas
        go_simp
        exact hK _ _ (fun _=>rfl) hJ
       | 2,_,ho,hli,hK=>
        obtain rfl:=sj ho
        clear hv hwas
        go_simp
        exact hK _ _ (fun _=>rfl) hJ
       | 3,_,ho,hli,hK=>
        obtain rfl:=sj ho
        have x122:act.tmps[122]?.getD undef=.pointer (some ⟨ab9,1,none⟩):=hv 2 122 rfl (rb hd rfl)
        have n6:=hsh.not (i:=6) (j:=3) (by rfl) hli
        have n7:=hsh.not (i:=7) (j:=6) (by rfl) n6
        have n8:=hsh.not (i:=8) (j:=7) (by rfl) n7
        have n10:=hsh.not (i:=10) (j:=8) (by rfl) n8
        have H:=hHh.out.grow (hJ.bel n10)
        have q0:=H.cell 5 1 rfl rfl
        clear H
        clear hv hwas
        go_simp
        exact hK _ _ (fun _=>rfl) hJ
       | 4,_,ho,hli,hK=>
        obtain rfl:=sj ho
        clear hv hwas
        go_simp
        exact hK _ _ (fun _=>rfl) hJ
       | 5,_,ho,hli,hK=>
        obtain rfl:=sj ho
        have x124:act.tmps[124]?.getD undef=.int .i64 nn:=hv 4 124 rfl (rb hd rfl)
        clear hv hwas
        go_simp
        refine (rclip_any nn w').mono ?_
        rintro e w5 ⟨rfl,rfl⟩
        rw [hzz.out]
        exact hK _ _ (fun _=>rfl) hJ
       | 6,_,ho,hli,hK=>
        obtain rfl:=sj ho
        have x120:act.tmps[120]?.getD undef=.agg #[.slice A3 T.rows.length c3,.slice Ag3 T.gens.length cg3]:=hv 0 120 rfl (rb hd rfl)
        have x121:act.tmps[121]?.getD undef=.agg #[.int .i64 bi,.int .i64 bg]:=hv 1 121 rfl (rb hd rfl)
        have x123:act.tmps[123]?.getD undef=.int .i64 part:=hv 3 123 rfl (rb hd rfl)
        have x125:act.tmps[125]?.getD undef=.int .i64 zz:=hv 5 125 rfl (rb hd rfl)
        have n7:=hsh.not (i:=7) (j:=6) (by rfl) hli
        have n8:=hsh.not (i:=8) (j:=7) (by rfl) n7
        have n10:=hsh.not (i:=10) (j:=8) (by rfl) n8
        have hb:=hJ.bel n10
        clear hv hwas
        go_simp
        refine (hcall.out w' hb).mono ?_
        rintro e w5 ⟨v,rfl,hG,hb5⟩
        exact hK _ _ (fun h=>by cases h) (P26.call hJ hli n10 hb5 hG)
       | 7,_,ho,hli,hK=>
        obtain rfl:=sj ho
        have x126:act.tmps[126]?.getD undef=vs 6:=hv 6 126 rfl (rb hd rfl)
        have l6:u 6=true:=by simp [Region.binds] at hd;simp [hd]
        clear hv hwas
        go_simp
        exact hK _ _ (fun h=>by cases h) (P26.move hJ l6)
       | 8,_,ho,hli,hK=>
        obtain rfl:=sj ho
        have x119:act.tmps[119]?.getD undef=vs 7:=hv 7 119 rfl (rb hd rfl)
        have l7:u 7=true:=by simp [Region.binds] at hd;simp [hd]
        have n10:=hsh.not (i:=10) (j:=8) (by rfl) hli
        obtain ⟨v,hv7,hC,hJ2⟩:=P26.at7 hJ l7 n10
        rw [hv7] at x119
        clear hv hwas hC
        go_simp
        exact hK _ _ (fun h=>by cases h) hJ2
       | 9,_,ho,hli,hK=>
        obtain rfl:=sj ho
        have x119:act.tmps[119]?.getD undef=vs 7:=hv 7 119 rfl (rb hd rfl)
        have l7:u 7=true:=by simp [Region.binds] at hd;simp [hd]
        obtain ⟨v,hv7⟩:=P26.tup7 hJ l7 (fun h10=>hsh 10 8 (by rfl) h10)
        rw [hv7] at x119
        clear hv hwas
        go_simp
        exact hK _ _ (fun _=>rfl) hJ
       | 10,_,ho,hli,hK=>
        obtain rfl:=sj ho
        have x127:act.tmps[127]?.getD undef=vs 8:=hv 8 127 rfl (rb hd rfl)
        have l8:u 8=true:=by simp [Region.binds] at hd;simp [hd]
        obtain ⟨A4,c4,Ag4,cg4,hv8,G4⟩:=GotQ.open_ trivial (P26.at8 hJ l8 hli)
        rw [hv8] at x127
        have H4:=hHh.out.grow (hJ.bel hli)
        have q0:=H4.cell 0 0 rfl rfl;have q1:=H4.cell 0 1 rfl rfl;have y0:=H4.frozen 0 0 rfl;have y1:=H4.frozen 0 1 rfl
        have H5:=(H4.set 0 0 (.slice A4 D.rows.length c4) rfl).set 0 1 (.slice Ag4 D.gens.length cg4) rfl
        have G5:=(G4.set (p:=⟨w.heap.size,0,none⟩) (by simp) (.slice A4 D.rows.length c4)).set (p:=⟨w.heap.size,1,none⟩) (by simp) (.slice Ag4 D.gens.length cg4)
        have hH5:=Lib.hid H5;have hG5:=Lib.hid G5
        clear hv hwas H4 H5 G4 G5
        go_simp
        exact hK _ _ (fun _=>rfl) (P26.done hJ ⟨A4,c4,Ag4,cg4,hH5.out,hG5.out⟩)
    ·obtain rfl:k=acts.length:=by omega
     have hnx:Hid (besM acts (bs.drop (j+1)) (T,0)=R):=Lib.hid (by
      have h1:=hT.out.2.1
      rw [List.drop_length] at h1
      have h2:=hb2h.out
      rw [← h1] at h2
      simpa [actsM] using h2)
     have hT1:=Lib.hid hT.out.1;have hT2:=Lib.hid (fun b hb=>(hT.out.2.2.rest b hb).1)
     have Hh:=Lib.hid (H.drop1 4);have hGh:=Lib.hid hG
     clear hb2h hT H hG
     go_wp2_with fail
     go_roundw
     case rel=>exact ⟨j+1,by omega,by go_num,T,A3,c3,Ag3,cg3,Lib.hid ⟨hT1.out,hnx.out,hT2.out⟩,Hh.out,hGh.out⟩
     case measure=>simp [intOf];omega
  ·obtain rfl:j=bs.length:=by omega
   have hE3:Hid (E=⟨W.rows,W.gens,0⟩):=Lib.hid (by
    have h1:=hS.out.2.1
    rw [List.drop_length] at h1
    rw [hE.out,← h1]
    rfl)
   have x0:=H.cell 0 0 rfl rfl;have x1:=H.cell 0 1 rfl rfl
   have q2:=H.cell 2 0 rfl rfl;have q3:=H.cell 2 1 rfl rfl
   have y2:=H.frozen 2 0 rfl;have y3:=H.frozen 2 1 rfl
   have H4:=(H.set 2 0 (.slice A2 W.rows.length c2) rfl).set 2 1 (.slice Ag2 W.gens.length cg2) rfl
   have G4:=(hG2.set (p:=⟨w.heap.size+1+1,0,none⟩) (by simp) (.slice A2 W.rows.length c2)).set (p:=⟨w.heap.size+1+1,1,none⟩) (by simp) (.slice Ag2 W.gens.length cg2)
   have p2:=H4.cell 2 0 rfl rfl;have p3:=H4.cell 2 1 rfl rfl
   have H5h:=Lib.hid H4;have G5h:=Lib.hid G4
   clear H4 G4 H hG2 hE hS
   go_wp2_with fail
   refine bodyPost_ret (v:=.tuple #[.agg #[.slice A2 W.rows.length c2,.slice Ag2 W.gens.length cg2],.int .i64 0]) (by simp [results,Tryz.results73,go_sem,p2,p3]) rfl ⟨_,by rw [hE3.out],by rw [hE3.out];exact ⟨A2,c2,Ag2,cg2,rfl,G5h.out.row,G5h.out.gen,G5h.out.onr.mono (fun b hb=>hb.1),G5h.out.ong.mono (fun b hb=>hb.1),fun _=>G5h.out.nil_⟩,H5h.out.bel⟩
end Go.Proofs.YtefdblaolmckmabGreat
