/- Lemmas of the proof. -/
import Derived.Deep.RegionHeld3
import Derived.Test.YtefdblaolmckmabGreatRStoR
import Derived.Test.YtefdblaolmckmabGreatRStoFD
import Derived.Test.YtefdblaolmckmabGreatRBSortTRToStoO
import Derived.Test.YtefdblaolmckmabGreatRBSpecVToStoA
import Derived.Test.YtefdblaolmckmabGreatRBSpecOToSpecR
import Derived.Test.YtefdblaolmckmabGreatRBPlainAToHp
set_option linter.unusedVariables false
set_option linter.unusedSimpArgs false
set_option maxRecDepth 100000
set_option maxHeartbeats 12800000
namespace Go.Proofs.YtefdblaolmckmabGreat
open Go.RowKit
open Brood
theorem Rep.eq_of {G:List Grp} {rows:List BRow} (h:Rep G rows):G=ofG rows:=by
 refine h.uniq ?_
 have:=ofG_rep h.rise (fun r hr=>by
  obtain ⟨g,hg,hrg⟩:=List.mem_flatMap.1 (h.perm.mem_iff.2 hr)
  exact h.ok.row g hg r hrg) rows.length (Nat.le_refl _)
 rwa [List.take_length] at this
theorem Rep.sorted {G:List Grp} {rows:List BRow} (h:Rep G rows):sortK BRow.idx (flatG G)=rows:=sort_perm h.perm h.rise
theorem rowAt_box {w:World} {b:Nat} {t:TypeId} {r:BRow} (h:Blk w b t (rowCells r).toArray):RowAt w b 0 r:=by
 intro j u hu
 rw [Nat.zero_add]
 rw [h.cell j]
 simpa using hu
structure SpawnedT where
 tabs:List BTab
 gens:List Int
 i:Int
 g:Int
 err:Int
def spawnT (T:List BTab) (gens:List Int) (has n:Int):SpawnedT:=
 if (storeErr T gens).1≠0 then ⟨[],[],0,0,(storeErr T gens).1⟩
 else ⟨tabsW (spawnV (worldT T) gens has n).rows,(spawnV (worldT T) gens has n).gens,(spawnV (worldT T) gens has n).i,(spawnV (worldT T) gens has n).g,(spawnV (worldT T) gens has n).err⟩
structure ChangedT where
 tabs:List BTab
 gens:List Int
 err:Int
theorem Ent.lower {w:World} {B C:Nat} {p:Ent} (h:p.holds C w) (hb:B≤C):p.holds B w:=by
 cases p with
 | box b t cs=>exact ⟨Nat.le_trans hb h.1,h.2⟩
 | own v e sz n xs=>exact own_lower h hb
theorem Hp.join {w0 w w':World} {E E':List Ent} (h:Hp w0 w E) (h':Hp w w' E'):Hp w0 w' (E++E'):=by
 refine ⟨(h.grow h'.bel).bel,?_,?_⟩
 ·intro p hp
  rcases List.mem_append.1 hp with hp | hp
  ·exact (h.grow h'.bel).all p hp
  ·exact Ent.lower (h'.all p hp) h.bel.size
 ·rw [List.filterMap_append,List.nodup_append]
  refine ⟨h.dis,h'.dis,?_⟩
  intro a ha b hb e
  subst e
  obtain ⟨p,hp,hpa⟩:=List.mem_filterMap.1 ha
  obtain ⟨q,hq,hqa⟩:=List.mem_filterMap.1 hb
  have h1:=(Ent.lt (h.all p hp) hpa).2
  have h2:=(Ent.lt (h'.all q hq) hqa).1
  omega
theorem right_len {rows:List BRow} {gens:List Int} (h:RightW rows gens):(ofG rows).length≤60∧(∀ g∈ofG rows,g.rs.length≤60)∧(flatG (ofG rows)).length≤60:=by
 have h1:=flat_len_G h (Nat.le_refl rows.length)
 rw [List.take_length] at h1
 refine ⟨h1.1,h1.2,?_⟩
 have:=h.rep.perm.length_eq
 have:=h.rows_le;have:=h.len
 omega
open Go.RowKit
open Brood
def placeB (i g:Int):Nat→List (List (Int×Int))→Option (Nat×Nat)
 | _,[]=>none
 | k,t::l=>match idxQ (sameB i g) t with
  | some j=>some (k,j)
  | none=>placeB i g (k+1) l
theorem placeB_grps (i g:Int):∀ (G:List Grp) (k:Nat),placeB i g k (G.map fun t=>t.rs.map beOf)=placeG i g k G
 | [],_=>rfl
 | t::l,k=>by
  rw [List.map_cons,placeB,placeG,findR_be,placeB_grps i g l (k+1)]
  cases findR i g t.rs<;>rfl
def placeV (o:Option (Nat×Nat)):Value:=match o with | some (k,j)=>.tuple #[.int .i64 (k:Int),.int .i64 (j:Int),.bool true] | none=>.tuple #[.int .i64 0,.int .i64 0,.bool false]
theorem place_any (l:List TabIn) (A:Option Addr) (c:Nat) (vg:Value) (i g:Int) (hl:l.length≤1000000000) (hs:∀ t∈l,t.bs.length≤1000000000) (pb:Nat) (w:World) (hB:Blk w pb 40 #[.slice A l.length c,vg]) (hR:RdT w w.heap.size A l) :
  Calls Tryz.prog 35 #[.pointer (some ⟨pb,0,none⟩),.agg #[.int .i64 i,.int .i64 g]] w fun e w'=>e=.returned (placeV (placeB i g 0 (l.map TabIn.bs)))∧Below w.heap.size w w':=by
 have hsh:=Lib.hid hs
 obtain ⟨P,hP⟩:∃ P,P=placeB i g 0 (l.map TabIn.bs):=⟨_,rfl⟩
 rw [← hP]
 have hPh:=Lib.hid hP
 clear hs hP
 have HB:=(Blk.new w 24 #[.int .i64 i,.int .i64 g])
 have hb0:Below w.heap.size w (w.alloc (.cells #[.int .i64 i,.int .i64 g] 24)):=(Below.refl _ _).alloc (Nat.le_refl _) _
 have hBl:=hB.lt
 have hBa:=hB.alloc (.cells #[.int .i64 i,.int .i64 g] 24)
 have a0:=hBa.cell 0
 simp at a0
 go_enter Tryz.func35,Tryz.ntmps35
 go_wp2_with fail
 go_loopw [14] (fun q wr=>∃ k:Nat,k≤l.length∧q=.int .i64 k∧Hid (P=placeB i g k ((l.drop k).map TabIn.bs))∧Below w.heap.size w wr∧Blk wr w.heap.size 24 #[.int .i64 i,.int .i64 g]) (fun q _=>l.length-(intOf q).toNat)
 case atStart=>exact ⟨0,by omega,rfl,Lib.hid (by rw [hPh.out];simp),hb0,HB⟩
 case round=>
  clear HB hb0 hBa a0
  obtain ⟨k,hk,rfl,hfr,hbel,HB⟩:=hrel
  by_cases hlt:k<l.length
  ·obtain ⟨b1,off,rfl,hb1,e0,e1,e2⟩:=(hR.under hbel (Nat.le_refl _)).at_ hlt
   have hst:Hid ((l.drop k).map TabIn.bs=l[k].bs::(l.drop (k+1)).map TabIn.bs):=Lib.hid (by rw [List.drop_eq_getElem_cons hlt];rfl)
   have hrd:=hR.bs _ (List.getElem_mem hlt)
   have hsm:=hsh.out _ (List.getElem_mem hlt)
   generalize l[k]=t at *
   obtain ⟨has,bA,bc,bs,cA,cc,cols⟩:=t
   dsimp only at e0 e1 e2 hst hrd hsm
   have i0:(0:Int)≤(k:Int):=by omega
   have i1:(k:Int)<(l.length:Int):=by omega
   have hB2:=hB.below hbel hBl
   have hq:Hid (∀ W:World,Below w.heap.size w W→Calls Tryz.prog 80 #[.slice bA bs.length bc,.agg #[.int .i64 i,.int .i64 g]] W fun e w'=>e=.returned (.int .i64 (ixV (idxQ (sameB i g) bs)))∧Below W.heap.size W w'):=Lib.hid fun W hW=>idxB_any bs bA bc hsm i g W (Rd.more (Rd.under hrd hW (Nat.le_refl _)) hW.size)
   clear hrd e0 e2
   go_wp2_with fail
   go_cut [8] (fun s wx=>s=.int .i64 (ixV (idxQ (sameB i g) bs))∧Below w.heap.size w wx∧Blk wx w.heap.size 24 #[.int .i64 i,.int .i64 g])
   case first=>
    clear hfr hst
    go_region_held3 (fun w'=>w'.cell? ⟨pb,0,none⟩=some (.slice (some ⟨b1,off,none⟩) l.length c)∧w'.cell? ⟨b1,off+k*3+1,none⟩=some (.slice bA bs.length bc)∧w'.cell? ⟨w.heap.size,0,none⟩=some (.int .i64 i)∧w'.cell? ⟨w.heap.size,1,none⟩=some (.int .i64 g))
     (exact ⟨hB2.cell 0,e1,HB.cell 0,HB.cell 1⟩)
     (first
      | (go_at_call 80;refine (hq.out _ hbel.drew).mono ?_;rintro e w4 ⟨rfl,hb4⟩;have hb4:=(show Below wr.heap.size wr w4 from (Below.refl _ _).drew.trans hb4);have hB2:=hB2.below hb4 hB2.lt;have HB:=HB.below hb4 HB.lt;have e1:=(hb4.cell (p:=⟨b1,off+k*3+1,none⟩) (by have:=hbel.size;simp only;omega)).trans e1;have hbel:=grow_below hbel hb4))
    go_wp2_with fail
    go_meet
    exact ⟨rfl,hbel,HB⟩
   case rest=>
    clear HB hB2 e1
    obtain ⟨rfl,hbel,HB⟩:=hcut
    cases hix:idxQ (sameB i g) bs with
    | some j=>
     have hf:Hid (P=some (k,j)):=Lib.hid (by rw [hfr.out,hst.out,placeB,hix])
     have hj0:(0:Int)≤ixV (some j):=Int.natCast_nonneg j
     have hjv:ixV (some j)=(j:Int):=rfl
     rw [hjv] at hj0 ⊢
     clear hjv hix
     go_wp2_with fail
     refine bodyPost_ret (v:=.tuple #[.int .i64 (k:Int),.int .i64 (j:Int),.bool true]) (by simp [results,Tryz.results35,go_sem]) rfl ⟨by rw [hf.out];rfl,hbel⟩
    | none=>
     have hf:Hid (P=placeB i g (k+1) ((l.drop (k+1)).map TabIn.bs)):=Lib.hid (by rw [hfr.out,hst.out,placeB,hix])
     have hjv:ixV (none:Option Nat)=-1:=rfl
     rw [hjv]
     clear hjv hix
     go_wp2_with fail
     go_roundw
     case rel=>exact ⟨k+1,by omega,by go_num,hf,hbel,HB⟩
     case measure=>simp [intOf];omega
  ·obtain rfl:k=l.length:=by omega
   have hf:Hid (P=none):=Lib.hid (by rw [hfr.out,List.drop_length];rfl)
   go_wp2_with fail
   refine bodyPost_ret (v:=.tuple #[.int .i64 0,.int .i64 0,.bool false]) (by simp [results,Tryz.results35,go_sem]) rfl ⟨by rw [hf.out];rfl,hbel⟩
open Go.RowKit
open Brood
theorem find_row {i g:Int}:∀ {rows:List BRow} {r:BRow},rowOf i g rows=some r→∃ m,findR i g rows=some m∧rows[m]?=some r
 | [],r,h=>by cases h
 | q::l,r,h=>by
  unfold rowOf at h
  rw [List.find?_cons] at h
  unfold findR
  cases hq:isB i g q with
  | true=>
   rw [hq] at h
   exact ⟨0,by simp,by simpa using h⟩
  | false=>
   rw [hq] at h
   obtain ⟨m,h1,h2⟩:=find_row (rows:=l) (r:=r) h
   exact ⟨m+1,by simp [h1],by simpa using h2⟩
theorem find_none {i g:Int}:∀ {rows:List BRow},rowOf i g rows=none→findR i g rows=none
 | [],_=>rfl
 | q::l,h=>by
  unfold rowOf at h
  rw [List.find?_cons] at h
  unfold findR
  cases hq:isB i g q with
  | true=>rw [hq] at h;cases h
  | false=>
   rw [hq] at h
   simp [find_none (rows:=l) h]
theorem Rep.lens {G:List Grp} {rows:List BRow} (h:Rep G rows):G.length≤rows.length∧∀ g∈G,g.rs.length≤rows.length:=by
 have hl:=h.perm.length_eq
 have key:∀ G:List Grp,(∀ g∈G,g.rs≠[])→G.length≤(flatG G).length∧∀ g∈G,g.rs.length≤(flatG G).length:=by
  intro G
  induction G with
  | nil=>intro _;simp [flatG]
  | cons a l ih=>
   intro hf
   have ⟨h1,h2⟩:=ih (fun g hg=>hf g (by simp [hg]))
   have ha:=List.length_pos_iff.2 (hf a (by simp))
   have e:(flatG (a::l)).length=a.rs.length+(flatG l).length:=by simp [flatG]
   refine ⟨by rw [e,List.length_cons];omega,fun g hg=>?_⟩
   rcases List.mem_cons.1 hg with rfl | hg
   ·omega
   ·have:=h2 g hg;omega
 have ⟨h1,h2⟩:=key _ h.ok.full
 exact ⟨by omega,fun g hg=>by have:=h2 g hg;omega⟩
def chgW (rows:List BRow) (gens:List Int) (i g:Int) (fr:BRow→BRow×Bool×Int):ChangedT:=
 match findR i g rows with
 | none=>⟨[],[],5⟩
 | some m=>match rows[m]? with
  | none=>⟨[],[],5⟩
  | some r=>if (fr r).2.2≠0 then ⟨[],[],(fr r).2.2⟩ else if (fr r).2.1=true then ⟨tabsW (rows.set m (fr r).1),gens,0⟩ else ⟨tabsW (rows.eraseIdx m),gens,0⟩
def chgT (T:List BTab) (gens:List Int) (i g:Int) (fr:BRow→BRow×Bool×Int):ChangedT:=
 if (storeErr T gens).1≠0 then ⟨[],[],(storeErr T gens).1⟩ else chgW (worldT T) gens i g fr
def StFn (w0:World) (F:FuncId) (caps:Array Value) (fr:BRow→BRow×Bool×Int):Prop:=
 ∀ (w:World) (g:Nat) (r:BRow),Below w0.heap.size w0 w→w0.heap.size≤g→Blk w g 114 (rowCells r).toArray→rowErr r=0 →
  Calls Tryz.prog F (#[.pointer (some ⟨g,0,none⟩)]++caps) w fun e w'=>e=.returned (.tuple #[.bool (fr r).2.1,.int .i64 (fr r).2.2])∧w.grownBy w' (some g)∧Blk w' g 114 (rowCells (fr r).1).toArray
def FrOk (fr:BRow→BRow×Bool×Int):Prop:=∀ r,rowErr r=0→(fr r).2.2=0→(fr r).2.1=true→rowErr (fr r).1=0∧(fr r).1.idx=r.idx
def scE (b:Nat) (i g:Int) (Ag:Option Addr) (cg:Nat) (gens:List Int):List Ent:=
 [.box b 24 [.int .i64 i,.int .i64 g],.box (b+1) 40 [.slice none 0 0,.slice none 0 0],.own (.slice Ag gens.length cg) 3 1 gens.length (ints gens)]
theorem schange_any (l:List TabIn) (A:Option Addr) (c:Nat) (gens:List Int) (Ag:Option Addr) (cg:Nat) (i g:Int) (hs:StSmall l gens) (F:FuncId) (caps:Array Value) (fr:BRow→BRow×Bool×Int) (w:World) (h:RdSt w w.heap.size ⟨A,c,l,Ag,cg,gens⟩)
  (hF:StFn w F caps fr) (hfr:FrOk fr) (hen:∀ (args:Array Value) (W:World),(callFunc F args).run Tryz.prog W=.ok (.enter F args) W) :
  Calls Tryz.prog 52 #[.agg #[.slice A l.length c,.slice Ag gens.length cg],.agg #[.int .i64 i,.int .i64 g],.func (.func F) #[] caps] w fun e w'=>
   ∃ v,e=.returned (.tuple #[v,.int .i64 (chgT (l.map tabOf) gens i g fr).err])∧GotSt w w' v (chgT (l.map tabOf) gens i g fr).tabs (chgT (l.map tabOf) gens i g fr).gens:=by
 have hE0:Hid (chgT (l.map tabOf) gens i g fr=if (storeErr (l.map tabOf) gens).1≠0 then ⟨[],[],(storeErr (l.map tabOf) gens).1⟩ else chgW (worldT (l.map tabOf)) gens i g fr):=Lib.hid rfl
 generalize chgT (l.map tabOf) gens i g fr=E at *
 have hh:=Lib.hid h;have hsh:=Lib.hid hs;have hFh:=Lib.hid hF;have hfrh:=Lib.hid hfr
 clear h hs hF hfr
 have H0:=(((Hp.start w).new w.heap.size rfl 40 [.slice A l.length c,.slice Ag gens.length cg]).new (w.heap.size+1) (by simp) 24 [.int .i64 i,.int .i64 g]).new (w.heap.size+1+1) (by simp) 40 [.slice none 0 0,.slice none 0 0]
 replace H0:Hp w _ [.box w.heap.size 40 [.slice A l.length c,.slice Ag gens.length cg],.box (w.heap.size+1) 24 [.int .i64 i,.int .i64 g],.box (w.heap.size+1+1) 40 [.slice none 0 0,.slice none 0 0]]:=H0
 have a0:=H0.cell 0 0 rfl rfl;have a1:=H0.cell 0 1 rfl rfl
 go_enter Tryz.func52,Tryz.ntmps52
 go_wp2_with fail
 obtain ⟨w0,hw0,H0⟩:=H0.name
 rw [hw0];clear hw0 a0 a1
 have hg0:RdSt w0 w0.heap.size ⟨A,c,l,Ag,cg,gens⟩:=hh.out.hp H0
 refine (swrong_any l A c gens Ag cg hsh.out w0 hg0.tabs hg0.gen hg0.ng).mono ?_
 rintro e w1 ⟨rfl,hb1⟩
 replace H0:=H0.grow hb1
 clear hb1 hg0
 have hrt:Hid ((storeErr (l.map tabOf) gens).1=0→RightW (worldT (l.map tabOf)) gens∧l.map tabOf=tabsW (worldT (l.map tabOf))):=Lib.hid store_right
 generalize storeErr (l.map tabOf) gens=F' at *
 obtain ⟨f1,f2⟩:=F'
 have H2:=H0.new _ rfl 48 [.int .i64 f1,.int .i64 f2]
 clear H0
 simp only at hE0 hrt ⊢
 by_cases hf:f1=0
 case neg=>
  have hf':(f1 != 0)=true:=by simpa using hf
  have hE:Hid (E=⟨[],[],f1⟩):=Lib.hid (by rw [hE0.out,if_pos hf])
  clear hE0 hrt
  go_wp2_with fail
  obtain ⟨w2,hw2,H2⟩:=H2.name
  rw [hw2];clear hw2
  have n13:=H2.ne 2 3 rfl rfl (by omega);have n31:=n13.symm
  have q0:=H2.cell 2 0 rfl rfl;have q1:=H2.cell 2 1 rfl rfl
  have y0:=H2.frozen 2 0 rfl;have y1:=H2.frozen 2 1 rfl
  have c0:=H2.cell 3 0 rfl rfl
  have H4:=((H2.set 2 0 (.slice none 0 0) rfl).set 2 1 (.slice none 0 0) rfl).drew
  have H4h:=Lib.hid H4
  clear H4 H2
  go_region_held3 (fun w'=>w'.cell? ⟨w1.heap.size,0,none⟩=some (.int .i64 f1)) (go_keep) (fail)
  have H4:=H4h.out
  have p0:=H4.cell 2 0 rfl rfl;have p1:=H4.cell 2 1 rfl rfl
  go_wp2_with fail
  refine bodyPost_ret (v:=.tuple #[.agg #[.slice none 0 0,.slice none 0 0],.int .i64 f1]) (by simp [results,Tryz.results52,go_sem,p0,p1]) rfl ⟨_,by rw [hE.out],by rw [hE.out];exact GotSt.zero H4.bel⟩
 case pos=>
  subst hf
  obtain ⟨hrw,hfit0⟩:=hrt.out rfl
  have hE1:Hid (E=chgW (worldT (l.map tabOf)) gens i g fr):=Lib.hid (by rw [hE0.out,if_neg (by simp)])
  clear hE0 hrt
  have hfit:=Lib.hid hfit0
  clear hfit0
  generalize hrows:worldT (l.map tabOf)=rows at *
  clear hrows
  have hrwh:=Lib.hid hrw
  have hlg:gens.length≤60:=hrw.len
  have hlr:rows.length≤60:=Nat.le_trans hrw.rows_le hrw.len
  have hpl:Hid (placeB i g 0 (l.map TabIn.bs)=placeG i g 0 (ofG rows)):=Lib.hid (by
   rw [← placeB_grps]
   congr 1
   have:=congrArg (List.map BTab.bs) hfit.out
   simpa [tabsW,List.map_map,Function.comp_def,tabOf,tabG] using this)
  clear hrw
  have b0:=H2.cell 1 0 rfl rfl;have b1:=H2.cell 1 1 rfl rfl
  go_wp2_with fail
  obtain ⟨w2,hw2,H2⟩:=H2.name
  rw [hw2];clear hw2 b0 b1
  have hg2:RdSt w2 w2.heap.size ⟨A,c,l,Ag,cg,gens⟩:=hh.out.hp H2
  have hst:=hsh.out.tabs
  have hbl:∀ t∈l,t.bs.length≤1000000000:=fun t ht=>by
   have h1:=(hsh.out.tab t ht).bs
   omega
  refine (place_any l A c (.slice Ag gens.length cg) i g (by omega) hbl w.heap.size w2 (H2.blk 0 rfl) hg2.tabs).mono ?_
  rw [hpl.out]
  rintro e w3 ⟨rfl,hb3⟩
  replace H2:=H2.grow hb3
  clear hb3 hbl hst hg2
  have hplr:=Lib.hid (fun k j=>@Rep.place_some (ofG rows) rows hrwh.out.rep i g k j)
  have hpln:=Lib.hid (@Rep.place_none (ofG rows) rows hrwh.out.rep i g)
  generalize placeG i g 0 (ofG rows)=P at *
  clear hpl
  cases P with
  | none=>
   have hE:Hid (E=⟨[],[],5⟩):=Lib.hid (by rw [hE1.out];unfold chgW;rw [find_none (hpln.out rfl)])
   clear hplr hpln hE1
   have q0:=H2.cell 2 0 rfl rfl;have q1:=H2.cell 2 1 rfl rfl
   have y0:=H2.frozen 2 0 rfl;have y1:=H2.frozen 2 1 rfl
   have H4:=(H2.set 2 0 (.slice none 0 0) rfl).set 2 1 (.slice none 0 0) rfl
   have p0:=H4.cell 2 0 rfl rfl;have p1:=H4.cell 2 1 rfl rfl
   unfold placeV
   dsimp only
   go_wp2_with fail
   refine bodyPost_ret (v:=.tuple #[.agg #[.slice none 0 0,.slice none 0 0],.int .i64 5]) (by simp [results,Tryz.results52,go_sem,p0,p1]) rfl ⟨_,by rw [hE.out],by rw [hE.out];exact GotSt.zero H4.bel⟩
  | some kj=>
   obtain ⟨k,j⟩:=kj
   obtain ⟨t,hkt,hj,hb,hro⟩:=hplr.out k j rfl
   clear hplr hpln
   obtain ⟨m,hfm,hrm⟩:=find_row hro
   have hkG:k<(ofG rows).length:=(List.getElem?_eq_some_iff.1 hkt).1
   obtain rfl:(ofG rows)[k]=t:=(List.getElem?_eq_some_iff.1 hkt).2
   have hm:m<rows.length:=(List.getElem?_eq_some_iff.1 hrm).1
   have hrme:rows[m]=(ofG rows)[k].rs[j]:=(List.getElem?_eq_some_iff.1 hrm).2
   have hE2:Hid (E=if (fr rows[m]).2.2≠0 then ⟨[],[],(fr rows[m]).2.2⟩ else if (fr rows[m]).2.1=true then ⟨tabsW (rows.set m (fr rows[m]).1),gens,0⟩ else ⟨tabsW (rows.eraseIdx m),gens,0⟩):=Lib.hid (by
    rw [hE1.out];unfold chgW;rw [hfm];simp only [List.getElem?_eq_getElem hm])
   have hrow0:=hrwh.out.row _ (List.getElem_mem hm)
   have hcut:=hrwh.out.rep.cut hkt hj hm hrme
   have hchg:=fun r=>@Rep.chg _ _ hrwh.out.rep k j m _ hkt hj hm hrme r
   have hriseset:=fun r=>@rise_set rows hrwh.out.rise m hm r
   have hcuth:=Lib.hid hcut;have hchgh:=Lib.hid hchg;have hrsh:=Lib.hid hriseset
   have hrep:=hrwh.out.rep
   have hlens:=hrep.lens
   have hrem:=fun l2 A2 c2 vg kb E0 hf w0 w=>kremove_any (ofG rows) hrep.clean (by omega) (fun x hx=>by have:=hlens.2 x hx;omega) k j hkG hj l2 A2 c2 vg kb E0 hf w0 w
   rw [← hrme] at hrem
   have hremh:=Lib.hid hrem
   clear hE1 hkt hb hro hfm hrm hrme hcut hchg hriseset hrep hlens hrem
   have x0:=H2.cell 0 0 rfl rfl;have x1:=H2.cell 0 1 rfl rfl
   unfold placeV
   dsimp only
   have H2h:=Lib.hid H2
   clear H2
   go_wp2_with fail
   clear x0 x1
   have hg5:RdSt w3 w3.heap.size ⟨A,c,l,Ag,cg,gens⟩:=hh.out.hp H2h.out
   refine (sown_any l A c gens Ag cg hsh.out w3 hg5).mono ?_
   rintro e w6 ⟨A2,c2,l2,Ag2,cg2,rfl,hl2,H6⟩
   have hfit2:Hid (l2.map tabOf=(ofG rows).map tabG):=Lib.hid (hl2.trans hfit.out)
   replace H6:=((H2h.out.join H6).drop1 3).drop1 0
   have H7:=Hp.push1 (E:=[_,_,_]) (L:=tabsE A2 c2 l2) (H6.new w6.heap.size rfl 108 [.slice A2 l2.length c2,.slice Ag2 gens.length cg2])
   replace H7:Hp w _ (scE (w.heap.size+1) i g Ag2 cg2 gens++([kBox w6.heap.size A2 l2.length c2 (.slice Ag2 gens.length cg2),outE A2 c2 l2]++l2.flatMap tabE)):=H7
   have H8:Hp w _ (kE w6.heap.size A2 c2 l2 (.slice Ag2 gens.length cg2) (scE (w.heap.size+1) i g Ag2 cg2 gens)):=H7.perm (List.perm_append_comm.trans (List.Perm.of_eq (List.append_assoc ..)))
   have hrm:=Lib.hid (hremh.out l2 A2 c2 (.slice Ag2 gens.length cg2) w6.heap.size (scE (w.heap.size+1) i g Ag2 cg2 gens) hfit2.out w _ H8)
   clear H6 H7 H2h hremh hg5 hl2 H8 hfit hsh hh
   go_wp2_with fail
   refine hrm.out.mono ?_
   rintro e w7 ⟨rfl,A3,c3,l3,hf3,H9⟩
   have hf3h:=Lib.hid hf3
   clear hrm hf3
   generalize w6.heap.size=kb at *
   have HP:Hp w w7 (scE (w.heap.size+1) i g Ag2 cg2 gens++([kBox kb A3 l3.length c3 (.slice Ag2 gens.length cg2),outE A3 c3 l3]++l3.flatMap tabE)):=H9.perm (by
    unfold kE
    rw [← List.append_assoc]
    exact List.perm_append_comm)
   clear H9
   generalize hR:rows[m]=R at *
   have hRh:=Lib.hid hR
   clear hR
   have hFr:=fun w g=>hFh.out w g R
   have hfr2:=hfrh.out R hrow0
   have hFrh:=Lib.hid hFr
   generalize hr9:fr R=FR at *
   clear hFr
   obtain ⟨ri,rg,rh,rv,r8⟩:=R
   obtain ⟨a0,a1,a2,a3,a4,a5,a6,a7,rfl⟩:=vals_eight r8
   have HQ:=Hp.push1 (E:=scE (w.heap.size+1) i g Ag2 cg2 gens++[kBox kb A3 l3.length c3 (.slice Ag2 gens.length cg2),outE A3 c3 l3]) (L:=l3.flatMap tabE) (by rw [List.append_assoc];exact HP.new w7.heap.size rfl 114 [.int .i64 ri,.int .i64 rg,.int .i64 rh,.int .i64 a0,.int .i64 a1,.int .i64 a2,.int .i64 a3,.int .i64 a4,.int .i64 a5,.int .i64 a6,.int .i64 a7])
   replace HQ:Hp w (w7.alloc (.cells #[.int .i64 ri,.int .i64 rg,.int .i64 rh,.int .i64 a0,.int .i64 a1,.int .i64 a2,.int .i64 a3,.int .i64 a4,.int .i64 a5,.int .i64 a6,.int .i64 a7] 114)) (scE (w.heap.size+1) i g Ag2 cg2 gens++[kBox kb A3 l3.length c3 (.slice Ag2 gens.length cg2),outE A3 c3 l3,.box w7.heap.size 114 [.int .i64 ri,.int .i64 rg,.int .i64 rh,.int .i64 a0,.int .i64 a1,.int .i64 a2,.int .i64 a3,.int .i64 a4,.int .i64 a5,.int .i64 a6,.int .i64 a7]]++l3.flatMap tabE):=by simpa using HQ
   clear HP
   have hrc:rowCells ⟨ri,rg,rh,[a0,a1,a2,a3,a4,a5,a6,a7],r8⟩=[.int .i64 ri,.int .i64 rg,.int .i64 rh,.int .i64 a0,.int .i64 a1,.int .i64 a2,.int .i64 a3,.int .i64 a4,.int .i64 a5,.int .i64 a6,.int .i64 a7]:=rfl
   rw [hrc]
   go_wp2_with fail
   obtain ⟨w8,hw8,HQ⟩:=HQ.name
   rw [hw8]
   obtain ⟨b13,hb13⟩:∃ b13,b13=w7.heap.size:=⟨_,rfl⟩
   rw [← hb13] at HQ ⊢
   clear hw8 hb13
   refine (hFrh.out w8 b13 HQ.bel (HQ.ge 5 rfl) (HQ.blk 5 rfl) hrow0).mono ?_
   obtain ⟨r',kp,er⟩:=FR
   rintro e w9 ⟨rfl,hg9,hb9⟩
   have H9:=HQ.step (p':=.box b13 114 (rowCells r')) 5 rfl hg9 ⟨HQ.ge 5 rfl,hb9⟩ (fun q hq=>.inl hq)
   replace H9:Hp w w9 (scE (w.heap.size+1) i g Ag2 cg2 gens++[kBox kb A3 l3.length c3 (.slice Ag2 gens.length cg2),outE A3 c3 l3,.box b13 114 (rowCells r')]++l3.flatMap tabE):=H9
   clear HQ hg9 hb9 hFrh hr9 hRh
   dsimp only at hE2 hfr2 ⊢
   by_cases her:er=0
   case neg=>
    have her':(er != 0)=true:=by simpa using her
    have hE:Hid (E=⟨[],[],er⟩):=Lib.hid (by rw [hE2.out,if_pos her])
    have q0:=H9.cell 1 0 rfl rfl;have q1:=H9.cell 1 1 rfl rfl
    have y0:=H9.frozen 1 0 rfl;have y1:=H9.frozen 1 1 rfl
    have H4:=(H9.set 1 0 (.slice none 0 0) rfl).set 1 1 (.slice none 0 0) rfl
    have p0:=H4.cell 1 0 rfl rfl;have p1:=H4.cell 1 1 rfl rfl
    have H4h:=Lib.hid H4
    clear H9 H4 hchgh hrsh hcuth hf3h hE2
    go_wp2_with fail
    refine bodyPost_ret (v:=.tuple #[.agg #[.slice none 0 0,.slice none 0 0],.int .i64 er]) (by simp [results,Tryz.results52,go_sem,p0,p1]) rfl ⟨_,by rw [hE.out],by rw [hE.out];exact GotSt.zero H4h.out.bel⟩
   case pos=>
    subst her
    cases kp with
    | false=>
     have hE:Hid (E=⟨tabsW (rows.eraseIdx m),gens,0⟩):=Lib.hid (by rw [hE2.out,if_neg (by simp),if_neg (by simp)])
     have htw:Hid (l3.map tabOf=tabsW (rows.eraseIdx m)):=Lib.hid (by rw [hf3h.out,hcuth.out.eq_of];rfl)
     clear hE2 hf3h hchgh hrsh hcuth hfr2
     have q0:=H9.cell 1 0 rfl rfl;have q1:=H9.cell 1 1 rfl rfl
     have y0:=H9.frozen 1 0 rfl;have y1:=H9.frozen 1 1 rfl
     have x0:=H9.cell 3 0 rfl rfl;have x1:=H9.cell 3 1 rfl rfl
     have H4:=(H9.set 1 0 (.slice A3 l3.length c3) rfl).set 1 1 (.slice Ag2 gens.length cg2) rfl
     have p0:=H4.cell 1 0 rfl rfl;have p1:=H4.cell 1 1 rfl rfl
     have H4h:=Lib.hid H4
     clear H4 H9
     go_wp2_with fail
     refine bodyPost_ret (v:=.tuple #[.agg #[.slice A3 l3.length c3,.slice Ag2 gens.length cg2],.int .i64 0]) (by simp [results,Tryz.results52,go_sem,p0,p1]) rfl ⟨_,by rw [hE.out],by rw [hE.out];exact ⟨A3,c3,l3,Ag2,cg2,rfl,htw.out,(((H4h.out.drop1 5).drop1 3).drop1 1).drop1 0⟩⟩
    | true=>
     obtain ⟨hro,hix⟩:=hfr2 rfl rfl
     have hE:Hid (E=⟨tabsW (rows.set m r'),gens,0⟩):=Lib.hid (by rw [hE2.out,if_neg (by simp),if_pos rfl])
     have hrep2:=(hchgh.out r' hro hix (hrsh.out r' hix)).eq_of
     have hrep3:=hcuth.out
     have hlen3:=hrep3.lens
     have hel:(rows.eraseIdx m).length≤60:=by rw [List.length_eraseIdx];split<;>omega
     have hRs:isSet r'.has=true:=((rowErr_iff r').1 hro).1
     have HK:Hp w w9 (kE kb A3 c3 l3 (.slice Ag2 gens.length cg2) (scE (w.heap.size+1) i g Ag2 cg2 gens++[.box b13 114 (rowCells r')])):=H9.perm (by
      unfold kE
      refine List.Perm.trans (l₂:=[kBox kb A3 l3.length c3 (.slice Ag2 gens.length cg2),outE A3 c3 l3]++((scE (w.heap.size+1) i g Ag2 cg2 gens++[.box b13 114 (rowCells r')])++l3.flatMap tabE)) ?_ (List.Perm.append_left _ List.perm_append_comm)
      rw [← List.append_assoc]
      refine List.Perm.append_right _ ?_
      exact (List.perm_append_comm (l₁:=[_,_,_]) (l₂:=[_,_])).append_right _)
     have hki:=Lib.hid (kinsert_any (remG k j (ofG rows)) hrep3.ok.up hrep3.ok.rise hrep3.clean (by omega) (fun x hx=>by have:=hlen3.2 x hx;omega) r' hRs b13 0 l3 A3 c3 (.slice Ag2 gens.length cg2) kb (scE (w.heap.size+1) i g Ag2 cg2 gens++[.box b13 114 (rowCells r')]) hf3h.out w w9 (fun w' h'=>⟨rowAt_box (h'.blk 3 rfl),h'.lt 3 rfl⟩) HK)
     rw [hrep2] at hki
     clear hE2 hf3h hchgh hrsh hcuth hfr2 HK H9 hrep2 hrep3 hlen3
     go_wp2_with fail
     refine hki.out.mono ?_
     rintro e w10 ⟨rfl,A4,c4,l4,hf4,H11⟩
     clear hki
     have htw:Hid (l4.map tabOf=tabsW (rows.set m r')):=Lib.hid hf4
     clear hf4
     have HP:Hp w w10 ((scE (w.heap.size+1) i g Ag2 cg2 gens++[.box b13 114 (rowCells r')])++([kBox kb A4 l4.length c4 (.slice Ag2 gens.length cg2),outE A4 c4 l4]++l4.flatMap tabE)):=H11.perm (by
      unfold kE
      exact (List.Perm.of_eq (List.append_assoc ..).symm).trans List.perm_append_comm)
     clear H11
     have q0:=HP.cell 1 0 rfl rfl;have q1:=HP.cell 1 1 rfl rfl
     have y0:=HP.frozen 1 0 rfl;have y1:=HP.frozen 1 1 rfl
     have x0:=HP.cell 4 0 rfl rfl;have x1:=HP.cell 4 1 rfl rfl
     have H4:=(HP.set 1 0 (.slice A4 l4.length c4) rfl).set 1 1 (.slice Ag2 gens.length cg2) rfl
     have p0:=H4.cell 1 0 rfl rfl;have p1:=H4.cell 1 1 rfl rfl
     have H4h:=Lib.hid H4
     clear H4 HP
     go_wp2_with fail
     refine bodyPost_ret (v:=.tuple #[.agg #[.slice A4 l4.length c4,.slice Ag2 gens.length cg2],.int .i64 0]) (by simp [results,Tryz.results52,go_sem,p0,p1]) rfl ⟨_,by rw [hE.out],by rw [hE.out];exact ⟨A4,c4,l4,Ag2,cg2,rfl,htw.out,(((H4h.out.drop1 4).drop1 3).drop1 1).drop1 0⟩⟩
open Go.RowKit Go.Maps
open Brood
theorem next_any (rows:List BRow) (gens:List Int) (Ar:Option Addr) (cr:Nat) (Ag:Option Addr) (cg:Nat) (hlr:rows.length≤9223372036854775807) (hlg:gens.length≤9223372036854775807)
  (hwr:∀ r∈rows,(Lit.int .i64 r.idx).wf=true) (hwg:∀ n∈gens,-9223372036854775808≤n) (w:World) (hr:RdR w w.heap.size Ar rows) (hg:RdG w w.heap.size Ag gens) :
  Calls Tryz.prog 45 #[.agg #[.slice Ar rows.length cr,.slice Ag gens.length cg]] w fun e w'=>e=.returned (.tuple #[.agg #[.int .i64 (nextV rows gens).1,.int .i64 (nextV rows gens).2.1],.int .i64 (nextV rows gens).2.2])∧Below w.heap.size w w':=by
 have hmm:=@run_makeMap Tryz.prog
 have HB0:=((Blk.new w 64 #[.slice Ar rows.length cr,.slice Ag gens.length cg]).alloc (.cells #[.int .i64 0,.int .i64 0] 24)).alloc (.map #[] 0)
 have HQ0:=(Blk.new (w.alloc (.cells #[.slice Ar rows.length cr,.slice Ag gens.length cg] 64)) 24 #[.int .i64 0,.int .i64 0]).alloc (.map #[] 0)
 simp only [World.size_alloc] at HQ0
 have hbel0:Below w.heap.size w (((w.alloc (.cells #[.slice Ar rows.length cr,.slice Ag gens.length cg] 64)).alloc (.cells #[.int .i64 0,.int .i64 0] 24)).alloc (.map #[] 0)):=(((Below.refl _ _).alloc (Nat.le_refl _) _).alloc (by simp) _).alloc (by simp;omega) _
 have hM0:=MapU.made ((w.alloc (.cells #[.slice Ar rows.length cr,.slice Ag gens.length cg] 64)).alloc (.cells #[.int .i64 0,.int .i64 0] 24))
 simp only [World.size_alloc] at hM0
 have hnv:Hid (nextV rows gens=match nextFrom (rows.map (·.idx)) 0 gens with | some p=>(p.1,p.2,0) | none=>if 60≤gens.length then (0,0,4) else ((gens.length:Int),1,0)):=Lib.hid rfl
 generalize nextV rows gens=E at *
 go_enter Tryz.func45,Tryz.ntmps45
 go_wp2_with fail
 go_loopw [13] (fun i wr=>∃ k:Nat,k≤rows.length∧i=.int .i64 k∧Below w.heap.size w wr∧MapU wr (w.heap.size+1+1) ((rows.take k).map (·.idx)) ∧
   Blk wr w.heap.size 64 #[.slice Ar rows.length cr,.slice Ag gens.length cg]∧Blk wr (w.heap.size+1) 24 #[.int .i64 0,.int .i64 0]) (fun i _=>rows.length-(intOf i).toNat)
 case atStart=>exact ⟨0,by omega,rfl,hbel0,by simpa using hM0,HB0,HQ0⟩
 case round=>
  clear HB0 HQ0 hbel0 hM0
  obtain ⟨k,hk,rfl,hbel,hM,HB,HQ⟩:=hrel
  have hMlt:=hM.lt
  by_cases hlt:k<rows.length
  ·have hR:RdR wr w.heap.size Ar rows:=Rd.under hr hbel (Nat.le_refl _)
   obtain ⟨b,off,rfl,hb,hrow⟩:=hR.at_ hlt
   have hwz:=hwr rows[k] (List.getElem_mem hlt)
   have htk:Hid ((rows.take (k+1)).map (·.idx)=(rows.take k).map (·.idx)++[rows[k].idx]):=Lib.hid (by rw [List.take_add_one,List.getElem?_eq_getElem hlt,Option.toList_some,List.map_append];rfl)
   generalize rows[k]=r at *
   have i0:(0:Int)≤(k:Int):=by omega
   have i1:(k:Int)<(rows.length:Int):=by omega
   obtain ⟨c0,c1,c2⟩:=hrow.head
   obtain ⟨idx,gen,has,vals,h8⟩:=r
   obtain ⟨a0,a1,a2,a3,a4,a5,a6,a7,rfl⟩:=vals_eight h8
   have v0:=hrow 3 (.int .i64 a0) rfl;have v1:=hrow 4 (.int .i64 a1) rfl;have v2:=hrow 5 (.int .i64 a2) rfl;have v3:=hrow 6 (.int .i64 a3) rfl;have v4:=hrow 7 (.int .i64 a4) rfl;have v5:=hrow 8 (.int .i64 a5) rfl;have v6:=hrow 9 (.int .i64 a6) rfl;have v7:=hrow 10 (.int .i64 a7) rfl
   simp only at c0 c1 c2 hwz
   have hbw:b≠wr.heap.size:=by have:=hbel.size;omega
   have HB2:=HB.alloc (.cells #[.int .i64 idx,.int .i64 gen,.int .i64 has,.int .i64 a0,.int .i64 a1,.int .i64 a2,.int .i64 a3,.int .i64 a4,.int .i64 a5,.int .i64 a6,.int .i64 a7] 114)
   have HQ2:=HQ.alloc (.cells #[.int .i64 idx,.int .i64 gen,.int .i64 has,.int .i64 a0,.int .i64 a1,.int .i64 a2,.int .i64 a3,.int .i64 a4,.int .i64 a5,.int .i64 a6,.int .i64 a7] 114)
   have hbel2:=hbel.alloc hbel.size (.cells #[.int .i64 idx,.int .i64 gen,.int .i64 has,.int .i64 a0,.int .i64 a1,.int .i64 a2,.int .i64 a3,.int .i64 a4,.int .i64 a5,.int .i64 a6,.int .i64 a7] 114)
   have hM2:=hM.alloc (.cells #[.int .i64 idx,.int .i64 gen,.int .i64 has,.int .i64 a0,.int .i64 a1,.int .i64 a2,.int .i64 a3,.int .i64 a4,.int .i64 a5,.int .i64 a6,.int .i64 a7] 114)
   obtain ⟨D,m1,m2⟩:=hM2
   have hm2:=Lib.hid m2
   have hlk:((rows.take k).map (·.idx)).length=k:=by simp;omega
   rw [hlk] at m1
   have m1':=Lib.hid m1
   have hmx:k<maxLen:=by unfold maxLen;omega
   clear m2 hrow hM HB HQ m1
   have HBh:=Lib.hid HB2;have HQh:=Lib.hid HQ2;have hbelh:=Lib.hid hbel2
   clear HB2 HQ2 hbel2
   go_wp2_with (at_mapUpdate;refine wpList_mapUpdate_own _ rfl _ _ _ 159 rfl 3 4 keyInt Tryz.underlying159 _ (w.heap.size+1+1) _ D rfl m1'.out hmx _ _ (.int .i64 idx) rfl rfl (keyOf_int_mk Tryz.underlying3 hwz) (.lit (.bool true)) [] (plainElem_bool Tryz.underlying4 true) ?_;intro w5 hown5 hgrow5)
   have hM5:MapU w5 (w.heap.size+1+1) ((rows.take (k+1)).map (·.idx)):=by
    rw [htk.out]
    exact MapU.put (by rw [hlk];exact m1'.out) hm2.out (by rw [hlk];exact hown5)
   refine ⟨⟨k+1,by omega,?hn,hbelh.out.grown hgrow5 hbelh.out.size (fun k e=>by cases e;omega),hM5,HBh.out.grown hgrow5 (by simp;omega),HQh.out.grown hgrow5 (by simp)⟩,?hm⟩
   case hn=>go_num
   case hm=>simp [intOf];omega
  ·obtain rfl:k=rows.length:=by omega
   rw [List.take_length] at hM
   have e0:=HB.cell 0;have e1:=HB.cell 1
   have q0:=HQ.cell 0;have q1:=HQ.cell 1;have z0:=HQ.frozen 0;have z1:=HQ.frozen 1
   simp at e0 e1 q0 q1
   have hblt:=HB.lt;have hqlt:=HQ.lt
   have hG:RdG wr w.heap.size Ag gens:=Rd.under hg hbel (Nat.le_refl _)
   have hlook:=Lib.hid (fun k (h:(Lit.int .i64 k).wf=true)=>hM.look (k:=k) h)
   have hSz:=hbel.size
   generalize rows.map (·.idx)=used at *
   go_wp2_with fail
   obtain ⟨wo,rfl⟩:∃ wo:World,wo=wr:=⟨_,rfl⟩
   go_loopw [25] (fun i wr=>∃ k:Nat,k≤gens.length∧i=.int .i64 k∧wr=wo∧Hid (nextFrom used 0 gens=nextFrom used k (gens.drop k))) (fun i _=>gens.length-(intOf i).toNat)
   case atStart=>exact ⟨0,by omega,rfl,rfl,Lib.hid (by simp)⟩
   case round=>
    obtain ⟨k,hk,rfl,rfl,hnf⟩:=hrel
    by_cases hlt:k<gens.length
    ·obtain ⟨b,off,rfl,hb,hc⟩:=hG.at_ hlt
     have hst:=Lib.hid (drop_cons hlt)
     have hwn:=hwg gens[k] (List.getElem_mem hlt)
     generalize gens[k]=n at *
     have i0:(0:Int)≤(k:Int):=by omega
     have i1:(k:Int)<(gens.length:Int):=by omega
     have hlk:=hlook.out (k:Int) (wf_of (by omega) (by omega))
     have hnf2:Hid (nextFrom used 0 gens=if !used.contains (k:Int) && decide (n<1000) then some ((k:Int),n+1) else nextFrom used (k+1) (gens.drop (k+1))):=Lib.hid (by rw [hnf.out,hst.out,nextFrom])
     clear hnf hst hM HB
     generalize used.contains (k:Int)=uk at *
     cases uk with
     | true=>
      have hnf3:Hid (nextFrom used 0 gens=nextFrom used (k+1) (gens.drop (k+1))):=Lib.hid (by rw [hnf2.out,if_neg (by simp)])
      go_wp2_with fail
      go_roundw
      case rel=>exact ⟨k+1,by omega,by go_num,trivial,hnf3⟩
      case measure=>simp [intOf];omega
     | false=>
      by_cases hn:n<1000
      ·have hE:Hid (E=((k:Int),n+1,0)):=Lib.hid (by rw [hnv.out,hnf2.out,if_pos (by simp [hn])])
       have hwrap:IntKind.i64.wrap (n+1)=n+1:=by rw [IntKind.wrap_i64];omega
       have HQ2:=(HQ.set_ 0 (.int .i64 (k:Int))).set_ 1 (.int .i64 (n+1))
       have r0:=HQ2.cell 0;have r1:=HQ2.cell 1
       simp at r0 r1
       go_wp2_with fail
       refine bodyPost_ret (v:=.tuple #[.agg #[.int .i64 (k:Int),.int .i64 (n+1)],.int .i64 0]) (by simp [results,Tryz.results45,go_sem,r0,r1]) rfl ⟨by rw [hE.out],(hbel.setCell (by simp) _).setCell (by simp) _⟩
      ·have hnf3:Hid (nextFrom used 0 gens=nextFrom used (k+1) (gens.drop (k+1))):=Lib.hid (by rw [hnf2.out,if_neg (by simp [hn])])
       go_wp2_with fail
       go_roundw
       case rel=>exact ⟨k+1,by omega,by go_num,trivial,hnf3⟩
       case measure=>simp [intOf];omega
    ·obtain rfl:k=gens.length:=by omega
     have hnf3:Hid (E=if 60≤gens.length then (0,0,4) else ((gens.length:Int),1,0)):=Lib.hid (by rw [hnv.out,hnf.out,List.drop_length];rfl)
     clear hnf
     by_cases h60:60≤gens.length
     ·have hE:Hid (E=(0,0,4)):=Lib.hid (by rw [hnf3.out,if_pos h60])
      have HQ2:=(HQ.set_ 0 (.int .i64 0)).set_ 1 (.int .i64 0)
      have r0:=HQ2.cell 0;have r1:=HQ2.cell 1
      simp at r0 r1
      go_wp2_with fail
      refine bodyPost_ret (v:=.tuple #[.agg #[.int .i64 0,.int .i64 0],.int .i64 4]) (by simp [results,Tryz.results45,go_sem,r0,r1]) rfl ⟨by rw [hE.out],(hbel.setCell (by simp) _).setCell (by simp) _⟩
     ·have hE:Hid (E=((gens.length:Int),1,0)):=Lib.hid (by rw [hnf3.out,if_neg h60])
      have HQ2:=(HQ.set_ 0 (.int .i64 (gens.length:Int))).set_ 1 (.int .i64 1)
      have r0:=HQ2.cell 0;have r1:=HQ2.cell 1
      simp at r0 r1
      go_wp2_with fail
      refine bodyPost_ret (v:=.tuple #[.agg #[.int .i64 (gens.length:Int),.int .i64 1],.int .i64 0]) (by simp [results,Tryz.results45,go_sem,r0,r1]) rfl ⟨by rw [hE.out],(hbel.setCell (by simp) _).setCell (by simp) _⟩
end Go.Proofs.YtefdblaolmckmabGreat
