/- Lemmas of the proof. -/
import Derived.Test.YtefdblaolmckmabGreatRows
import Derived.Test.YtefdblaolmckmabGreatRBRowToInv
import Derived.Test.YtefdblaolmckmabGreatRBSpecVToStoA
import Derived.Test.YtefdblaolmckmabGreatRBSortTRToStoO
set_option linter.unusedVariables false
set_option linter.unusedSimpArgs false
set_option maxRecDepth 100000
set_option maxHeartbeats 12800000
namespace Go.Proofs.YtefdblaolmckmabGreat
open Go.ChangeShapes Go.WideShapes Go.ChangeAt Go.RowKit Go.Deep
open Brood
section
variable {H:Type} {enc:TypeId×Value→H} {w:World} {base:Nat} {spare:Nat→Bool} {held:Bool}
theorem bulk_one (d:DataW H):1≤Rows.uptoBulk d:=by
 cases d with
 | lit l=>cases l<;>simp [Rows.uptoBulk]
 | _=>simp [Rows.uptoBulk]
theorem bulk_sum {α:Type} {μ:α→Nat} {p:Nat→α} {D:Nat→DataW H}:∀ L:List Nat,(∀ i∈L,μ (p i)≤Rows.uptoBulk (D i))→((L.map p).map μ).sum≤Rows.uptoBulkAll (L.map D)
 | [],_=>by simp [Rows.uptoBulkAll]
 | i::L,h=>by
  have h1:=h i (by simp)
  have h2:=bulk_sum L (fun j hj=>h j (by simp [hj]))
  simp only [List.map_cons,List.sum_cons,Rows.uptoBulkAll]
  omega
theorem open_listB {α:Type} (d0:α) (R:List Value→α→Prop) (μ:α→Nat) {t e:TypeId} {m:Nat} {fuel:Nat} {cs:List Value} {x:DataW H×List MemPlace}
  (ht:Tryz.prog.underlying t=some (.slice e)) (hm:Tryz.prog.cellsOf e=m) (hm0:0<m)
  (hread:∀ (n:Nat) (cs':List Value) (y:DataW H×List MemPlace),cs'.length=m→DataW.trod enc Tryz.prog w base spare held n e cs'=some y→∃ a,R cs' a∧μ a≤Rows.uptoBulk y.1)
  (h:DataW.trod enc Tryz.prog w base spare held fuel t cs=some x) :
  ∃ (A:Option Addr) (len cap:Nat) (l:List α) (css:List (List Value)),cs=[.slice A len cap]∧l.length=len∧css.length=len∧len≤cap∧cap≤maxLen ∧
   (∀ c∈css,c.length=m)∧(∀ (i:Nat) (c:List Value) (a:α),css[i]?=some c→l[i]?=some a→R c a)∧Rd w w.heap.size m A len css.flatten ∧
   (l.map μ).sum+1≤Rows.uptoBulk x.1∧(A=none→cap=0∧l=[]):=by
 rcases open_slice ht h with ⟨rfl,rfl⟩ | ⟨a,len,cap,k,n,D,Pl,rfl,hb,hl,hc,hk,hx,hi⟩
 ·exact ⟨none,0,0,[],[],rfl,rfl,rfl,Nat.le_refl _,Nat.zero_le _,by simp,by simp,Rd.nil_,by simp [Rows.uptoBulk],fun _=>⟨rfl,rfl⟩⟩
 ·have hkl:len≤k:=by rw [hk];split<;>omega
  have hex:∀ i,∃ p:List Value×α,i<len→p.1.length=m∧(∀ j,j<m→w.cell? ((a.add (i*m)).add j)=p.1[j]?)∧R p.1 p.2∧μ p.2≤Rows.uptoBulk (D i):=by
   intro i
   by_cases hlt:i<len
   ·obtain ⟨cs',h1,h2⟩:=hi i (by omega)
    rw [hm] at h1
    obtain ⟨_,hlen,hcell⟩:=World.cells?_some h1
    obtain ⟨y,hy,hy2⟩:=hread n cs' _ hlen h2
    exact ⟨(cs',y),fun _=>⟨hlen,hcell,hy,hy2⟩⟩
   ·exact ⟨([],d0),fun h=>absurd h hlt⟩
  obtain ⟨p,hp⟩:=Classical.axiomOfChoice hex
  have hsum:(((List.range len).map fun i=>(p i).2).map μ).sum≤Rows.uptoBulkAll ((List.range len).map D):=bulk_sum (p:=fun i=>(p i).2) _ (fun i hi'=>(hp i (by simpa using hi')).2.2.2)
  have hfl:∀ q,q≤len→((List.range q).map fun i=>(p i).1).flatten.length=q*m:=by
   intro q
   induction q with
   | zero=>intro _;simp
   | succ q ih=>
    intro hq
    rw [List.range_succ,List.map_append,List.flatten_append,List.length_append,ih (by omega)]
    simp [(hp q (by omega)).1,Nat.succ_mul]
  refine ⟨some a,len,cap,(List.range len).map fun i=>(p i).2,(List.range len).map fun i=>(p i).1,rfl,by simp,by simp,hl,hc,?_,?_,?_,?_,fun e=>by cases e⟩
  ·intro c hc
   simp only [List.mem_map,List.mem_range] at hc
   obtain ⟨i,hi,rfl⟩:=hc
   exact (hp i hi).1
  ·intro i c a' h1 h2
   by_cases hlt:i<len
   ·simp [hlt] at h1 h2
    subst h1 h2
    exact (hp i hlt).2.2.1
   ·simp [hlt] at h1
  ·refine ⟨hfl len (Nat.le_refl _),?_⟩
   intro hn
   have hc0:=(hp 0 hn).2.1 0 hm0
   have hsome:∃ u,(p 0).1[0]?=some u:=⟨_,List.getElem?_eq_getElem (by rw [(hp 0 hn).1];exact hm0)⟩
   obtain ⟨u,hu⟩:=hsome
   rw [hu] at hc0
   have ha0:(a.add (0*m)).add 0=a:=by simp [Addr.add]
   rw [ha0] at hc0
   have hspot:a.spot=none:=World.cell?_spot hc0
   have hblk:a.block<w.heap.size:=by
    rcases Nat.lt_or_ge a.block w.heap.size with h | h
    ·exact h
    ·exfalso
     have:w.cell? a=none:=by simp [World.cell?,Array.getElem?_eq_none h]
     rw [this] at hc0
     cases hc0
   refine ⟨a.block,a.off,by obtain ⟨b,o,s⟩:=a;simp only at hspot;subst hspot;rfl,hblk,?_⟩
   intro j u hu
   have key:∀ q,q≤len→∀ j u,((List.range q).map fun i=>(p i).1).flatten[j]?=some u→w.cell? ⟨a.block,a.off+j,none⟩=some u:=by
    intro q
    induction q with
    | zero=>intro _ j u h;simp at h
    | succ q ih=>
     intro hq j u h
     rw [List.range_succ,List.map_append,List.flatten_append] at h
     by_cases hj:j<q*m
     ·rw [List.getElem?_append_left (by rw [hfl q (by omega)];exact hj)] at h
      exact ih (by omega) j u h
     ·rw [List.getElem?_append_right (by rw [hfl q (by omega)];omega),hfl q (by omega)] at h
      simp only [List.map_cons,List.map_nil,List.flatten_cons,List.flatten_nil,List.append_nil] at h
      have hjm:j-q*m<m:=by
       have:=(List.getElem?_eq_some_iff.1 h).1
       rw [(hp q (by omega)).1] at this
       exact this
      have hcell:=(hp q (by omega)).2.1 (j-q*m) hjm
      rw [h,addr_add a hspot,add_mk] at hcell
      have e:a.off+q*m+(j-q*m)=a.off+j:=by omega
      rw [e] at hcell
      exact hcell
   exact key len (Nat.le_refl _) j u hu
  ·rw [hx]
   simp only [Rows.uptoBulk]
   omega
theorem each {α:Type} {R:List Value→α→Prop} {l:List α} {css:List (List Value)} (hl:css.length=l.length) (hR:∀ (i:Nat) (c:List Value) (a:α),css[i]?=some c→l[i]?=some a→R c a):∀ a∈l,∃ c,R c a:=by
 intro x hx
 obtain ⟨i,hi⟩:=List.getElem?_of_mem hx
 have hlt:i<css.length:=by rw [hl];exact (List.getElem?_eq_some_iff.1 hi).1
 exact ⟨_,hR i css[i] x (List.getElem?_eq_getElem hlt) hi⟩
theorem sum_one {α:Type} (l:List α):(l.map fun _=>1).sum=l.length:=by
 induction l with
 | nil=>rfl
 | cons a l ih=>simp [ih];omega
theorem sum_mem {α:Type} {μ:α→Nat} {l:List α} {a:α} (h:a∈l):μ a≤(l.map μ).sum:=by
 induction l with
 | nil=>cases h
 | cons b l ih=>
  simp only [List.map_cons,List.sum_cons]
  rcases List.mem_cons.1 h with rfl | h
  ·omega
  ·have:=ih h;omega
theorem sum_le {α:Type} {μ ν:α→Nat} {l:List α} (h:∀ a∈l,μ a≤ν a):(l.map μ).sum≤(l.map ν).sum:=by
 induction l with
 | nil=>simp
 | cons b l ih=>
  simp only [List.map_cons,List.sum_cons]
  have h1:=h b (by simp)
  have h2:=ih (fun a ha=>h a (by simp [ha]))
  omega
theorem cColsT:Tryz.prog.cellsOf 98=1:=by kernel_rfl
theorem cBesT:Tryz.prog.cellsOf 58=1:=by kernel_rfl
theorem cTabsT:Tryz.prog.cellsOf 37=1:=by kernel_rfl
theorem cIntsT:Tryz.prog.cellsOf 38=1:=by kernel_rfl
theorem open_intsB {fuel:Nat} {cs:List Value} {x:DataW H×List MemPlace} (h:DataW.trod enc Tryz.prog w base spare held fuel 38 cs=some x) :
  ∃ (A:Option Addr) (cap:Nat) (l:List Int),cs=[.slice A l.length cap]∧RdG w w.heap.size A l∧l.length+1≤Rows.uptoBulk x.1∧(A=none→cap=0∧l=[]):=by
 obtain ⟨A,len,cap,l,css,rfl,hl,hcl,h1,h2,hc1,hR,hrd,hb,hn⟩:=open_listB (m:=1) (α:=Int) 0 (fun c a=>c=[.int .i64 a]) (fun _=>1) Tryz.underlying38 (by kernel_rfl) (by omega) (by
  intro n cs' y hlen hy
  obtain ⟨a,e,_,hwf⟩:=DataW.trod_int Tryz.underlying3 hy
  exact ⟨a,e,bulk_one _⟩) h
 subst hl
 rw [sum_one] at hb
 refine ⟨A,cap,l,rfl,?_,hb,hn⟩
 unfold RdG
 have e:ints l=l.flatMap (fun a=>[Value.int .i64 a]):=by
  unfold ints
  exact List.map_eq_flatMap
 rw [e,← flat_of hcl (fun i c a h1 h2=>hR i c a h1 h2)];exact hrd
theorem open_besB {fuel:Nat} {cs:List Value} {x:DataW H×List MemPlace} (h:DataW.trod enc Tryz.prog w base spare held fuel 58 cs=some x) :
  ∃ (A:Option Addr) (cap:Nat) (l:List (Int×Int)),cs=[.slice A l.length cap]∧Rd w w.heap.size 2 A l.length (l.flatMap beC)∧l.length+1≤Rows.uptoBulk x.1∧(A=none→cap=0∧l=[]):=by
 obtain ⟨A,len,cap,l,css,rfl,hl,hcl,h1,h2,hc1,hR,hrd,hb,hn⟩:=open_listB (m:=2) (α:=Int×Int) (0,0) (fun c a=>c=beC a) (fun _=>1) Tryz.underlying58 (by kernel_rfl) (by omega) (by
  intro n cs' y hlen hy
  match cs',hlen with
  | [c0,c1],_=>
   obtain ⟨xs,n',_,_,_,hxl,hg⟩:=DataW.trod_struct Tryz.underlying24 hy
   have g0:=fld hg 0 _ rfl 3 0 1 rfl rfl cInt;have g1:=fld hg 1 _ rfl 3 1 1 rfl rfl cInt
   match xs,hxl with
   | [y0,y1],_=>
    obtain ⟨a,e0,_,_⟩:=DataW.trod_int Tryz.underlying3 g0
    obtain ⟨b,e1,_,_⟩:=DataW.trod_int Tryz.underlying3 g1
    simp at e0 e1
    subst e0 e1
    exact ⟨(a,b),rfl,bulk_one _⟩) h
 subst hl
 rw [sum_one] at hb
 refine ⟨A,cap,l,rfl,?_,hb,hn⟩
 rw [← flat_of hcl (fun i c a h1 h2=>hR i c a h1 h2)];exact hrd
def colN (c:ColIn):Nat:=c.zs.length+1
theorem open_colsB {fuel:Nat} {cs:List Value} {x:DataW H×List MemPlace} (h:DataW.trod enc Tryz.prog w base spare held fuel 98 cs=some x) :
  ∃ (A:Option Addr) (cap:Nat) (l:List ColIn),cs=[.slice A l.length cap]∧Rd w w.heap.size 1 A l.length (l.map colV)∧(∀ c∈l,Rd w w.heap.size 1 c.A c.zs.length (ints c.zs))∧(∀ c∈l,c.A=none→c.c=0∧c.zs=[]) ∧
   (l.map colN).sum+1≤Rows.uptoBulk x.1∧(A=none→cap=0∧l=[]):=by
 obtain ⟨A,len,cap,l,css,rfl,hl,hcl,h1,h2,hc1,hR,hrd,hb,hn⟩:=open_listB (m:=1) (α:=ColIn) ⟨none,0,[]⟩ (fun c a=>c=[colV a]∧RdG w w.heap.size a.A a.zs∧(a.A=none→a.c=0∧a.zs=[])) colN Tryz.underlying98 (by kernel_rfl) (by omega) (by
  intro n cs' y hlen hy
  obtain ⟨A,cap,l,e,hr,hb,hn⟩:=open_intsB hy
  exact ⟨⟨A,cap,l⟩,⟨e,hr,hn⟩,hb⟩) h
 subst hl
 refine ⟨A,cap,l,rfl,?_,?_,?_,hb,hn⟩
 ·have e:l.map colV=l.flatMap (fun a=>[colV a]):=List.map_eq_flatMap
  rw [e,← flat_of hcl (fun i c a h1 h2=>(hR i c a h1 h2).1)];exact hrd
 ·intro c hc
  obtain ⟨_,h⟩:=each hcl hR c hc
  exact h.2.1
 ·intro c hc
  obtain ⟨_,h⟩:=each hcl hR c hc
  exact h.2.2
def tabN (t:TabIn):Nat:=t.bs.length+(t.cols.map colN).sum+1
structure TabRd (w:World) (t:TabIn):Prop where
 bs:Rd w w.heap.size 2 t.bA t.bs.length (t.bs.flatMap beC)
 cs:Rd w w.heap.size 1 t.cA t.cols.length (t.cols.map colV)
 zs:∀ c∈t.cols,Rd w w.heap.size 1 c.A c.zs.length (ints c.zs)
 nb:t.bA=none→t.bc=0∧t.bs=[]
 nc:t.cA=none→t.cc=0∧t.cols=[]
 nz:∀ c∈t.cols,c.A=none→c.c=0∧c.zs=[]
theorem open_tabsB {fuel:Nat} {cs:List Value} {x:DataW H×List MemPlace} (h:DataW.trod enc Tryz.prog w base spare held fuel 37 cs=some x) :
  ∃ (A:Option Addr) (cap:Nat) (l:List TabIn),cs=[.slice A l.length cap]∧RdT w w.heap.size A l∧NilT A cap l∧(l.map tabN).sum+1≤Rows.uptoBulk x.1:=by
 obtain ⟨A,len,cap,l,css,rfl,hl,hcl,h1,h2,hc1,hR,hrd,hb,hn⟩:=open_listB (m:=3) (α:=TabIn) ⟨0,none,0,[],none,0,[]⟩ (fun c a=>c=tabCells a∧TabRd w a) tabN Tryz.underlying37 (by kernel_rfl) (by omega) (by
  intro n cs' y hlen hy
  match cs',hlen with
  | [c0,c1,c2],_=>
   obtain ⟨xs,n',_,hx,_,hxl,hg⟩:=DataW.trod_struct Tryz.underlying100 hy
   have g0:=fld hg 0 _ rfl 3 0 1 rfl rfl cInt;have g1:=fld hg 1 _ rfl 58 1 1 rfl rfl cBesT;have g2:=fld hg 2 _ rfl 98 2 1 rfl rfl cColsT
   match xs,hxl with
   | [y0,y1,y2],_=>
    obtain ⟨a,e0,_,_⟩:=DataW.trod_int Tryz.underlying3 g0
    obtain ⟨bA,bc,bs,e1,r1,b1,n1⟩:=open_besB g1
    obtain ⟨cA,cc,cols,e2,r2,z2,nz2,b2,n2⟩:=open_colsB g2
    simp at e0 e1 e2
    subst e0 e1 e2
    refine ⟨⟨a,bA,bc,bs,cA,cc,cols⟩,⟨rfl,⟨r1,r2,z2,n1,n2,nz2⟩⟩,?_⟩
    rw [hx]
    simp only [List.map_cons,List.map_nil,Rows.uptoBulk,Rows.uptoBulkAll,tabN]
    omega) h
 subst hl
 refine ⟨A,cap,l,rfl,⟨?_,?_,?_,?_⟩,⟨hn,?_,?_,?_⟩,hb⟩
 ·rw [← flat_of hcl (fun i c a h1 h2=>(hR i c a h1 h2).1)];exact hrd
 ·intro t ht;obtain ⟨_,h⟩:=each hcl hR t ht;exact h.2.bs
 ·intro t ht;obtain ⟨_,h⟩:=each hcl hR t ht;exact h.2.cs
 ·intro t ht;obtain ⟨_,h⟩:=each hcl hR t ht;exact h.2.zs
 ·intro t ht;obtain ⟨_,h⟩:=each hcl hR t ht;exact h.2.nb
 ·intro t ht;obtain ⟨_,h⟩:=each hcl hR t ht;exact h.2.nc
 ·intro t ht;obtain ⟨_,h⟩:=each hcl hR t ht;exact h.2.nz
theorem open_store {r:Reach} {b0:Nat} {v:Value} {d:DataW H} {p:List MemPlace} (hv:Value.okWide Tryz.prog w r b0 40 v) (h:DataW.Trod enc Tryz.prog w base spare held 40 v d p) :
  ∃ (l:List TabIn) (A:Option Addr) (c:Nat) (gens:List Int) (Ag:Option Addr) (cg:Nat),v=.agg #[.slice A l.length c,.slice Ag gens.length cg]∧RdSt w w.heap.size ⟨A,c,l,Ag,cg,gens⟩ ∧
   (Rows.uptoBulk d≤1048576→StSmall l gens):=by
 obtain ⟨cs,rfl,hsz⟩:=okWide_struct Tryz.underlying40 hv
 obtain ⟨fuel,hf⟩:=h
 rw [show Tryz.prog.cellsOf 40=2 from by kernel_rfl] at hsz
 obtain ⟨l⟩:=cs
 match l,hsz with
 | [c0,c1],_=>
  obtain ⟨xs,n,_,hx,_,hxl,hg⟩:=DataW.trod_struct Tryz.underlying40 hf
  have g0:=fld hg 0 _ rfl 37 0 1 rfl rfl cTabsT;have g1:=fld hg 1 _ rfl 38 1 1 rfl rfl cIntsT
  match xs,hxl with
  | [y0,y1],_=>
   obtain ⟨A,cap,l,e0,r0,n0,b0⟩:=open_tabsB g0
   obtain ⟨Ag,cg,gens,e1,r1,b1,n1⟩:=open_intsB g1
   simp [Value.cells] at e0 e1
   subst e0 e1
   refine ⟨l,A,cap,gens,Ag,cg,rfl,⟨r0,r1,n0,n1⟩,?_⟩
   intro hd
   injection hx with hx1 hx2
   rw [hx1] at hd
   simp only [List.map_cons,List.map_nil,Rows.uptoBulk,Rows.uptoBulkAll] at hd
   have hs:(l.map tabN).sum≤1048576:=by omega
   have hone:l.length≤(l.map tabN).sum:=by
    rw [← sum_one l]
    exact sum_le (fun a _=>by unfold tabN;omega)
   have hbs:(l.map fun t=>t.bs.length).sum≤(l.map tabN).sum:=sum_le (fun a _=>by unfold tabN;omega)
   refine ⟨by omega,?_,by omega,by omega⟩
   intro t ht
   have h1:tabN t≤1048576:=Nat.le_trans (sum_mem ht) hs
   unfold tabN at h1
   have h2:t.cols.length≤(t.cols.map colN).sum:=by
    rw [← sum_one t.cols]
    exact sum_le (fun a _=>by unfold colN;omega)
   refine ⟨by omega,by omega,?_⟩
   intro c hc
   have h3:c.zs.length+1≤(t.cols.map colN).sum:=sum_mem (μ:=colN) hc
   omega
end
end Go.Proofs.YtefdblaolmckmabGreat
