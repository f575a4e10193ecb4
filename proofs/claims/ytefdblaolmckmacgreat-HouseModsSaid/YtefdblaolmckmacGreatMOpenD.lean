/- Lemmas of the proof. -/
import Derived.Test.YtefdblaolmckmacGreatMBRowToInv
import Derived.Test.YtefdblaolmckmacGreatMOpenM
import Derived.Test.YtefdblaolmckmacGreatMBConcatToHouD
set_option linter.unusedVariables false
set_option linter.unusedSimpArgs false
set_option maxRecDepth 100000
set_option maxHeartbeats 12800000
namespace Go.Proofs.YtefdblaolmckmacGreat
open Go.ChangeShapes Go.WideShapes Go.ChangeAt Go.RowKit Go.Deep
open Brood
section
variable {H:Type} {enc:TypeId×Value→H} {w:World} {base:Nat} {spare:Nat→Bool} {held:Bool}
theorem open_nil {t e:TypeId} {fuel:Nat} {cs:List Value} {x:DataW H×List MemPlace} (ht:Tryz.prog.underlying t=some (.slice e)) (h:DataW.trod enc Tryz.prog w base spare held fuel t cs=some x) {A:Option Addr} {len cap:Nat} (hcs:cs=[.slice A len cap]):A=none→cap=0:=by
 rcases open_slice ht h with ⟨rfl,_⟩ | ⟨a,len',cap',k,n,D,Pl,rfl,_⟩
 ·intro _
  injection hcs with hcs _
  injection hcs with _ _ h3
  exact h3.symm
 ·intro hA
  injection hcs with hcs _
  injection hcs with h1 _ _
  rw [hA] at h1
  cases h1
theorem cBeing':Tryz.prog.cellsOf 41=2:=by kernel_rfl
theorem cSys':Tryz.prog.cellsOf 51=4:=by kernel_rfl
theorem open_mod_cells {fuel:Nat} {cs:List Value} {x:DataW H×List MemPlace} (hlen:cs.length=3) (hf:DataW.trod enc Tryz.prog w base spare held fuel 55 cs=some x) :
  ∃ m:BMod,cs=modCells m:=by
 match cs,hlen with
 | [c0,c1,c2],_=>
  obtain ⟨xs,n,_,_,_,hxl,hg⟩:=DataW.trod_struct Tryz.underlying55 hf
  have g0:=fld hg 0 _ rfl 3 0 1 rfl rfl cInt;have g1:=fld hg 1 _ rfl 3 1 1 rfl rfl cInt;have g2:=fld hg 2 _ rfl 4 2 1 rfl rfl cBool
  match xs,hxl with
  | [y0,y1,y2],_=>
   obtain ⟨a,e0,_,_⟩:=DataW.trod_int Tryz.underlying3 g0
   obtain ⟨b,e1,_,_⟩:=DataW.trod_int Tryz.underlying3 g1
   obtain ⟨c,e2,_⟩:=DataW.trod_bool Tryz.underlying4 g2
   simp at e0 e1 e2
   subst e0 e1 e2
   exact ⟨⟨a,b,c⟩,rfl⟩
theorem open_mods {r:Reach} {b0:Nat} {v:Value} {d:DataW H} {p:List MemPlace} (hok:Value.okWide Tryz.prog w r b0 22 v) (h:DataW.Trod enc Tryz.prog w base spare held 22 v d p) :
  ∃ (l:List BMod) (A:Option Addr) (c:Nat),v=.slice A l.length c∧l.length≤maxLen∧(A=none→c=0)∧RdM w w.heap.size A l:=by
 obtain ⟨fuel,hf⟩:=h
 obtain ⟨A,len,cap,l,css,hv,hl,hcl,h1,h2,hc4,hR,hrd⟩:=open_list (m:=3) (α:=BMod) ⟨0,0,false⟩ (fun c a=>c=modCells a) Tryz.underlying22 (by kernel_rfl) (by omega) (by
  intro n cs' y hlen hy
  exact open_mod_cells hlen hy) hf
 subst hl
 have hvv:v=.slice A l.length cap:=by
  simp only [Value.okWide,Tryz.underlying22,Cell.okWide] at hok
  cases v with
  | agg cells=>simp [Cell.ok,Tryz.underlying22] at hok
  | slice A' n' c'=>simpa [Value.cells] using hv
  | _=>simp [Value.cells] at hv
 refine ⟨l,A,cap,hvv,by omega,open_nil Tryz.underlying22 hf hv,?_⟩
 unfold RdM
 rw [← flat_of hcl (fun i c a h1 h2=>hR i c a h1 h2)];exact hrd
theorem open_sys_cells' {fuel:Nat} {cs:List Value} {x:DataW H×List MemPlace} (hlen:cs.length=4) (hf:DataW.trod enc Tryz.prog w base spare held fuel 51 cs=some x) :
  ∃ y:SysIn,cs=sysCells y∧(y.A=none→y.c=0)∧RdAB w w.heap.size y.A y.s.acts:=by
 match cs,hlen with
 | [c0,c1,c2,c3],_=>
  obtain ⟨xs,n,_,_,_,hxl,hg⟩:=DataW.trod_struct Tryz.underlying51 hf
  have g0:=fld hg 0 _ rfl 3 0 1 rfl rfl cInt;have g1:=fld hg 1 _ rfl 48 1 2 rfl rfl cFilter;have g2:=fld hg 2 _ rfl 49 3 1 rfl rfl cActs
  match xs,hxl with
  | [y0,y1,y2],_=>
   obtain ⟨mod,e0,_,_⟩:=DataW.trod_int Tryz.underlying3 g0
   obtain ⟨xs',n',_,_,_,hxl',hg'⟩:=DataW.trod_struct Tryz.underlying48 g1
   have k0:=fld hg' 0 _ rfl 3 0 1 rfl rfl cInt;have k1:=fld hg' 1 _ rfl 3 1 1 rfl rfl cInt
   match xs',hxl' with
   | [z0,z1],_=>
    obtain ⟨all,e1,_,_⟩:=DataW.trod_int Tryz.underlying3 k0
    obtain ⟨non,e2,_,_⟩:=DataW.trod_int Tryz.underlying3 k1
    obtain ⟨A,cap,acts,e3,h1,h2,hrd⟩:=open_acts g2
    have hnil:=open_nil Tryz.underlying49 g2 e3
    simp at e0 e1 e2 e3
    subst e0 e1 e2 e3
    exact ⟨⟨⟨mod,all,non,acts⟩,A,cap⟩,rfl,hnil,hrd⟩
theorem open_do_cells {fuel:Nat} {cs:List Value} {x:DataW H×List MemPlace} (hlen:cs.length=12) (hf:DataW.trod enc Tryz.prog w base spare held fuel 58 cs=some x) :
  ∃ y:DIn,cs=doCells y∧(y.A=none→y.c=0)∧RdAB w w.heap.size y.A y.d.sys.acts:=by
 match cs,hlen with
 | [c0,c1,c2,c3,c4,c5,c6,c7,c8,c9,c10,c11],_=>
  obtain ⟨xs,n,_,_,_,hxl,hg⟩:=DataW.trod_struct Tryz.underlying58 hf
  have g0:=fld hg 0 _ rfl 3 0 1 rfl rfl cInt;have g1:=fld hg 1 _ rfl 3 1 1 rfl rfl cInt;have g2:=fld hg 2 _ rfl 3 2 1 rfl rfl cInt;have g3:=fld hg 3 _ rfl 3 3 1 rfl rfl cInt
  have g4:=fld hg 4 _ rfl 41 4 2 rfl rfl cBeing';have g5:=fld hg 5 _ rfl 51 6 4 rfl rfl cSys';have g6:=fld hg 6 _ rfl 48 10 2 rfl rfl cFilter
  match xs,hxl with
  | [y0,y1,y2,y3,y4,y5,y6],_=>
   obtain ⟨a0,e0,_,_⟩:=DataW.trod_int Tryz.underlying3 g0
   obtain ⟨a1,e1,_,_⟩:=DataW.trod_int Tryz.underlying3 g1
   obtain ⟨a2,e2,_,_⟩:=DataW.trod_int Tryz.underlying3 g2
   obtain ⟨a3,e3,_,_⟩:=DataW.trod_int Tryz.underlying3 g3
   obtain ⟨xb,nb,_,_,_,hxb,hgb⟩:=DataW.trod_struct Tryz.underlying41 g4
   have b0:=fld hgb 0 _ rfl 3 0 1 rfl rfl cInt;have b1:=fld hgb 1 _ rfl 3 1 1 rfl rfl cInt
   obtain ⟨ys,e5,hnil,hrd⟩:=open_sys_cells' (by rfl) g5
   obtain ⟨xf,nf,_,_,_,hxf,hgf⟩:=DataW.trod_struct Tryz.underlying48 g6
   have f0:=fld hgf 0 _ rfl 3 0 1 rfl rfl cInt;have f1:=fld hgf 1 _ rfl 3 1 1 rfl rfl cInt
   match xb,hxb,xf,hxf with
   | [z0,z1],_,[u0,u1],_=>
    obtain ⟨i,eb0,_,_⟩:=DataW.trod_int Tryz.underlying3 b0
    obtain ⟨g,eb1,_,_⟩:=DataW.trod_int Tryz.underlying3 b1
    obtain ⟨fa,ef0,_,_⟩:=DataW.trod_int Tryz.underlying3 f0
    obtain ⟨fn,ef1,_,_⟩:=DataW.trod_int Tryz.underlying3 f1
    simp [sysCells] at e0 e1 e2 e3 e5 eb0 eb1 ef0 ef1
    obtain ⟨e50,e51,e52,e53⟩:=e5
    subst e0 e1 e2 e3 e50 e51 e52 e53 eb0 eb1 ef0 ef1
    exact ⟨⟨⟨a0,a1,a2,a3,i,g,ys.s,fa,fn⟩,ys.A,ys.c⟩,rfl,hnil,hrd⟩
theorem open_dos {r:Reach} {b0:Nat} {v:Value} {d:DataW H} {p:List MemPlace} (hok:Value.okWide Tryz.prog w r b0 23 v) (h:DataW.Trod enc Tryz.prog w base spare held 23 v d p) :
  ∃ (l:List DIn) (A:Option Addr) (c:Nat),v=.slice A l.length c∧l.length≤maxLen∧((∀ x∈l,x.A=none→x.c=0)∧(A=none→c=0))∧RdD w w.heap.size A l:=by
 obtain ⟨fuel,hf⟩:=h
 obtain ⟨A,len,cap,l,css,hv,hl,hcl,h1,h2,hc4,hR,hrd⟩:=open_list (m:=12) (α:=DIn) ⟨⟨0,0,0,0,0,0,⟨0,0,0,[]⟩,0,0⟩,none,0⟩ (fun c a=>c=doCells a∧(a.A=none→a.c=0)∧RdAB w w.heap.size a.A a.d.sys.acts) Tryz.underlying23 (by kernel_rfl) (by omega) (by
  intro n cs' y hlen hy
  exact open_do_cells hlen hy) hf
 subst hl
 have hvv:v=.slice A l.length cap:=by
  simp only [Value.okWide,Tryz.underlying23,Cell.okWide] at hok
  cases v with
  | agg cells=>simp [Cell.ok,Tryz.underlying23] at hok
  | slice A' n' c'=>simpa [Value.cells] using hv
  | _=>simp [Value.cells] at hv
 refine ⟨l,A,cap,hvv,by omega,⟨?_,open_nil Tryz.underlying23 hf hv⟩,?_,?_⟩
 ·intro x hx
  obtain ⟨i,hi⟩:=List.getElem?_of_mem hx
  have hlt:i<css.length:=by rw [hcl];exact (List.getElem?_eq_some_iff.1 hi).1
  exact (hR i css[i] x (List.getElem?_eq_getElem hlt) hi).2.1
 ·rw [← flat_of hcl (fun i c a h1 h2=>(hR i c a h1 h2).1)];exact hrd
 ·intro x hx
  obtain ⟨i,hi⟩:=List.getElem?_of_mem hx
  have hlt:i<css.length:=by rw [hcl];exact (List.getElem?_eq_some_iff.1 hi).1
  exact (hR i css[i] x (List.getElem?_eq_getElem hlt) hi).2.2
end
end Go.Proofs.YtefdblaolmckmacGreat
