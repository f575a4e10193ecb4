/- Lemmas of the proof. -/
import Derived.Test.YtefdblaolmckmabGreatRBRunA7ToRunR
import Derived.Test.YtefdblaolmckmabGreatRRuleA
import Derived.Test.YtefdblaolmckmabGreatRBRowToInv
import Derived.Test.YtefdblaolmckmabGreatRBSpecOToSpecR
set_option linter.unusedVariables false
set_option linter.unusedSimpArgs false
set_option maxRecDepth 100000
set_option maxHeartbeats 12800000
namespace Go.Proofs.YtefdblaolmckmabGreat
open Go.RowKit
open Brood
open Go.ChangeShapes Go.WideShapes Go.ChangeAt Go.RowKit Go.Deep
open Brood
section
variable {H:Type} {enc:TypeId×Value→H} {w:World} {base:Nat} {spare:Nat→Bool} {held:Bool}
theorem open_sys_cells {fuel:Nat} {cs:List Value} {x:DataW H×List MemPlace} (hlen:cs.length=4) (hf:DataW.trod enc Tryz.prog w base spare held fuel 29 cs=some x) :
  ∃ y:SysIn,cs=sysCells y∧RdAB w w.heap.size y.A y.s.acts:=by
 match cs,hlen with
 | [c0,c1,c2,c3],_=>
  obtain ⟨xs,n,_,_,_,hxl,hg⟩:=DataW.trod_struct Tryz.underlying29 hf
  have g0:=fld hg 0 _ rfl 3 0 1 rfl rfl cInt;have g1:=fld hg 1 _ rfl 26 1 2 rfl rfl cFilter;have g2:=fld hg 2 _ rfl 27 3 1 rfl rfl cActs
  match xs,hxl with
  | [y0,y1,y2],_=>
   obtain ⟨mod,e0,_,_⟩:=DataW.trod_int Tryz.underlying3 g0
   obtain ⟨xs',n',_,_,_,hxl',hg'⟩:=DataW.trod_struct Tryz.underlying26 g1
   have k0:=fld hg' 0 _ rfl 3 0 1 rfl rfl cInt;have k1:=fld hg' 1 _ rfl 3 1 1 rfl rfl cInt
   match xs',hxl' with
   | [z0,z1],_=>
    obtain ⟨all,e1,_,_⟩:=DataW.trod_int Tryz.underlying3 k0
    obtain ⟨non,e2,_,_⟩:=DataW.trod_int Tryz.underlying3 k1
    obtain ⟨A,cap,acts,e3,h1,h2,hrd⟩:=open_acts g2
    simp at e0 e1 e2 e3
    subst e0 e1 e2 e3
    exact ⟨⟨⟨mod,all,non,acts⟩,A,cap⟩,rfl,hrd⟩
end
open Go.ChangeShapes Go.WideShapes Go.ChangeAt Go.RowKit Go.Deep
open Brood
section
variable {H:Type} {enc:TypeId×Value→H} {w:World} {base:Nat} {spare:Nat→Bool} {held:Bool}
theorem open_systemsL {r:Reach} {b0:Nat} {v:Value} {d:DataW H} {p:List MemPlace} (hok:Value.okWide Tryz.prog w r b0 42 v) (h:DataW.Trod enc Tryz.prog w base spare held 42 v d p) :
  ∃ (l:List SysIn) (A:Option Addr) (c:Nat),v=.slice A l.length c∧l.length≤maxLen∧RdS w w.heap.size A l:=by
 obtain ⟨fuel,hf⟩:=h
 obtain ⟨A,len,cap,l,css,hv,hl,hcl,h1,h2,hc4,hR,hrd⟩:=open_list (m:=4) (α:=SysIn) ⟨⟨0,0,0,[]⟩,none,0⟩ (fun c a=>c=sysCells a∧RdAB w w.heap.size a.A a.s.acts) Tryz.underlying42 (by kernel_rfl) (by omega) (by
  intro n cs' y hlen hy
  exact open_sys_cells hlen hy) hf
 subst hl
 have hvv:v=.slice A l.length cap:=by
  simp only [Value.okWide,Tryz.underlying42,Cell.okWide] at hok
  cases v with
  | agg cells=>simp [Cell.ok,Tryz.underlying42] at hok
  | slice A' n' c'=>simpa [Value.cells] using hv
  | _=>simp [Value.cells] at hv
 refine ⟨l,A,cap,hvv,by omega,?_,?_⟩
 ·rw [← flat_of hcl (fun i c a h1 h2=>(hR i c a h1 h2).1)];exact hrd
 ·intro x hx
  obtain ⟨i,hi⟩:=List.getElem?_of_mem hx
  have hlt:i<css.length:=by rw [hcl];exact (List.getElem?_eq_some_iff.1 hi).1
  exact (hR i css[i] x (List.getElem?_eq_getElem hlt) hi).2
end
end Go.Proofs.YtefdblaolmckmabGreat
