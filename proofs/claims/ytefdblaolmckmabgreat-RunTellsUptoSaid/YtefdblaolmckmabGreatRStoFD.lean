/- Lemmas of the proof. -/
import Derived.Test.YtefdblaolmckmabGreatRStoI
set_option linter.unusedVariables false
set_option linter.unusedSimpArgs false
set_option maxRecDepth 100000
set_option maxHeartbeats 12800000
namespace Go.Proofs.YtefdblaolmckmabGreat
open Go.RowKit
open Brood
theorem flat_len_G {rows:List BRow} {gens:List Int} (h:RightW rows gens) {k:Nat} (hk:k≤rows.length):(ofG (rows.take k)).length≤60∧∀ g∈ofG (rows.take k),g.rs.length≤60:=by
 have hr:=ofG_rep h.rise h.row k hk
 have hl:=hr.perm.length_eq
 have h60:=h.rows_le;have hg:=h.len
 rw [List.length_take] at hl
 have key:∀ G:List Grp,(∀ g∈G,g.rs≠[])→G.length≤(flatG G).length∧∀ g∈G,g.rs.length≤(flatG G).length:=by
  intro G
  induction G with
  | nil=>intro _;simp [flatG]
  | cons a l ih=>
   intro hf
   have ⟨h1,h2⟩:=ih (fun g hg=>hf g (by simp [hg]))
   have ha:=List.length_pos_iff.2 (hf a (by simp))
   have e:(flatG (a::l)).length=a.rs.length+(flatG l).length:=by simp [flatG]
   refine ⟨by rw [e,List.length_cons];omega,fun g hg=>?_⟩
   rcases List.mem_cons.1 hg with rfl | hg
   ·omega
   ·have:=h2 g hg;omega
 have ⟨h1,h2⟩:=key _ hr.ok.full
 exact ⟨by omega,fun g hg=>by have:=h2 g hg;omega⟩
theorem Hp.isSt {w0 w:World} {E:List Ent} {A:Option Addr} {c:Nat} {l:List TabIn} {Ag:Option Addr} {cg:Nat} {gens:List Int} (h:Hp w0 w E) (hg:Ent.own (.slice Ag gens.length cg) 3 1 gens.length (ints gens)∈E) (hs:∀ p∈tabsE A c l,p∈E):IsSt w (.agg #[.slice A l.length c,.slice Ag gens.length cg]) (l.map tabOf) gens:=by
 obtain ⟨h1,h2⟩:=h.rdT hs
 have ho:w.ownsRow w0.heap.size 3 1 (.slice Ag gens.length cg) gens.length (ints gens):=h.all _ hg
 exact ⟨⟨A,c,l,Ag,cg,gens⟩,rfl,⟨h1,Rd.of_own ho,h2,fun e=>by
  have:=holds_nil ho e
  exact ⟨this.1,List.eq_nil_of_length_eq_zero this.2⟩⟩,rfl,rfl⟩
def GotSt (w w':World) (v:Value) (T:List BTab) (gens:List Int):Prop:=∃ A c l Ag cg,v=.agg #[.slice A l.length c,.slice Ag gens.length cg]∧l.map tabOf=T∧Hp w w' (.own (.slice Ag gens.length cg) 3 1 gens.length (ints gens)::tabsE A c l)
theorem GotSt.is {w w':World} {v:Value} {T:List BTab} {gens:List Int} (h:GotSt w w' v T gens):IsSt w' v T gens:=by
 obtain ⟨A,c,l,Ag,cg,rfl,rfl,h⟩:=h
 exact h.isSt (.head _) (fun p hp=>.tail _ hp)
theorem GotSt.bel {w w':World} {v:Value} {T:List BTab} {gens:List Int} (h:GotSt w w' v T gens):Below w.heap.size w w':=by
 obtain ⟨A,c,l,Ag,cg,rfl,rfl,h⟩:=h
 exact h.bel
theorem GotSt.zero {w w':World} (h:Below w.heap.size w w'):GotSt w w' (.agg #[.slice none 0 0,.slice none 0 0]) [] []:=by
 have h0:Hp w w' []:=⟨h,by simp,by simp⟩
 exact ⟨none,0,[],none,0,rfl,rfl,(h0.nil_ 3 1).nil_ 100 3⟩
end Go.Proofs.YtefdblaolmckmabGreat
