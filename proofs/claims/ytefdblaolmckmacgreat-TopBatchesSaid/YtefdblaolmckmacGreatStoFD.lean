/- A store that a call has made. -/
import Derived.Test.YtefdblaolmckmacGreatStoI
set_option linter.unusedVariables false
set_option linter.unusedSimpArgs false
namespace Go.Proofs.YtefdblaolmckmacGreat
open Go.RowKit
open Brood
theorem flat_len_G {rows:List BRow} {gens:List Int} (h:RightW rows gens) {k:Nat} (hk:k≤rows.length):(ofG (rows.take k)).length≤60∧∀ g∈ofG (rows.take k),g.rs.length≤60:=by
 have hr:=ofG_rep h.rise h.row k hk
 have hl:=hr.perm.length_eq
 have h60:=h.rows_le;have hg:=h.len
 rw [List.length_take] at hl
 have key:∀ G:List Grp,(∀ g∈G,g.rs≠[])→G.length≤(flatG G).length∧∀ g∈G,g.rs.length≤(flatG G).length:=by
  intro G
  induction G with
  | nil=>intro _;simp [flatG]
  | cons a l ih=>
   intro hf
   have ⟨h1,h2⟩:=ih (fun g hg=>hf g (by simp [hg]))
   have ha:=List.length_pos_iff.2 (hf a (by simp))
   have e:(flatG (a::l)).length=a.rs.length+(flatG l).length:=by simp [flatG]
   refine ⟨by rw [e,List.length_cons];omega,fun g hg=>?_⟩
   rcases List.mem_cons.1 hg with rfl | hg
   ·omega
   ·have:=h2 g hg;omega
 have ⟨h1,h2⟩:=key _ hr.ok.full
 exact ⟨by omega,fun g hg=>by have:=h2 g hg;omega⟩
def GotSt (w w':World) (v:Value) (T:List BTab) (gens:List Int):Prop:=∃ A c l Ag cg,v=.agg #[.slice A l.length c,.slice Ag gens.length cg]∧l.map tabOf=T∧Hp w w' (.own (.slice Ag gens.length cg) 3 1 gens.length (ints gens)::tabsE A c l)
theorem GotSt.zero {w w':World} (h:Below w.heap.size w w'):GotSt w w' (.agg #[.slice none 0 0,.slice none 0 0]) [] []:=by
 have h0:Hp w w' []:=⟨h,by simp,by simp⟩
 exact ⟨none,0,[],none,0,rfl,rfl,(h0.nil_ 3 1).nil_ 102 3⟩
end Go.Proofs.YtefdblaolmckmacGreat
