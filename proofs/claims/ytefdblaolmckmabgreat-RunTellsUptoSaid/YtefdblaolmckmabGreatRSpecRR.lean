/- Lemmas of the proof. -/
import Derived.Test.YtefdblaolmckmabGreatRBRef2MToRunG
set_option linter.unusedVariables false
set_option linter.unusedSimpArgs false
set_option maxRecDepth 100000
set_option maxHeartbeats 12800000
namespace Go.Proofs.YtefdblaolmckmabGreat
open Brood
def There (W:BWorld) (i g:Int):Prop:=∃ r,rowOf i g W.rows=some r
theorem step_ok {W:BWorld} {i g:Int} {a:BAct} (hw:RightB W) (h:There W i g) (ha:okAct a) (h7:a.kind≠7):(stepV W i g a).err=0:=by
 obtain ⟨r,hr⟩:=h
 by_cases h6:a.kind=6
 ·unfold stepV
  rw [if_pos h6]
  obtain ⟨h1,h2,h3⟩:=(rowOf_some_iff hw.rise).1 hr
  exact kill_mk hw h1 h2 h3
 ·rw [step_upd hw hr ha h6 h7]
theorem step_stay {W:BWorld} {i g:Int} {a:BAct} (hw:RightB W) (he:(stepV W i g a).err=0) {i' g':Int} (hne:a.kind≠6∨¬ (i'=i∧g'=g)) (h:There W i' g'):There (bw (stepV W i g a)) i' g':=by
 obtain ⟨r,hr⟩:=h
 rcases step_cases he with ⟨h6,H⟩ | ⟨_,E,H,e1,e2⟩ | ⟨h6,_,fr,k,q,hf,H⟩ | ⟨_,e1,e2⟩
 ·rcases hne with hne | hne
  ·exact absurd h6 hne
  ·exact ⟨r,(H.rest hne).trans hr⟩
 ·refine ⟨r,?_⟩
  show rowOf i' g' (stepV W i g a).rows=some r
  rw [e1]
  exact H.stay hr
 ·have hok:FnOk fr:=fr_ok hf
  by_cases hb:i'=i∧g'=g
  ·obtain ⟨rfl,rfl⟩:=hb
   exact ⟨_,H.new_ hok⟩
  ·exact ⟨r,(H.rest hok hb).trans hr⟩
 ·refine ⟨r,?_⟩
  show rowOf i' g' (stepV W i g a).rows=some r
  rw [e1]
  exact hr
theorem step_put {W:BWorld} {i g:Int} {a:BAct} (hw:RightB W) {r:BRow} (h:rowOf i g W.rows=some r) (ha:okAct a) (h5:a.kind≠5) (h6:a.kind≠6) (h7:a.kind≠7) :
  stepV W i g a=putV W.rows W.gens i g a.part (clip (amountR a r)):=by
 have hre:=hw.row r ((rowOf_some_iff hw.rise).1 h).1
 unfold stepV
 rw [if_neg h6,if_neg h7,if_neg h5,amount_row h hre ha h6 h7]
theorem step_drop {W:BWorld} {i g:Int} {a:BAct} {r:BRow} (h:rowOf i g W.rows=some r) (h5:a.kind=5) :
  stepV W i g a=if hasB r.has a.part then dropV W.rows W.gens i g a.part else ⟨W.rows,W.gens,0⟩:=by
 unfold stepV
 rw [if_neg (by omega),if_neg (by omega),if_pos h5,getP_some a.part h]
 cases hasB r.has a.part<;>rfl
theorem step_kill {W:BWorld} {i g:Int} {a:BAct} (h6:a.kind=6):stepV W i g a=killV W.rows W.gens i g:=by
 unfold stepV
 rw [if_pos h6]
theorem step_spawn {W:BWorld} {i g:Int} {a:BAct} (h7:a.kind=7):stepV W i g a=spawnC W.rows W.gens a.part a.n:=by
 unfold stepV
 rw [if_neg (by omega),if_pos h7]
theorem oneM_eq {W:BWorld} {i g:Int} {a:BAct} (he:(stepV W i g a).err=0):oneM (W,0) i g a=(bw (stepV W i g a),0):=by
 unfold oneM keepE
 rw [if_pos he]
 rfl
theorem oneM_bad {W:BWorld} {i g:Int} {a:BAct} (he:(stepV W i g a).err≠0):oneM (W,0) i g a=(W,(stepV W i g a).err):=by
 unfold oneM keepE
 rw [if_neg he]
theorem asked_there {all non:Int} {W:BWorld} (hw:RightB W):∀ b∈matchV all non W.rows,There W b.idx b.gen:=fun b hb=>
 ⟨b,(rowOf_some_iff hw.rise).2 ⟨(asked_iff.1 hb).1,rfl,rfl⟩⟩
theorem asked_apart {all non:Int} {W:BWorld} (hw:RightB W):(matchV all non W.rows).Pairwise (fun a b=>¬ (b.idx=a.idx∧b.gen=a.gen)):=by
 have h1:W.rows.Pairwise (fun a b=>¬ (b.idx=a.idx∧b.gen=a.gen)):=by
  rw [List.pairwise_iff_getElem]
  intro j k hj hk hjk h
  have:=hw.rise j k hj hk hjk
  omega
 exact h1.sublist List.filter_sublist
end Go.Proofs.YtefdblaolmckmabGreat
