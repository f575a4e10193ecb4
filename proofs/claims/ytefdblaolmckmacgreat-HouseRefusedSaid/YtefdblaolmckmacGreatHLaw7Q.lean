/- Lemmas of the proof. -/
import Derived.Test.YtefdblaolmckmacGreatHBSpecIToSpecL
import Derived.Test.YtefdblaolmckmacGreatHRef7S
import Derived.Test.YtefdblaolmckmacGreatHMayW
import Derived.Test.YtefdblaolmckmacGreatHRuleA
import Derived.Test.YtefdblaolmckmacGreatHBRef2MToRunG
set_option linter.unusedVariables false
set_option linter.unusedSimpArgs false
set_option maxRecDepth 100000
set_option maxHeartbeats 12800000
namespace Go.Proofs.YtefdblaolmckmacGreat
open Go.RowKit
open Brood
theorem hoR_sys {w0 w:World} {E:List Ent} (H:Hp w0 w E) {s:HIn} (hs:∀ p∈hoK s,p∈E):RdS w w.heap.size s.As s.sys:=
 ⟨Rd.of_own (H.all (sysE s) (hs _ (by unfold hoK;simp))),fun x hx=>Rd.of_own (H.all (actE x) (hs _ (by
  unfold hoK
  exact List.mem_cons_of_mem _ (List.mem_cons_of_mem _ (List.mem_append_right _ (List.mem_map.2 ⟨x,hx,rfl⟩))))))⟩
theorem hoR_mod {w0 w:World} {E:List Ent} (H:Hp w0 w E) {s:HIn} (hs:∀ p∈hoK s,p∈E):RdM w w.heap.size s.Am s.mods:=
 Rd.of_own (H.all (modE s) (hs _ (by unfold hoK;simp)))
theorem his_nil {s:HIn} (h:HIs s ⟨[],[],⟨[],[]⟩⟩):s.l=[]∧s.gens=[]∧s.mods=[]∧s.sys=[]:=by
 have h1:=h.tabs
 have h2:=h.sys
 refine ⟨?_,h.gens,h.mods,?_⟩
 ·have e:tabsW ([]:List BRow)=[]:=by rfl
  dsimp only at h1
  rw [e] at h1
  exact List.map_eq_nil_iff.1 h1
 ·exact List.map_eq_nil_iff.1 h2
theorem st_nil (w:World):RdSt w w.heap.size ⟨none,0,[],none,0,[]⟩:=by
 have h0:=zero_ents (Hp.start w)
 exact hoK_st (s:=sZero) h0 (fun p hp=>List.mem_cons_of_mem _ (List.mem_append_left _ hp))
theorem right_facts (mods:List BMod) (l:List BDo) (h:(playV mods l).f.1=0):HouseR mods (playV mods l).h:=play_right h
theorem sys_mod {mods:List BMod} {x:BSys} (h:(sysWrong x).1=0∧x.mod<(mods.length:Int)∧may (modAt mods x.mod) x=true):∃ (M:Nat) (hM:M<mods.length),x.mod=(M:Int)∧may mods[M] x=true∧Right x:=by
 obtain ⟨h1,h2,h3⟩:=h
 have h0:0≤x.mod:=by
  have h4:=h1
  unfold sysWrong at h4
  by_cases h5:sysHead x=true
  ·unfold sysHead at h5
   simp only [Bool.and_eq_true,decide_eq_true_eq] at h5
   exact h5.1.1.1
  ·rw [if_neg h5] at h4
   cases h4
 refine ⟨x.mod.toNat,by omega,by omega,?_,right_of h1⟩
 unfold modAt at h3
 rw [List.getElem?_eq_getElem (show x.mod.toNat<mods.length by omega)] at h3
 exact h3
end Go.Proofs.YtefdblaolmckmacGreat
