/- Lemmas of the proof. -/
import Derived.Test.YtefdblaolmckmacGreatHBSpecIToSpecL
set_option linter.unusedVariables false
set_option linter.unusedSimpArgs false
set_option maxRecDepth 100000
set_option maxHeartbeats 12800000
namespace Go.Proofs.YtefdblaolmckmacGreat
open Brood
theorem came_take:∀ (l:List BDo) (a:List BAns) (k:Nat) (hl:k<l.length) (ha:k<a.length),
  came (l.take (k+1)) (a.take (k+1))=came (l.take k) (a.take k)++(if l[k].kind=1∧a[k].err=0 then [(a[k].i,a[k].g)] else [])
 | [],a,k,hl,ha=>by cases hl
 | d::l,[],k,hl,ha=>by cases ha
 | d::l,x::a,0,hl,ha=>by
  simp only [List.take_succ_cons,List.take_zero,came,List.getElem_cons_zero]
  by_cases h:d.kind=1∧x.err=0
  ·rw [if_pos h];rfl
  ·rw [if_neg h];rfl
 | d::l,x::a,k+1,hl,ha=>by
  have ih:=came_take l a k (by simpa using hl) (by simpa using ha)
  simp only [List.take_succ_cons,came,List.getElem_cons_succ] at ih ⊢
  by_cases h:d.kind=1∧x.err=0
  ·rw [if_pos h,if_pos h,ih];rfl
  ·rw [if_neg h,if_neg h,ih]
theorem came_pre:∀ (l:List BDo) (a:List BAns) (k:Nat),(came (l.take k) (a.take k)).Sublist (came l a)
 | [],a,k=>by simp [came]
 | d::l,[],k=>by
  cases k<;>simp [came]
 | d::l,x::a,0=>by simp [came]
 | d::l,x::a,k+1=>by
  have ih:=came_pre l a k
  simp only [List.take_succ_cons,came]
  by_cases h:d.kind=1∧x.err=0
  ·rw [if_pos h,if_pos h];exact ih.cons_cons _
  ·rw [if_neg h,if_neg h];exact ih
theorem came_new {l:List BDo} {a:List BAns} (hn:(came l a).Nodup) {k:Nat} (hl:k<l.length) (ha:k<a.length) (h1:l[k].kind=1) (h2:a[k].err=0) :
  (a[k].i,a[k].g) ∉ came (l.take k) (a.take k):=by
 have h:=(came_pre l a (k+1)).nodup hn
 rw [came_take l a k hl ha,if_pos ⟨h1,h2⟩] at h
 intro hm
 have:=(List.nodup_append.1 h).2.2 _ hm _ (List.mem_singleton.2 rfl)
 exact this rfl
theorem SpawnOk.small {rows:List BRow} {gens:List Int} {has n:Int} {E:Spawned} (H:SpawnOk rows gens has n E):(0≤E.i∧E.i≤1000)∧(0≤E.g∧E.g≤1000):=by
 obtain ⟨m,hm,hml⟩:=H.pos
 have hl:=H.was.len
 refine ⟨by omega,?_⟩
 have hg:=H.gen
 rcases Nat.lt_or_ge m gens.length with h1 | h1
 ·have e:=H.gens_
  have hlen:=H.is.len
  have hmem:E.g∈E.gens:=by
   have e2:E.gens.getD m 0=E.g:=by
    rw [e,hm,gp_get gens hml,if_pos rfl]
   have hlt:m<E.gens.length:=by
    rcases Nat.lt_or_ge m E.gens.length with h | h
    ·exact h
    ·rw [getD_ge h] at e2
     have:=hg.1 (by omega)
     rw [hm,Int.toNat_natCast,getD_get h1] at this
     have hw:=H.was
     have:=hw.gen _ (List.getElem_mem h1)
     omega
   rw [← e2,getD_get hlt]
   exact List.getElem_mem _
  have:=H.is.gen _ hmem
  omega
 ·have:=hg.2 (by omega)
  omega
theorem came_small {mods:List BMod}:∀ (l:List BDo) (h:BHouse),HouseR mods h→∀ p∈came l (doAll h l).2,(0≤p.1∧p.1≤1000)∧(0≤p.2∧p.2≤1000)
 | [],h,H,p,hp=>by cases hp
 | d::l,h,H,p,hp=>by
  have hp':p∈came (d::l) ((doV h d).2::(doAll (doV h d).1 l).2):=hp
  rw [came] at hp'
  split at hp'
  ·rename_i hc
   rcases List.mem_cons.1 hp' with rfl | hp'
   ·obtain ⟨hk,he⟩:=hc
    unfold doV at he ⊢
    rw [if_pos hk] at he ⊢
    have he':(spawnV h.W.rows h.W.gens d.has d.n).err=0:=he
    exact (spawn_ok he').small
   ·exact came_small l _ (H.do_ d) p hp'
  ·exact came_small l _ (H.do_ d) p hp'
theorem came_at {l:List BDo} {a:List BAns} {k:Nat} (hl:k<l.length) (ha:k<a.length) (h1:l[k].kind=1) (h2:a[k].err=0):(a[k].i,a[k].g)∈came l a:=by
 refine (came_pre l a (k+1)).subset ?_
 rw [came_take l a k hl ha,if_pos ⟨h1,h2⟩]
 simp
theorem came_len:∀ (l:List BDo) (a:List BAns),(came l a).length≤l.length
 | [],a=>by simp [came]
 | d::l,[]=>by simp [came]
 | d::l,x::a=>by
  have ih:=came_len l a
  simp only [came]
  split
  ·simp only [List.length_cons];omega
  ·simp only [List.length_cons];omega
end Go.Proofs.YtefdblaolmckmacGreat
