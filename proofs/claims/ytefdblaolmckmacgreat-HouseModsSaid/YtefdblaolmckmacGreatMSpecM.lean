/- Lemmas of the proof. -/
import Derived.Test.YtefdblaolmckmacGreatMBSpecIToSpecL
import Derived.Test.YtefdblaolmckmacGreatMBBatMToPick
set_option linter.unusedVariables false
set_option linter.unusedSimpArgs false
set_option maxRecDepth 100000
set_option maxHeartbeats 12800000
namespace Go.Proofs.YtefdblaolmckmacGreat
open Brood
def writesOf (l:List BMod):Int:=l.foldl (fun a m=>orS a m.writes) 0
def lifeOf (l:List BMod):Bool:=l.foldl (fun a m=>a || m.life) false
theorem writes_fold:∀ (l:List BMod) (a k:Int),hasB (l.foldl (fun a m=>orS a m.writes) a) k=false→hasB a k=false∧∀ m∈l,hasB m.writes k=false
 | [],a,k,h=>⟨h,fun m hm=>by cases hm⟩
 | x::l,a,k,h=>by
  obtain ⟨h1,h2⟩:=writes_fold l (orS a x.writes) k h
  rw [orS_has,Bool.or_eq_false_iff] at h1
  refine ⟨h1.1,fun m hm=>?_⟩
  rcases List.mem_cons.1 hm with rfl | hm
  ·exact h1.2
  ·exact h2 m hm
theorem life_fold:∀ (l:List BMod) (a:Bool),l.foldl (fun a m=>a || m.life) a=false→a=false∧∀ m∈l,m.life=false
 | [],a,h=>⟨h,fun m hm=>by cases hm⟩
 | x::l,a,h=>by
  obtain ⟨h1,h2⟩:=life_fold l (a || x.life) h
  rw [Bool.or_eq_false_iff] at h1
  refine ⟨h1.1,fun m hm=>?_⟩
  rcases List.mem_cons.1 hm with rfl | hm
  ·exact h1.2
  ·exact h2 m hm
theorem modAt_mem {l:List BMod} {k:Int} (h0:0≤k) (h:k<(l.length:Int)):modAt l k∈l:=by
 unfold modAt
 rw [List.getElem?_eq_getElem (by omega)]
 exact List.getElem_mem _
theorem needs_set (s:BSys) (h:(sysWrong s).1=0):0≤s.mod:=by
 unfold sysWrong at h
 by_cases h1:sysHead s=true
 ·unfold sysHead at h1
  simp only [Bool.and_eq_true,decide_eq_true_eq] at h1
  exact h1.1.1.1
 ·rw [if_neg h1] at h
  cases h
theorem tickL_mem {h:BHouse} {x:BSys} (hx:x∈tickL h):x∈h.syss:=by
 unfold tickL at hx
 obtain ⟨j,hj,rfl⟩:=List.mem_map.1 hx
 have hr:=(make_rows (ss:=h.syss)).lt j hj
 unfold sysAt
 rw [List.getElem?_eq_getElem hr]
 exact List.getElem_mem _
theorem may_writes {m:BMod} {s:BSys} (h:may m s=true) (k:Int) (hk:hasB m.writes k=false):hasB (needs s).writes k=false:=by
 unfold may at h
 simp only [Bool.and_eq_true] at h
 have h2:=h.1.2
 cases hh:hasB (needs s).writes k with
 | false=>rfl
 | true=>
  exfalso
  unfold subS at h2
  unfold hasB at hh hk
  simp only [Bool.and_eq_true,beq_iff_eq] at h2 hh
  rw [hh.1,Bool.true_and] at hk
  have e:=congrArg (fun n:Nat=>n.testBit k.toNat) h2
  simp only [Nat.testBit_and,hh.2,hk] at e
  cases e
theorem may_life {m:BMod} {s:BSys} (h:may m s=true) (hl:m.life=false):(needs s).life=false:=by
 unfold may at h
 rw [hl] at h
 simp only [Bool.and_eq_true,Bool.false_or,Bool.not_eq_true'] at h
 exact h.2
section
variable {mods:List BMod} {h:BHouse}
theorem tick_kept (H:HouseR mods h) {r q:BRow} (hr:r∈h.W.rows) (hq:rowOf r.idx r.gen (tickV h).1.W.rows=some q):Kept (writesOf mods) r q:=by
 unfold tickV at hq
 by_cases h1:(allM 0 h.W (tickL h)).2.1≠0
 ·rw [if_pos h1] at hq
  have e:rowOf r.idx r.gen h.W.rows=some q:=hq
  rw [(rowOf_some_iff H.W.rise).2 ⟨hr,rfl,rfl⟩] at e
  obtain rfl:=Option.some.inj e
  exact ⟨fun _ _ _=>⟨rfl,rfl⟩⟩
 ·rw [if_neg h1] at hq
  have h2:=allM_E (tickL h) 0 h.W
  have hq':rowOf r.idx r.gen (allM 0 h.W (tickL h)).1.rows=some q:=hq
  rw [h2.1] at hq'
  refine all_kept (tickL h) H.W (fun x hx k hk=>?_) (by rw [← h2.2];simpa using h1) hr hq'
  have hs:=H.sys x (tickL_mem hx)
  have hm:=modAt_mem (needs_set x hs.1) hs.2.1
  exact may_writes hs.2.2 k ((writes_fold mods 0 k hk).2 _ hm)
theorem tick_stay (H:HouseR mods h) (hl:lifeOf mods=false):(tickV h).1.W.rows.map beOf=h.W.rows.map beOf:=by
 unfold tickV
 by_cases h1:(allM 0 h.W (tickL h)).2.1≠0
 ·rw [if_pos h1]
 ·rw [if_neg h1]
  have h2:=allM_E (tickL h) 0 h.W
  show (allM 0 h.W (tickL h)).1.rows.map beOf=_
  rw [h2.1]
  refine all_beings (tickL h) H.W (fun x hx=>?_) (by rw [← h2.2];simpa using h1)
  have hs:=H.sys x (tickL_mem hx)
  have hm:=modAt_mem (needs_set x hs.1) hs.2.1
  exact may_life hs.2.2 ((life_fold mods false hl).2 _ hm)
theorem tick_found (H:HouseR mods h) (hl:lifeOf mods=false) {r:BRow} (hr:r∈h.W.rows):∃ q,rowOf r.idx r.gen (tickV h).1.W.rows=some q:=by
 have e:=tick_stay H hl
 have hb:beOf r∈(tickV h).1.W.rows.map beOf:=by rw [e];exact List.mem_map_of_mem hr
 obtain ⟨q,hq,hqe⟩:=List.mem_map.1 hb
 unfold beOf at hqe
 obtain ⟨e1,e2⟩:=Prod.mk.inj hqe
 exact ⟨q,(rowOf_some_iff (H.tick.W.rise)).2 ⟨hq,e1,e2⟩⟩
end
end Go.Proofs.YtefdblaolmckmacGreat
