/- Lemmas of the proof. -/
import Derived.Test.YtefdblaolmckmacGreatMBInsIToMx
import Derived.Test.YtefdblaolmckmacGreatMBPlainAToHp
import Derived.Test.YtefdblaolmckmacGreatMBStoFToPlainM
set_option linter.unusedVariables false
set_option linter.unusedSimpArgs false
set_option maxRecDepth 100000
set_option maxHeartbeats 12800000
namespace Go.Proofs.YtefdblaolmckmacGreat
open Go.RowKit
section
variable {P:Program} {ops:Array Oper} {Q:Exit→Act→World→Prop}
end
open Go.RowKit
open Brood
def opL (b:Bool) (L:List Ent):List Ent:=if b then L else []
def L2 (P:List Ent) (t1 t2:TypeId) (z1 z2:List Value) (c1 c2 a1 a2 s1 s2:Bool) (g1 g2:Nat) (v1 v2:List Value) (C1 C2:List Ent):List Ent:=
 opL a1 [.box g1 t1 (if s1 then v1 else z1)]++(opL a2 [.box g2 t2 (if s2 then v2 else z2)]++(P++(opL c1 C1++opL c2 C2)))
structure J2s (wB w0:World) (P:List Ent) (t1 t2:TypeId) (z1 z2:List Value) (F1 F2:List Value→List Ent→Prop) (c1 c2 a1 a2 s1 s2:Bool) (y1 y2 x1 x2:Value) (w':World) (g1 g2:Nat) (v1 v2:List Value) (C1 C2:List Ent):Prop where
 p1:a1=true→x1=.pointer (some ⟨g1,0,none⟩)∧wB.heap.size≤g1
 p2:a2=true→x2=.pointer (some ⟨g2,0,none⟩)∧wB.heap.size≤g2
 k1:c1=true→y1=.agg v1.toArray∧F1 v1 C1
 k2:c2=true→y2=.agg v2.toArray∧F2 v2 C2
 far:Below wB.heap.size wB w'
 hp:Hp w0 w' (L2 P t1 t2 z1 z2 c1 c2 a1 a2 s1 s2 g1 g2 v1 v2 C1 C2)
def J2 (wB w0:World) (P:List Ent) (t1 t2:TypeId) (z1 z2:List Value) (F1 F2:List Value→List Ent→Prop) (c1 c2 a1 a2 s1 s2:Bool) (y1 y2 x1 x2:Value) (w':World):Prop:=
 ∃ g1 g2 v1 v2 C1 C2,J2s wB w0 P t1 t2 z1 z2 F1 F2 c1 c2 a1 a2 s1 s2 y1 y2 x1 x2 w' g1 g2 v1 v2 C1 C2
section
variable {wB w0 w' w4:World} {P:List Ent} {t1 t2:TypeId} {z1 z2:List Value} {F1 F2:List Value→List Ent→Prop} {c1 c2 a1 a2 s1 s2:Bool} {y1 y2 x1 x2:Value}
theorem J2.start (h:Hp w0 w' P) (hB:Below wB.heap.size wB w'):J2 wB w0 P t1 t2 z1 z2 F1 F2 false false false false false false y1 y2 x1 x2 w':=
 ⟨0,0,[],[],[],[],(fun h=>by cases h),(fun h=>by cases h),(fun h=>by cases h),(fun h=>by cases h),hB,by
  show Hp w0 w' (P++[])
  rw [List.append_nil];exact h⟩
theorem J2.below (h:J2 wB w0 P t1 t2 z1 z2 F1 F2 c1 c2 a1 a2 s1 s2 y1 y2 x1 x2 w'):Below wB.heap.size wB w':=by
 obtain ⟨_,_,_,_,_,_,h⟩:=h
 exact h.far
theorem J2.bel (h:J2 wB w0 P t1 t2 z1 z2 F1 F2 c1 c2 a1 a2 s1 s2 y1 y2 x1 x2 w'):Below w0.heap.size w0 w':=by
 obtain ⟨_,_,_,_,_,_,h⟩:=h
 exact h.hp.bel
theorem J2.hold (h:J2 wB w0 P t1 t2 z1 z2 F1 F2 c1 c2 a1 a2 s1 s2 y1 y2 x1 x2 w') {p:Ent} (hp:p∈P):p.holds w0.heap.size w':=by
 obtain ⟨_,_,_,_,_,_,h⟩:=h
 exact h.hp.all p (by unfold L2;simp [hp])
theorem J2.cell (h:J2 wB w0 P t1 t2 z1 z2 F1 F2 c1 c2 a1 a2 s1 s2 y1 y2 x1 x2 w') (k i:Nat) {g:Nat} {t:TypeId} {cs:List Value} {u:Value} (hk:P[k]?=some (.box g t cs)) (hi:cs[i]?=some u):w'.cell? ⟨g,i,none⟩=some u:=by
 rw [(h.hold (List.mem_of_getElem? hk)).2.cell i]
 simpa using hi
theorem J2.call1 (h:J2 wB w0 P t1 t2 z1 z2 F1 F2 c1 c2 a1 a2 s1 s2 y1 y2 x1 x2 w') (n1:c1=false) (m1:s1=false) {v:List Value} {C:List Ent} (hN:Hp w' w4 C) (hF:F1 v C):J2 wB w0 P t1 t2 z1 z2 F1 F2 true c2 a1 a2 s1 s2 (.agg v.toArray) y2 x1 x2 w4:=by
 obtain ⟨g1,g2,v1,v2,C1,C2,h⟩:=h
 subst n1 m1
 refine ⟨g1,g2,v,v2,C,C2,h.p1,h.p2,fun _=>⟨rfl,hF⟩,h.k2,h.far.trans (hN.bel.mono h.far.size),?_⟩
 have h1:=h.hp.join hN
 refine h1.perm ?_
 unfold L2 opL
 simp only [Bool.false_eq_true,if_false,if_true,List.nil_append,List.append_assoc]
 refine List.Perm.append_left _ (List.Perm.append_left _ (List.Perm.append_left _ ?_))
 exact List.perm_append_comm
theorem J2.call2 (h:J2 wB w0 P t1 t2 z1 z2 F1 F2 c1 c2 a1 a2 s1 s2 y1 y2 x1 x2 w') (n1:c2=false) (m1:s2=false) {v:List Value} {C:List Ent} (hN:Hp w' w4 C) (hF:F2 v C):J2 wB w0 P t1 t2 z1 z2 F1 F2 c1 true a1 a2 s1 s2 y1 (.agg v.toArray) x1 x2 w4:=by
 obtain ⟨g1,g2,v1,v2,C1,C2,h⟩:=h
 subst n1 m1
 refine ⟨g1,g2,v1,v,C1,C,h.p1,h.p2,h.k1,fun _=>⟨rfl,hF⟩,h.far.trans (hN.bel.mono h.far.size),?_⟩
 have h1:=h.hp.join hN
 unfold L2 opL at h1 ⊢
 simpa only [Bool.false_eq_true,if_false,if_true,List.append_nil,List.append_assoc] using h1
theorem Hp.newIn {E R:List Ent} (h:Hp w0 w' (E++R)) (t:TypeId) (cs:List Value):Hp w0 (w'.alloc (.cells cs.toArray t)) (E++([.box w'.heap.size t cs]++R)):=by
 refine (h.new w'.heap.size rfl t cs).perm ?_
 rw [List.append_assoc]
 exact List.Perm.append_left E List.perm_append_comm
theorem J2.al1 (h:J2 wB w0 P t1 t2 z1 z2 F1 F2 c1 c2 a1 a2 s1 s2 y1 y2 x1 x2 w') (n1:a1=false) (m1:s1=false):J2 wB w0 P t1 t2 z1 z2 F1 F2 c1 c2 true a2 s1 s2 y1 y2 (.pointer (some ⟨w'.heap.size,0,none⟩)) x2 (w'.alloc (.cells z1.toArray t1)):=by
 obtain ⟨g1,g2,v1,v2,C1,C2,h⟩:=h
 subst n1 m1
 refine ⟨w'.heap.size,g2,v1,v2,C1,C2,fun _=>⟨rfl,h.far.size⟩,h.p2,h.k1,h.k2,h.far.alloc h.far.size _,?_⟩
 have:=h.hp.newIn (E:=[]) t1 z1
 unfold L2 opL at this ⊢
 simpa only [Bool.false_eq_true,if_false,if_true,List.nil_append] using this
theorem J2.al2 (h:J2 wB w0 P t1 t2 z1 z2 F1 F2 c1 c2 a1 a2 s1 s2 y1 y2 x1 x2 w') (n1:a2=false) (m1:s2=false):J2 wB w0 P t1 t2 z1 z2 F1 F2 c1 c2 a1 true s1 s2 y1 y2 x1 (.pointer (some ⟨w'.heap.size,0,none⟩)) (w'.alloc (.cells z2.toArray t2)):=by
 obtain ⟨g1,g2,v1,v2,C1,C2,h⟩:=h
 subst n1 m1
 refine ⟨g1,w'.heap.size,v1,v2,C1,C2,h.p1,fun _=>⟨rfl,h.far.size⟩,h.k1,h.k2,h.far.alloc h.far.size _,?_⟩
 have hh:=h.hp
 unfold L2 at hh ⊢
 exact hh.newIn t2 z2
theorem Hp.sets {E:List Ent} (h:Hp w0 w' E) (k:Nat) {g:Nat} {t:TypeId} {cs vs:List Value} (hk:E[k]?=some (.box g t cs)) (hl:vs.length=cs.length):Hp w0 (w'.setCells g 0 vs) (E.set k (.box g t vs)):=by
 refine h.step k hk (grown_sets g vs w' 0) ⟨h.ge k hk,?_⟩ (fun _ h=>.inl h)
 have:=(h.blk k hk).sets vs 0
 have e:patch cs.toArray 0 vs=vs.toArray:=by
  refine Array.ext (by rw [patch_size];simp [hl]) fun i h1 h2=>?_
  have:=patch_in vs cs.toArray 0 i (by simpa using h2) (by simp [hl])
  rw [Nat.zero_add] at this
  rw [Array.getElem?_eq_getElem h1] at this
  rw [List.getElem?_eq_getElem (by simpa using h2)] at this
  simpa using Option.some.inj this
 rwa [e] at this
theorem below_sets {B:Nat} {w w':World} (h:Below B w w') {g:Nat} (hg:B≤g) (vs:List Value) (hB:B≤w'.heap.size):Below B w (w'.setCells g 0 vs):=
 h.grown (grown_sets g vs w' 0) hB (fun k hk=>by injection hk with hk;omega)
theorem J2.st1 (h:J2 wB w0 P t1 t2 z1 z2 F1 F2 c1 c2 a1 a2 s1 s2 y1 y2 x1 x2 w') (l1:a1=true) (q1:c1=true) (m1:s1=false) :
  ∃ g1 v1 C1,x1=.pointer (some ⟨g1,0,none⟩)∧y1=.agg v1.toArray∧F1 v1 C1∧(∀ i u,z1[i]?=some u→w'.cell? ⟨g1,i,none⟩=some u)∧(∀ i,w'.frozen? ⟨g1,i,none⟩=false) ∧
   (v1.length=z1.length→J2 wB w0 P t1 t2 z1 z2 F1 F2 c1 c2 a1 a2 true s2 y1 y2 x1 x2 (w'.setCells g1 0 v1)):=by
 obtain ⟨g1,g2,v1,v2,C1,C2,h⟩:=h
 subst l1 q1 m1
 have hh:=h.hp
 refine ⟨g1,v1,C1,(h.p1 rfl).1,(h.k1 rfl).1,(h.k1 rfl).2,fun i u hu=>hh.cell 0 i rfl hu,fun i=>hh.frozen 0 i rfl,fun hl=>?_⟩
 exact ⟨g1,g2,v1,v2,C1,C2,h.p1,h.p2,h.k1,h.k2,below_sets h.far (h.p1 rfl).2 v1 h.far.size,hh.sets 0 rfl hl⟩
theorem J2.st2 (h:J2 wB w0 P t1 t2 z1 z2 F1 F2 c1 c2 a1 a2 s1 s2 y1 y2 x1 x2 w') (l1:a2=true) (q1:c2=true) (m1:s2=false) :
  ∃ g2 v2 C2,x2=.pointer (some ⟨g2,0,none⟩)∧y2=.agg v2.toArray∧F2 v2 C2∧(∀ i u,z2[i]?=some u→w'.cell? ⟨g2,i,none⟩=some u)∧(∀ i,w'.frozen? ⟨g2,i,none⟩=false) ∧
   (v2.length=z2.length→J2 wB w0 P t1 t2 z1 z2 F1 F2 c1 c2 a1 a2 s1 true y1 y2 x1 x2 (w'.setCells g2 0 v2)):=by
 obtain ⟨g1,g2,v1,v2,C1,C2,h⟩:=h
 subst l1 q1 m1
 have hh:=h.hp
 cases a1 with
 | false=>
  refine ⟨g2,v2,C2,(h.p2 rfl).1,(h.k2 rfl).1,(h.k2 rfl).2,fun i u hu=>hh.cell 0 i rfl hu,fun i=>hh.frozen 0 i rfl,fun hl=>?_⟩
  exact ⟨g1,g2,v1,v2,C1,C2,h.p1,h.p2,h.k1,h.k2,below_sets h.far (h.p2 rfl).2 v2 h.far.size,hh.sets 0 rfl hl⟩
 | true=>
  refine ⟨g2,v2,C2,(h.p2 rfl).1,(h.k2 rfl).1,(h.k2 rfl).2,fun i u hu=>hh.cell 1 i rfl hu,fun i=>hh.frozen 1 i rfl,fun hl=>?_⟩
  exact ⟨g1,g2,v1,v2,C1,C2,h.p1,h.p2,h.k1,h.k2,below_sets h.far (h.p2 rfl).2 v2 h.far.size,hh.sets 1 rfl hl⟩
theorem J2.done (h:J2 wB w0 P t1 t2 z1 z2 F1 F2 c1 c2 a1 a2 s1 s2 y1 y2 x1 x2 w') (h1:c1=true) (h2:c2=true) (h3:a1=true) (h4:a2=true) (h5:s1=true) (h6:s2=true) :
  ∃ g1 g2 v1 v2 C1 C2,x1=.pointer (some ⟨g1,0,none⟩)∧x2=.pointer (some ⟨g2,0,none⟩)∧F1 v1 C1∧F2 v2 C2∧Below wB.heap.size wB w'∧Hp w0 w' (.box g1 t1 v1::.box g2 t2 v2::(P++(C1++C2))):=by
 obtain ⟨g1,g2,v1,v2,C1,C2,h⟩:=h
 subst h1 h2 h3 h4 h5 h6
 exact ⟨g1,g2,v1,v2,C1,C2,(h.p1 rfl).1,(h.p2 rfl).1,(h.k1 rfl).2,(h.k2 rfl).2,h.far,h.hp⟩
end
end Go.Proofs.YtefdblaolmckmacGreat
