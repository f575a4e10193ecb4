/- Lemmas of the proof. -/
import Derived.DeepKeys4
import Derived.Test.YtefdblaolmckmacGreatHBSpecOToSpecR
set_option linter.unusedVariables false
set_option linter.unusedSimpArgs false
set_option maxRecDepth 100000
set_option maxHeartbeats 12800000
namespace Go.Proofs.YtefdblaolmckmacGreat
open Go.RowKit Go.Maps Go.WideMaps
open Brood
theorem wideBe:(match Tryz.prog.underlying 41 with | some (.array _ _) | some (.struct _)=>true | _=>false)=true:=by rw [Tryz.underlying41]
theorem tiledBe:Tryz.prog.tiled 2 41=true:=by kernel_rfl
theorem keyTyBe:Tryz.prog.keyTypeAt 2 41=true:=by kernel_rfl
theorem keyTyBe':Tryz.prog.keyType 41=true:=by kernel_rfl
theorem cellsBe:Tryz.prog.cellsOf 41=2:=by kernel_rfl
theorem cellsInt1:Tryz.prog.cellsOf 3=1:=by kernel_rfl
theorem sizeTy:∃ m,Tryz.prog.types.size+1=m+1+1:=⟨Tryz.prog.types.size-1,by
 have:0<Tryz.prog.types.size:=of_decide_eq_true (by kernel_rfl)
 omega⟩
theorem keyBe:Keyed Tryz.prog 41:=Keyed.of_law (deep_law (m:=2) (by omega) keyTyBe tiledBe wideBe)
def beV (p:Int×Int):Value:=.agg #[.int .i64 p.1,.int .i64 p.2]
def beKey (p:Int×Int):Lit:=.string (keyBytes [.int .i64 p.1,.int .i64 p.2])
def Wf2 (p:Int×Int):Prop:=(Lit.int .i64 p.1).wf=true∧(Lit.int .i64 p.2).wf=true
theorem keyOf_be {p:Int×Int} (h:Wf2 p):keyOf Tryz.prog 41 (beV p)=some (beKey p):=by
 obtain ⟨m,hm⟩:=sizeTy
 obtain ⟨h1,h2⟩:=h
 unfold keyOf beV beKey
 simp only [Tryz.underlying41]
 rw [if_pos (by simp [keyTyBe',Value.formed,Tryz.underlying41,cellsBe]),hm]
 unfold Program.keyLits
 simp only [Tryz.underlying41,Value.cells]
 simp [cellsBe,cellsInt1,Program.keyLits,Tryz.underlying3,h1,h2]
theorem beKey_inj {p q:Int×Int} (hp:Wf2 p) (hq:Wf2 q) (h:beKey p=beKey q):p=q:=by
 have h1:=keyOf_be hp
 have h2:=keyOf_be hq
 rw [h] at h1
 have e:=keyOf_inj_deep (m:=2) tiledBe wideBe h1 h2
 unfold beV at e
 simp at e
 exact Prod.ext e.1 e.2
theorem beKey_lit (p:Int×Int):WideAt.IsKeyLit (beKey p):=by simp [beKey,WideAt.IsKeyLit]
def MapP (w:World) (b:Nat) (zs:List (Int×Int)):Prop:=
 ∃ D:DataW Unit,w.ownsMap Tryz.prog 41 (plainElem Tryz.prog 4) b zs.length D∧(∀ p∈zs,Wf2 p)∧∀ p,Wf2 p→D.atKey (beKey p) (.lit (.bool false))=.lit (.bool (zs.contains p))
section
variable {w w':World} {b:Nat} {zs:List (Int×Int)}
theorem MapP.lt (h:MapP w b zs):b<w.heap.size:=by obtain ⟨D,h1,_⟩:=h;exact h1.lt
theorem MapP.below (h:MapP w b zs) (hb:Below w.heap.size w w'):MapP w' b zs:=by
 have hlt:=h.lt
 obtain ⟨D,⟨es',clock,h1,h2⟩,h3⟩:=h
 exact ⟨D,⟨es',clock,(hb.block b hlt).trans h1,h2⟩,h3⟩
theorem MapP.alloc (h:MapP w b zs) (o:Obj):MapP (w.alloc o) b zs:=h.below ((Below.refl _ _).alloc (Nat.le_refl _) o)
theorem MapP.made (w:World):MapP (w.alloc (.map #[] 0)) w.heap.size []:=
 ⟨.map [],World.ownsMap_made _ _ _ _,(fun p hp=>by cases hp),fun p _=>rfl⟩
theorem MapP.look (h:MapP w b zs) {p:Int×Int} (hk:Wf2 p):(Instr.lookup 72 (.map (some b)) (.agg #[.int .i64 p.1,.int .i64 p.2]) false).run Tryz.prog w=.ok (.bool (zs.contains p)) w:=by
 obtain ⟨D,h1,_,h2⟩:=h
 obtain ⟨v,ps,hrun,hv⟩:=h1.lookup keyBe Tryz.underlying72 (zeroBool w) (plainElem_bool Tryz.underlying4 false) (keyOf_be hk)
 obtain ⟨c,rfl,hc⟩:=plainElem_bool_inv Tryz.underlying4 hv
 rw [h2 p hk] at hc
 simp only [Prod.mk.injEq,DataW.lit.injEq,Lit.bool.injEq] at hc
 unfold beV at hrun
 rw [hrun,hc.1]
theorem MapP.put {z:Int×Int} {D:DataW Unit} (hz:Wf2 z) (h1:w.ownsMap Tryz.prog 41 (plainElem Tryz.prog 4) b zs.length D) (h0:∀ p∈zs,Wf2 p) (h2:∀ p,Wf2 p→D.atKey (beKey p) (.lit (.bool false))=.lit (.bool (zs.contains p)))
  (hown:w'.ownsMap Tryz.prog 41 (plainElem Tryz.prog 4) b (zs.length+1) (D.put (beKey z) (.lit (.bool true)))):MapP w' b (zs++[z]):=by
 have ht:=h1.tidy keyBe
 refine ⟨_,by simpa using hown,?_,fun j hj=>?_⟩
 ·intro p hp
  rcases List.mem_append.1 hp with hp | hp
  ·exact h0 p hp
  ·rw [List.mem_singleton.1 hp];exact hz
 ·by_cases he:j=z
  ·subst he
   rw [atKey_put_same ht.isMap (beKey_lit _)]
   simp
  ·have:beKey j≠beKey z:=fun e=>he (beKey_inj hj hz e)
   rw [atKey_put_other this,h2 j hj]
   simp [he]
end
end Go.Proofs.YtefdblaolmckmacGreat
