/- The law RunTells returns true for every input whose bulk is at most 1048576. -/
import Derived.Test.YtefdblaolmckmabGreatRBRowToInv
import Derived.Test.YtefdblaolmckmabGreatRBBatAToOpenSL
import Derived.Test.YtefdblaolmckmabGreatROpenT
import Derived.Test.YtefdblaolmckmabGreatRBRefASToLaw5T
set_option linter.unusedVariables false
set_option linter.unusedSimpArgs false
set_option maxRecDepth 100000
set_option maxHeartbeats 12800000
namespace Go.Proofs.YtefdblaolmckmabGreat.runTells
open Go.ChangeShapes Go.WideShapes Go.ChangeAt Go.RowKit
theorem lifted (os:Os) (started:os.Started) (H:Type) (enc:TypeId×Value→H) (F:Stop.Interp) :
  ReturnsInHanded {} Tryz.checked os 6 .any ((Rows.OpenSpec.upto Rows.runTellsSpec).pre6 enc Tryz.prog Tryz.f6 Rows.runTellsUptoRow.domain false) (((Rows.OpenSpec.upto Rows.runTellsSpec).at F).post enc Tryz.prog Tryz.f6 false true false false):=by
 refine returnsInHanded_of_cond (C:=Tryz.checked) (s:=Rows.OpenSpec.upto Rows.runTellsSpec) (k:=Rows.uptoSmall) rfl own started (by kernel_rfl) Tryz.func6
  (OpenSpec.witness (enc:=enc) (C:=Tryz.checked) (s:=Rows.OpenSpec.upto Rows.runTellsSpec) (k:=Rows.uptoSmall) rfl false ⟨#[],#[.agg #[.slice none 0 0,.slice none 0 0],.slice none 0 0],[]⟩ 8 (by kernel_rfl) (by kernel_rfl) (by kernel_rfl)
   (x:=([.agg [.nil,.nil],.nil],[],[])) (by kernel_rfl) rfl (by kernel_rfl)) ?_
 intro W base args ds gs before hval0 hW _ hk _
 have hval:∀ (j:Nat) t v,Tryz.f6.params[j]?=some t→args[j]?=some v→Value.okWide Tryz.prog W .any base t v:=hval0
 have hW':=hW
 obtain ⟨p,q,hA0,hV,rfl,hfz,hnd⟩:=hW
 have hA:DataW.TrodAll enc Tryz.prog W 0 (fun _=>true) true Tryz.f6.params.toList args.toList ds p:=hA0
 rw [Tryz.params6] at hA hval
 obtain ⟨v0,vs0,d0,ds0,p0,q0,hargs,rfl,rfl,h0,r0⟩:=trodAll_cons hA
 obtain ⟨v1,vs1,d1,ds1,p1,q1,rfl,rfl,rfl,h1,r1⟩:=trodAll_cons r0
 obtain ⟨rfl,rfl,rfl⟩:=trodAll_nil r1
 obtain rfl:args=#[v0,v1]:=by cases args;simp_all
 have hbd:=of_decide_eq_true hk
 simp only [List.cons_append,Rows.uptoBulkAll] at hbd
 obtain ⟨l0,A0,c0,gs0,B0,e0,rfl,hS0,hz0⟩:=open_store (hval 0 40 v0 rfl rfl) h0
 have hb0:Rows.uptoBulk d0≤1048576:=by omega
 obtain ⟨l1,A1,c1,rfl,hl1,hR1⟩:=open_systemsL (hval 1 42 v1 rfl rfl) h1
 refine (runTells_any l0 A0 c0 gs0 B0 e0 (hz0 hb0) l1 A1 c1 hl1 W hR1 hS0).mono fun e W' ⟨he,hb⟩=>?_
 subst he
 exact ⟨_,rfl,law_post (s:=Rows.runTellsSpec) rfl rfl (by rw [Tryz.params6];decide +kernel) (fun ds h=>by match ds,h with | [_,_],_=>rfl) hW' hb⟩
theorem over:Rows.runTellsUptoRow.holds Tryz.pinned (Rows.OpenSpec.upto Rows.runTellsSpec):=
 OpenClaim.holds_of_cond 6 Tryz.f6 rfl rfl rfl rfl rfl rfl rfl ⟨rfl,rfl,rfl,rfl,rfl⟩ rfl rfl rfl rfl rfl (by kernel_rfl) Tryz.func6 (by kernel_rfl)
  (of_decide_eq_true (by kernel_rfl)) (by unfold Func.isWrapper;first | (rw [if_pos (by decide +kernel)];kernel_rfl) | (rw [if_neg (by decide +kernel)];exact ⟨rfl,rfl⟩))
  (fun os started H enc _ F=>lifted os started H enc F)
theorem proved:Rows.RunTellsUptoSaid:=over
end Go.Proofs.YtefdblaolmckmabGreat.runTells
