/- HouseRefused: what is refused, and what is asked, changes nothing. No condition. -/
import Derived.Test.YtefdblaolmckmacGreatHBRowToInv
import Derived.Test.YtefdblaolmckmacGreatHLaw7F
import Derived.Test.YtefdblaolmckmacGreatHOpenD
set_option linter.unusedVariables false
set_option linter.unusedSimpArgs false
set_option maxRecDepth 100000
set_option maxHeartbeats 12800000
namespace Go.Proofs.YtefdblaolmckmacGreat.houseRefused
open Go.ChangeShapes Go.WideShapes Go.ChangeAt Go.RowKit
theorem lifted (os:Os) (started:os.Started) (H:Type) (enc:TypeId×Value→H) :
  ReturnsInHanded {} Tryz.checked os 7 .any (Rows.houseRefusedSpec.pre6 enc Tryz.prog Tryz.f7 Rows.houseRefusedRow.domain false) (Rows.houseRefusedSpec.post enc Tryz.prog Tryz.f7 false true false false):=by
 refine returnsInHanded_of_change (C:=Tryz.checked) own started (by kernel_rfl) Tryz.func7
  (ChangeSpec.witness6 (enc:=enc) (C:=Tryz.checked) false ⟨#[],#[.slice none 0 0,.slice none 0 0],[]⟩ 8 (by kernel_rfl) (by kernel_rfl) (by kernel_rfl) (by kernel_rfl)) ?_
 intro W base args ds gs before hval0 hW _ _
 have hval:∀ (j:Nat) t v,Tryz.f7.params[j]?=some t→args[j]?=some v→Value.okWide Tryz.prog W .any base t v:=hval0
 have hW':=hW
 obtain ⟨p,q,hA0,hV,rfl,hfz,hnd⟩:=hW
 have hA:DataW.TrodAll enc Tryz.prog W 0 (fun _=>true) true Tryz.f7.params.toList args.toList ds p:=hA0
 rw [Tryz.params7] at hA hval
 obtain ⟨v0,vs0,d0,ds0,p0,q0,hargs,rfl,rfl,h0,r0⟩:=trodAll_cons hA
 obtain ⟨v1,vs1,d1,ds1,p1,q1,rfl,rfl,rfl,h1,r1⟩:=trodAll_cons r0
 obtain ⟨rfl,rfl,rfl⟩:=trodAll_nil r1
 obtain rfl:args=#[v0,v1]:=by cases args;simp_all
 obtain ⟨m0,A0,c0,rfl,hl0,hn0,hR0⟩:=open_mods (hval 0 22 v0 rfl rfl) h0
 obtain ⟨l1,A1,c1,rfl,hl1,hn1,hR1⟩:=open_dos (hval 1 23 v1 rfl rfl) h1
 refine (houseRefused_any m0 A0 c0 hl0 hn0 l1 A1 c1 hl1 hn1 W hR0 hR1).mono fun e W' ⟨he,hb⟩=>?_
 subst he
 exact ⟨_,rfl,law_post rfl rfl (by rw [Tryz.params7];decide +kernel) (fun ds h=>by match ds,h with | [_,_],_=>rfl) hW' hb⟩
theorem over:Rows.houseRefusedRow.holds Tryz.pinned (OpenSpec.ofChange Rows.houseRefusedSpec):=
 OpenClaim.holds_of_wide 7 Tryz.f7 rfl rfl rfl rfl rfl rfl rfl ⟨rfl,rfl,rfl,rfl,rfl⟩ rfl rfl rfl rfl rfl (by kernel_rfl) Tryz.func7 (by kernel_rfl)
  (of_decide_eq_true (by kernel_rfl)) (by unfold Func.isWrapper;first | (rw [if_pos (by decide +kernel)];kernel_rfl) | (rw [if_neg (by decide +kernel)];exact ⟨rfl,rfl⟩))
  (fun os started H enc _=>lifted os started H enc)
theorem proved:Rows.HouseRefusedSaid:=over
end Go.Proofs.YtefdblaolmckmacGreat.houseRefused
