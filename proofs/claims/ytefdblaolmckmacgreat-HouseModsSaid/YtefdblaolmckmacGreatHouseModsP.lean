/- HouseMods: what no mod may write no tick writes. No condition. -/
import Derived.Test.YtefdblaolmckmacGreatMBRowToInv
import Derived.Test.YtefdblaolmckmacGreatMLaw7M
import Derived.Test.YtefdblaolmckmacGreatMOpenD
set_option linter.unusedVariables false
set_option linter.unusedSimpArgs false
set_option maxRecDepth 100000
set_option maxHeartbeats 12800000
namespace Go.Proofs.YtefdblaolmckmacGreat.houseMods
open Go.ChangeShapes Go.WideShapes Go.ChangeAt Go.RowKit
theorem lifted (os:Os) (started:os.Started) (H:Type) (enc:TypeId×Value→H) :
  ReturnsInHanded {} Tryz.checked os 5 .any (Rows.houseModsSpec.pre6 enc Tryz.prog Tryz.f5 Rows.houseModsRow.domain false) (Rows.houseModsSpec.post enc Tryz.prog Tryz.f5 false true false false):=by
 refine returnsInHanded_of_change (C:=Tryz.checked) own started (by kernel_rfl) Tryz.func5
  (ChangeSpec.witness6 (enc:=enc) (C:=Tryz.checked) false ⟨#[],#[.slice none 0 0,.slice none 0 0],[]⟩ 8 (by kernel_rfl) (by kernel_rfl) (by kernel_rfl) (by kernel_rfl)) ?_
 intro W base args ds gs before hval0 hW _ _
 have hval:∀ (j:Nat) t v,Tryz.f5.params[j]?=some t→args[j]?=some v→Value.okWide Tryz.prog W .any base t v:=hval0
 have hW':=hW
 obtain ⟨p,q,hA0,hV,rfl,hfz,hnd⟩:=hW
 have hA:DataW.TrodAll enc Tryz.prog W 0 (fun _=>true) true Tryz.f5.params.toList args.toList ds p:=hA0
 rw [Tryz.params5] at hA hval
 obtain ⟨v0,vs0,d0,ds0,p0,q0,hargs,rfl,rfl,h0,r0⟩:=trodAll_cons hA
 obtain ⟨v1,vs1,d1,ds1,p1,q1,rfl,rfl,rfl,h1,r1⟩:=trodAll_cons r0
 obtain ⟨rfl,rfl,rfl⟩:=trodAll_nil r1
 obtain rfl:args=#[v0,v1]:=by cases args;simp_all
 obtain ⟨m0,A0,c0,rfl,hl0,hn0,hR0⟩:=open_mods (hval 0 22 v0 rfl rfl) h0
 obtain ⟨l1,A1,c1,rfl,hl1,hn1,hR1⟩:=open_dos (hval 1 23 v1 rfl rfl) h1
 refine (houseMods_any m0 A0 c0 hl0 hn0 l1 A1 c1 hl1 hn1 W hR0 hR1).mono fun e W' ⟨he,hb⟩=>?_
 subst he
 exact ⟨_,rfl,law_post rfl rfl (by rw [Tryz.params5];decide +kernel) (fun ds h=>by match ds,h with | [_,_],_=>rfl) hW' hb⟩
theorem over:Rows.houseModsRow.holds Tryz.pinned (OpenSpec.ofChange Rows.houseModsSpec):=
 OpenClaim.holds_of_wide 5 Tryz.f5 rfl rfl rfl rfl rfl rfl rfl ⟨rfl,rfl,rfl,rfl,rfl⟩ rfl rfl rfl rfl rfl (by kernel_rfl) Tryz.func5 (by kernel_rfl)
  (of_decide_eq_true (by kernel_rfl)) (by unfold Func.isWrapper;first | (rw [if_pos (by decide +kernel)];kernel_rfl) | (rw [if_neg (by decide +kernel)];exact ⟨rfl,rfl⟩))
  (fun os started H enc _=>lifted os started H enc)
theorem proved:Rows.HouseModsSaid:=over
end Go.Proofs.YtefdblaolmckmacGreat.houseMods
