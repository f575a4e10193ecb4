/- The law BatchSame returns true for every input. No condition. -/
import Derived.Test.YtefdblaolmckmacBRowToInv
import Derived.Test.YtefdblaolmckmacBSpecOToSpecR
import Derived.Test.YtefdblaolmckmacBBatAToOpenS
import Derived.Test.YtefdblaolmckmacLaw6S
namespace Go.Proofs.Ytefdblaolmckmac.batchSame
open Go.ChangeShapes Go.WideShapes Go.ChangeAt Go.RowKit
set_option maxRecDepth 100000 in
theorem lifted (os : Os) (started : os.Started) (H : Type) (enc : TypeId × Value → H) :
    ReturnsInHanded {} Try.checked os 3 .any (Rows.batchSameSpec.pre6 enc Try.prog Try.f3 Rows.batchSameRow.domain false) (Rows.batchSameSpec.post enc Try.prog Try.f3 false true false false) := by
  refine returnsInHanded_of_change (C := Try.checked) own started (by kernel_rfl) Try.func3
    (ChangeSpec.witness6 (enc := enc) (C := Try.checked) false ⟨#[], #[.agg #[.slice none 0 0, .slice none 0 0], .slice none 0 0, .bool false], []⟩ 8 (by kernel_rfl) (by kernel_rfl) (by kernel_rfl) (by kernel_rfl)) ?_
  intro W base args ds gs before hval0 hW _ _
  have hval : ∀ (j : Nat) t v, Try.f3.params[j]? = some t → args[j]? = some v → Value.okWide Try.prog W .any base t v := hval0
  have hW' := hW
  obtain ⟨p, q, hA0, hV, rfl, hfz, hnd⟩ := hW
  have hA : DataW.TrodAll enc Try.prog W 0 (fun _ => true) true Try.f3.params.toList args.toList ds p := hA0
  rw [Try.params3] at hA hval
  obtain ⟨v0, vs0, d0, ds0, p0, q0, hargs, rfl, rfl, h0, r0⟩ := trodAll_cons hA
  obtain ⟨v1, vs1, d1, ds1, p1, q1, rfl, rfl, rfl, h1, r1⟩ := trodAll_cons r0
  obtain ⟨v2, vs2, d2, ds2, p2, q2, rfl, rfl, rfl, h2, r2⟩ := trodAll_cons r1
  obtain ⟨rfl, rfl, rfl⟩ := trodAll_nil r2
  obtain rfl : args = #[v0, v1, v2] := by cases args; simp_all
  obtain ⟨rs0, gs0, A0, c0, B0, e0, rfl, hW0, hlr0, hlg0, hwr0, hwg0⟩ := open_world (hval 0 25 v0 rfl rfl) h0
  obtain ⟨l1, A1, c1, rfl, hR1⟩ := open_systems (hval 1 26 v1 rfl rfl) h1
  obtain ⟨a2, rfl, rfl, rfl⟩ := open_bool Try.underlying4 (hval 2 4 v2 rfl rfl) h2
  refine (batchSame_any rs0 gs0 A0 c0 B0 e0 l1 A1 c1 a2 hlr0 hlg0 hW0.nr hW0.ng W hW0.row hW0.gen hR1).mono fun e W' ⟨he, hb⟩ => ?_
  subst he
  exact ⟨_, rfl, law_post rfl rfl (by rw [Try.params3]; decide +kernel) (fun ds h => by match ds, h with | [_, _, _], _ => rfl) hW' hb⟩
theorem over : Rows.batchSameRow.holds Try.pinned (OpenSpec.ofChange Rows.batchSameSpec) :=
  OpenClaim.holds_of_wide 3 Try.f3 rfl rfl rfl rfl rfl rfl rfl ⟨rfl, rfl, rfl, rfl, rfl⟩ rfl rfl rfl rfl rfl (by kernel_rfl) Try.func3 (by kernel_rfl)
    (of_decide_eq_true (by kernel_rfl)) (by unfold Func.isWrapper; first | (rw [if_pos (by decide +kernel)]; kernel_rfl) | (rw [if_neg (by decide +kernel)]; exact ⟨rfl, rfl⟩))
    (fun os started H enc _ => lifted os started H enc)
theorem proved : Rows.BatchSameSaid := over
end Go.Proofs.Ytefdblaolmckmac.batchSame
