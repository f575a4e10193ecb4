/- The law StoreTables returns true for every input. No condition. -/
import Derived.Test.YtefdblaolmckmabBRowToInv
import Derived.Test.YtefdblaolmckmabBSpecOToSpecR
import Derived.Test.YtefdblaolmckmabBMapCToLaw3T
namespace Go.Proofs.Ytefdblaolmckmab.storeTables
open Go.ChangeShapes Go.WideShapes Go.ChangeAt Go.RowKit
set_option maxRecDepth 100000 in
theorem lifted (os : Os) (started : os.Started) (H : Type) (enc : TypeId × Value → H) :
    ReturnsInHanded {} Try.checked os 5 .any (Rows.storeTablesSpec.pre6 enc Try.prog Try.f5 Rows.storeTablesRow.domain false) (Rows.storeTablesSpec.post enc Try.prog Try.f5 false true false false) := by
  refine returnsInHanded_of_change (C := Try.checked) own started (by kernel_rfl) Try.func5
    (ChangeSpec.witness6 (enc := enc) (C := Try.checked) false ⟨#[], #[.agg #[.slice none 0 0, .slice none 0 0]], []⟩ 8 (by kernel_rfl) (by kernel_rfl) (by kernel_rfl) (by kernel_rfl)) ?_
  intro W base args ds gs before hval0 hW _ _
  have hval : ∀ (j : Nat) t v, Try.f5.params[j]? = some t → args[j]? = some v → Value.okWide Try.prog W .any base t v := hval0
  have hW' := hW
  obtain ⟨p, q, hA0, hV, rfl, hfz, hnd⟩ := hW
  have hA : DataW.TrodAll enc Try.prog W 0 (fun _ => true) true Try.f5.params.toList args.toList ds p := hA0
  rw [Try.params5] at hA hval
  obtain ⟨v0, vs0, d0, ds0, p0, q0, hargs, rfl, rfl, h0, r0⟩ := trodAll_cons hA
  obtain ⟨rfl, rfl, rfl⟩ := trodAll_nil r0
  obtain rfl : args = #[v0] := by cases args; simp_all
  obtain ⟨rs0, gs0, A0, c0, B0, e0, rfl, hW0, hlr0, hlg0, hwr0, hwg0⟩ := open_world (hval 0 25 v0 rfl rfl) h0
  refine (storeTables_any rs0 gs0 A0 c0 B0 e0 hlr0 hlg0 hW0.nr hW0.ng W hW0.row hW0.gen).mono fun e W' ⟨he, hb⟩ => ?_
  subst he
  exact ⟨_, rfl, law_post rfl rfl (by rw [Try.params5]; decide +kernel) (fun ds h => by match ds, h with | [_], _ => rfl) hW' hb⟩
theorem over : Rows.storeTablesRow.holds Try.pinned (OpenSpec.ofChange Rows.storeTablesSpec) :=
  OpenClaim.holds_of_wide 5 Try.f5 rfl rfl rfl rfl rfl rfl rfl ⟨rfl, rfl, rfl, rfl, rfl⟩ rfl rfl rfl rfl rfl (by kernel_rfl) Try.func5 (by kernel_rfl)
    (of_decide_eq_true (by kernel_rfl)) (by unfold Func.isWrapper; first | (rw [if_pos (by decide +kernel)]; kernel_rfl) | (rw [if_neg (by decide +kernel)]; exact ⟨rfl, rfl⟩))
    (fun os started H enc _ => lifted os started H enc)
theorem proved : Rows.StoreTablesSaid := over
end Go.Proofs.Ytefdblaolmckmab.storeTables
