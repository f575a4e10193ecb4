/- The law RuleTells returns true for every input. No condition. -/
import Derived.Test.YtefdblaolmckmaaRow
import Derived.Test.YtefdblaolmckmaaOpen
import Derived.Test.YtefdblaolmckmaaLaw4T
namespace Go.Proofs.Ytefdblaolmckmaa.ruleTells
open Go.ChangeShapes Go.WideShapes Go.ChangeAt Go.RowKit

set_option maxRecDepth 100000 in
theorem lifted (os : Os) (started : os.Started) (H : Type) (enc : TypeId × Value → H) :
    ReturnsInHanded {} Try.checked os 5 .any (Rows.ruleTellsSpec.pre6 enc Try.prog Try.f5 Rows.ruleTellsRow.domain false) (Rows.ruleTellsSpec.post enc Try.prog Try.f5 false true false false) := by
  refine returnsInHanded_of_change (C := Try.checked) own started (by kernel_rfl) Try.func5
    (ChangeSpec.witness6 (enc := enc) (C := Try.checked) false ⟨#[], #[.agg #[.int .i64 0, .int .i64 0, .int .i64 0, .slice none 0 0], .agg #[.int .i64 0, .int .i64 0, .int .i64 0, .slice none 0 0], .agg #[.int .i64 0, .int .i64 0, .bool false]], []⟩ 8 (by kernel_rfl) (by kernel_rfl) (by kernel_rfl) (by kernel_rfl)) ?_
  intro W base args ds gs before hval0 hW _ _
  have hval : ∀ (j : Nat) t v, Try.f5.params[j]? = some t → args[j]? = some v → Value.okWide Try.prog W .any base t v := hval0
  have hW' := hW
  obtain ⟨p, q, hA0, hV, rfl, hfz, hnd⟩ := hW
  have hA : DataW.TrodAll enc Try.prog W 0 (fun _ => true) true Try.f5.params.toList args.toList ds p := hA0
  rw [Try.params5] at hA hval
  obtain ⟨v0, vs0, d0, ds0, p0, q0, hargs, rfl, rfl, h0, r0⟩ := trodAll_cons hA
  obtain ⟨v1, vs1, d1, ds1, p1, q1, rfl, rfl, rfl, h1, r1⟩ := trodAll_cons r0
  obtain ⟨v2, vs2, d2, ds2, p2, q2, rfl, rfl, rfl, h2, r2⟩ := trodAll_cons r1
  obtain ⟨rfl, rfl, rfl⟩ := trodAll_nil r2
  obtain rfl : args = #[v0, v1, v2] := by cases args; simp_all
  obtain ⟨s0, A0, c0, rfl, hl0, hc0, hR0⟩ := open_system (hval 0 38 v0 rfl rfl) h0
  obtain ⟨s1, A1, c1, rfl, hl1, hc1, hR1⟩ := open_system (hval 1 38 v1 rfl rfl) h1
  obtain ⟨⟨m2r, m2w, m2l⟩, rfl⟩ := open_mod (hval 2 40 v2 rfl rfl) h2
  refine (ruleTells_any s0 A0 c0 s1 A1 c1 m2r m2w m2l W hR0 hR1).mono fun e W' ⟨he, hb⟩ => ?_
  subst he
  exact ⟨_, rfl, law_post rfl rfl (by rw [Try.params5]; decide +kernel) (fun ds h => by match ds, h with | [_, _, _], _ => rfl) hW' hb⟩

theorem over : Rows.ruleTellsRow.holds Try.pinned (OpenSpec.ofChange Rows.ruleTellsSpec) :=
  OpenClaim.holds_of_wide 5 Try.f5 rfl rfl rfl rfl rfl rfl rfl ⟨rfl, rfl, rfl, rfl, rfl⟩ rfl rfl rfl rfl rfl (by kernel_rfl) Try.func5 (by kernel_rfl)
    (of_decide_eq_true (by kernel_rfl)) (by unfold Func.isWrapper; first | (rw [if_pos (by decide +kernel)]; kernel_rfl) | (rw [if_neg (by decide +kernel)]; exact ⟨rfl, rfl⟩))
    (fun os started H enc _ => lifted os started H enc)

theorem proved : Rows.RuleTellsSaid := over
end Go.Proofs.Ytefdblaolmckmaa.ruleTells
