/- The reference's WrongAct as one contract; its Wrong. -/
import Derived.Test.YtefdblaolmckmaaRef4A
import Derived.Test.YtefdblaolmckmaaRuleA
namespace Go.Proofs.Ytefdblaolmckmaa
open Go.RowKit
open Brood
set_option linter.unusedVariables false
set_option linter.unusedSimpArgs false

theorem rAct_any (all non : Int) (hall : isSet all = true) (a : BAct) (b : Nat → Bool) (w : World) :
    Calls Try.prog 61 #[.agg #[.int .i64 all, .int .i64 non], actV a, .agg (arr8 b)] w fun e w' => e = .returned (.int .i64 (rAct all b a)) ∧ Below w.heap.size w w' := by
  obtain ⟨kind, part, src, n⟩ := a
  have conv : ∀ x y : Int, x = y → (Calls Try.prog 61 #[.agg #[.int .i64 all, .int .i64 non], actV ⟨kind, part, src, n⟩, .agg (arr8 b)] w fun e w' => e = .returned (.int .i64 x) ∧ Below w.heap.size w w') →
      Calls Try.prog 61 #[.agg #[.int .i64 all, .int .i64 non], actV ⟨kind, part, src, n⟩, .agg (arr8 b)] w fun e w' => e = .returned (.int .i64 y) ∧ Below w.heap.size w w' := by
    rintro x y rfl h; exact h
  by_cases k1 : kind = 1
  · subst k1
    refine conv _ _ ?_ (rAct_1 all non part src n b w)
    simp [rAct, actErr, isWrite, isFrom, isOwn]
    cases isVal n <;> cases isPart part <;> simp
  by_cases k2 : kind = 2
  · subst k2
    refine conv _ _ ?_ (rAct_2 all non part src n hall b w)
    simp [rAct, actErr, isWrite, isFrom, isOwn]
    cases isPart src <;> cases isPart part <;> cases hasB all src <;> cases b src.toNat <;> simp
  by_cases k3 : kind = 3
  · subst k3
    refine conv _ _ ?_ (rAct_3 all non part src n hall b w)
    simp [rAct, actErr, isWrite, isFrom, isOwn]
    cases isPart src <;> cases isPart part <;> cases hasB all src <;> cases b src.toNat <;> cases hasB all part <;> cases b part.toNat <;> simp
  by_cases k4 : kind = 4
  · subst k4
    refine conv _ _ ?_ (rAct_4 all non part src n hall b w)
    simp [rAct, actErr, isWrite, isFrom, isOwn]
    cases isVal n <;> cases isPart part <;> cases hasB all part <;> cases b part.toNat <;> simp
  by_cases k5 : kind = 5
  · subst k5
    refine conv _ _ ?_ (rAct_5 all non part src n b w)
    simp [rAct, actErr, isWrite, isFrom, isOwn]
    cases isPart part <;> simp
  by_cases k6 : kind = 6
  · subst k6
    refine conv _ _ ?_ (rAct_6 all non part src n b w)
    simp [rAct, actErr, isWrite, isFrom, isOwn]
  by_cases k7 : kind = 7
  · subst k7
    refine conv _ _ ?_ (rAct_7 all non part src n b w)
    simp [rAct, actErr, isWrite, isFrom, isOwn]
    cases isSet part <;> cases isVal n <;> simp
  refine conv _ _ ?_ (rAct_0 all non part src n kind k1 k2 k3 k4 k5 k6 k7 b w)
  have : isWrite kind = false := by simp [isWrite]; omega
  simp [rAct, actErr, this, k6, k7]
end Go.Proofs.Ytefdblaolmckmaa
