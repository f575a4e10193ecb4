/- Rows and beings compared. -/
import Derived.Test.YtefdblaolmckmaaPlainQ
import Derived.Laws.StructEq
namespace Go.Proofs.Ytefdblaolmckmaa
open Go.RowKit
open Brood
set_option linter.unusedVariables false
set_option linter.unusedSimpArgs false
theorem eq_vals (d : Nat) (a0 a1 a2 a3 a4 a5 a6 a7 b0 b1 b2 b3 b4 b5 b6 b7 : Int) (w : World) :
   (Op.equalIn (d + 1 + 1) 80 (.agg #[.int .i64 a0, .int .i64 a1, .int .i64 a2, .int .i64 a3, .int .i64 a4, .int .i64 a5, .int .i64 a6, .int .i64 a7]) (.agg #[.int .i64 b0, .int .i64 b1, .int .i64 b2, .int .i64 b3, .int .i64 b4, .int .i64 b5, .int .i64 b6, .int .i64 b7])).run Try.prog w = .ok (decide ([a0, a1, a2, a3, a4, a5, a6, a7] = [b0, b1, b2, b3, b4, b5, b6, b7])) w := by
  have hz : ∀ w, (Go.sizeOf 3).run Try.prog w = .ok 1 w := fun w => by kernel_rfl
  rw [Op.equalIn]
  simp only [Sem.run_bind, run_underlying Try.underlying80, Result.andThen_ok, hz]
  simp [Std.Legacy.Range.forIn_eq_forIn_range', List.range', go_sem, part]
  (repeat' split) <;> simp_all
theorem eqRow (a b : BRow) (w : World) : (Op.equalIn 10000 82 (rowV a) (rowV b)).run Try.prog w = .ok (decide (a = b)) w := by
  obtain ⟨idx, gen, has, vals, h8⟩ := a
  obtain ⟨a0, a1, a2, a3, a4, a5, a6, a7, rfl⟩ := vals_eight h8
  obtain ⟨idx', gen', has', vals', h8'⟩ := b
  obtain ⟨b0, b1, b2, b3, b4, b5, b6, b7, rfl⟩ := vals_eight h8'
  have hv := fun W => eq_vals 9997 a0 a1 a2 a3 a4 a5 a6 a7 b0 b1 b2 b3 b4 b5 b6 b7 W
  simp only [Nat.reduceAdd] at hv
  have e1 : rowV ⟨idx, gen, has, [a0, a1, a2, a3, a4, a5, a6, a7], h8⟩ = .agg #[.int .i64 idx, .int .i64 gen, .int .i64 has, .int .i64 a0, .int .i64 a1, .int .i64 a2, .int .i64 a3, .int .i64 a4, .int .i64 a5, .int .i64 a6, .int .i64 a7] := rfl
  have e2 : rowV ⟨idx', gen', has', [b0, b1, b2, b3, b4, b5, b6, b7], h8'⟩ = .agg #[.int .i64 idx', .int .i64 gen', .int .i64 has', .int .i64 b0, .int .i64 b1, .int .i64 b2, .int .i64 b3, .int .i64 b4, .int .i64 b5, .int .i64 b6, .int .i64 b7] := rfl
  have hd : decide ((⟨idx, gen, has, [a0, a1, a2, a3, a4, a5, a6, a7], h8⟩ : BRow) = ⟨idx', gen', has', [b0, b1, b2, b3, b4, b5, b6, b7], h8'⟩) = decide (idx = idx' ∧ gen = gen' ∧ has = has' ∧ [a0, a1, a2, a3, a4, a5, a6, a7] = [b0, b1, b2, b3, b4, b5, b6, b7]) := by
    rw [decide_eq_decide, BRow.mk.injEq]
  rw [hd, e1, e2, run_equalIn_struct _ _ _ _ _ (by kernel_rfl) (by kernel_rfl)]
  generalize [a0, a1, a2, a3, a4, a5, a6, a7] = V at *
  generalize [b0, b1, b2, b3, b4, b5, b6, b7] = V' at *
  simp [go_sem, Op.eqFields, hv]
  (repeat' split) <;> simp_all
theorem eqIn_being (i g i' g' : Int) (w : World) : (Op.equalIn 10000 68 (.agg #[.int .i64 i, .int .i64 g]) (.agg #[.int .i64 i', .int .i64 g'])).run Try.prog w = .ok (i == i' && g == g') w := by
  rw [run_equalIn_struct _ _ _ _ _ (by kernel_rfl) (by kernel_rfl)]
  simp [go_sem, Op.eqFields]
  (repeat' split) <;> simp_all
theorem eqBeing (i g i' g' : Int) (w : World) : (binOp .eql 68 (.agg #[.int .i64 i, .int .i64 g]) (.agg #[.int .i64 i', .int .i64 g'])).run Try.prog w = .ok (.bool (i == i' && g == g')) w := by
  rw [run_eql_struct, eqIn_being]
  rfl
theorem neBeing (i g i' g' : Int) (w : World) : (binOp .neq 68 (.agg #[.int .i64 i, .int .i64 g]) (.agg #[.int .i64 i', .int .i64 g'])).run Try.prog w = .ok (.bool (!(i == i' && g == g'))) w := by
  rw [run_neq_struct, eqIn_being]
  rfl
theorem neRow (a b : BRow) (w : World) : (binOp .neq 82 (rowV a) (rowV b)).run Try.prog w = .ok (.bool (!decide (a = b))) w := by
  have e1 : ∃ xs, rowV a = .agg xs := ⟨_, rfl⟩
  have e2 : ∃ xs, rowV b = .agg xs := ⟨_, rfl⟩
  obtain ⟨xs, h1⟩ := e1
  obtain ⟨ys, h2⟩ := e2
  have h := eqRow a b w
  rw [h1, h2] at h ⊢
  rw [run_neq_struct, h]
  rfl
end Go.Proofs.Ytefdblaolmckmaa
