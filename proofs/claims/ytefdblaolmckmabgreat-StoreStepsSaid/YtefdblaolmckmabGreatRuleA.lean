/- The walk of rule.act, for every act; of rule.Wrong. -/
import Derived.Deep.LoopGhost
import Derived.Test.YtefdblaolmckmabGreatRuleW
namespace Go.Proofs.YtefdblaolmckmabGreat
open Go.RowKit
open Brood
set_option linter.unusedVariables false
set_option linter.unusedSimpArgs false
theorem flat_get {α : Type} {f : α → List Value} {m : Nat} (hf : ∀ x, (f x).length = m) : ∀ (l : List α) (k : Nat) (hk : k < l.length) (j : Nat), j < m → (l.flatMap f)[k * m + j]? = (f l[k])[j]? := by
  intro l
  induction l with
  | nil => intro k hk; simp at hk
  | cons x l ih =>
    intro k hk j hj
    rw [List.flatMap_cons]
    cases k with
    | zero =>
      rw [List.getElem?_append_left (by rw [hf]; omega)]
      simp
    | succ k =>
      have e : (k + 1) * m = m + k * m := by rw [Nat.succ_mul, Nat.add_comm]
      rw [List.getElem?_append_right (by rw [hf, e]; omega), hf, e]
      have e2 : m + k * m + j - m = k * m + j := by omega
      rw [e2, ih k (by simpa using hk) j hj]
      simp
theorem drop_cons {α : Type} {l : List α} {k : Nat} (h : k < l.length) : l.drop k = l[k] :: l.drop (k + 1) := List.drop_eq_getElem_cons h
end Go.Proofs.YtefdblaolmckmabGreat
