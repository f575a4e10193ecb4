/- The walk of rule.act, for every act; of rule.Wrong. -/
import Derived.Deep.LoopGhost
import Derived.Test.YtefdblaolmckmabSRuleW
namespace Go.Proofs.Ytefdblaolmckmab
open Go.RowKit
open Brood
set_option linter.unusedVariables false
set_option linter.unusedSimpArgs false
theorem flat_get {α : Type} {f : α → List Value} {m : Nat} (hf : ∀ x, (f x).length = m) : ∀ (l : List α) (k : Nat) (hk : k < l.length) (j : Nat), j < m → (l.flatMap f)[k * m + j]? = (f l[k])[j]? := by
  intro l
  induction l with
  | nil => intro k hk; simp at hk
  | cons x l ih =>
    intro k hk j hj
    rw [List.flatMap_cons]
    cases k with
    | zero =>
      rw [List.getElem?_append_left (by rw [hf]; omega)]
      simp
    | succ k =>
      have e : (k + 1) * m = m + k * m := by rw [Nat.succ_mul, Nat.add_comm]
      rw [List.getElem?_append_right (by rw [hf, e]; omega), hf, e]
      have e2 : m + k * m + j - m = k * m + j := by omega
      rw [e2, ih k (by simpa using hk) j hj]
      simp
theorem flat_length {α : Type} {f : α → List Value} {m : Nat} (hf : ∀ x, (f x).length = m) (l : List α) : (l.flatMap f).length = l.length * m := by
  induction l with
  | nil => simp
  | cons x l ih => rw [List.flatMap_cons, List.length_append, hf, ih, List.length_cons, Nat.succ_mul]; omega
def actCells (a : BAct) : List Value := [.int .i64 a.kind, .int .i64 a.part, .int .i64 a.src, .int .i64 a.n]
def RdAB (w : World) (B : Nat) (A : Option Addr) (l : List BAct) : Prop := Rd w B 4 A l.length (l.flatMap actCells)
theorem RdAB.at_ {w : World} {B : Nat} {A : Option Addr} {l : List BAct} (h : RdAB w B A l) {k : Nat} (hk : k < l.length) :
    ∃ b off, A = some ⟨b, off, none⟩ ∧ b < B ∧ ActAt w b (off + k * 4) l[k] := by
  obtain ⟨b, off, e, hb, hc⟩ := h.2 (by omega)
  have hf : ∀ x, (actCells x).length = 4 := fun _ => rfl
  refine ⟨b, off, e, hb, ?_, ?_, ?_, ?_⟩
  · have := hc (k * 4 + 0) _ (flat_get hf l k hk 0 (by omega)); simpa using this
  · have := hc (k * 4 + 1) _ (flat_get hf l k hk 1 (by omega)); simpa [Nat.add_assoc] using this
  · have := hc (k * 4 + 2) _ (flat_get hf l k hk 2 (by omega)); simpa [Nat.add_assoc] using this
  · have := hc (k * 4 + 3) _ (flat_get hf l k hk 3 (by omega)); simpa [Nat.add_assoc] using this
def RdA (w : World) (A : Option Addr) (l : List BAct) : Prop := RdAB w w.heap.size A l
theorem RdA.at_ {w : World} {A : Option Addr} {l : List BAct} (h : RdA w A l) {k : Nat} (hk : k < l.length) :
    ∃ b off, A = some ⟨b, off, none⟩ ∧ b < w.heap.size ∧ ActAt w b (off + k * 4) l[k] := RdAB.at_ h hk
theorem RdA.grow {w w' : World} {A : Option Addr} {l : List BAct} (h : RdA w A l) (hb : Below w.heap.size w w') : RdA w' A l := Rd.grow h hb
theorem RdA.drew {w : World} {A : Option Addr} {l : List BAct} (h : RdA w A l) : RdA w.drew A l := h
theorem ActAt.below {w w' : World} {b o : Nat} {a : BAct} (h : ActAt w b o a) {B : Nat} (hb : Below B w w') (hB : b < B) : ActAt w' b o a :=
  ⟨(hb.cell hB).trans h.1, (hb.cell hB).trans h.2.1, (hb.cell hB).trans h.2.2.1, (hb.cell hB).trans h.2.2.2⟩
theorem drop_cons {α : Type} {l : List α} {k : Nat} (h : k < l.length) : l.drop k = l[k] :: l.drop (k + 1) := List.drop_eq_getElem_cons h
end Go.Proofs.Ytefdblaolmckmab
