/- A map from ints to ints that the call itself makes, as a list of pairs. -/
import Derived.Test.YtefdblaolmckmaaMem
import Derived.Maps.OwnSet
import Derived.OpenShut
import Derived.Maps.OwnOps
import Derived.Laws.IdiomMaps
namespace Go.Proofs.Ytefdblaolmckmaa
open Go.RowKit Go.Maps
theorem keyInt : Keyed Try.prog 3 := int_keyed Try.underlying3
theorem zeroInt (w : World) : (zeroValue 3).run Try.prog w = .ok (.int .i64 0) w := by kernel_rfl
theorem nat_wf {k : Nat} (h : k ≤ 1000000) : (Lit.int .i64 (k : Int)).wf = true := by
  have e : IntKind.i64.wrap (k : Int) = k := by rw [IntKind.wrap_i64]; omega
  rw [← e]; exact wf_wrap _ _
theorem int_key (k : Int) : WideAt.IsKeyLit (Lit.int .i64 k) := by simp [WideAt.IsKeyLit]
/-- Block b is a map with just these entries (keys, values). -/
def MapI (w : World) (b : Nat) (es : List (Nat × Nat)) : Prop :=
  ∃ D : DataW Unit, w.ownsMap Try.prog 3 (plainElem Try.prog 3) b es.length D ∧ (∀ k : Nat, has D (.int .i64 (k : Int)) = es.any fun p => p.1 == k) ∧
    (∀ p ∈ es, D.atKey (.int .i64 (p.1 : Int)) (.lit (.int .i64 0)) = .lit (.int .i64 (p.2 : Int))) ∧ size D = es.length
section
variable {w w' : World} {b : Nat} {es : List (Nat × Nat)}
theorem MapI.lt (h : MapI w b es) : b < w.heap.size := by obtain ⟨D, h1, _⟩ := h; exact h1.lt
theorem MapI.drew (h : MapI w b es) : MapI w.drew b es := h
theorem MapI.drewN (h : MapI w b es) (n : Nat) : MapI (w.drewN n) b es := h
theorem MapI.below (h : MapI w b es) (hb : Below w.heap.size w w') : MapI w' b es := by
  have hlt := h.lt
  obtain ⟨D, ⟨es', clock, h1, h2⟩, h3⟩ := h
  exact ⟨D, ⟨es', clock, (hb.block b hlt).trans h1, h2⟩, h3⟩
theorem MapI.alloc (h : MapI w b es) (o : Obj) : MapI (w.alloc o) b es := h.below ((Below.refl _ _).alloc (Nat.le_refl _) o)
theorem MapI.made (w : World) : MapI (w.alloc (.map #[] 0)) w.heap.size [] :=
  ⟨.map [], World.ownsMap_made _ _ _ _, fun k => rfl, (fun p hp => by cases hp), rfl⟩
theorem MapI.look (h : MapI w b es) {k q : Nat} (hm : (k, q) ∈ es) (hk : k ≤ 1000000) : (Instr.lookup 61 (.map (some b)) (.int .i64 (k : Int)) false).run Try.prog w = .ok (.int .i64 (q : Int)) w := by
  obtain ⟨D, h1, _, h3, _⟩ := h
  obtain ⟨c, hrun, hat, _⟩ := h1.lookup_int keyInt Try.underlying61 Try.underlying3 (zeroInt w) (keyOf_int_mk Try.underlying3 (nat_wf hk))
  rw [h3 _ hm] at hat
  simp only [DataW.lit.injEq, Lit.int.injEq, true_and] at hat
  rw [hrun, hat]
theorem MapI.none_ (h : MapI w b es) {k : Nat} (hm : ∀ p ∈ es, p.1 ≠ k) (hk : k ≤ 1000000) : (Instr.lookup 61 (.map (some b)) (.int .i64 (k : Int)) true).run Try.prog w = .ok (.tuple #[.int .i64 0, .bool false]) w := by
  obtain ⟨D, h1, h2, _, _⟩ := h
  have hno : has D (.int .i64 (k : Int)) = false := by
    rw [h2]
    rw [List.any_eq_false]
    intro p hp
    simpa using hm p hp
  obtain ⟨v, ps, hrun, hv⟩ := h1.look_ok keyInt Try.underlying61 (zeroInt w) (plainElem_int Try.underlying3 (by decide)) (keyOf_int_mk Try.underlying3 (nat_wf hk))
  rw [atKey_of_not_has hno] at hv
  obtain ⟨c, rfl, hc, _⟩ := plainElem_int_inv Try.underlying3 hv
  simp only [Prod.mk.injEq] at hc
  have hc1 := hc.1
  simp only [DataW.lit.injEq, Lit.int.injEq, true_and] at hc1
  rw [hrun, hno, ← hc1]
theorem MapI.size_ (h : MapI w b es) (ty : TypeId) : (Builtin.len_ #[61] ty #[.map (some b)]).run Try.prog w = .ok (.int .i64 (es.length : Nat)) w := by
  obtain ⟨D, h1, _, _, h4⟩ := h
  rw [h1.len Try.underlying61 ty, h4]
theorem MapI.put {k q : Nat} {D : DataW Unit} (h1 : w.ownsMap Try.prog 3 (plainElem Try.prog 3) b es.length D) (h2 : ∀ k : Nat, has D (.int .i64 (k : Int)) = es.any fun p => p.1 == k)
    (h3 : ∀ p ∈ es, D.atKey (.int .i64 (p.1 : Int)) (.lit (.int .i64 0)) = .lit (.int .i64 (p.2 : Int))) (h4 : size D = es.length) (hno : ∀ p ∈ es, p.1 ≠ k)
    (hown : w'.ownsMap Try.prog 3 (plainElem Try.prog 3) b (es.length + 1) (D.put (.int .i64 (k : Int)) (.lit (.int .i64 (q : Int))))) : MapI w' b (es ++ [(k, q)]) := by
  have ht := h1.tidy keyInt
  have hnk : has D (.int .i64 (k : Int)) = false := by
    rw [h2, List.any_eq_false]
    intro p hp
    simpa using hno p hp
  refine ⟨_, by simpa using hown, ?_, ?_, ?_⟩
  · intro j
    by_cases hj : j = k
    · subst hj
      rw [has_put_same ht.isMap (int_key _)]
      simp
    · have : (Lit.int .i64 (j : Int)) ≠ Lit.int .i64 (k : Int) := by
        intro e; injection e with _ e; omega
      rw [has_put_other this, h2, List.any_append]
      simp [Ne.symm hj]
  · intro p hp
    rcases List.mem_append.1 hp with hp | hp
    · have hne : (Lit.int .i64 (p.1 : Int)) ≠ Lit.int .i64 (k : Int) := by
        intro e; injection e with _ e; exact hno p hp (by omega)
      rw [atKey_put_other hne]
      exact h3 p hp
    · have : p = (k, q) := by simpa using hp
      subst this
      rw [atKey_put_same ht.isMap (int_key _)]
  · rw [size_put ht, hnk]
    simp [h4]
end
end Go.Proofs.Ytefdblaolmckmaa
