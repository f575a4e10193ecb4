/- Rows and beings compared. The walk of cmp.Compare at ints. The walk of slices.Clone at ints. The zero, size and bytes of a row. Copies of many cells; the walk of slices.Insert at rows, one row put in. What a right world is; what spawning comes to. The plain laws of chapter 2. The plain laws of chapter 2: putting, dropping, having go. The plain laws of chapter 2: a row in its place; what the document's answers come to. -/
import Derived.Laws.StructEq
import Derived.Laws.AppendOwnNone
import Derived.Deep.RegionLaw
import Derived.Lib.Overlaps
import Derived.Lib.AppendZerosOnto
import Derived.Laws.IdiomCopy
import Derived.Laws.NewBlocks
import Derived.Laws.Externs
import Derived.Test.YtefdblaolmckmabBRule
import Derived.Test.YtefdblaolmckmabBMem
namespace Go.Proofs.Ytefdblaolmckmab
open Go.RowKit
open Brood
set_option linter.unusedVariables false
set_option linter.unusedSimpArgs false
theorem eq_vals (d : Nat) (a0 a1 a2 a3 a4 a5 a6 a7 b0 b1 b2 b3 b4 b5 b6 b7 : Int) (w : World) :
   (Op.equalIn (d + 1 + 1) 49 (.agg #[.int .i64 a0, .int .i64 a1, .int .i64 a2, .int .i64 a3, .int .i64 a4, .int .i64 a5, .int .i64 a6, .int .i64 a7]) (.agg #[.int .i64 b0, .int .i64 b1, .int .i64 b2, .int .i64 b3, .int .i64 b4, .int .i64 b5, .int .i64 b6, .int .i64 b7])).run Try.prog w = .ok (decide ([a0, a1, a2, a3, a4, a5, a6, a7] = [b0, b1, b2, b3, b4, b5, b6, b7])) w := by
  have hz : ∀ w, (Go.sizeOf 3).run Try.prog w = .ok 1 w := fun w => by kernel_rfl
  rw [Op.equalIn]
  simp only [Sem.run_bind, run_underlying Try.underlying49, Result.andThen_ok, hz]
  simp [Std.Legacy.Range.forIn_eq_forIn_range', List.range', go_sem, part]
  (repeat' split) <;> simp_all
theorem eqRow (a b : BRow) (w : World) : (Op.equalIn 10000 51 (rowV a) (rowV b)).run Try.prog w = .ok (decide (a = b)) w := by
  obtain ⟨idx, gen, has, vals, h8⟩ := a
  obtain ⟨a0, a1, a2, a3, a4, a5, a6, a7, rfl⟩ := vals_eight h8
  obtain ⟨idx', gen', has', vals', h8'⟩ := b
  obtain ⟨b0, b1, b2, b3, b4, b5, b6, b7, rfl⟩ := vals_eight h8'
  have hv := fun W => eq_vals 9997 a0 a1 a2 a3 a4 a5 a6 a7 b0 b1 b2 b3 b4 b5 b6 b7 W
  simp only [Nat.reduceAdd] at hv
  have e1 : rowV ⟨idx, gen, has, [a0, a1, a2, a3, a4, a5, a6, a7], h8⟩ = .agg #[.int .i64 idx, .int .i64 gen, .int .i64 has, .int .i64 a0, .int .i64 a1, .int .i64 a2, .int .i64 a3, .int .i64 a4, .int .i64 a5, .int .i64 a6, .int .i64 a7] := rfl
  have e2 : rowV ⟨idx', gen', has', [b0, b1, b2, b3, b4, b5, b6, b7], h8'⟩ = .agg #[.int .i64 idx', .int .i64 gen', .int .i64 has', .int .i64 b0, .int .i64 b1, .int .i64 b2, .int .i64 b3, .int .i64 b4, .int .i64 b5, .int .i64 b6, .int .i64 b7] := rfl
  have hd : decide ((⟨idx, gen, has, [a0, a1, a2, a3, a4, a5, a6, a7], h8⟩ : BRow) = ⟨idx', gen', has', [b0, b1, b2, b3, b4, b5, b6, b7], h8'⟩) = decide (idx = idx' ∧ gen = gen' ∧ has = has' ∧ [a0, a1, a2, a3, a4, a5, a6, a7] = [b0, b1, b2, b3, b4, b5, b6, b7]) := by
    rw [decide_eq_decide, BRow.mk.injEq]
  rw [hd, e1, e2, run_equalIn_struct _ _ _ _ _ (by kernel_rfl) (by kernel_rfl)]
  generalize [a0, a1, a2, a3, a4, a5, a6, a7] = V at *
  generalize [b0, b1, b2, b3, b4, b5, b6, b7] = V' at *
  simp [go_sem, Op.eqFields, hv]
  (repeat' split) <;> simp_all
theorem eqIn_being (i g i' g' : Int) (w : World) : (Op.equalIn 10000 27 (.agg #[.int .i64 i, .int .i64 g]) (.agg #[.int .i64 i', .int .i64 g'])).run Try.prog w = .ok (i == i' && g == g') w := by
  rw [run_equalIn_struct _ _ _ _ _ (by kernel_rfl) (by kernel_rfl)]
  simp [go_sem, Op.eqFields]
  (repeat' split) <;> simp_all
theorem eqBeing (i g i' g' : Int) (w : World) : (binOp .eql 27 (.agg #[.int .i64 i, .int .i64 g]) (.agg #[.int .i64 i', .int .i64 g'])).run Try.prog w = .ok (.bool (i == i' && g == g')) w := by
  rw [run_eql_struct, eqIn_being]
  rfl
theorem neBeing (i g i' g' : Int) (w : World) : (binOp .neq 27 (.agg #[.int .i64 i, .int .i64 g]) (.agg #[.int .i64 i', .int .i64 g'])).run Try.prog w = .ok (.bool (!(i == i' && g == g'))) w := by
  rw [run_neq_struct, eqIn_being]
  rfl
theorem neRow (a b : BRow) (w : World) : (binOp .neq 51 (rowV a) (rowV b)).run Try.prog w = .ok (.bool (!decide (a = b))) w := by
  have e1 : ∃ xs, rowV a = .agg xs := ⟨_, rfl⟩
  have e2 : ∃ xs, rowV b = .agg xs := ⟨_, rfl⟩
  obtain ⟨xs, h1⟩ := e1
  obtain ⟨ys, h2⟩ := e2
  have h := eqRow a b w
  rw [h1, h2] at h ⊢
  rw [run_neq_struct, h]
  rfl
end Go.Proofs.Ytefdblaolmckmab

namespace Go.Proofs.Ytefdblaolmckmab
open Go.RowKit
open Brood
set_option linter.unusedVariables false
set_option linter.unusedSimpArgs false

set_option maxRecDepth 20000 in
set_option maxHeartbeats 1600000 in
theorem cmp_any (a b : Int) (w : World) : Calls Try.prog 64 #[.int .i64 a, .int .i64 b] w fun e w' => e = .returned (.int .i64 (cmpI a b)) ∧ w' = w := by
  by_cases h1 : a < b
  · have hr : Hid (cmpI a b = -1) := Lib.hid (by simp [cmpI, h1])
    go_enter Try.func64, Try.ntmps64
    go_wp2
    go_ret
    exact ⟨ret_int hr.out.symm, rfl⟩
  · by_cases h2 : b < a
    · have hr : Hid (cmpI a b = 1) := Lib.hid (by simp [cmpI, h1, h2])
      go_enter Try.func64, Try.ntmps64
      go_wp2
      go_ret
      exact ⟨ret_int hr.out.symm, rfl⟩
    · have hr : Hid (cmpI a b = 0) := Lib.hid (by simp [cmpI, h1, h2])
      go_enter Try.func64, Try.ntmps64
      go_wp2
      go_ret
      exact ⟨ret_int hr.out.symm, rfl⟩
end Go.Proofs.Ytefdblaolmckmab

namespace Go.Proofs.Ytefdblaolmckmab
open Go.RowKit
open Brood
set_option linter.unusedVariables false
set_option linter.unusedSimpArgs false

theorem sl_some_g (ad : Addr) (n c : Nat) (w : World) : (binOp .eql 23 (.slice (some ad) n c) (.slice none 0 0)).run Try.prog w = .ok (.bool false) w := by kernel_rfl
theorem sl_none_g (n c : Nat) (w : World) : (binOp .eql 23 (.slice none n c) (.slice none 0 0)).run Try.prog w = .ok (.bool true) w := by kernel_rfl
set_option maxRecDepth 20000 in
set_option maxHeartbeats 1600000 in
theorem cloneG_any (zs : List Int) (A : Option Addr) (c : Nat) (hlen : zs.length * 8 ≤ 140737488355328) (hn : A = none → c = 0 ∧ zs = []) (w : World) (hA : RdG w w.heap.size A zs) :
    Calls Try.prog 58 #[.slice A zs.length c] w fun e w' => ∃ v, e = .returned v ∧ w'.ownsRow w.heap.size 3 1 v zs.length (ints zs) ∧ Below w.heap.size w w' := by
  obtain ⟨i0', hi0, hz0a, hz0b, hz0c⟩ := info_parts infoInt
  have hs1 := sl_some_g
  have hs2 := sl_none_g
  cases A with
  | none =>
    obtain ⟨rfl, rfl⟩ := hn rfl
    go_enter Try.func58, Try.ntmps58
    go_wp2_with fail
    go_ret
    exact ⟨_, rfl, own_nil _ _ _ _, Below.refl _ _⟩
  | some ad =>
    have hown0 : (w.alloc (.cells #[] 3)).ownsRow w.heap.size 3 1 (.slice (some ⟨w.heap.size, 0, none⟩) 0 0) 0 [] := World.ownsRow_lit w #[] 0 (Nat.le_refl _) (by unfold maxLen; omega) (by simp)
    have hA' := Rd.alloc hA (Nat.le_refl _) (.cells #[] 3)
    have hce : ∀ j u, (ints zs)[j]? = some u → (w.alloc (.cells #[] 3)).cell? (ad.add j) = some u := by
      intro j u hu
      have h0 : 0 < zs.length := by
        rcases Nat.eq_zero_or_pos zs.length with e | e
        · have : zs = [] := List.eq_nil_of_length_eq_zero e
          subst this
          simp [ints] at hu
        · exact e
      obtain ⟨b, off, he, _, hc⟩ := hA'.2 h0
      obtain rfl := Option.some.inj he
      rw [add_mk]
      exact hc j u hu
    have hcl : (ints zs).length = zs.length * 1 := hA.1
    go_enter Try.func58, Try.ntmps58
    go_wp2_with (at_builtin; refine wpList_append_own _ rfl _ _ 23 rfl w.heap.size 3 i0' (.int .i64 0) 1 8 Try.underlying23 hi0 hz0a hz0b hz0c rfl (by decide) _ _ _ rfl hown0 ad zs.length c (ints zs) rfl hcl hce (ints_one _) ?c3 ?c4 ?c5 ?_; rotate_left 3; intro v' w1 hown' hgrow _)
    case c3 => unfold maxLen; omega
    case c4 => omega
    case c5 => simp
    go_ret
    exact ⟨_, rfl, by simpa using hown', ((Below.refl _ _).alloc (Nat.le_refl _) _).grown hgrow (by simp) (fun k e => by cases e; exact Nat.le_refl _)⟩
end Go.Proofs.Ytefdblaolmckmab

namespace Go.Proofs.Ytefdblaolmckmab
open Go.RowKit

theorem infoRow : (Try.prog.info? 51).map (fun i => (i.zero, i.size, i.bytes)) = some (some (.agg #[.int .i64 0, .int .i64 0, .int .i64 0, .int .i64 0, .int .i64 0, .int .i64 0, .int .i64 0, .int .i64 0, .int .i64 0, .int .i64 0, .int .i64 0]), 11, 88) := by kernel_rfl
end Go.Proofs.Ytefdblaolmckmab

namespace Go.Proofs.Ytefdblaolmckmab
open Go.RowKit Go.Lib
open Brood
set_option linter.unusedVariables false
set_option linter.unusedSimpArgs false

theorem wp_copy_eq {P : Program} (w : World) {o : Oper} {a : Act} {K : Act → World → Prop} {Q : Exit → Act → World → Prop} (d s : Operand) (t t' : TypeId)
    (ho : o.op = .call { callee := .builtin .copy, args := #[d, s], argTypes := #[t, t'] }) (v u : Value) (hd : a.eval d = v) (hs : a.eval s = u) {v' : Value} {w' : World}
    (hr : (Builtin.copy_ #[t, t'] o.type #[v, u]).run P w = .ok v' w') (h : K (a.put o.dst v') w') : o.wp P a w K Q := by
  unfold Oper.wp execOp
  simp only [ho, resolve, invoke, builtin, Sem.run_bind, Sem.run_pure, Result.andThen_ok, List.map_toArray, List.map_cons, List.map_nil, hd, hs, hr]
  exact h
theorem wpList_copy_eq {P : Program} (w : World) {ops : Array Oper} {rest : List Oper} {o : Oper} {a : Act} {Q : Exit → Act → World → Prop} (hgd : o.guard = none) (d s : Operand) (t t' : TypeId)
    (ho : o.op = .call { callee := .builtin .copy, args := #[d, s], argTypes := #[t, t'] }) (v u : Value) (hd : a.eval d = v) (hs : a.eval s = u) {v' : Value} {w' : World}
    (hr : (Builtin.copy_ #[t, t'] o.type #[v, u]).run P w = .ok v' w') (h : wpList P ops Q rest (a.put o.dst v') w') : wpList P ops Q (o :: rest) a w :=
  wpList_plain hgd fun _ hK => wp_copy_eq w d s t t' ho v u hd hs hr (hK _ _ h)
theorem step_copy_eq {P : Program} {ops : Array Oper} {o : Oper} {a : Act} {w : World} {K : Act → World → Prop} {Q : Exit → Act → World → Prop} {E : Prop}
    (hg : o.guard = none) (d x : Operand) (dT sT : TypeId) (hop : o.op = Op.call { callee := Callee.builtin Builtin.copy, args := #[d, x], argTypes := #[dT, sT] })
    (v u : Value) (hd : a.eval d = v) (hx : a.eval x = u) {v' : Value} {w' : World} (hr : (Builtin.copy_ #[dT, sT] o.type #[v, u]).run P w = .ok v' w') (hK : K (a.put o.dst v') w') :
    if Region.wanted o (yielded ops a.tmps) = true then Oper.wp P o a w K Q else E := by
  have hw : Region.wanted o (yielded ops a.tmps) = true := by simp [Region.wanted, hg]
  rw [if_pos hw]
  unfold Oper.wp
  simp [execOp, hop, resolve, invoke, builtin, hd, hx, hr, Result.andThen]
  exact hK
end Go.Proofs.Ytefdblaolmckmab

namespace Go.Proofs.Ytefdblaolmckmab
open Brood
set_option linter.unusedVariables false
set_option linter.unusedSimpArgs false

structure RightW (rows : List BRow) (gens : List Int) : Prop where
  len : gens.length ≤ 60
  gen : ∀ n ∈ gens, 1 ≤ n ∧ n ≤ 1000
  row : ∀ r ∈ rows, rowErr r = 0
  idx : ∀ r ∈ rows, 0 ≤ r.idx ∧ r.idx < (gens.length : Int)
  fit : ∀ r ∈ rows, r.gen = gens.getD r.idx.toNat 0
  rise : Rise rows
theorem gensFrom_iff : ∀ (l : List Int) (i : Nat), (gensFrom i l).1 = 0 ↔ ∀ n ∈ l, 1 ≤ n ∧ n ≤ 1000
  | [], _ => by simp [gensFrom]
  | n :: l, i => by
    rw [gensFrom]
    split
    · rename_i h
      simp only [List.mem_cons, forall_eq_or_imp]
      constructor
      · intro h'; simp at h'
      · rintro ⟨h', _⟩; omega
    · rename_i h
      rw [gensFrom_iff l (i + 1)]
      simp only [List.mem_cons, forall_eq_or_imp]
      constructor
      · intro h'; exact ⟨by omega, h'⟩
      · exact fun h' => h'.2
theorem gensErr_iff (l : List Int) : (gensErr l).1 = 0 ↔ l.length ≤ 60 ∧ ∀ n ∈ l, 1 ≤ n ∧ n ≤ 1000 := by
  unfold gensErr
  split
  · constructor
    · intro h; simp at h
    · rintro ⟨h, _⟩; omega
  · rw [gensFrom_iff]
    constructor
    · exact fun h => ⟨by omega, h⟩
    · exact fun h => h.2
theorem rise_cons {r : BRow} {l : List BRow} : Rise (r :: l) ↔ (∀ q ∈ l, r.idx < q.idx) ∧ Rise l := by
  constructor
  · intro h
    refine ⟨fun q hq => ?_, fun i j hi hj hij => h (i + 1) (j + 1) (by simpa using hi) (by simpa using hj) (by omega)⟩
    obtain ⟨k, hk, rfl⟩ := List.getElem_of_mem hq
    exact h 0 (k + 1) (by simp) (by simpa using hk) (by omega)
  · rintro ⟨h1, h2⟩ i j hi hj hij
    match i, j with
    | 0, 0 => omega
    | 0, j + 1 => exact h1 _ (List.getElem_mem (by simpa using hj))
    | i + 1, 0 => omega
    | i + 1, j + 1 => exact h2 i j (by simpa using hi) (by simpa using hj) (by omega)
theorem rowErr_or (r : BRow) : rowErr r = 0 ∨ rowErr r = 3 := by unfold rowErr; split <;> simp
theorem rowsFrom_iff (gens : List Int) : ∀ (l : List BRow) (i : Nat) (p : Option Int), (rowsFrom gens i p l).1 = 0 ↔
    (∀ r ∈ l, rowErr r = 0) ∧ (∀ r ∈ l, 0 ≤ r.idx ∧ r.idx < (gens.length : Int)) ∧ (∀ r ∈ l, r.gen = gens.getD r.idx.toNat 0) ∧ Rise l ∧ (∀ q, p = some q → ∀ r ∈ l, q < r.idx)
  | [], _, _ => by simp [rowsFrom, Rise]
  | r :: l, i, p => by
    rw [rowsFrom]
    split
    · rename_i h
      constructor
      · intro h'; exact absurd h' h
      · rintro ⟨h', _⟩; exact absurd (h' r (by simp)) h
    · rename_i h
      split
      · rename_i h2
        constructor
        · intro h'; simp at h'
        · rintro ⟨_, h', _⟩; have := h' r (by simp); omega
      · rename_i h2
        split
        · rename_i h3
          constructor
          · intro h'; simp at h'
          · rintro ⟨_, _, _, _, h'⟩
            cases p with
            | none => simp [prevGe] at h3
            | some q => simp [prevGe] at h3; have := h' q rfl r (by simp); omega
        · rename_i h3
          split
          · rename_i h4
            constructor
            · intro h'; simp at h'
            · rintro ⟨_, _, h', _⟩; exact absurd (h' r (by simp)) h4
          · rename_i h4
            rw [rowsFrom_iff gens l (i + 1) (some r.idx), rise_cons]
            simp only [List.mem_cons, forall_eq_or_imp]
            have hp : ∀ q, p = some q → q < r.idx := by
              rintro q rfl
              simp [prevGe] at h3
              exact h3
            constructor
            · rintro ⟨a, b, c, d, e⟩
              exact ⟨⟨by simpa using h, a⟩, ⟨by omega, b⟩, ⟨by simpa using h4, c⟩, ⟨e r.idx rfl, d⟩, fun q hq => ⟨hp q hq, fun x hx => by have := hp q hq; have := e r.idx rfl x hx; omega⟩⟩
            · rintro ⟨⟨_, a⟩, ⟨_, b⟩, ⟨_, c⟩, ⟨e, d⟩, _⟩
              exact ⟨a, b, c, d, fun q hq x hx => by injection hq with hq; subst hq; exact e x hx⟩
theorem right_iff (rows : List BRow) (gens : List Int) : (worldErr ⟨rows, gens⟩).1 = 0 ↔ RightW rows gens := by
  unfold worldErr
  by_cases h : (gensErr gens).1 = 0
  · simp only [h, ne_eq, not_true_eq_false, if_false]
    rw [rowsFrom_iff]
    rw [gensErr_iff] at h
    constructor
    · rintro ⟨a, b, c, d, _⟩; exact ⟨h.1, h.2, a, b, c, d⟩
    · rintro ⟨_, _, a, b, c, d⟩; exact ⟨a, b, c, d, fun q hq => by cases hq⟩
  · rw [if_pos h]
    constructor
    · intro h'; exact absurd h' h
    · intro h'; exact absurd ((gensErr_iff gens).2 ⟨h'.len, h'.gen⟩) h
theorem rise_len {rows : List BRow} (hr : Rise rows) : ∀ k (hk : k < rows.length) (h0 : ∀ r ∈ rows, 0 ≤ r.idx), (k : Int) ≤ rows[k].idx := by
  intro k hk h0
  induction k with
  | zero => exact h0 _ (List.getElem_mem hk)
  | succ k ih =>
    have h1 := ih (by omega)
    have h2 := hr k (k + 1) (by omega) hk (by omega)
    omega
theorem RightW.rows_le {rows : List BRow} {gens : List Int} (h : RightW rows gens) : rows.length ≤ gens.length := by
  rcases Nat.eq_zero_or_pos rows.length with h0 | h0
  · omega
  · have h1 := rise_len h.rise (rows.length - 1) (by omega) (fun r hr => (h.idx r hr).1)
    have h2 := (h.idx _ (List.getElem_mem (show rows.length - 1 < rows.length by omega))).2
    omega
theorem RightW.set_ {rows : List BRow} {gens : List Int} (h : RightW rows gens) : ∀ r ∈ rows, isSet r.has = true := by
  intro r hr
  have := h.row r hr
  unfold rowErr at this
  split at this
  · rename_i h'; rw [Bool.and_eq_true] at h'; exact h'.1
  · simp at this
theorem RightW.wfr {rows : List BRow} {gens : List Int} (h : RightW rows gens) : ∀ r ∈ rows, (Lit.int .i64 r.idx).wf = true := by
  intro r hr
  have := h.idx r hr
  have := h.len
  exact wf_of (by omega) (by omega)

def zeros8 : List Int := [0, 0, 0, 0, 0, 0, 0, 0]
/-- n in the first parts of the list. -/
def valsTo (has n : Int) (j : Nat) : List Int := ((listS has).take j).foldl (fun vs k => vs.set k.toNat n) zeros8
theorem fold_len (n : Int) : ∀ (l : List Int) (vs : List Int), (l.foldl (fun vs k => vs.set k.toNat n) vs).length = vs.length
  | [], _ => rfl
  | k :: l, vs => by rw [List.foldl_cons, fold_len n l]; simp
theorem valsTo_len (has n : Int) (j : Nat) : (valsTo has n j).length = 8 := by unfold valsTo; rw [fold_len]; rfl
theorem valsTo_succ {has : Int} (n : Int) {j : Nat} (hj : j < (listS has).length) : valsTo has n (j + 1) = (valsTo has n j).set (listS has)[j].toNat n := by
  unfold valsTo
  rw [List.take_add_one, List.getElem?_eq_getElem hj, Option.toList_some, List.foldl_append]
  rfl
def rowL (i g has : Int) (vs : List Int) : List Value := [.int .i64 i, .int .i64 g, .int .i64 has] ++ ints vs
theorem rowL_set (i g has : Int) (vs : List Int) (k : Nat) (n : Int) : (rowL i g has vs).set (3 + k) (.int .i64 n) = rowL i g has (vs.set k n) := by
  rw [Nat.add_comm]
  simp [rowL, ints, List.map_set]
theorem listS_range {s : Int} : ∀ k ∈ listS s, 0 ≤ k ∧ k < 8 := by
  intro k hk
  simp only [listS, listN, List.mem_map, List.mem_filter, List.mem_range] at hk
  obtain ⟨m, ⟨hm, _⟩, rfl⟩ := hk
  omega
theorem listS_len (s : Int) : (listS s).length ≤ 8 := by
  unfold listS listN
  rw [List.length_map]
  exact Nat.le_trans (List.length_filter_le _ _) (by simp)
theorem newRow_cells (i g has n : Int) : rowL i g has (valsTo has n (listS has).length) = rowCells ⟨i, g, has, valsTo has n (listS has).length, valsTo_len _ _ _⟩ := rfl
def newRow (i g has n : Int) : BRow := ⟨i, g, has, valsTo has n (listS has).length, valsTo_len _ _ _⟩
def gensPut (gens : List Int) (i g : Int) : List Int := (if i = (gens.length : Int) then gens ++ [0] else gens).set i.toNat g
structure Spawned where
  rows : List BRow
  gens : List Int
  i : Int
  g : Int
  err : Int
def spawnV (rows : List BRow) (gens : List Int) (has n : Int) : Spawned :=
  if (worldErr ⟨rows, gens⟩).1 ≠ 0 then ⟨[], [], 0, 0, (worldErr ⟨rows, gens⟩).1⟩
  else if isSet has = false ∨ isVal n = false then ⟨[], [], 0, 0, 3⟩
  else if (nextV rows gens).2.2 ≠ 0 then ⟨[], [], 0, 0, (nextV rows gens).2.2⟩
  else ⟨insRow rows (posOf (nextV rows gens).1 rows) (newRow (nextV rows gens).1 (nextV rows gens).2.1 has n), gensPut gens (nextV rows gens).1 (nextV rows gens).2.1, (nextV rows gens).1, (nextV rows gens).2.1, 0⟩
theorem nextFrom_some {used : List Int} : ∀ {l : List Int} {i : Nat} {p : Int × Int}, nextFrom used i l = some p → ∃ k, ∃ hk : k < l.length, p.1 = ((i + k : Nat) : Int) ∧ p.2 = l[k] + 1 ∧ l[k] < 1000 ∧ used.contains p.1 = false
  | [], _, _, h => by cases h
  | n :: l, i, p, h => by
    rw [nextFrom] at h
    split at h
    · rename_i h'
      injection h with h
      subst h
      simp only [Bool.and_eq_true, Bool.not_eq_true', decide_eq_true_eq] at h'
      exact ⟨0, by simp, by simp, by simp, by simpa using h'.2, h'.1⟩
    · obtain ⟨k, hk, h1, h2, h3, h4⟩ := nextFrom_some h
      exact ⟨k + 1, by simpa using hk, by rw [h1]; congr 1; omega, by simpa using h2, by simpa using h3, h4⟩
/-- What the next being is, where there is one. -/
theorem nextV_ok {rows : List BRow} {gens : List Int} (h : (nextV rows gens).2.2 = 0) :
    ((∃ k, ∃ hk : k < gens.length, (nextV rows gens).1 = (k : Int) ∧ (nextV rows gens).2.1 = gens[k] + 1 ∧ gens[k] < 1000 ∧ (rows.map (·.idx)).contains (k : Int) = false) ∨
      ((nextV rows gens).1 = (gens.length : Int) ∧ (nextV rows gens).2.1 = 1 ∧ gens.length < 60)) := by
  unfold nextV at h ⊢
  cases hn : nextFrom (rows.map (·.idx)) 0 gens with
  | some p =>
    obtain ⟨k, hk, h1, h2, h3, h4⟩ := nextFrom_some hn
    rw [Nat.zero_add] at h1
    rw [h1] at h4
    exact .inl ⟨k, hk, h1, h2, h3, h4⟩
  | none =>
    rw [hn] at h
    simp only at h ⊢
    split at h
    · simp at h
    · rename_i h60
      rw [if_neg h60]
      exact .inr ⟨rfl, rfl, by omega⟩
theorem nextV_pos {rows : List BRow} {gens : List Int} (h : (nextV rows gens).2.2 = 0) : ∃ k : Nat, (nextV rows gens).1 = (k : Int) ∧ k ≤ gens.length := by
  rcases nextV_ok h with ⟨k, hk, h1, _⟩ | ⟨h1, _⟩
  · exact ⟨k, h1, by omega⟩
  · exact ⟨_, h1, Nat.le_refl _⟩
end Go.Proofs.Ytefdblaolmckmab

namespace Go.Proofs.Ytefdblaolmckmab
open Brood
set_option linter.unusedVariables false
set_option linter.unusedSimpArgs false

theorem valsBad_iff (has : Int) : ∀ (vs : List Int) (k : Nat), valsBad has k vs = false ↔ ∀ j (hj : j < vs.length), isVal vs[j] = true ∧ (vs[j] ≠ 0 → hasB has ((k + j : Nat) : Int) = true)
  | [], k => by simp [valsBad]
  | v :: l, k => by
    rw [valsBad, Bool.or_eq_false_iff, valsBad_iff has l (k + 1)]
    have hv : valBad has k v = false ↔ isVal v = true ∧ (v ≠ 0 → hasB has (k : Int) = true) := by
      unfold valBad
      rw [Bool.or_eq_false_iff]
      simp
    rw [hv]
    constructor
    · rintro ⟨h0, h1⟩ j hj
      cases j with
      | zero => exact h0
      | succ j =>
        have := h1 j (by simpa using hj)
        rw [show k + (j + 1) = k + 1 + j by omega]
        exact this
    · intro h
      refine ⟨h 0 (by simp), fun j hj => ?_⟩
      have := h (j + 1) (by simpa using hj)
      rw [show k + (j + 1) = k + 1 + j by omega] at this
      exact this
theorem getD_get {l : List Int} {j : Nat} (h : j < l.length) : l.getD j 0 = l[j] := by simp [List.getD_eq_getElem?_getD, h]
theorem rowErr_iff (r : BRow) : rowErr r = 0 ↔ isSet r.has = true ∧ ∀ j : Nat, j < 8 → isVal (r.vals.getD j 0) = true ∧ (r.vals.getD j 0 ≠ 0 → hasB r.has (j : Int) = true) := by
  unfold rowErr
  have h := valsBad_iff r.has r.vals 0
  have h8 := r.h8
  constructor
  · intro h'
    split at h'
    · rename_i hc
      rw [Bool.and_eq_true] at hc
      refine ⟨hc.1, fun j hj => ?_⟩
      have := h.1 (by simpa using hc.2) j (by omega)
      rw [getD_get (by omega)]
      simpa using this
    · simp at h'
  · rintro ⟨h1, h2⟩
    rw [if_pos]
    rw [Bool.and_eq_true]
    refine ⟨h1, ?_⟩
    have := h.2 (fun j hj => by
      have := h2 j (by omega)
      rw [getD_get (by omega)] at this
      simpa using this)
    rw [this]; rfl
theorem isB_iff {i g : Int} {r : BRow} : isB i g r = true ↔ r.idx = i ∧ r.gen = g := by simp [isB]
theorem isB_false {i g : Int} {r : BRow} : isB i g r = false ↔ ¬ (r.idx = i ∧ r.gen = g) := by rw [← isB_iff]; simp
theorem findR_spec {i g : Int} {rows : List BRow} {k : Nat} (h : findR i g rows = some k) : ∃ hk : k < rows.length, isB i g rows[k] = true := by
  have hk := findR_lt h
  refine ⟨hk, ?_⟩
  have h2 := findR_rowOf (i := i) (g := g) (rows := rows)
  rw [h] at h2
  simp only [Option.bind_some, List.getElem?_eq_getElem hk] at h2
  exact List.find?_some h2
theorem findR_none {i g : Int} {rows : List BRow} (h : findR i g rows = none) : rowOf i g rows = none := by rw [findR_rowOf, h]; rfl
theorem rowOf_none_iff {i g : Int} {rows : List BRow} : rowOf i g rows = none ↔ ∀ r ∈ rows, isB i g r = false := by
  unfold rowOf
  rw [List.find?_eq_none]
  simp
theorem rise_inj {rows : List BRow} (hr : Rise rows) {p q : BRow} (hp : p ∈ rows) (hq : q ∈ rows) (h : p.idx = q.idx) : p = q := by
  obtain ⟨i, hi, rfl⟩ := List.getElem_of_mem hp
  obtain ⟨j, hj, rfl⟩ := List.getElem_of_mem hq
  rcases Nat.lt_trichotomy i j with h' | h' | h'
  · have := hr i j hi hj h'; omega
  · subst h'; rfl
  · have := hr j i hj hi h'; omega
theorem rowOf_some_iff {i g : Int} {rows : List BRow} (hr : Rise rows) {p : BRow} : rowOf i g rows = some p ↔ p ∈ rows ∧ p.idx = i ∧ p.gen = g := by
  constructor
  · intro h
    exact ⟨List.mem_of_find?_eq_some h, isB_iff.1 (List.find?_some h)⟩
  · rintro ⟨h1, h2, h3⟩
    cases hq : rowOf i g rows with
    | none =>
      have := rowOf_none_iff.1 hq p h1
      rw [isB_iff.2 ⟨h2, h3⟩] at this
      cases this
    | some q =>
      have h4 := List.mem_of_find?_eq_some hq
      have h5 := isB_iff.1 (List.find?_some hq)
      rw [rise_inj hr h1 h4 (by rw [h2, h5.1])]
/-- Rows put in at their place rise. -/
theorem posOf_spec {x : Int} : ∀ {rows : List BRow}, Rise rows → (∀ r ∈ rows.take (posOf x rows), r.idx < x) ∧ (∀ r ∈ rows.drop (posOf x rows), x ≤ r.idx)
  | [], _ => by simp
  | r :: l, h => by
    have h' := rise_cons.1 h
    have ih := posOf_spec (x := x) h'.2
    rw [posOf]
    split
    · rename_i hlt
      refine ⟨?_, ?_⟩
      · intro q hq
        rw [List.take_succ_cons] at hq
        rcases List.mem_cons.1 hq with rfl | hq
        · exact hlt
        · exact ih.1 q hq
      · intro q hq
        rw [List.drop_succ_cons] at hq
        exact ih.2 q hq
    · rename_i hge
      refine ⟨by simp, ?_⟩
      intro q hq
      rw [List.drop_zero] at hq
      rcases List.mem_cons.1 hq with rfl | hq
      · omega
      · have := h'.1 q hq; omega
theorem rise_append {l m : List BRow} : Rise (l ++ m) ↔ Rise l ∧ Rise m ∧ ∀ p ∈ l, ∀ q ∈ m, p.idx < q.idx := by
  induction l with
  | nil => simp [Rise]
  | cons r l ih =>
    rw [List.cons_append, rise_cons, rise_cons, ih]
    constructor
    · rintro ⟨h1, h2, h3, h4⟩
      refine ⟨⟨fun q hq => h1 q (by simp [hq]), h2⟩, h3, fun p hp q hq => ?_⟩
      rcases List.mem_cons.1 hp with rfl | hp
      · exact h1 q (by simp [hq])
      · exact h4 p hp q hq
    · rintro ⟨⟨h1, h2⟩, h3, h4⟩
      refine ⟨fun q hq => ?_, h2, h3, fun p hp q hq => h4 p (by simp [hp]) q hq⟩
      rcases List.mem_append.1 hq with hq | hq
      · exact h1 q hq
      · exact h4 r (by simp) q hq
theorem mem_insRow {rows : List BRow} {k : Nat} {r q : BRow} : q ∈ insRow rows k r ↔ q = r ∨ q ∈ rows := by
  unfold insRow
  rw [List.mem_append, List.mem_cons]
  constructor
  · rintro (h | h | h)
    · exact .inr (List.mem_of_mem_take h)
    · exact .inl h
    · exact .inr (List.mem_of_mem_drop h)
  · rintro (h | h)
    · exact .inr (.inl h)
    · rw [← List.take_append_drop k rows] at h
      rcases List.mem_append.1 h with h | h
      · exact .inl h
      · exact .inr (.inr h)
theorem rise_ins {rows : List BRow} (hr : Rise rows) {r : BRow} (hne : ∀ q ∈ rows, q.idx ≠ r.idx) : Rise (insRow rows (posOf r.idx rows) r) := by
  have hs := posOf_spec (x := r.idx) hr
  have hr2 := hr
  rw [← List.take_append_drop (posOf r.idx rows) rows, rise_append] at hr2
  unfold insRow
  rw [rise_append, rise_cons]
  refine ⟨hr2.1, ⟨fun q hq => ?_, hr2.2.1⟩, fun p hp q hq => ?_⟩
  · have := hs.2 q hq
    have := hne q (List.mem_of_mem_drop hq)
    omega
  · rcases List.mem_cons.1 hq with rfl | hq
    · exact hs.1 p hp
    · exact hr2.2.2 p hp q hq
theorem vals_valsTo (n : Int) : ∀ (l : List Int) (vs : List Int), vs.length = 8 → (∀ k ∈ l, 0 ≤ k ∧ k < 8) → ∀ j : Nat, j < 8 → (l.foldl (fun vs k => vs.set k.toNat n) vs).getD j 0 = if (j : Int) ∈ l then n else vs.getD j 0 := by
  intro l
  induction l with
  | nil => intro vs h _ j hj; simp
  | cons k l ih =>
    intro vs h hk j hj
    obtain ⟨k0, k8⟩ := hk k (by simp)
    rw [List.foldl_cons, ih _ (by simp [h]) (fun q hq => hk q (by simp [hq])) j hj]
    by_cases h1 : (j : Int) ∈ l
    · rw [if_pos h1, if_pos (by simp [h1])]
    · rw [if_neg h1]
      by_cases h2 : (j : Int) = k
      · rw [if_pos (by simp [h2])]
        have e : k.toNat = j := by omega
        rw [e]
        simp [List.getD_eq_getElem?_getD, h, hj]
      · rw [if_neg (by simp [h1, h2])]
        simp only [List.getD_eq_getElem?_getD]
        rw [List.getElem?_set_ne (by omega)]
theorem mem_listS {s k : Int} (hs : isSet s = true) : k ∈ listS s ↔ hasB s k = true := by
  simp only [listS, listN, List.mem_map, List.mem_filter, List.mem_range, hasB, Bool.and_eq_true, isPart_iff]
  constructor
  · rintro ⟨m, ⟨hm, hb⟩, rfl⟩
    exact ⟨by omega, by simpa using hb⟩
  · rintro ⟨⟨h0, h8⟩, hb⟩
    exact ⟨k.toNat, ⟨by omega, hb⟩, by omega⟩
/-- The values of a row that comes. -/
theorem newRow_val {i g has n : Int} (hs : isSet has = true) {j : Nat} (hj : j < 8) : (newRow i g has n).vals.getD j 0 = if hasB has (j : Int) = true then n else 0 := by
  show (valsTo has n (listS has).length).getD j 0 = _
  unfold valsTo
  rw [List.take_length, vals_valsTo n _ _ rfl listS_range j hj]
  have hz : zeros8.getD j 0 = 0 := by
    match j, hj with
    | 0, _ => rfl
    | 1, _ => rfl
    | 2, _ => rfl
    | 3, _ => rfl
    | 4, _ => rfl
    | 5, _ => rfl
    | 6, _ => rfl
    | 7, _ => rfl
  rw [hz]
  by_cases h : (j : Int) ∈ listS has
  · rw [if_pos h, if_pos ((mem_listS hs).1 h)]
  · rw [if_neg h, if_neg (fun h' => h ((mem_listS hs).2 h'))]
theorem newRow_ok {i g has n : Int} (hs : isSet has = true) (hv : isVal n = true) : rowErr (newRow i g has n) = 0 := by
  rw [rowErr_iff]
  refine ⟨hs, fun j hj => ?_⟩
  rw [newRow_val hs hj]
  by_cases hb : hasB has (j : Int) = true
  · rw [if_pos hb]; exact ⟨hv, fun _ => hb⟩
  · rw [if_neg hb]; exact ⟨by decide, fun h => absurd rfl h⟩
theorem gp_len (gens : List Int) (k : Nat) (g : Int) : (gensPut gens (k : Int) g).length = if k = gens.length then gens.length + 1 else gens.length := by
  unfold gensPut
  rw [List.length_set]
  by_cases h : k = gens.length
  · rw [if_pos (by omega), if_pos h]; simp
  · rw [if_neg (by omega), if_neg h]
theorem gp_get (gens : List Int) {k : Nat} (hk : k ≤ gens.length) (g : Int) (j : Nat) : (gensPut gens (k : Int) g).getD j 0 = if j = k then g else gens.getD j 0 := by
  unfold gensPut
  rw [Int.toNat_natCast]
  simp only [List.getD_eq_getElem?_getD]
  by_cases h : k = gens.length
  · rw [if_pos (by omega)]
    by_cases hj : j = k
    · rw [if_pos hj, hj, List.getElem?_set_self (by simp; omega)]; rfl
    · rw [if_neg hj, List.getElem?_set_ne (by omega)]
      by_cases hl : j < gens.length
      · rw [List.getElem?_append_left hl]
      · rw [List.getElem?_eq_none (by simp; omega), List.getElem?_eq_none (by omega)]
  · rw [if_neg (by omega)]
    by_cases hj : j = k
    · rw [if_pos hj, hj, List.getElem?_set_self (by omega)]; rfl
    · rw [if_neg hj, List.getElem?_set_ne (by omega)]
theorem gp_mem {gens : List Int} {k : Nat} {g x : Int} (h : x ∈ gensPut gens (k : Int) g) (hk : k ≤ gens.length) : x = g ∨ x ∈ gens := by
  unfold gensPut at h
  rw [Int.toNat_natCast] at h
  by_cases h' : k = gens.length
  · rw [if_pos (by omega), h', List.set_append_right _ _ (by omega), Nat.sub_self] at h
    simp at h
    exact h.symm
  · rw [if_neg (by omega)] at h
    exact (List.mem_or_eq_of_mem_set h).symm
/-- What spawning comes to, where it does. -/
structure SpawnOk (rows : List BRow) (gens : List Int) (has n : Int) (E : Spawned) : Prop where
  was : RightW rows gens
  set_ : isSet has = true
  val : isVal n = true
  pos : ∃ k : Nat, E.i = (k : Int) ∧ k ≤ gens.length
  gens_ : E.gens = gensPut gens E.i E.g
  gen : (E.i < (gens.length : Int) → E.g = gens.getD E.i.toNat 0 + 1) ∧ (E.i = (gens.length : Int) → E.g = 1)
  new : ∀ r ∈ rows, r.idx ≠ E.i
  rows_ : E.rows = insRow rows (posOf E.i rows) (newRow E.i E.g has n)
  is : RightW E.rows E.gens
theorem spawn_ok {rows : List BRow} {gens : List Int} {has n : Int} (h : (spawnV rows gens has n).err = 0) : SpawnOk rows gens has n (spawnV rows gens has n) := by
  unfold spawnV at h ⊢
  by_cases h1 : (worldErr ⟨rows, gens⟩).1 = 0
  · rw [if_neg (by simpa using h1)] at h ⊢
    have hw := (right_iff rows gens).1 h1
    by_cases h2 : isSet has = false ∨ isVal n = false
    · rw [if_pos h2] at h; cases h
    · rw [if_neg h2] at h ⊢
      by_cases h3 : (nextV rows gens).2.2 = 0
      · rw [if_neg (by simpa using h3)] at h ⊢
        have hs : isSet has = true := by cases h' : isSet has <;> simp_all
        have hv : isVal n = true := by cases h' : isVal n <;> simp_all
        have hn := nextV_ok h3
        generalize (nextV rows gens).1 = i at *
        generalize (nextV rows gens).2.1 = g at *
        have hpos : ∃ k : Nat, i = (k : Int) ∧ k ≤ gens.length := by
          rcases hn with ⟨k, hk, h1, _⟩ | ⟨h1, _⟩
          · exact ⟨k, h1, by omega⟩
          · exact ⟨_, h1, Nat.le_refl _⟩
        have hgen : (i < (gens.length : Int) → g = gens.getD i.toNat 0 + 1) ∧ (i = (gens.length : Int) → g = 1) := by
          rcases hn with ⟨k, hk, rfl, rfl, _⟩ | ⟨h1, h2, _⟩
          · exact ⟨fun _ => by rw [Int.toNat_natCast, getD_get hk], fun h => by omega⟩
          · exact ⟨fun h => by omega, fun _ => h2⟩
        have hnew : ∀ r ∈ rows, r.idx ≠ i := by
          rcases hn with ⟨k, hk, rfl, _, _, hc⟩ | ⟨h1, _⟩
          · intro r hr he
            have : (k : Int) ∈ rows.map (·.idx) := by rw [← he]; exact List.mem_map_of_mem hr
            simp at hc
            exact hc r hr he
          · intro r hr
            have := (hw.idx r hr).2
            omega
        have hg1 : 1 ≤ g ∧ g ≤ 1000 := by
          rcases hn with ⟨k, hk, _, rfl, h4, _⟩ | ⟨_, rfl, _⟩
          · have := hw.gen _ (List.getElem_mem hk); omega
          · omega
        have hl60 : i = (gens.length : Int) → gens.length < 60 := by
          rcases hn with ⟨k, hk, rfl, _⟩ | ⟨_, _, h⟩
          · intro h; omega
          · exact fun _ => h
        obtain ⟨k, rfl, hk⟩ := hpos
        refine ⟨hw, hs, hv, ⟨k, rfl, hk⟩, rfl, hgen, hnew, rfl, ?_⟩
        have hlen := gp_len gens k g
        refine ⟨?_, ?_, ?_, ?_, ?_, ?_⟩
        · dsimp only
          rw [hlen]
          have := hw.len
          split
          · rename_i h; have := hl60 (by omega); omega
          · omega
        · intro x hx
          rcases gp_mem hx hk with rfl | hx
          · exact hg1
          · exact hw.gen x hx
        · intro r hr
          rcases mem_insRow.1 hr with rfl | hr
          · exact newRow_ok hs hv
          · exact hw.row r hr
        · intro r hr
          dsimp only
          rw [hlen]
          rcases mem_insRow.1 hr with rfl | hr
          · show 0 ≤ (k : Int) ∧ (k : Int) < _
            split <;> omega
          · have := hw.idx r hr
            split <;> omega
        · intro r hr
          dsimp only
          rcases mem_insRow.1 hr with rfl | hr
          · show g = (gensPut gens (k : Int) g).getD (k : Int).toNat 0
            rw [Int.toNat_natCast, gp_get gens hk, if_pos rfl]
          · have h1 := hw.idx r hr
            have h2 := hnew r hr
            rw [gp_get gens hk, if_neg (by omega)]
            exact hw.fit r hr
        · exact rise_ins (r := newRow (k : Int) g has n) hw.rise hnew
      · rw [if_pos h3] at h
        exact absurd h h3
  · rw [if_pos h1] at h
    exact absurd h h1
theorem spawn_bad {rows : List BRow} {gens : List Int} {has n : Int} (h : (spawnV rows gens has n).err ≠ 0) : (spawnV rows gens has n).rows = [] ∧ (spawnV rows gens has n).gens = [] := by
  unfold spawnV at h ⊢
  split
  · exact ⟨rfl, rfl⟩
  · split
    · exact ⟨rfl, rfl⟩
    · split
      · exact ⟨rfl, rfl⟩
      · rename_i h1 h2 h3
        rw [if_neg h1, if_neg h2, if_neg h3] at h
        exact absurd rfl h
section
variable {rows : List BRow} {gens : List Int} {has n : Int} {E : Spawned}
theorem SpawnOk.none_ (h : SpawnOk rows gens has n E) : rowOf E.i E.g rows = none := by
  rw [rowOf_none_iff]
  intro r hr
  rw [isB_false]
  exact fun h' => h.new r hr h'.1
theorem SpawnOk.there (h : SpawnOk rows gens has n E) : rowOf E.i E.g E.rows = some (newRow E.i E.g has n) := by
  rw [rowOf_some_iff h.is.rise, h.rows_]
  exact ⟨mem_insRow.2 (.inl rfl), rfl, rfl⟩
theorem SpawnOk.len (h : SpawnOk rows gens has n E) : E.rows.length = rows.length + 1 := by
  rw [h.rows_]
  exact insRow_length (posOf_le _ _) _
theorem SpawnOk.stay (h : SpawnOk rows gens has n E) {i g : Int} {p : BRow} (hp : rowOf i g rows = some p) : rowOf i g E.rows = some p := by
  rw [rowOf_some_iff h.was.rise] at hp
  rw [rowOf_some_iff h.is.rise, h.rows_]
  exact ⟨mem_insRow.2 (.inr hp.1), hp.2⟩
theorem SpawnOk.only (h : SpawnOk rows gens has n E) {i g : Int} (hp : rowOf i g rows = none) (hne : ¬ (E.i = i ∧ E.g = g)) : rowOf i g E.rows = none := by
  rw [rowOf_none_iff] at hp ⊢
  intro r hr
  rw [h.rows_] at hr
  rcases mem_insRow.1 hr with rfl | hr
  · rw [isB_false]; exact hne
  · exact hp r hr
end
end Go.Proofs.Ytefdblaolmckmab

namespace Go.Proofs.Ytefdblaolmckmab
open Brood
set_option linter.unusedVariables false
set_option linter.unusedSimpArgs false

theorem rise_set {rows : List BRow} (hr : Rise rows) {k : Nat} (hk : k < rows.length) {r : BRow} (h : r.idx = rows[k].idx) : Rise (rows.set k r) := by
  intro i j hi hj hij
  simp only [List.length_set] at hi hj
  have := hr i j hi hj hij
  simp only [List.getElem_set]
  split
  · rename_i e; subst e
    rw [if_neg (by omega), h]; exact this
  · split
    · rename_i e; subst e
      rw [h]; exact this
    · exact this
theorem findR_at {i g : Int} : ∀ {rows : List BRow} {k : Nat}, findR i g rows = some k → ∀ j (hj : j < rows.length), j < k → isB i g rows[j] = false
  | [], k, h, _, _, _ => by simp [findR] at h
  | r :: l, k, h, j, hj, hjk => by
    rw [findR] at h
    split at h
    · have := Option.some.inj h; omega
    · rename_i hB
      cases h' : findR i g l with
      | none => rw [h'] at h; cases h
      | some q =>
        rw [h'] at h
        have h3 : q + 1 = k := Option.some.inj h
        cases j with
        | zero => simpa using hB
        | succ j => exact findR_at h' j (by simpa using hj) (by omega)
theorem findR_mk {i g : Int} : ∀ {rows : List BRow} {k : Nat} (hk : k < rows.length), isB i g rows[k] = true → (∀ j (hj : j < rows.length), j < k → isB i g rows[j] = false) → findR i g rows = some k
  | [], k, hk, _, _ => by simp at hk
  | r :: l, k, hk, h, hl => by
    rw [findR]
    cases k with
    | zero => rw [if_pos (by simpa using h)]
    | succ k =>
      have h0 := hl 0 (by simp) (by omega)
      simp only [List.getElem_cons_zero] at h0
      rw [if_neg (by rw [h0]; simp), findR_mk (k := k) (by simpa using hk) (by simpa using h) (fun j hj hjk => hl (j + 1) (by simpa using hj) (by omega))]
      rfl
theorem findR_set {i g : Int} {rows : List BRow} {k : Nat} (h : findR i g rows = some k) {r : BRow} (hr : isB i g r = true) : findR i g (rows.set k r) = some k := by
  have hk := findR_lt h
  refine findR_mk (by simpa using hk) (by simpa using hr) ?_
  intro j hj hjk
  rw [List.getElem_set_ne (by omega)]
  exact findR_at h j (by simpa using hj) hjk
theorem mem_set_iff {rows : List BRow} (hr : Rise rows) {k : Nat} (hk : k < rows.length) {r q : BRow} (h : r.idx = rows[k].idx) : q ∈ rows.set k r ↔ q = r ∨ (q ∈ rows ∧ q.idx ≠ r.idx) := by
  constructor
  · intro hq
    obtain ⟨j, hj, rfl⟩ := List.getElem_of_mem hq
    simp only [List.length_set] at hj
    rw [List.getElem_set]
    split
    · exact .inl rfl
    · rename_i hne
      refine .inr ⟨List.getElem_mem hj, fun e => ?_⟩
      rw [h] at e
      rcases Nat.lt_trichotomy k j with h' | h' | h'
      · have := hr k j hk hj h'; omega
      · exact hne h'
      · have := hr j k hj hk h'; omega
  · rintro (rfl | ⟨hq, hne⟩)
    · exact List.mem_set hk _
    · obtain ⟨j, hj, rfl⟩ := List.getElem_of_mem hq
      have hjk : k ≠ j := by rintro rfl; exact hne h.symm
      have : (rows.set k r)[j]'(by simpa using hj) = rows[j] := List.getElem_set_ne hjk _
      rw [← this]
      exact List.getElem_mem _
/-- What a closure may do to a right row. -/
structure FnOk (fr : BRow → BRow × Int) : Prop where
  idx : ∀ r, (fr r).1.idx = r.idx
  gen : ∀ r, (fr r).1.gen = r.gen
  ok : ∀ r, rowErr r = 0 → (fr r).2 = 0 → rowErr (fr r).1 = 0
structure ChangeOk (rows : List BRow) (gens : List Int) (i g : Int) (fr : BRow → BRow × Int) (k : Nat) (r : BRow) (E : Changed) : Prop where
  was : RightW rows gens
  find : findR i g rows = some k
  lt : k < rows.length
  at_ : rows[k]? = some r
  isb : r.idx = i ∧ r.gen = g
  ok : (fr r).2 = 0
  rows_ : E.rows = rows.set k (fr r).1
  gens_ : E.gens = gens
  err : E.err = 0
theorem change_ok {rows : List BRow} {gens : List Int} {i g : Int} {fr : BRow → BRow × Int} (h : (changeV rows gens i g fr).err = 0) : ∃ k r, ChangeOk rows gens i g fr k r (changeV rows gens i g fr) := by
  unfold changeV at h ⊢
  by_cases h1 : (worldErr ⟨rows, gens⟩).1 = 0
  · rw [if_neg (by simpa using h1)] at h ⊢
    have hw := (right_iff rows gens).1 h1
    cases hf : findR i g rows with
    | none => rw [hf] at h; cases h
    | some k =>
      have hk := findR_lt hf
      have he := List.getElem?_eq_getElem hk
      simp only [hf, he] at h ⊢
      obtain ⟨_, hb⟩ := findR_spec hf
      by_cases h2 : (fr rows[k]).2 = 0
      · rw [if_neg (by simpa using h2)] at h ⊢
        exact ⟨k, rows[k], hw, hf, hk, he, isB_iff.1 hb, h2, rfl, rfl, rfl⟩
      · rw [if_pos h2] at h
        exact absurd h h2
  · rw [if_pos h1] at h
    exact absurd h h1
theorem change_bad {rows : List BRow} {gens : List Int} {i g : Int} {fr : BRow → BRow × Int} (h : (changeV rows gens i g fr).err ≠ 0) : (changeV rows gens i g fr).rows = [] ∧ (changeV rows gens i g fr).gens = [] := by
  unfold changeV at h ⊢
  split
  · exact ⟨rfl, rfl⟩
  · rename_i h1
    rw [if_neg h1] at h
    split
    · exact ⟨rfl, rfl⟩
    · split
      · exact ⟨rfl, rfl⟩
      · split
        · exact ⟨rfl, rfl⟩
        · rename_i _ k hf _ r hr h2
          simp [hf, hr, h2] at h
/-- What makes a change: the other way. -/
theorem change_mk {rows : List BRow} {gens : List Int} {i g : Int} (fr : BRow → BRow × Int) (hw : RightW rows gens) {k : Nat} {r : BRow} (hf : findR i g rows = some k) (hr : rows[k]? = some r) :
    changeV rows gens i g fr = if (fr r).2 ≠ 0 then ⟨[], [], (fr r).2⟩ else ⟨rows.set k (fr r).1, gens, 0⟩ := by
  unfold changeV
  rw [if_neg (by simpa using (right_iff rows gens).2 hw), hf]
  simp only [hr]
theorem ext_some {α : Type} {a b : Option α} (h : ∀ p, a = some p ↔ b = some p) : a = b := by
  cases a with
  | none => cases b with
    | none => rfl
    | some q => exact ((h q).2 rfl)
  | some p => exact ((h p).1 rfl).symm
section
variable {rows : List BRow} {gens : List Int} {i g : Int} {fr : BRow → BRow × Int} {k : Nat} {r : BRow} {E : Changed}
theorem ChangeOk.get (h : ChangeOk rows gens i g fr k r E) : rows[k]'h.lt = r := by
  have := h.at_
  rw [List.getElem?_eq_getElem h.lt] at this
  exact Option.some.inj this
theorem ChangeOk.mem (h : ChangeOk rows gens i g fr k r E) : r ∈ rows := List.mem_of_getElem? h.at_
theorem ChangeOk.is (h : ChangeOk rows gens i g fr k r E) (hf : FnOk fr) : RightW E.rows E.gens := by
  have hi : (fr r).1.idx = (rows[k]'h.lt).idx := by rw [h.get, hf.idx]
  have hw := h.was
  rw [h.rows_, h.gens_]
  have hmem : ∀ q ∈ rows.set k (fr r).1, q = (fr r).1 ∨ q ∈ rows := fun q hq => (List.mem_or_eq_of_mem_set hq).symm
  refine ⟨hw.len, hw.gen, ?_, ?_, ?_, rise_set hw.rise h.lt hi⟩
  · intro q hq
    rcases hmem q hq with rfl | hq
    · exact hf.ok r (hw.row r h.mem) h.ok
    · exact hw.row q hq
  · intro q hq
    rcases hmem q hq with rfl | hq
    · rw [hf.idx]; exact hw.idx r h.mem
    · exact hw.idx q hq
  · intro q hq
    rcases hmem q hq with rfl | hq
    · rw [hf.idx, hf.gen]; exact hw.fit r h.mem
    · exact hw.fit q hq
theorem ChangeOk.findR_ (h : ChangeOk rows gens i g fr k r E) (hf : FnOk fr) : findR i g E.rows = some k := by
  rw [h.rows_]
  exact findR_set h.find (isB_iff.2 ⟨by rw [hf.idx]; exact h.isb.1, by rw [hf.gen]; exact h.isb.2⟩)
theorem ChangeOk.at2 (h : ChangeOk rows gens i g fr k r E) : E.rows[k]? = some (fr r).1 := by
  rw [h.rows_, List.getElem?_set_self h.lt]
theorem ChangeOk.rest (h : ChangeOk rows gens i g fr k r E) (hf : FnOk fr) {i' g' : Int} (hne : ¬ (i' = i ∧ g' = g)) : rowOf i' g' E.rows = rowOf i' g' rows := by
  have hi : (fr r).1.idx = (rows[k]'h.lt).idx := by rw [h.get, hf.idx]
  refine ext_some fun p => ?_
  rw [rowOf_some_iff (h.is hf).rise, rowOf_some_iff h.was.rise, h.rows_, mem_set_iff h.was.rise h.lt hi]
  constructor
  · rintro ⟨rfl | ⟨hp, _⟩, h2, h3⟩
    · rw [hf.idx, h.isb.1] at h2
      rw [hf.gen, h.isb.2] at h3
      exact absurd ⟨h2.symm, h3.symm⟩ hne
    · exact ⟨hp, h2, h3⟩
  · rintro ⟨hp, h2, h3⟩
    refine ⟨.inr ⟨hp, fun e => hne ?_⟩, h2, h3⟩
    rw [hf.idx] at e
    have := rise_inj h.was.rise hp h.mem e
    subst this
    exact ⟨h2.symm.trans h.isb.1, h3.symm.trans h.isb.2⟩
end
theorem putF_ok (part n : Int) : FnOk (putF part n) := by
  refine ⟨?_, ?_, ?_⟩
  · intro r; unfold putF; split <;> rfl
  · intro r; unfold putF; split <;> rfl
  · intro r hr h
    unfold putF at h ⊢
    by_cases hc : (isPart part && isVal n) = true
    · rw [if_pos hc] at h ⊢
      rw [Bool.and_eq_true] at hc
      have hp := isPart_iff.1 hc.1
      rw [rowErr_iff] at hr ⊢
      refine ⟨with_set hr.1, fun j hj => ?_⟩
      have hj2 := hr.2 j hj
      dsimp only
      rw [has_with]
      have h8 := r.h8
      by_cases he : j = part.toNat
      · subst he
        have : (r.vals.set part.toNat n).getD part.toNat 0 = n := by simp [List.getD_eq_getElem?_getD, h8, hj]
        rw [this]
        refine ⟨hc.2, fun _ => ?_⟩
        rw [hc.1, decide_eq_true (by omega)]; simp
      · have : (r.vals.set part.toNat n).getD j 0 = r.vals.getD j 0 := by
          simp only [List.getD_eq_getElem?_getD]
          rw [List.getElem?_set_ne (by omega)]
        rw [this]
        exact ⟨hj2.1, fun h' => by rw [hj2.2 h']; rfl⟩
    · rw [if_neg hc] at h; cases h
theorem dropF_ok (part : Int) : FnOk (dropF part) := by
  refine ⟨?_, ?_, ?_⟩
  · intro r; unfold dropF; split <;> rfl
  · intro r; unfold dropF; split <;> rfl
  · intro r hr h
    unfold dropF at h ⊢
    by_cases hc : hasB r.has part = true
    · rw [if_pos hc] at h ⊢
      have hp : isPart part = true := by unfold hasB at hc; rw [Bool.and_eq_true] at hc; exact hc.1
      rw [isPart_iff] at hp
      rw [rowErr_iff] at hr ⊢
      refine ⟨without_set hr.1, fun j hj => ?_⟩
      have hj2 := hr.2 j hj
      dsimp only
      rw [has_without hr.1]
      have h8 := r.h8
      by_cases he : j = part.toNat
      · subst he
        have : (r.vals.set part.toNat 0).getD part.toNat 0 = 0 := by simp [List.getD_eq_getElem?_getD, h8, hj]
        rw [this]
        exact ⟨by decide, fun h => absurd rfl h⟩
      · have : (r.vals.set part.toNat 0).getD j 0 = r.vals.getD j 0 := by
          simp only [List.getD_eq_getElem?_getD]
          rw [List.getElem?_set_ne (by omega)]
        rw [this]
        refine ⟨hj2.1, fun h' => ?_⟩
        rw [hj2.2 h', decide_eq_false (by omega)]; rfl
    · rw [if_neg hc] at h; cases h
theorem keepF_ok : FnOk keepF := ⟨fun _ => rfl, fun _ => rfl, fun _ h _ => h⟩
/-- Having one go. -/
structure KillOk (rows : List BRow) (gens : List Int) (i g : Int) (E : Changed) : Prop where
  was : RightW rows gens
  there : ∃ r ∈ rows, r.idx = i ∧ r.gen = g
  rows_ : E.rows = keepR (isB i g) rows
  gens_ : E.gens = gens
  err : E.err = 0
theorem kill_ok {rows : List BRow} {gens : List Int} {i g : Int} (h : (killV rows gens i g).err = 0) : KillOk rows gens i g (killV rows gens i g) := by
  unfold killV at h ⊢
  dsimp only at h ⊢
  by_cases hc : (changeV rows gens i g keepF).err = 0
  · rw [if_pos hc]
    obtain ⟨k, r, H⟩ := change_ok hc
    have hs : rows.set k (keepF r).1 = rows := by
      show rows.set k r = rows
      rw [← H.get]; exact List.set_getElem_self _
    refine ⟨H.was, ⟨r, H.mem, H.isb⟩, ?_, H.gens_, rfl⟩
    show keepR (isB i g) (changeV rows gens i g keepF).rows = _
    rw [H.rows_, hs]
  · rw [if_neg hc] at h
    exact absurd h hc
theorem kill_bad {rows : List BRow} {gens : List Int} {i g : Int} (h : (killV rows gens i g).err ≠ 0) : (killV rows gens i g).rows = [] ∧ (killV rows gens i g).gens = [] := by
  unfold killV at h ⊢
  dsimp only at h ⊢
  by_cases hc : (changeV rows gens i g keepF).err = 0
  · rw [if_pos hc] at h; exact absurd rfl h
  · rw [if_neg hc]
    exact change_bad hc
theorem kill_mk {rows : List BRow} {gens : List Int} {i g : Int} (hw : RightW rows gens) {r : BRow} (hr : r ∈ rows) (hi : r.idx = i) (hg : r.gen = g) : (killV rows gens i g).err = 0 := by
  have hf : ∃ k, findR i g rows = some k := by
    cases hf : findR i g rows with
    | some k => exact ⟨k, rfl⟩
    | none =>
      have := rowOf_none_iff.1 (findR_none hf) r hr
      rw [isB_iff.2 ⟨hi, hg⟩] at this
      cases this
  obtain ⟨k, hf⟩ := hf
  have hk := findR_lt hf
  have hc : (changeV rows gens i g keepF).err = 0 := by
    rw [change_mk keepF hw hf (List.getElem?_eq_getElem hk)]
    rfl
  unfold killV
  dsimp only
  rw [if_pos hc]
theorem mem_keepR {i g : Int} {rows : List BRow} {q : BRow} : q ∈ keepR (isB i g) rows ↔ q ∈ rows ∧ ¬ (q.idx = i ∧ q.gen = g) := by
  unfold keepR
  rw [List.mem_filter]
  constructor
  · rintro ⟨h1, h2⟩
    exact ⟨h1, isB_false.1 (by simpa using h2)⟩
  · rintro ⟨h1, h2⟩
    exact ⟨h1, by rw [isB_false.2 h2]; rfl⟩
theorem rise_filter (p : BRow → Bool) : ∀ {rows : List BRow}, Rise rows → Rise (rows.filter p)
  | [], h => h
  | r :: l, h => by
    have h' := rise_cons.1 h
    rw [List.filter_cons]
    split
    · rw [rise_cons]
      exact ⟨fun q hq => h'.1 q (List.mem_filter.1 hq).1, rise_filter p h'.2⟩
    · exact rise_filter p h'.2
section
variable {rows : List BRow} {gens : List Int} {i g : Int} {E : Changed}
theorem KillOk.is (h : KillOk rows gens i g E) : RightW E.rows E.gens := by
  have hw := h.was
  rw [h.rows_, h.gens_]
  exact ⟨hw.len, hw.gen, fun q hq => hw.row q (mem_keepR.1 hq).1, fun q hq => hw.idx q (mem_keepR.1 hq).1, fun q hq => hw.fit q (mem_keepR.1 hq).1, rise_filter _ hw.rise⟩
theorem KillOk.gone (h : KillOk rows gens i g E) : rowOf i g E.rows = none := by
  rw [rowOf_none_iff, h.rows_]
  intro q hq
  rw [isB_false]
  exact (mem_keepR.1 hq).2
theorem KillOk.rest (h : KillOk rows gens i g E) {i' g' : Int} (hne : ¬ (i' = i ∧ g' = g)) : rowOf i' g' E.rows = rowOf i' g' rows := by
  refine ext_some fun p => ?_
  rw [rowOf_some_iff h.is.rise, rowOf_some_iff h.was.rise, h.rows_, mem_keepR]
  constructor
  · rintro ⟨⟨h1, _⟩, h2⟩; exact ⟨h1, h2⟩
  · rintro ⟨h1, h2, h3⟩; exact ⟨⟨h1, fun h' => hne ⟨h2.symm.trans h'.1, h3.symm.trans h'.2⟩⟩, h2, h3⟩
end
end Go.Proofs.Ytefdblaolmckmab

namespace Go.Proofs.Ytefdblaolmckmab
open Brood
set_option linter.unusedVariables false
set_option linter.unusedSimpArgs false

theorem with_done {r : BRow} : ∀ {l : List BRow}, (∀ q ∈ l, r.idx < q.idx) → withFrom r true l = l
  | [], _ => rfl
  | x :: l, h => by
    have hx := h x (by simp)
    have ih := with_done (r := r) (l := l) (fun q hq => h q (by simp [hq]))
    have hne : (x.idx != r.idx) = true := by simp; omega
    unfold withFrom
    rw [hne]
    simp only [Bool.not_true, Bool.false_and, Bool.true_or, ih]
    rfl
theorem with_ins {r : BRow} : ∀ {l : List BRow}, Rise l → (∀ q ∈ l, q.idx ≠ r.idx) → withV r l = insRow l (posOf r.idx l) r
  | [], _, _ => rfl
  | x :: l, hr, hne => by
    have h' := rise_cons.1 hr
    have hx := hne x (by simp)
    have hxb : (x.idx != r.idx) = true := by simpa using hx
    unfold withV withFrom
    rw [hxb]
    by_cases h : r.idx ≤ x.idx
    · have hd := with_done (r := r) (l := l) (fun q hq => by have := h'.1 q hq; omega)
      have hp : posOf r.idx (x :: l) = 0 := by rw [posOf, if_neg (by omega)]
      rw [hp]
      simp [h, hd, insRow]
    · have ih := with_ins (r := r) (l := l) h'.2 (fun q hq => hne q (by simp [hq]))
      unfold withV at ih
      have hp : posOf r.idx (x :: l) = posOf r.idx l + 1 := by rw [posOf, if_pos (by omega)]
      rw [hp]
      simp [h, ih, insRow]
theorem with_set {r : BRow} : ∀ {l : List BRow} {k : Nat} (hk : k < l.length), Rise l → l[k].idx = r.idx → withV r l = l.set k r
  | [], k, hk, _, _ => by simp at hk
  | x :: l, 0, hk, hr, h => by
    have h' := rise_cons.1 hr
    simp only [List.getElem_cons_zero] at h
    have hd := with_done (r := r) (l := l) (fun q hq => by have := h'.1 q hq; omega)
    unfold withV withFrom
    simp [h, hd]
  | x :: l, k + 1, hk, hr, h => by
    have h' := rise_cons.1 hr
    simp only [List.getElem_cons_succ] at h
    have hk' : k < l.length := by simpa using hk
    have hx := h'.1 (l[k]'hk') (List.getElem_mem _)
    have ih := with_set (r := r) (l := l) (k := k) hk' h'.2 h
    unfold withV at ih
    unfold withV withFrom
    rw [show (x.idx != r.idx) = true by simp; omega, decide_eq_false (by omega)]
    simp [ih]
theorem findR_of_none {i g : Int} {rows : List BRow} (h : rowOf i g rows = none) : findR i g rows = none := by
  rw [findR_rowOf] at h
  cases hf : findR i g rows with
  | none => rfl
  | some k =>
    rw [hf] at h
    simp only [Option.bind_some, List.getElem?_eq_getElem (findR_lt hf)] at h
    cases h
theorem findR_of_some {i g : Int} {rows : List BRow} {r : BRow} (h : rowOf i g rows = some r) : ∃ k, ∃ hk : k < rows.length, findR i g rows = some k ∧ rows[k] = r := by
  rw [findR_rowOf] at h
  cases hf : findR i g rows with
  | none => rw [hf] at h; cases h
  | some k =>
    have hk := findR_lt hf
    rw [hf] at h
    simp only [Option.bind_some, List.getElem?_eq_getElem hk] at h
    exact ⟨k, hk, rfl, Option.some.inj h⟩
theorem change_wrong {rows : List BRow} {gens : List Int} (i g : Int) (fr : BRow → BRow × Int) (h : (worldErr ⟨rows, gens⟩).1 ≠ 0) : changeV rows gens i g fr = ⟨[], [], (worldErr ⟨rows, gens⟩).1⟩ := by
  unfold changeV
  rw [if_pos h]
theorem change_none {rows : List BRow} {gens : List Int} {i g : Int} (fr : BRow → BRow × Int) (hw : RightW rows gens) (h : rowOf i g rows = none) : changeV rows gens i g fr = ⟨[], [], 5⟩ := by
  unfold changeV
  rw [if_neg (by simpa using (right_iff rows gens).2 hw), findR_of_none h]
theorem change_some {rows : List BRow} {gens : List Int} {i g : Int} (fr : BRow → BRow × Int) (hw : RightW rows gens) {r : BRow} (h : rowOf i g rows = some r) (hf : FnOk fr) :
    changeV rows gens i g fr = if (fr r).2 ≠ 0 then ⟨[], [], (fr r).2⟩ else ⟨withV (fr r).1 rows, gens, 0⟩ := by
  obtain ⟨k, hk, h1, h2⟩ := findR_of_some h
  rw [change_mk fr hw h1 (by rw [List.getElem?_eq_getElem hk, h2]), with_set hk hw.rise (by rw [h2, hf.idx])]
theorem kill_wrong {rows : List BRow} {gens : List Int} (i g : Int) (h : (worldErr ⟨rows, gens⟩).1 ≠ 0) : killV rows gens i g = ⟨[], [], (worldErr ⟨rows, gens⟩).1⟩ := by
  unfold killV
  dsimp only
  rw [change_wrong i g keepF h, if_neg h]
theorem kill_none {rows : List BRow} {gens : List Int} {i g : Int} (hw : RightW rows gens) (h : rowOf i g rows = none) : killV rows gens i g = ⟨[], [], 5⟩ := by
  unfold killV
  dsimp only
  rw [change_none keepF hw h, if_neg (by decide)]
theorem kill_some {rows : List BRow} {gens : List Int} {i g : Int} (hw : RightW rows gens) {r : BRow} (h : rowOf i g rows = some r) : killV rows gens i g = ⟨keepR (isB i g) rows, gens, 0⟩ := by
  have h1 := (rowOf_some_iff hw.rise).1 h
  have hk := kill_ok (kill_mk hw h1.1 h1.2.1 h1.2.2)
  have e1 := hk.rows_; have e2 := hk.gens_; have e3 := hk.err
  generalize killV rows gens i g = K at *
  obtain ⟨a, b, c⟩ := K
  dsimp only at e1 e2 e3
  rw [e1, e2, e3]
theorem spawn_wrong {rows : List BRow} {gens : List Int} (has n : Int) (h : (worldErr ⟨rows, gens⟩).1 ≠ 0) : spawnV rows gens has n = ⟨[], [], 0, 0, (worldErr ⟨rows, gens⟩).1⟩ := by
  unfold spawnV
  rw [if_pos h]
theorem spawn_arg {rows : List BRow} {gens : List Int} {has n : Int} (hw : RightW rows gens) (h : isSet has = false ∨ isVal n = false) : spawnV rows gens has n = ⟨[], [], 0, 0, 3⟩ := by
  unfold spawnV
  rw [if_neg (by simpa using (right_iff rows gens).2 hw), if_pos h]
theorem spawn_none {rows : List BRow} {gens : List Int} {has n : Int} (hw : RightW rows gens) (h1 : isSet has = true) (h2 : isVal n = true) (h : (nextV rows gens).2.2 ≠ 0) : spawnV rows gens has n = ⟨[], [], 0, 0, (nextV rows gens).2.2⟩ := by
  unfold spawnV
  rw [if_neg (by simpa using (right_iff rows gens).2 hw), if_neg (by simp [h1, h2]), if_pos h]
theorem spawn_some {rows : List BRow} {gens : List Int} {has n : Int} (hw : RightW rows gens) (h1 : isSet has = true) (h2 : isVal n = true) (h : (nextV rows gens).2.2 = 0) :
    spawnV rows gens has n = ⟨withV (newRow (nextV rows gens).1 (nextV rows gens).2.1 has n) rows, gensPut gens (nextV rows gens).1 (nextV rows gens).2.1, (nextV rows gens).1, (nextV rows gens).2.1, 0⟩ := by
  have e : spawnV rows gens has n = ⟨insRow rows (posOf (nextV rows gens).1 rows) (newRow (nextV rows gens).1 (nextV rows gens).2.1 has n), gensPut gens (nextV rows gens).1 (nextV rows gens).2.1, (nextV rows gens).1, (nextV rows gens).2.1, 0⟩ := by
    unfold spawnV
    rw [if_neg (by simpa using (right_iff rows gens).2 hw), if_neg (by simp [h1, h2]), if_neg (by simpa using h)]
  have hS := spawn_ok (rows := rows) (gens := gens) (has := has) (n := n) (by rw [e])
  have hn := hS.new
  rw [e] at hn
  rw [e, with_ins (r := newRow (nextV rows gens).1 (nextV rows gens).2.1 has n) hw.rise hn]
  rfl
theorem getP_none {i g : Int} {rows : List BRow} (part : Int) (h : rowOf i g rows = none) : getP i g rows part = (0, false) := by
  unfold getP
  rw [findR_of_none h]
theorem getP_some {i g : Int} {rows : List BRow} (part : Int) {r : BRow} (h : rowOf i g rows = some r) : getP i g rows part = if hasB r.has part then (r.vals.getD part.toNat 0, true) else (0, false) := by
  obtain ⟨k, hk, h1, h2⟩ := findR_of_some h
  unfold getP
  rw [h1]
  simp only [List.getElem?_eq_getElem hk, h2]
theorem change_lens {rows : List BRow} {gens : List Int} {i g : Int} {fr : BRow → BRow × Int} (hf : FnOk fr) : (changeV rows gens i g fr).rows.length ≤ 60 ∧ (changeV rows gens i g fr).gens.length ≤ 60 := by
  by_cases h : (changeV rows gens i g fr).err = 0
  · obtain ⟨k, r, H⟩ := change_ok h
    have := H.is hf
    have h1 := this.rows_le; have h2 := this.len
    omega
  · have := change_bad h
    rw [this.1, this.2]; simp
theorem kill_lens {rows : List BRow} {gens : List Int} {i g : Int} : (killV rows gens i g).rows.length ≤ 60 ∧ (killV rows gens i g).gens.length ≤ 60 := by
  by_cases h : (killV rows gens i g).err = 0
  · have := (kill_ok h).is
    have h1 := this.rows_le; have h2 := this.len
    omega
  · have := kill_bad h
    rw [this.1, this.2]; simp
theorem put_lens {rows : List BRow} {gens : List Int} {i g part n : Int} : (putV rows gens i g part n).rows.length ≤ 60 ∧ (putV rows gens i g part n).gens.length ≤ 60 := change_lens (putF_ok part n)
theorem drop_lens {rows : List BRow} {gens : List Int} {i g part : Int} : (dropV rows gens i g part).rows.length ≤ 60 ∧ (dropV rows gens i g part).gens.length ≤ 60 := change_lens (dropF_ok part)
theorem spawn_lens {rows : List BRow} {gens : List Int} {has n : Int} : (spawnV rows gens has n).rows.length ≤ 60 ∧ (spawnV rows gens has n).gens.length ≤ 60 := by
  by_cases h : (spawnV rows gens has n).err = 0
  · have := (spawn_ok h).is
    have h1 := this.rows_le; have h2 := this.len
    omega
  · have := spawn_bad h
    rw [this.1, this.2]; simp
end Go.Proofs.Ytefdblaolmckmab
