/- Copies of many cells; the walk of slices.Insert at rows, one row put in. -/
import Derived.Test.YtefdblaolmckmaaPlainG
import Derived.Deep.RegionLaw
import Derived.Lib.Overlaps
import Derived.Lib.AppendZerosOnto
import Derived.Laws.IdiomCopy
import Derived.Laws.NewBlocks
import Derived.Laws.Externs
namespace Go.Proofs.Ytefdblaolmckmaa
open Go.RowKit Go.Lib
open Brood
set_option linter.unusedVariables false
set_option linter.unusedSimpArgs false

/-- Cells laid into an array from place o on. -/
def patch : Array Value → Nat → List Value → Array Value
  | cs, _, [] => cs
  | cs, o, v :: r => patch (cs.setIfInBounds o v) (o + 1) r
theorem patch_size : ∀ (vs : List Value) (cs : Array Value) (o : Nat), (patch cs o vs).size = cs.size
  | [], _, _ => rfl
  | v :: r, cs, o => by rw [patch, patch_size r]; simp
theorem patch_out : ∀ (vs : List Value) (cs : Array Value) (o j : Nat), (j < o ∨ o + vs.length ≤ j) → (patch cs o vs)[j]? = cs[j]?
  | [], _, _, _, _ => rfl
  | v :: r, cs, o, j, h => by
    rw [patch, patch_out r _ (o + 1) j (by simp at h; omega), Array.getElem?_setIfInBounds_ne (by simp at h; omega)]
theorem patch_in : ∀ (vs : List Value) (cs : Array Value) (o j : Nat), j < vs.length → o + vs.length ≤ cs.size → (patch cs o vs)[o + j]? = vs[j]?
  | v :: r, cs, o, 0, _, hs => by
    simp at hs
    rw [Nat.add_zero, patch, patch_out r _ (o + 1) o (by omega), Array.getElem?_setIfInBounds_self_of_lt (by omega)]
    rfl
  | v :: r, cs, o, j + 1, h, hs => by
    simp at h hs
    have := patch_in r (cs.setIfInBounds o v) (o + 1) j h (by simp; omega)
    rw [patch, show o + (j + 1) = o + 1 + j by omega, this]
    rfl
theorem Blk.sets {t : TypeId} {g : Nat} : ∀ (vs : List Value) {w : World} {cs : Array Value} (o : Nat), Blk w g t cs → Blk (w.setCells g o vs) g t (patch cs o vs)
  | [], _, _, _, h => h
  | v :: r, _, _, o, h => Blk.sets r (o + 1) (h.set_ o v)
theorem grown_sets (g : Nat) : ∀ (vs : List Value) (w : World) (o : Nat), w.grownBy (w.setCells g o vs) (some g)
  | [], w, _ => ⟨rfl, rfl, rfl, Nat.le_refl _, fun _ _ _ => rfl⟩
  | v :: r, w, o => by
    have h := grown_sets g r (w.setCell ⟨g, o, none⟩ v) (o + 1)
    refine ⟨h.os, h.tape, h.output, Nat.le_trans (by simp) h.size, fun i hi hne => ?_⟩
    rw [World.setCells, h.block i (by simpa using hi) hne]
    exact Below.heap_setCell w _ v i (fun e => hne (by simp at e; rw [e]))
/-- copy between slices of elements of any size, the target's cells known to be there: all is read ahead. -/
theorem run_copy_sz {P : Program} (w : World) (dT sT ty elem : TypeId) (b o dLen dCap : Nat) (a : Addr) (sLen sCap sz : Nat) (cs : List Value)
    (hu : P.underlying dT = some (.slice elem)) (hs : (P.info? elem).map (·.size) = some sz) (hn : cs.length = Nat.min sLen dLen * sz)
    (hsrc : ∀ j v, cs[j]? = some v → w.cell? (a.add j) = some v) (hc : ∀ j, j < cs.length → (w.cell? ⟨b, o + j, none⟩).isSome = true) (hf : ∀ j, j < cs.length → w.frozen? ⟨b, o + j, none⟩ = false) (h1 : ∀ v ∈ cs, v.oneCell' = true) :
    (Builtin.copy_ #[dT, sT] ty #[.slice (some ⟨b, o, none⟩) dLen dCap, .slice (some a) sLen sCap]).run P w = .ok (goInt (Nat.min sLen dLen)) (w.setCells b o cs) := by
  have hl := run_loadCells_list (P := P) w a cs hsrc
  have hst := run_storeCells_cells (P := P) b o cs 0 w (by simpa using hc) (by simpa using hf) h1
  cases hq : P.info? elem with
  | none => simp [hq] at hs
  | some i =>
    have hi : i.size = sz := by simpa [hq] using hs
    simp [Builtin.copy_, run_underlying hu, Builtin.lenOf, Builtin.firstCells, sizeOf, typeInfo, hq, hi, ← hn, hl, hst]
theorem wp_copy_eq {P : Program} (w : World) {o : Oper} {a : Act} {K : Act → World → Prop} {Q : Exit → Act → World → Prop} (d s : Operand) (t t' : TypeId)
    (ho : o.op = .call { callee := .builtin .copy, args := #[d, s], argTypes := #[t, t'] }) (v u : Value) (hd : a.eval d = v) (hs : a.eval s = u) {v' : Value} {w' : World}
    (hr : (Builtin.copy_ #[t, t'] o.type #[v, u]).run P w = .ok v' w') (h : K (a.put o.dst v') w') : o.wp P a w K Q := by
  unfold Oper.wp execOp
  simp only [ho, resolve, invoke, builtin, Sem.run_bind, Sem.run_pure, Result.andThen_ok, List.map_toArray, List.map_cons, List.map_nil, hd, hs, hr]
  exact h
theorem wpList_copy_eq {P : Program} (w : World) {ops : Array Oper} {rest : List Oper} {o : Oper} {a : Act} {Q : Exit → Act → World → Prop} (hgd : o.guard = none) (d s : Operand) (t t' : TypeId)
    (ho : o.op = .call { callee := .builtin .copy, args := #[d, s], argTypes := #[t, t'] }) (v u : Value) (hd : a.eval d = v) (hs : a.eval s = u) {v' : Value} {w' : World}
    (hr : (Builtin.copy_ #[t, t'] o.type #[v, u]).run P w = .ok v' w') (h : wpList P ops Q rest (a.put o.dst v') w') : wpList P ops Q (o :: rest) a w :=
  wpList_plain hgd fun _ hK => wp_copy_eq w d s t t' ho v u hd hs hr (hK _ _ h)

/-- What a row put in at k leaves. -/
theorem ins_cells {xs rs ys : List Value} {cs : Array Value} {p q n : Nat} (hp : p ≤ xs.length) (hr : rs.length = q) (hn : n = xs.length + q) (hy : ys = xs.take p ++ rs ++ xs.drop p) (hcs : n ≤ cs.size)
    (h0 : ∀ j, j < p → cs[j]? = xs[j]?) (h1 : ∀ j, j < q → cs[p + j]? = rs[j]?) (h2 : ∀ j, j < xs.length - p → cs[p + q + j]? = xs[p + j]?) : cs.toList.take n = ys := by
  apply List.ext_getElem?
  intro j
  rw [List.getElem?_take, hy]
  by_cases hj : j < n
  · rw [if_pos hj, Array.getElem?_toList]
    rcases Nat.lt_or_ge j p with h | h
    · rw [h0 j h, List.append_assoc, List.getElem?_append_left (by rw [List.length_take]; omega), List.getElem?_take, if_pos h]
    · rcases Nat.lt_or_ge j (p + q) with h' | h'
      · have := h1 (j - p) (by omega)
        rw [show p + (j - p) = j by omega] at this
        rw [this, List.append_assoc, List.getElem?_append_right (by rw [List.length_take]; omega), List.length_take, Nat.min_eq_left hp, List.getElem?_append_left (by omega)]
      · have := h2 (j - (p + q)) (by omega)
        rw [show p + q + (j - (p + q)) = j by omega] at this
        rw [this, List.getElem?_append_right (by rw [List.length_append, List.length_take]; omega), List.length_append, List.length_take, Nat.min_eq_left hp, List.getElem?_drop, hr]
  · rw [if_neg hj, List.getElem?_eq_none]
    simp only [List.length_append, List.length_take, List.length_drop]
    omega
theorem rowCells_one (r : BRow) : ∀ u ∈ rowCells r, u.oneCell' = true := by
  intro u hu
  simp only [rowCells, List.mem_append, List.mem_cons, List.not_mem_nil, or_false] at hu
  rcases hu with (rfl | rfl | rfl) | h
  · rfl
  · rfl
  · rfl
  · exact ints_one _ u h
theorem rows_length (rows : List BRow) : (rows.flatMap rowCells).length = rows.length * 11 := by
  induction rows with
  | nil => rfl
  | cons r l ih => rw [List.flatMap_cons, List.length_append, rowCells_length, ih, List.length_cons]; omega
theorem rows_take (rows : List BRow) (k : Nat) : (rows.take k).flatMap rowCells = (rows.flatMap rowCells).take (k * 11) := by
  induction rows generalizing k with
  | nil => simp
  | cons r l ih =>
    cases k with
    | zero => simp
    | succ k => rw [List.take_succ_cons, List.flatMap_cons, List.flatMap_cons, ih, show (k + 1) * 11 = (rowCells r).length + k * 11 by rw [rowCells_length]; omega, List.take_length_add_append]
theorem rows_drop (rows : List BRow) (k : Nat) : (rows.drop k).flatMap rowCells = (rows.flatMap rowCells).drop (k * 11) := by
  induction rows generalizing k with
  | nil => simp
  | cons r l ih =>
    cases k with
    | zero => simp
    | succ k => rw [List.drop_succ_cons, List.flatMap_cons, ih, show (k + 1) * 11 = (rowCells r).length + k * 11 by rw [rowCells_length]; omega, List.drop_length_add_append]
def insRow (rows : List BRow) (k : Nat) (r : BRow) : List BRow := rows.take k ++ r :: rows.drop k
theorem insRow_cells (rows : List BRow) (k : Nat) (r : BRow) : (insRow rows k r).flatMap rowCells = (rows.flatMap rowCells).take (k * 11) ++ rowCells r ++ (rows.flatMap rowCells).drop (k * 11) := by
  rw [insRow, List.flatMap_append, List.flatMap_cons, rows_take, rows_drop, List.append_assoc]
theorem insRow_length {rows : List BRow} {k : Nat} (hk : k ≤ rows.length) (r : BRow) : (insRow rows k r).length = rows.length + 1 := by
  simp [insRow]; omega
theorem step_copy_eq {P : Program} {ops : Array Oper} {o : Oper} {a : Act} {w : World} {K : Act → World → Prop} {Q : Exit → Act → World → Prop} {E : Prop}
    (hg : o.guard = none) (d x : Operand) (dT sT : TypeId) (hop : o.op = Op.call { callee := Callee.builtin Builtin.copy, args := #[d, x], argTypes := #[dT, sT] })
    (v u : Value) (hd : a.eval d = v) (hx : a.eval x = u) {v' : Value} {w' : World} (hr : (Builtin.copy_ #[dT, sT] o.type #[v, u]).run P w = .ok v' w') (hK : K (a.put o.dst v') w') :
    if Region.wanted o (yielded ops a.tmps) = true then Oper.wp P o a w K Q else E := by
  have hw : Region.wanted o (yielded ops a.tmps) = true := by simp [Region.wanted, hg]
  rw [if_pos hw]
  unfold Oper.wp
  simp [execOp, hop, resolve, invoke, builtin, hd, hx, hr, Result.andThen]
  exact hK
end Go.Proofs.Ytefdblaolmckmaa
