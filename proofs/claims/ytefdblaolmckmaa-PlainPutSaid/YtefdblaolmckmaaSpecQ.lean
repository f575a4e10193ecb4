/- What a right world is; what spawning comes to. -/
import Derived.Test.YtefdblaolmckmaaPlainK
namespace Go.Proofs.Ytefdblaolmckmaa
open Brood
set_option linter.unusedVariables false
set_option linter.unusedSimpArgs false

structure RightW (rows : List BRow) (gens : List Int) : Prop where
  len : gens.length ≤ 60
  gen : ∀ n ∈ gens, 1 ≤ n ∧ n ≤ 1000
  row : ∀ r ∈ rows, rowErr r = 0
  idx : ∀ r ∈ rows, 0 ≤ r.idx ∧ r.idx < (gens.length : Int)
  fit : ∀ r ∈ rows, r.gen = gens.getD r.idx.toNat 0
  rise : Rise rows
theorem gensFrom_iff : ∀ (l : List Int) (i : Nat), (gensFrom i l).1 = 0 ↔ ∀ n ∈ l, 1 ≤ n ∧ n ≤ 1000
  | [], _ => by simp [gensFrom]
  | n :: l, i => by
    rw [gensFrom]
    split
    · rename_i h
      simp only [List.mem_cons, forall_eq_or_imp]
      constructor
      · intro h'; simp at h'
      · rintro ⟨h', _⟩; omega
    · rename_i h
      rw [gensFrom_iff l (i + 1)]
      simp only [List.mem_cons, forall_eq_or_imp]
      constructor
      · intro h'; exact ⟨by omega, h'⟩
      · exact fun h' => h'.2
theorem gensErr_iff (l : List Int) : (gensErr l).1 = 0 ↔ l.length ≤ 60 ∧ ∀ n ∈ l, 1 ≤ n ∧ n ≤ 1000 := by
  unfold gensErr
  split
  · constructor
    · intro h; simp at h
    · rintro ⟨h, _⟩; omega
  · rw [gensFrom_iff]
    constructor
    · exact fun h => ⟨by omega, h⟩
    · exact fun h => h.2
theorem rise_cons {r : BRow} {l : List BRow} : Rise (r :: l) ↔ (∀ q ∈ l, r.idx < q.idx) ∧ Rise l := by
  constructor
  · intro h
    refine ⟨fun q hq => ?_, fun i j hi hj hij => h (i + 1) (j + 1) (by simpa using hi) (by simpa using hj) (by omega)⟩
    obtain ⟨k, hk, rfl⟩ := List.getElem_of_mem hq
    exact h 0 (k + 1) (by simp) (by simpa using hk) (by omega)
  · rintro ⟨h1, h2⟩ i j hi hj hij
    match i, j with
    | 0, 0 => omega
    | 0, j + 1 => exact h1 _ (List.getElem_mem (by simpa using hj))
    | i + 1, 0 => omega
    | i + 1, j + 1 => exact h2 i j (by simpa using hi) (by simpa using hj) (by omega)
theorem rowErr_or (r : BRow) : rowErr r = 0 ∨ rowErr r = 3 := by unfold rowErr; split <;> simp
theorem rowsFrom_iff (gens : List Int) : ∀ (l : List BRow) (i : Nat) (p : Option Int), (rowsFrom gens i p l).1 = 0 ↔
    (∀ r ∈ l, rowErr r = 0) ∧ (∀ r ∈ l, 0 ≤ r.idx ∧ r.idx < (gens.length : Int)) ∧ (∀ r ∈ l, r.gen = gens.getD r.idx.toNat 0) ∧ Rise l ∧ (∀ q, p = some q → ∀ r ∈ l, q < r.idx)
  | [], _, _ => by simp [rowsFrom, Rise]
  | r :: l, i, p => by
    rw [rowsFrom]
    split
    · rename_i h
      constructor
      · intro h'; exact absurd h' h
      · rintro ⟨h', _⟩; exact absurd (h' r (by simp)) h
    · rename_i h
      split
      · rename_i h2
        constructor
        · intro h'; simp at h'
        · rintro ⟨_, h', _⟩; have := h' r (by simp); omega
      · rename_i h2
        split
        · rename_i h3
          constructor
          · intro h'; simp at h'
          · rintro ⟨_, _, _, _, h'⟩
            cases p with
            | none => simp [prevGe] at h3
            | some q => simp [prevGe] at h3; have := h' q rfl r (by simp); omega
        · rename_i h3
          split
          · rename_i h4
            constructor
            · intro h'; simp at h'
            · rintro ⟨_, _, h', _⟩; exact absurd (h' r (by simp)) h4
          · rename_i h4
            rw [rowsFrom_iff gens l (i + 1) (some r.idx), rise_cons]
            simp only [List.mem_cons, forall_eq_or_imp]
            have hp : ∀ q, p = some q → q < r.idx := by
              rintro q rfl
              simp [prevGe] at h3
              exact h3
            constructor
            · rintro ⟨a, b, c, d, e⟩
              exact ⟨⟨by simpa using h, a⟩, ⟨by omega, b⟩, ⟨by simpa using h4, c⟩, ⟨e r.idx rfl, d⟩, fun q hq => ⟨hp q hq, fun x hx => by have := hp q hq; have := e r.idx rfl x hx; omega⟩⟩
            · rintro ⟨⟨_, a⟩, ⟨_, b⟩, ⟨_, c⟩, ⟨e, d⟩, _⟩
              exact ⟨a, b, c, d, fun q hq x hx => by injection hq with hq; subst hq; exact e x hx⟩
theorem right_iff (rows : List BRow) (gens : List Int) : (worldErr ⟨rows, gens⟩).1 = 0 ↔ RightW rows gens := by
  unfold worldErr
  by_cases h : (gensErr gens).1 = 0
  · simp only [h, ne_eq, not_true_eq_false, if_false]
    rw [rowsFrom_iff]
    rw [gensErr_iff] at h
    constructor
    · rintro ⟨a, b, c, d, _⟩; exact ⟨h.1, h.2, a, b, c, d⟩
    · rintro ⟨_, _, a, b, c, d⟩; exact ⟨a, b, c, d, fun q hq => by cases hq⟩
  · rw [if_pos h]
    constructor
    · intro h'; exact absurd h' h
    · intro h'; exact absurd ((gensErr_iff gens).2 ⟨h'.len, h'.gen⟩) h
theorem rise_len {rows : List BRow} (hr : Rise rows) : ∀ k (hk : k < rows.length) (h0 : ∀ r ∈ rows, 0 ≤ r.idx), (k : Int) ≤ rows[k].idx := by
  intro k hk h0
  induction k with
  | zero => exact h0 _ (List.getElem_mem hk)
  | succ k ih =>
    have h1 := ih (by omega)
    have h2 := hr k (k + 1) (by omega) hk (by omega)
    omega
theorem RightW.rows_le {rows : List BRow} {gens : List Int} (h : RightW rows gens) : rows.length ≤ gens.length := by
  rcases Nat.eq_zero_or_pos rows.length with h0 | h0
  · omega
  · have h1 := rise_len h.rise (rows.length - 1) (by omega) (fun r hr => (h.idx r hr).1)
    have h2 := (h.idx _ (List.getElem_mem (show rows.length - 1 < rows.length by omega))).2
    omega
theorem RightW.set_ {rows : List BRow} {gens : List Int} (h : RightW rows gens) : ∀ r ∈ rows, isSet r.has = true := by
  intro r hr
  have := h.row r hr
  unfold rowErr at this
  split at this
  · rename_i h'; rw [Bool.and_eq_true] at h'; exact h'.1
  · simp at this
theorem RightW.wfr {rows : List BRow} {gens : List Int} (h : RightW rows gens) : ∀ r ∈ rows, (Lit.int .i64 r.idx).wf = true := by
  intro r hr
  have := h.idx r hr
  have := h.len
  exact wf_of (by omega) (by omega)

def zeros8 : List Int := [0, 0, 0, 0, 0, 0, 0, 0]
/-- n in the first parts of the list. -/
def valsTo (has n : Int) (j : Nat) : List Int := ((listS has).take j).foldl (fun vs k => vs.set k.toNat n) zeros8
theorem fold_len (n : Int) : ∀ (l : List Int) (vs : List Int), (l.foldl (fun vs k => vs.set k.toNat n) vs).length = vs.length
  | [], _ => rfl
  | k :: l, vs => by rw [List.foldl_cons, fold_len n l]; simp
theorem valsTo_len (has n : Int) (j : Nat) : (valsTo has n j).length = 8 := by unfold valsTo; rw [fold_len]; rfl
theorem valsTo_succ {has : Int} (n : Int) {j : Nat} (hj : j < (listS has).length) : valsTo has n (j + 1) = (valsTo has n j).set (listS has)[j].toNat n := by
  unfold valsTo
  rw [List.take_add_one, List.getElem?_eq_getElem hj, Option.toList_some, List.foldl_append]
  rfl
def rowL (i g has : Int) (vs : List Int) : List Value := [.int .i64 i, .int .i64 g, .int .i64 has] ++ ints vs
theorem rowL_set (i g has : Int) (vs : List Int) (k : Nat) (n : Int) : (rowL i g has vs).set (3 + k) (.int .i64 n) = rowL i g has (vs.set k n) := by
  rw [Nat.add_comm]
  simp [rowL, ints, List.map_set]
theorem listS_range {s : Int} : ∀ k ∈ listS s, 0 ≤ k ∧ k < 8 := by
  intro k hk
  simp only [listS, listN, List.mem_map, List.mem_filter, List.mem_range] at hk
  obtain ⟨m, ⟨hm, _⟩, rfl⟩ := hk
  omega
theorem listS_len (s : Int) : (listS s).length ≤ 8 := by
  unfold listS listN
  rw [List.length_map]
  exact Nat.le_trans (List.length_filter_le _ _) (by simp)
theorem newRow_cells (i g has n : Int) : rowL i g has (valsTo has n (listS has).length) = rowCells ⟨i, g, has, valsTo has n (listS has).length, valsTo_len _ _ _⟩ := rfl
def newRow (i g has n : Int) : BRow := ⟨i, g, has, valsTo has n (listS has).length, valsTo_len _ _ _⟩
def gensPut (gens : List Int) (i g : Int) : List Int := (if i = (gens.length : Int) then gens ++ [0] else gens).set i.toNat g
structure Spawned where
  rows : List BRow
  gens : List Int
  i : Int
  g : Int
  err : Int
def spawnV (rows : List BRow) (gens : List Int) (has n : Int) : Spawned :=
  if (worldErr ⟨rows, gens⟩).1 ≠ 0 then ⟨[], [], 0, 0, (worldErr ⟨rows, gens⟩).1⟩
  else if isSet has = false ∨ isVal n = false then ⟨[], [], 0, 0, 3⟩
  else if (nextV rows gens).2.2 ≠ 0 then ⟨[], [], 0, 0, (nextV rows gens).2.2⟩
  else ⟨insRow rows (posOf (nextV rows gens).1 rows) (newRow (nextV rows gens).1 (nextV rows gens).2.1 has n), gensPut gens (nextV rows gens).1 (nextV rows gens).2.1, (nextV rows gens).1, (nextV rows gens).2.1, 0⟩
theorem nextFrom_some {used : List Int} : ∀ {l : List Int} {i : Nat} {p : Int × Int}, nextFrom used i l = some p → ∃ k, ∃ hk : k < l.length, p.1 = ((i + k : Nat) : Int) ∧ p.2 = l[k] + 1 ∧ l[k] < 1000 ∧ used.contains p.1 = false
  | [], _, _, h => by cases h
  | n :: l, i, p, h => by
    rw [nextFrom] at h
    split at h
    · rename_i h'
      injection h with h
      subst h
      simp only [Bool.and_eq_true, Bool.not_eq_true', decide_eq_true_eq] at h'
      exact ⟨0, by simp, by simp, by simp, by simpa using h'.2, h'.1⟩
    · obtain ⟨k, hk, h1, h2, h3, h4⟩ := nextFrom_some h
      exact ⟨k + 1, by simpa using hk, by rw [h1]; congr 1; omega, by simpa using h2, by simpa using h3, h4⟩
/-- What the next being is, where there is one. -/
theorem nextV_ok {rows : List BRow} {gens : List Int} (h : (nextV rows gens).2.2 = 0) :
    ((∃ k, ∃ hk : k < gens.length, (nextV rows gens).1 = (k : Int) ∧ (nextV rows gens).2.1 = gens[k] + 1 ∧ gens[k] < 1000 ∧ (rows.map (·.idx)).contains (k : Int) = false) ∨
      ((nextV rows gens).1 = (gens.length : Int) ∧ (nextV rows gens).2.1 = 1 ∧ gens.length < 60)) := by
  unfold nextV at h ⊢
  cases hn : nextFrom (rows.map (·.idx)) 0 gens with
  | some p =>
    obtain ⟨k, hk, h1, h2, h3, h4⟩ := nextFrom_some hn
    rw [Nat.zero_add] at h1
    rw [h1] at h4
    exact .inl ⟨k, hk, h1, h2, h3, h4⟩
  | none =>
    rw [hn] at h
    simp only at h ⊢
    split at h
    · simp at h
    · rename_i h60
      rw [if_neg h60]
      exact .inr ⟨rfl, rfl, by omega⟩
theorem nextV_pos {rows : List BRow} {gens : List Int} (h : (nextV rows gens).2.2 = 0) : ∃ k : Nat, (nextV rows gens).1 = (k : Int) ∧ k ≤ gens.length := by
  rcases nextV_ok h with ⟨k, hk, h1, _⟩ | ⟨h1, _⟩
  · exact ⟨k, h1, by omega⟩
  · exact ⟨_, h1, Nat.le_refl _⟩
end Go.Proofs.Ytefdblaolmckmaa
