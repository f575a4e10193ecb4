/- The plain laws of chapter 2. -/
import Derived.Test.YtefdblaolmckmaaRef2A
namespace Go.Proofs.Ytefdblaolmckmaa
open Brood
set_option linter.unusedVariables false
set_option linter.unusedSimpArgs false

theorem valsBad_iff (has : Int) : ∀ (vs : List Int) (k : Nat), valsBad has k vs = false ↔ ∀ j (hj : j < vs.length), isVal vs[j] = true ∧ (vs[j] ≠ 0 → hasB has ((k + j : Nat) : Int) = true)
  | [], k => by simp [valsBad]
  | v :: l, k => by
    rw [valsBad, Bool.or_eq_false_iff, valsBad_iff has l (k + 1)]
    have hv : valBad has k v = false ↔ isVal v = true ∧ (v ≠ 0 → hasB has (k : Int) = true) := by
      unfold valBad
      rw [Bool.or_eq_false_iff]
      simp
    rw [hv]
    constructor
    · rintro ⟨h0, h1⟩ j hj
      cases j with
      | zero => exact h0
      | succ j =>
        have := h1 j (by simpa using hj)
        rw [show k + (j + 1) = k + 1 + j by omega]
        exact this
    · intro h
      refine ⟨h 0 (by simp), fun j hj => ?_⟩
      have := h (j + 1) (by simpa using hj)
      rw [show k + (j + 1) = k + 1 + j by omega] at this
      exact this
theorem getD_get {l : List Int} {j : Nat} (h : j < l.length) : l.getD j 0 = l[j] := by simp [List.getD_eq_getElem?_getD, h]
theorem rowErr_iff (r : BRow) : rowErr r = 0 ↔ isSet r.has = true ∧ ∀ j : Nat, j < 8 → isVal (r.vals.getD j 0) = true ∧ (r.vals.getD j 0 ≠ 0 → hasB r.has (j : Int) = true) := by
  unfold rowErr
  have h := valsBad_iff r.has r.vals 0
  have h8 := r.h8
  constructor
  · intro h'
    split at h'
    · rename_i hc
      rw [Bool.and_eq_true] at hc
      refine ⟨hc.1, fun j hj => ?_⟩
      have := h.1 (by simpa using hc.2) j (by omega)
      rw [getD_get (by omega)]
      simpa using this
    · simp at h'
  · rintro ⟨h1, h2⟩
    rw [if_pos]
    rw [Bool.and_eq_true]
    refine ⟨h1, ?_⟩
    have := h.2 (fun j hj => by
      have := h2 j (by omega)
      rw [getD_get (by omega)] at this
      simpa using this)
    rw [this]; rfl
theorem isB_iff {i g : Int} {r : BRow} : isB i g r = true ↔ r.idx = i ∧ r.gen = g := by simp [isB]
theorem isB_false {i g : Int} {r : BRow} : isB i g r = false ↔ ¬ (r.idx = i ∧ r.gen = g) := by rw [← isB_iff]; simp
theorem findR_spec {i g : Int} {rows : List BRow} {k : Nat} (h : findR i g rows = some k) : ∃ hk : k < rows.length, isB i g rows[k] = true := by
  have hk := findR_lt h
  refine ⟨hk, ?_⟩
  have h2 := findR_rowOf (i := i) (g := g) (rows := rows)
  rw [h] at h2
  simp only [Option.bind_some, List.getElem?_eq_getElem hk] at h2
  exact List.find?_some h2
theorem findR_none {i g : Int} {rows : List BRow} (h : findR i g rows = none) : rowOf i g rows = none := by rw [findR_rowOf, h]; rfl
theorem rowOf_none_iff {i g : Int} {rows : List BRow} : rowOf i g rows = none ↔ ∀ r ∈ rows, isB i g r = false := by
  unfold rowOf
  rw [List.find?_eq_none]
  simp
theorem rise_inj {rows : List BRow} (hr : Rise rows) {p q : BRow} (hp : p ∈ rows) (hq : q ∈ rows) (h : p.idx = q.idx) : p = q := by
  obtain ⟨i, hi, rfl⟩ := List.getElem_of_mem hp
  obtain ⟨j, hj, rfl⟩ := List.getElem_of_mem hq
  rcases Nat.lt_trichotomy i j with h' | h' | h'
  · have := hr i j hi hj h'; omega
  · subst h'; rfl
  · have := hr j i hj hi h'; omega
theorem rowOf_some_iff {i g : Int} {rows : List BRow} (hr : Rise rows) {p : BRow} : rowOf i g rows = some p ↔ p ∈ rows ∧ p.idx = i ∧ p.gen = g := by
  constructor
  · intro h
    exact ⟨List.mem_of_find?_eq_some h, isB_iff.1 (List.find?_some h)⟩
  · rintro ⟨h1, h2, h3⟩
    cases hq : rowOf i g rows with
    | none =>
      have := rowOf_none_iff.1 hq p h1
      rw [isB_iff.2 ⟨h2, h3⟩] at this
      cases this
    | some q =>
      have h4 := List.mem_of_find?_eq_some hq
      have h5 := isB_iff.1 (List.find?_some hq)
      rw [rise_inj hr h1 h4 (by rw [h2, h5.1])]
/-- Rows put in at their place rise. -/
theorem posOf_spec {x : Int} : ∀ {rows : List BRow}, Rise rows → (∀ r ∈ rows.take (posOf x rows), r.idx < x) ∧ (∀ r ∈ rows.drop (posOf x rows), x ≤ r.idx)
  | [], _ => by simp
  | r :: l, h => by
    have h' := rise_cons.1 h
    have ih := posOf_spec (x := x) h'.2
    rw [posOf]
    split
    · rename_i hlt
      refine ⟨?_, ?_⟩
      · intro q hq
        rw [List.take_succ_cons] at hq
        rcases List.mem_cons.1 hq with rfl | hq
        · exact hlt
        · exact ih.1 q hq
      · intro q hq
        rw [List.drop_succ_cons] at hq
        exact ih.2 q hq
    · rename_i hge
      refine ⟨by simp, ?_⟩
      intro q hq
      rw [List.drop_zero] at hq
      rcases List.mem_cons.1 hq with rfl | hq
      · omega
      · have := h'.1 q hq; omega
theorem rise_append {l m : List BRow} : Rise (l ++ m) ↔ Rise l ∧ Rise m ∧ ∀ p ∈ l, ∀ q ∈ m, p.idx < q.idx := by
  induction l with
  | nil => simp [Rise]
  | cons r l ih =>
    rw [List.cons_append, rise_cons, rise_cons, ih]
    constructor
    · rintro ⟨h1, h2, h3, h4⟩
      refine ⟨⟨fun q hq => h1 q (by simp [hq]), h2⟩, h3, fun p hp q hq => ?_⟩
      rcases List.mem_cons.1 hp with rfl | hp
      · exact h1 q (by simp [hq])
      · exact h4 p hp q hq
    · rintro ⟨⟨h1, h2⟩, h3, h4⟩
      refine ⟨fun q hq => ?_, h2, h3, fun p hp q hq => h4 p (by simp [hp]) q hq⟩
      rcases List.mem_append.1 hq with hq | hq
      · exact h1 q hq
      · exact h4 r (by simp) q hq
theorem mem_insRow {rows : List BRow} {k : Nat} {r q : BRow} : q ∈ insRow rows k r ↔ q = r ∨ q ∈ rows := by
  unfold insRow
  rw [List.mem_append, List.mem_cons]
  constructor
  · rintro (h | h | h)
    · exact .inr (List.mem_of_mem_take h)
    · exact .inl h
    · exact .inr (List.mem_of_mem_drop h)
  · rintro (h | h)
    · exact .inr (.inl h)
    · rw [← List.take_append_drop k rows] at h
      rcases List.mem_append.1 h with h | h
      · exact .inl h
      · exact .inr (.inr h)
theorem rise_ins {rows : List BRow} (hr : Rise rows) {r : BRow} (hne : ∀ q ∈ rows, q.idx ≠ r.idx) : Rise (insRow rows (posOf r.idx rows) r) := by
  have hs := posOf_spec (x := r.idx) hr
  have hr2 := hr
  rw [← List.take_append_drop (posOf r.idx rows) rows, rise_append] at hr2
  unfold insRow
  rw [rise_append, rise_cons]
  refine ⟨hr2.1, ⟨fun q hq => ?_, hr2.2.1⟩, fun p hp q hq => ?_⟩
  · have := hs.2 q hq
    have := hne q (List.mem_of_mem_drop hq)
    omega
  · rcases List.mem_cons.1 hq with rfl | hq
    · exact hs.1 p hp
    · exact hr2.2.2 p hp q hq
theorem vals_valsTo (n : Int) : ∀ (l : List Int) (vs : List Int), vs.length = 8 → (∀ k ∈ l, 0 ≤ k ∧ k < 8) → ∀ j : Nat, j < 8 → (l.foldl (fun vs k => vs.set k.toNat n) vs).getD j 0 = if (j : Int) ∈ l then n else vs.getD j 0 := by
  intro l
  induction l with
  | nil => intro vs h _ j hj; simp
  | cons k l ih =>
    intro vs h hk j hj
    obtain ⟨k0, k8⟩ := hk k (by simp)
    rw [List.foldl_cons, ih _ (by simp [h]) (fun q hq => hk q (by simp [hq])) j hj]
    by_cases h1 : (j : Int) ∈ l
    · rw [if_pos h1, if_pos (by simp [h1])]
    · rw [if_neg h1]
      by_cases h2 : (j : Int) = k
      · rw [if_pos (by simp [h2])]
        have e : k.toNat = j := by omega
        rw [e]
        simp [List.getD_eq_getElem?_getD, h, hj]
      · rw [if_neg (by simp [h1, h2])]
        simp only [List.getD_eq_getElem?_getD]
        rw [List.getElem?_set_ne (by omega)]
theorem mem_listS {s k : Int} (hs : isSet s = true) : k ∈ listS s ↔ hasB s k = true := by
  simp only [listS, listN, List.mem_map, List.mem_filter, List.mem_range, hasB, Bool.and_eq_true, isPart_iff]
  constructor
  · rintro ⟨m, ⟨hm, hb⟩, rfl⟩
    exact ⟨by omega, by simpa using hb⟩
  · rintro ⟨⟨h0, h8⟩, hb⟩
    exact ⟨k.toNat, ⟨by omega, hb⟩, by omega⟩
/-- The values of a row that comes. -/
theorem newRow_val {i g has n : Int} (hs : isSet has = true) {j : Nat} (hj : j < 8) : (newRow i g has n).vals.getD j 0 = if hasB has (j : Int) = true then n else 0 := by
  show (valsTo has n (listS has).length).getD j 0 = _
  unfold valsTo
  rw [List.take_length, vals_valsTo n _ _ rfl listS_range j hj]
  have hz : zeros8.getD j 0 = 0 := by
    match j, hj with
    | 0, _ => rfl
    | 1, _ => rfl
    | 2, _ => rfl
    | 3, _ => rfl
    | 4, _ => rfl
    | 5, _ => rfl
    | 6, _ => rfl
    | 7, _ => rfl
  rw [hz]
  by_cases h : (j : Int) ∈ listS has
  · rw [if_pos h, if_pos ((mem_listS hs).1 h)]
  · rw [if_neg h, if_neg (fun h' => h ((mem_listS hs).2 h'))]
theorem newRow_ok {i g has n : Int} (hs : isSet has = true) (hv : isVal n = true) : rowErr (newRow i g has n) = 0 := by
  rw [rowErr_iff]
  refine ⟨hs, fun j hj => ?_⟩
  rw [newRow_val hs hj]
  by_cases hb : hasB has (j : Int) = true
  · rw [if_pos hb]; exact ⟨hv, fun _ => hb⟩
  · rw [if_neg hb]; exact ⟨by decide, fun h => absurd rfl h⟩
theorem gp_len (gens : List Int) (k : Nat) (g : Int) : (gensPut gens (k : Int) g).length = if k = gens.length then gens.length + 1 else gens.length := by
  unfold gensPut
  rw [List.length_set]
  by_cases h : k = gens.length
  · rw [if_pos (by omega), if_pos h]; simp
  · rw [if_neg (by omega), if_neg h]
theorem gp_get (gens : List Int) {k : Nat} (hk : k ≤ gens.length) (g : Int) (j : Nat) : (gensPut gens (k : Int) g).getD j 0 = if j = k then g else gens.getD j 0 := by
  unfold gensPut
  rw [Int.toNat_natCast]
  simp only [List.getD_eq_getElem?_getD]
  by_cases h : k = gens.length
  · rw [if_pos (by omega)]
    by_cases hj : j = k
    · rw [if_pos hj, hj, List.getElem?_set_self (by simp; omega)]; rfl
    · rw [if_neg hj, List.getElem?_set_ne (by omega)]
      by_cases hl : j < gens.length
      · rw [List.getElem?_append_left hl]
      · rw [List.getElem?_eq_none (by simp; omega), List.getElem?_eq_none (by omega)]
  · rw [if_neg (by omega)]
    by_cases hj : j = k
    · rw [if_pos hj, hj, List.getElem?_set_self (by omega)]; rfl
    · rw [if_neg hj, List.getElem?_set_ne (by omega)]
theorem gp_mem {gens : List Int} {k : Nat} {g x : Int} (h : x ∈ gensPut gens (k : Int) g) (hk : k ≤ gens.length) : x = g ∨ x ∈ gens := by
  unfold gensPut at h
  rw [Int.toNat_natCast] at h
  by_cases h' : k = gens.length
  · rw [if_pos (by omega), h', List.set_append_right _ _ (by omega), Nat.sub_self] at h
    simp at h
    exact h.symm
  · rw [if_neg (by omega)] at h
    exact (List.mem_or_eq_of_mem_set h).symm
/-- What spawning comes to, where it does. -/
structure SpawnOk (rows : List BRow) (gens : List Int) (has n : Int) (E : Spawned) : Prop where
  was : RightW rows gens
  set_ : isSet has = true
  val : isVal n = true
  pos : ∃ k : Nat, E.i = (k : Int) ∧ k ≤ gens.length
  gens_ : E.gens = gensPut gens E.i E.g
  gen : (E.i < (gens.length : Int) → E.g = gens.getD E.i.toNat 0 + 1) ∧ (E.i = (gens.length : Int) → E.g = 1)
  new : ∀ r ∈ rows, r.idx ≠ E.i
  rows_ : E.rows = insRow rows (posOf E.i rows) (newRow E.i E.g has n)
  is : RightW E.rows E.gens
theorem spawn_ok {rows : List BRow} {gens : List Int} {has n : Int} (h : (spawnV rows gens has n).err = 0) : SpawnOk rows gens has n (spawnV rows gens has n) := by
  unfold spawnV at h ⊢
  by_cases h1 : (worldErr ⟨rows, gens⟩).1 = 0
  · rw [if_neg (by simpa using h1)] at h ⊢
    have hw := (right_iff rows gens).1 h1
    by_cases h2 : isSet has = false ∨ isVal n = false
    · rw [if_pos h2] at h; cases h
    · rw [if_neg h2] at h ⊢
      by_cases h3 : (nextV rows gens).2.2 = 0
      · rw [if_neg (by simpa using h3)] at h ⊢
        have hs : isSet has = true := by cases h' : isSet has <;> simp_all
        have hv : isVal n = true := by cases h' : isVal n <;> simp_all
        have hn := nextV_ok h3
        generalize (nextV rows gens).1 = i at *
        generalize (nextV rows gens).2.1 = g at *
        have hpos : ∃ k : Nat, i = (k : Int) ∧ k ≤ gens.length := by
          rcases hn with ⟨k, hk, h1, _⟩ | ⟨h1, _⟩
          · exact ⟨k, h1, by omega⟩
          · exact ⟨_, h1, Nat.le_refl _⟩
        have hgen : (i < (gens.length : Int) → g = gens.getD i.toNat 0 + 1) ∧ (i = (gens.length : Int) → g = 1) := by
          rcases hn with ⟨k, hk, rfl, rfl, _⟩ | ⟨h1, h2, _⟩
          · exact ⟨fun _ => by rw [Int.toNat_natCast, getD_get hk], fun h => by omega⟩
          · exact ⟨fun h => by omega, fun _ => h2⟩
        have hnew : ∀ r ∈ rows, r.idx ≠ i := by
          rcases hn with ⟨k, hk, rfl, _, _, hc⟩ | ⟨h1, _⟩
          · intro r hr he
            have : (k : Int) ∈ rows.map (·.idx) := by rw [← he]; exact List.mem_map_of_mem hr
            simp at hc
            exact hc r hr he
          · intro r hr
            have := (hw.idx r hr).2
            omega
        have hg1 : 1 ≤ g ∧ g ≤ 1000 := by
          rcases hn with ⟨k, hk, _, rfl, h4, _⟩ | ⟨_, rfl, _⟩
          · have := hw.gen _ (List.getElem_mem hk); omega
          · omega
        have hl60 : i = (gens.length : Int) → gens.length < 60 := by
          rcases hn with ⟨k, hk, rfl, _⟩ | ⟨_, _, h⟩
          · intro h; omega
          · exact fun _ => h
        obtain ⟨k, rfl, hk⟩ := hpos
        refine ⟨hw, hs, hv, ⟨k, rfl, hk⟩, rfl, hgen, hnew, rfl, ?_⟩
        have hlen := gp_len gens k g
        refine ⟨?_, ?_, ?_, ?_, ?_, ?_⟩
        · dsimp only
          rw [hlen]
          have := hw.len
          split
          · rename_i h; have := hl60 (by omega); omega
          · omega
        · intro x hx
          rcases gp_mem hx hk with rfl | hx
          · exact hg1
          · exact hw.gen x hx
        · intro r hr
          rcases mem_insRow.1 hr with rfl | hr
          · exact newRow_ok hs hv
          · exact hw.row r hr
        · intro r hr
          dsimp only
          rw [hlen]
          rcases mem_insRow.1 hr with rfl | hr
          · show 0 ≤ (k : Int) ∧ (k : Int) < _
            split <;> omega
          · have := hw.idx r hr
            split <;> omega
        · intro r hr
          dsimp only
          rcases mem_insRow.1 hr with rfl | hr
          · show g = (gensPut gens (k : Int) g).getD (k : Int).toNat 0
            rw [Int.toNat_natCast, gp_get gens hk, if_pos rfl]
          · have h1 := hw.idx r hr
            have h2 := hnew r hr
            rw [gp_get gens hk, if_neg (by omega)]
            exact hw.fit r hr
        · exact rise_ins (r := newRow (k : Int) g has n) hw.rise hnew
      · rw [if_pos h3] at h
        exact absurd h h3
  · rw [if_pos h1] at h
    exact absurd h h1
theorem spawn_bad {rows : List BRow} {gens : List Int} {has n : Int} (h : (spawnV rows gens has n).err ≠ 0) : (spawnV rows gens has n).rows = [] ∧ (spawnV rows gens has n).gens = [] := by
  unfold spawnV at h ⊢
  split
  · exact ⟨rfl, rfl⟩
  · split
    · exact ⟨rfl, rfl⟩
    · split
      · exact ⟨rfl, rfl⟩
      · rename_i h1 h2 h3
        rw [if_neg h1, if_neg h2, if_neg h3] at h
        exact absurd rfl h
section
variable {rows : List BRow} {gens : List Int} {has n : Int} {E : Spawned}
theorem SpawnOk.none_ (h : SpawnOk rows gens has n E) : rowOf E.i E.g rows = none := by
  rw [rowOf_none_iff]
  intro r hr
  rw [isB_false]
  exact fun h' => h.new r hr h'.1
theorem SpawnOk.there (h : SpawnOk rows gens has n E) : rowOf E.i E.g E.rows = some (newRow E.i E.g has n) := by
  rw [rowOf_some_iff h.is.rise, h.rows_]
  exact ⟨mem_insRow.2 (.inl rfl), rfl, rfl⟩
theorem SpawnOk.len (h : SpawnOk rows gens has n E) : E.rows.length = rows.length + 1 := by
  rw [h.rows_]
  exact insRow_length (posOf_le _ _) _
theorem SpawnOk.stay (h : SpawnOk rows gens has n E) {i g : Int} {p : BRow} (hp : rowOf i g rows = some p) : rowOf i g E.rows = some p := by
  rw [rowOf_some_iff h.was.rise] at hp
  rw [rowOf_some_iff h.is.rise, h.rows_]
  exact ⟨mem_insRow.2 (.inr hp.1), hp.2⟩
theorem SpawnOk.only (h : SpawnOk rows gens has n E) {i g : Int} (hp : rowOf i g rows = none) (hne : ¬ (E.i = i ∧ E.g = g)) : rowOf i g E.rows = none := by
  rw [rowOf_none_iff] at hp ⊢
  intro r hr
  rw [h.rows_] at hr
  rcases mem_insRow.1 hr with rfl | hr
  · rw [isB_false]; exact hne
  · exact hp r hr
end
end Go.Proofs.Ytefdblaolmckmaa
