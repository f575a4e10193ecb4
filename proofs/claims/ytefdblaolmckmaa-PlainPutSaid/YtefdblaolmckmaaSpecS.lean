/- The plain laws of chapter 2: putting, dropping, having go. -/
import Derived.Test.YtefdblaolmckmaaSpecR
namespace Go.Proofs.Ytefdblaolmckmaa
open Brood
set_option linter.unusedVariables false
set_option linter.unusedSimpArgs false

theorem rise_set {rows : List BRow} (hr : Rise rows) {k : Nat} (hk : k < rows.length) {r : BRow} (h : r.idx = rows[k].idx) : Rise (rows.set k r) := by
  intro i j hi hj hij
  simp only [List.length_set] at hi hj
  have := hr i j hi hj hij
  simp only [List.getElem_set]
  split
  · rename_i e; subst e
    rw [if_neg (by omega), h]; exact this
  · split
    · rename_i e; subst e
      rw [h]; exact this
    · exact this
theorem findR_at {i g : Int} : ∀ {rows : List BRow} {k : Nat}, findR i g rows = some k → ∀ j (hj : j < rows.length), j < k → isB i g rows[j] = false
  | [], k, h, _, _, _ => by simp [findR] at h
  | r :: l, k, h, j, hj, hjk => by
    rw [findR] at h
    split at h
    · have := Option.some.inj h; omega
    · rename_i hB
      cases h' : findR i g l with
      | none => rw [h'] at h; cases h
      | some q =>
        rw [h'] at h
        have h3 : q + 1 = k := Option.some.inj h
        cases j with
        | zero => simpa using hB
        | succ j => exact findR_at h' j (by simpa using hj) (by omega)
theorem findR_mk {i g : Int} : ∀ {rows : List BRow} {k : Nat} (hk : k < rows.length), isB i g rows[k] = true → (∀ j (hj : j < rows.length), j < k → isB i g rows[j] = false) → findR i g rows = some k
  | [], k, hk, _, _ => by simp at hk
  | r :: l, k, hk, h, hl => by
    rw [findR]
    cases k with
    | zero => rw [if_pos (by simpa using h)]
    | succ k =>
      have h0 := hl 0 (by simp) (by omega)
      simp only [List.getElem_cons_zero] at h0
      rw [if_neg (by rw [h0]; simp), findR_mk (k := k) (by simpa using hk) (by simpa using h) (fun j hj hjk => hl (j + 1) (by simpa using hj) (by omega))]
      rfl
theorem findR_set {i g : Int} {rows : List BRow} {k : Nat} (h : findR i g rows = some k) {r : BRow} (hr : isB i g r = true) : findR i g (rows.set k r) = some k := by
  have hk := findR_lt h
  refine findR_mk (by simpa using hk) (by simpa using hr) ?_
  intro j hj hjk
  rw [List.getElem_set_ne (by omega)]
  exact findR_at h j (by simpa using hj) hjk
theorem mem_set_iff {rows : List BRow} (hr : Rise rows) {k : Nat} (hk : k < rows.length) {r q : BRow} (h : r.idx = rows[k].idx) : q ∈ rows.set k r ↔ q = r ∨ (q ∈ rows ∧ q.idx ≠ r.idx) := by
  constructor
  · intro hq
    obtain ⟨j, hj, rfl⟩ := List.getElem_of_mem hq
    simp only [List.length_set] at hj
    rw [List.getElem_set]
    split
    · exact .inl rfl
    · rename_i hne
      refine .inr ⟨List.getElem_mem hj, fun e => ?_⟩
      rw [h] at e
      rcases Nat.lt_trichotomy k j with h' | h' | h'
      · have := hr k j hk hj h'; omega
      · exact hne h'
      · have := hr j k hj hk h'; omega
  · rintro (rfl | ⟨hq, hne⟩)
    · exact List.mem_set hk _
    · obtain ⟨j, hj, rfl⟩ := List.getElem_of_mem hq
      have hjk : k ≠ j := by rintro rfl; exact hne h.symm
      have : (rows.set k r)[j]'(by simpa using hj) = rows[j] := List.getElem_set_ne hjk _
      rw [← this]
      exact List.getElem_mem _
/-- What a closure may do to a right row. -/
structure FnOk (fr : BRow → BRow × Int) : Prop where
  idx : ∀ r, (fr r).1.idx = r.idx
  gen : ∀ r, (fr r).1.gen = r.gen
  ok : ∀ r, rowErr r = 0 → (fr r).2 = 0 → rowErr (fr r).1 = 0
structure ChangeOk (rows : List BRow) (gens : List Int) (i g : Int) (fr : BRow → BRow × Int) (k : Nat) (r : BRow) (E : Changed) : Prop where
  was : RightW rows gens
  find : findR i g rows = some k
  lt : k < rows.length
  at_ : rows[k]? = some r
  isb : r.idx = i ∧ r.gen = g
  ok : (fr r).2 = 0
  rows_ : E.rows = rows.set k (fr r).1
  gens_ : E.gens = gens
  err : E.err = 0
theorem change_ok {rows : List BRow} {gens : List Int} {i g : Int} {fr : BRow → BRow × Int} (h : (changeV rows gens i g fr).err = 0) : ∃ k r, ChangeOk rows gens i g fr k r (changeV rows gens i g fr) := by
  unfold changeV at h ⊢
  by_cases h1 : (worldErr ⟨rows, gens⟩).1 = 0
  · rw [if_neg (by simpa using h1)] at h ⊢
    have hw := (right_iff rows gens).1 h1
    cases hf : findR i g rows with
    | none => rw [hf] at h; cases h
    | some k =>
      have hk := findR_lt hf
      have he := List.getElem?_eq_getElem hk
      simp only [hf, he] at h ⊢
      obtain ⟨_, hb⟩ := findR_spec hf
      by_cases h2 : (fr rows[k]).2 = 0
      · rw [if_neg (by simpa using h2)] at h ⊢
        exact ⟨k, rows[k], hw, hf, hk, he, isB_iff.1 hb, h2, rfl, rfl, rfl⟩
      · rw [if_pos h2] at h
        exact absurd h h2
  · rw [if_pos h1] at h
    exact absurd h h1
theorem change_bad {rows : List BRow} {gens : List Int} {i g : Int} {fr : BRow → BRow × Int} (h : (changeV rows gens i g fr).err ≠ 0) : (changeV rows gens i g fr).rows = [] ∧ (changeV rows gens i g fr).gens = [] := by
  unfold changeV at h ⊢
  split
  · exact ⟨rfl, rfl⟩
  · rename_i h1
    rw [if_neg h1] at h
    split
    · exact ⟨rfl, rfl⟩
    · split
      · exact ⟨rfl, rfl⟩
      · split
        · exact ⟨rfl, rfl⟩
        · rename_i _ k hf _ r hr h2
          simp [hf, hr, h2] at h
/-- What makes a change: the other way. -/
theorem change_mk {rows : List BRow} {gens : List Int} {i g : Int} (fr : BRow → BRow × Int) (hw : RightW rows gens) {k : Nat} {r : BRow} (hf : findR i g rows = some k) (hr : rows[k]? = some r) :
    changeV rows gens i g fr = if (fr r).2 ≠ 0 then ⟨[], [], (fr r).2⟩ else ⟨rows.set k (fr r).1, gens, 0⟩ := by
  unfold changeV
  rw [if_neg (by simpa using (right_iff rows gens).2 hw), hf]
  simp only [hr]
theorem ext_some {α : Type} {a b : Option α} (h : ∀ p, a = some p ↔ b = some p) : a = b := by
  cases a with
  | none => cases b with
    | none => rfl
    | some q => exact ((h q).2 rfl)
  | some p => exact ((h p).1 rfl).symm
section
variable {rows : List BRow} {gens : List Int} {i g : Int} {fr : BRow → BRow × Int} {k : Nat} {r : BRow} {E : Changed}
theorem ChangeOk.get (h : ChangeOk rows gens i g fr k r E) : rows[k]'h.lt = r := by
  have := h.at_
  rw [List.getElem?_eq_getElem h.lt] at this
  exact Option.some.inj this
theorem ChangeOk.mem (h : ChangeOk rows gens i g fr k r E) : r ∈ rows := List.mem_of_getElem? h.at_
theorem ChangeOk.is (h : ChangeOk rows gens i g fr k r E) (hf : FnOk fr) : RightW E.rows E.gens := by
  have hi : (fr r).1.idx = (rows[k]'h.lt).idx := by rw [h.get, hf.idx]
  have hw := h.was
  rw [h.rows_, h.gens_]
  have hmem : ∀ q ∈ rows.set k (fr r).1, q = (fr r).1 ∨ q ∈ rows := fun q hq => (List.mem_or_eq_of_mem_set hq).symm
  refine ⟨hw.len, hw.gen, ?_, ?_, ?_, rise_set hw.rise h.lt hi⟩
  · intro q hq
    rcases hmem q hq with rfl | hq
    · exact hf.ok r (hw.row r h.mem) h.ok
    · exact hw.row q hq
  · intro q hq
    rcases hmem q hq with rfl | hq
    · rw [hf.idx]; exact hw.idx r h.mem
    · exact hw.idx q hq
  · intro q hq
    rcases hmem q hq with rfl | hq
    · rw [hf.idx, hf.gen]; exact hw.fit r h.mem
    · exact hw.fit q hq
theorem ChangeOk.findR_ (h : ChangeOk rows gens i g fr k r E) (hf : FnOk fr) : findR i g E.rows = some k := by
  rw [h.rows_]
  exact findR_set h.find (isB_iff.2 ⟨by rw [hf.idx]; exact h.isb.1, by rw [hf.gen]; exact h.isb.2⟩)
theorem ChangeOk.at2 (h : ChangeOk rows gens i g fr k r E) : E.rows[k]? = some (fr r).1 := by
  rw [h.rows_, List.getElem?_set_self h.lt]
theorem ChangeOk.rest (h : ChangeOk rows gens i g fr k r E) (hf : FnOk fr) {i' g' : Int} (hne : ¬ (i' = i ∧ g' = g)) : rowOf i' g' E.rows = rowOf i' g' rows := by
  have hi : (fr r).1.idx = (rows[k]'h.lt).idx := by rw [h.get, hf.idx]
  refine ext_some fun p => ?_
  rw [rowOf_some_iff (h.is hf).rise, rowOf_some_iff h.was.rise, h.rows_, mem_set_iff h.was.rise h.lt hi]
  constructor
  · rintro ⟨rfl | ⟨hp, _⟩, h2, h3⟩
    · rw [hf.idx, h.isb.1] at h2
      rw [hf.gen, h.isb.2] at h3
      exact absurd ⟨h2.symm, h3.symm⟩ hne
    · exact ⟨hp, h2, h3⟩
  · rintro ⟨hp, h2, h3⟩
    refine ⟨.inr ⟨hp, fun e => hne ?_⟩, h2, h3⟩
    rw [hf.idx] at e
    have := rise_inj h.was.rise hp h.mem e
    subst this
    exact ⟨h2.symm.trans h.isb.1, h3.symm.trans h.isb.2⟩
end
theorem putF_ok (part n : Int) : FnOk (putF part n) := by
  refine ⟨?_, ?_, ?_⟩
  · intro r; unfold putF; split <;> rfl
  · intro r; unfold putF; split <;> rfl
  · intro r hr h
    unfold putF at h ⊢
    by_cases hc : (isPart part && isVal n) = true
    · rw [if_pos hc] at h ⊢
      rw [Bool.and_eq_true] at hc
      have hp := isPart_iff.1 hc.1
      rw [rowErr_iff] at hr ⊢
      refine ⟨with_set hr.1, fun j hj => ?_⟩
      have hj2 := hr.2 j hj
      dsimp only
      rw [has_with]
      have h8 := r.h8
      by_cases he : j = part.toNat
      · subst he
        have : (r.vals.set part.toNat n).getD part.toNat 0 = n := by simp [List.getD_eq_getElem?_getD, h8, hj]
        rw [this]
        refine ⟨hc.2, fun _ => ?_⟩
        rw [hc.1, decide_eq_true (by omega)]; simp
      · have : (r.vals.set part.toNat n).getD j 0 = r.vals.getD j 0 := by
          simp only [List.getD_eq_getElem?_getD]
          rw [List.getElem?_set_ne (by omega)]
        rw [this]
        exact ⟨hj2.1, fun h' => by rw [hj2.2 h']; rfl⟩
    · rw [if_neg hc] at h; cases h
theorem dropF_ok (part : Int) : FnOk (dropF part) := by
  refine ⟨?_, ?_, ?_⟩
  · intro r; unfold dropF; split <;> rfl
  · intro r; unfold dropF; split <;> rfl
  · intro r hr h
    unfold dropF at h ⊢
    by_cases hc : hasB r.has part = true
    · rw [if_pos hc] at h ⊢
      have hp : isPart part = true := by unfold hasB at hc; rw [Bool.and_eq_true] at hc; exact hc.1
      rw [isPart_iff] at hp
      rw [rowErr_iff] at hr ⊢
      refine ⟨without_set hr.1, fun j hj => ?_⟩
      have hj2 := hr.2 j hj
      dsimp only
      rw [has_without hr.1]
      have h8 := r.h8
      by_cases he : j = part.toNat
      · subst he
        have : (r.vals.set part.toNat 0).getD part.toNat 0 = 0 := by simp [List.getD_eq_getElem?_getD, h8, hj]
        rw [this]
        exact ⟨by decide, fun h => absurd rfl h⟩
      · have : (r.vals.set part.toNat 0).getD j 0 = r.vals.getD j 0 := by
          simp only [List.getD_eq_getElem?_getD]
          rw [List.getElem?_set_ne (by omega)]
        rw [this]
        refine ⟨hj2.1, fun h' => ?_⟩
        rw [hj2.2 h', decide_eq_false (by omega)]; rfl
    · rw [if_neg hc] at h; cases h
theorem keepF_ok : FnOk keepF := ⟨fun _ => rfl, fun _ => rfl, fun _ h _ => h⟩
/-- Having one go. -/
structure KillOk (rows : List BRow) (gens : List Int) (i g : Int) (E : Changed) : Prop where
  was : RightW rows gens
  there : ∃ r ∈ rows, r.idx = i ∧ r.gen = g
  rows_ : E.rows = keepR (isB i g) rows
  gens_ : E.gens = gens
  err : E.err = 0
theorem kill_ok {rows : List BRow} {gens : List Int} {i g : Int} (h : (killV rows gens i g).err = 0) : KillOk rows gens i g (killV rows gens i g) := by
  unfold killV at h ⊢
  dsimp only at h ⊢
  by_cases hc : (changeV rows gens i g keepF).err = 0
  · rw [if_pos hc]
    obtain ⟨k, r, H⟩ := change_ok hc
    have hs : rows.set k (keepF r).1 = rows := by
      show rows.set k r = rows
      rw [← H.get]; exact List.set_getElem_self _
    refine ⟨H.was, ⟨r, H.mem, H.isb⟩, ?_, H.gens_, rfl⟩
    show keepR (isB i g) (changeV rows gens i g keepF).rows = _
    rw [H.rows_, hs]
  · rw [if_neg hc] at h
    exact absurd h hc
theorem kill_bad {rows : List BRow} {gens : List Int} {i g : Int} (h : (killV rows gens i g).err ≠ 0) : (killV rows gens i g).rows = [] ∧ (killV rows gens i g).gens = [] := by
  unfold killV at h ⊢
  dsimp only at h ⊢
  by_cases hc : (changeV rows gens i g keepF).err = 0
  · rw [if_pos hc] at h; exact absurd rfl h
  · rw [if_neg hc]
    exact change_bad hc
theorem kill_mk {rows : List BRow} {gens : List Int} {i g : Int} (hw : RightW rows gens) {r : BRow} (hr : r ∈ rows) (hi : r.idx = i) (hg : r.gen = g) : (killV rows gens i g).err = 0 := by
  have hf : ∃ k, findR i g rows = some k := by
    cases hf : findR i g rows with
    | some k => exact ⟨k, rfl⟩
    | none =>
      have := rowOf_none_iff.1 (findR_none hf) r hr
      rw [isB_iff.2 ⟨hi, hg⟩] at this
      cases this
  obtain ⟨k, hf⟩ := hf
  have hk := findR_lt hf
  have hc : (changeV rows gens i g keepF).err = 0 := by
    rw [change_mk keepF hw hf (List.getElem?_eq_getElem hk)]
    rfl
  unfold killV
  dsimp only
  rw [if_pos hc]
theorem mem_keepR {i g : Int} {rows : List BRow} {q : BRow} : q ∈ keepR (isB i g) rows ↔ q ∈ rows ∧ ¬ (q.idx = i ∧ q.gen = g) := by
  unfold keepR
  rw [List.mem_filter]
  constructor
  · rintro ⟨h1, h2⟩
    exact ⟨h1, isB_false.1 (by simpa using h2)⟩
  · rintro ⟨h1, h2⟩
    exact ⟨h1, by rw [isB_false.2 h2]; rfl⟩
theorem rise_filter (p : BRow → Bool) : ∀ {rows : List BRow}, Rise rows → Rise (rows.filter p)
  | [], h => h
  | r :: l, h => by
    have h' := rise_cons.1 h
    rw [List.filter_cons]
    split
    · rw [rise_cons]
      exact ⟨fun q hq => h'.1 q (List.mem_filter.1 hq).1, rise_filter p h'.2⟩
    · exact rise_filter p h'.2
section
variable {rows : List BRow} {gens : List Int} {i g : Int} {E : Changed}
theorem KillOk.is (h : KillOk rows gens i g E) : RightW E.rows E.gens := by
  have hw := h.was
  rw [h.rows_, h.gens_]
  exact ⟨hw.len, hw.gen, fun q hq => hw.row q (mem_keepR.1 hq).1, fun q hq => hw.idx q (mem_keepR.1 hq).1, fun q hq => hw.fit q (mem_keepR.1 hq).1, rise_filter _ hw.rise⟩
theorem KillOk.gone (h : KillOk rows gens i g E) : rowOf i g E.rows = none := by
  rw [rowOf_none_iff, h.rows_]
  intro q hq
  rw [isB_false]
  exact (mem_keepR.1 hq).2
theorem KillOk.rest (h : KillOk rows gens i g E) {i' g' : Int} (hne : ¬ (i' = i ∧ g' = g)) : rowOf i' g' E.rows = rowOf i' g' rows := by
  refine ext_some fun p => ?_
  rw [rowOf_some_iff h.is.rise, rowOf_some_iff h.was.rise, h.rows_, mem_keepR]
  constructor
  · rintro ⟨⟨h1, _⟩, h2⟩; exact ⟨h1, h2⟩
  · rintro ⟨h1, h2, h3⟩; exact ⟨⟨h1, fun h' => hne ⟨h2.symm.trans h'.1, h3.symm.trans h'.2⟩⟩, h2, h3⟩
end
end Go.Proofs.Ytefdblaolmckmaa
