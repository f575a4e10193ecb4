/- The plain law of the batches: each once, none empty, who clashes later, none could stand earlier. -/
import Derived.Test.YtefdblaolmckmaaSpecC
namespace Brood

/-- Number i stands in row q. -/
def At (rows : List (List Nat)) (q i : Nat) : Prop := ∃ r, rows[q]? = some r ∧ i ∈ r
def clashAt (ss : List BSys) (j i : Nat) : Bool := match ss[j]?, ss[i]? with | some y, some s => clash y s | _, _ => false

theorem atFrom_spec (p : List Nat → Bool) : ∀ (bs : List (List Nat)) (a0 k : Nat), a0 ≤ k →
    (∀ q b, bs[q]? = some b → p b = true → k + q < atFrom p a0 k bs) ∧ (atFrom p a0 k bs = a0 ∨ ∃ q b, bs[q]? = some b ∧ p b = true ∧ atFrom p a0 k bs = k + q + 1) ∧ a0 ≤ atFrom p a0 k bs := by
  intro bs
  induction bs with
  | nil => intro a0 k h; exact ⟨fun q b hb => by simp at hb, .inl rfl, Nat.le_refl _⟩
  | cons b bs ih =>
    intro a0 k h
    rw [atFrom]
    have h' := ih (if p b then k + 1 else a0) (k + 1) (by split <;> omega)
    obtain ⟨h1, h2, h3⟩ := h'
    refine ⟨?_, ?_, ?_⟩
    · intro q c hc hp
      cases q with
      | zero =>
        simp at hc
        subst hc
        rw [if_pos hp] at h3 ⊢
        omega
      | succ q =>
        have := h1 q c (by simpa using hc) hp
        omega
    · rcases h2 with h2 | ⟨q, c, hc, hp, h2⟩
      · by_cases hp : p b = true
        · rw [if_pos hp] at h2 ⊢
          exact .inr ⟨0, b, rfl, hp, by omega⟩
        · rw [if_neg hp] at h2 ⊢
          exact .inl h2
      · exact .inr ⟨q + 1, c, by simpa using hc, hp, by omega⟩
    · by_cases hp : p b = true
      · rw [if_pos hp] at h3 ⊢; omega
      · rw [if_neg hp] at h3 ⊢; omega
theorem anyB_iff (ss : List BSys) (s : BSys) (js : List Nat) : anyB ss s js = true ↔ ∃ j ∈ js, ∃ y, ss[j]? = some y ∧ clash y s = true := by
  unfold anyB
  rw [List.any_eq_true]
  constructor
  · rintro ⟨j, hj, h⟩
    cases hy : ss[j]? with
    | none => rw [hy] at h; cases h
    | some y => rw [hy] at h; exact ⟨j, hj, y, hy, h⟩
  · rintro ⟨j, hj, y, hy, h⟩
    exact ⟨j, hj, by rw [hy]; exact h⟩
theorem set_flat (l : List (List Nat)) (k : Nat) : ∀ a, a < l.length → ((l.set a (l.getD a [] ++ [k])).flatten).Perm (k :: l.flatten) := by
  induction l with
  | nil => intro a h; simp at h
  | cons r l ih =>
    intro a h
    cases a with
    | zero =>
      simp only [List.set_cons_zero, List.flatten_cons, List.getD_cons_zero, List.append_assoc]
      exact List.perm_middle
    | succ a =>
      simp only [List.set_cons_succ, List.flatten_cons, List.getD_cons_succ]
      exact ((ih a (by simpa using h)).append_left r).trans List.perm_middle
theorem roomy_flat (a : Nat) (rows : List (List Nat)) : (roomy a rows).flatten = rows.flatten := by
  unfold roomy; split <;> simp
theorem step_at {ss : List BSys} {rows : List (List Nat)} {k : Nat} {s : BSys} (q i : Nat) :
    At (makeStep ss rows k s) q i ↔ At rows q i ∨ (q = makeAt ss s rows ∧ i = k) := by
  have hle := makeAt_le ss s rows
  have hlt := roomy_lt ss s rows
  have hold : ∀ q i, At (roomy (makeAt ss s rows) rows) q i ↔ At rows q i := by
    intro q i
    unfold roomy
    split
    · constructor
      · rintro ⟨r, hr, hi⟩
        by_cases hq : q < rows.length
        · rw [List.getElem?_append_left hq] at hr; exact ⟨r, hr, hi⟩
        · rw [List.getElem?_append_right (by omega)] at hr
          have : r = [] := by have := List.mem_of_getElem? hr; simpa using this
          subst this; cases hi
      · rintro ⟨r, hr, hi⟩
        exact ⟨r, by rw [List.getElem?_append_left (List.getElem?_eq_some_iff.1 hr).1]; exact hr, hi⟩
    · rfl
  rw [← hold]
  unfold makeStep
  generalize roomy (makeAt ss s rows) rows = R at *
  generalize makeAt ss s rows = a at *
  have hg : R.getD a [] = R[a] := by simp [List.getD_eq_getElem?_getD, hlt]
  rw [hg]
  constructor
  · rintro ⟨r, hr, hi⟩
    by_cases hq : q = a
    · subst hq
      rw [List.getElem?_set_self hlt] at hr
      obtain rfl := Option.some.inj hr
      rcases List.mem_append.1 hi with hi | hi
      · exact .inl ⟨R[q], List.getElem?_eq_getElem hlt, hi⟩
      · exact .inr ⟨rfl, by simpa using hi⟩
    · rw [List.getElem?_set_ne (by omega)] at hr
      exact .inl ⟨r, hr, hi⟩
  · rintro (⟨r, hr, hi⟩ | ⟨rfl, rfl⟩)
    · by_cases hq : q = a
      · subst hq
        rw [List.getElem?_eq_getElem hlt] at hr
        obtain rfl := Option.some.inj hr
        exact ⟨_, List.getElem?_set_self hlt, List.mem_append_left _ hi⟩
      · exact ⟨r, by rw [List.getElem?_set_ne (by omega)]; exact hr, hi⟩
    · exact ⟨_, List.getElem?_set_self hlt, by simp⟩

structure LevInv (ss : List BSys) (k : Nat) (rows : List (List Nat)) : Prop where
  perm : rows.flatten.Perm (List.range k)
  ne : ∀ r ∈ rows, r ≠ []
  up : ∀ q q' j i, At rows q j → At rows q' i → j < i → clashAt ss j i = true → q < q'
  held : ∀ q i, At rows q i → q = 0 ∨ ∃ j, At rows (q - 1) j ∧ j < i ∧ clashAt ss j i = true
theorem LevInv.lt {ss : List BSys} {k : Nat} {rows : List (List Nat)} (h : LevInv ss k rows) {q i : Nat} (hi : At rows q i) : i < k := by
  obtain ⟨r, hr, hi⟩ := hi
  have : i ∈ rows.flatten := List.mem_flatten.2 ⟨r, List.mem_of_getElem? hr, hi⟩
  exact List.mem_range.1 (h.perm.mem_iff.1 this)
theorem lev_step {ss : List BSys} {k : Nat} {rows : List (List Nat)} {s : BSys} (hs : ss[k]? = some s) (h : LevInv ss k rows) : LevInv ss (k + 1) (makeStep ss rows k s) := by
  have hsp := atFrom_spec (anyB ss s) rows 0 0 (Nat.le_refl _)
  have hat : makeAt ss s rows = atFrom (anyB ss s) 0 0 rows := rfl
  rw [← hat] at hsp
  obtain ⟨h1, h2, _⟩ := hsp
  have hcl : ∀ j y, ss[j]? = some y → clashAt ss j k = clash y s := by intro j y hy; simp [clashAt, hy, hs]
  have hlt := roomy_lt ss s rows
  have hle := makeAt_le ss s rows
  refine ⟨?_, ?_, ?_, ?_⟩
  · have := set_flat (roomy (makeAt ss s rows) rows) k _ hlt
    rw [roomy_flat] at this
    refine List.Perm.trans this ?_
    rw [List.range_succ]
    exact ((h.perm.cons k).trans (List.perm_append_singleton k (List.range k)).symm)
  · intro r hr hr0
    subst hr0
    unfold makeStep at hr
    obtain ⟨q, hq⟩ := List.getElem?_of_mem hr
    by_cases e : q = makeAt ss s rows
    · subst e
      rw [List.getElem?_set_self hlt] at hq
      simp at hq
    · rw [List.getElem?_set_ne (by omega)] at hq
      unfold roomy at hq
      split at hq
      · by_cases hq' : q < rows.length
        · rw [List.getElem?_append_left hq'] at hq
          exact h.ne [] (List.mem_of_getElem? hq) rfl
        · rw [List.getElem?_append_right (by omega)] at hq
          have := (List.getElem?_eq_some_iff.1 hq).1
          simp at this
          omega
      · exact h.ne [] (List.mem_of_getElem? hq) rfl
  · intro q q' j i hj hi hji hc
    rw [step_at] at hj hi
    rcases hi with hi | ⟨rfl, rfl⟩
    · rcases hj with hj | ⟨rfl, rfl⟩
      · exact h.up q q' j i hj hi hji hc
      · have := h.lt hi; omega
    · rcases hj with hj | ⟨rfl, rfl⟩
      · obtain ⟨r, hr, hjr⟩ := hj
        cases hy : ss[j]? with
        | none => simp [clashAt, hy] at hc
        | some y =>
          rw [hcl j y hy] at hc
          have := h1 q r hr ((anyB_iff ss s r).2 ⟨j, hjr, y, hy, hc⟩)
          omega
      · omega
  · intro q i hi
    rw [step_at] at hi
    rcases hi with hi | ⟨rfl, rfl⟩
    · rcases h.held q i hi with h' | ⟨j, hj, hji, hc⟩
      · exact .inl h'
      · exact .inr ⟨j, (step_at _ _).2 (.inl hj), hji, hc⟩
    · rcases h2 with h2 | ⟨q, b, hb, hp, h2⟩
      · exact .inl h2
      · obtain ⟨j, hj, y, hy, hc⟩ := (anyB_iff ss s b).1 hp
        have hA : At rows q j := ⟨b, hb, hj⟩
        refine .inr ⟨j, (step_at _ _).2 (.inl ?_), h.lt hA, by rw [hcl j y hy]; exact hc⟩
        have : makeAt ss s rows - 1 = q := by omega
        rw [this]; exact hA
theorem lev_from (ss : List BSys) : ∀ (l : List BSys) (k : Nat) (rows : List (List Nat)), l = ss.drop k → k ≤ ss.length → LevInv ss k rows → LevInv ss ss.length (makeFrom ss k rows l) := by
  intro l
  induction l with
  | nil =>
    intro k rows h hk hi
    have : k = ss.length := by
      have := congrArg List.length h
      simp at this
      omega
    subst this
    exact hi
  | cons s l ih =>
    intro k rows h hk hi
    have hlt : k < ss.length := by
      have := congrArg List.length h
      simp at this
      omega
    rw [List.drop_eq_getElem_cons hlt] at h
    injection h with h1 h2
    refine ih (k + 1) _ h2 hlt (lev_step ?_ hi)
    rw [List.getElem?_eq_getElem hlt, h1]
theorem lev_rows (ss : List BSys) : LevInv ss ss.length (makeRows ss) :=
  lev_from ss ss 0 [] (by simp) (Nat.zero_le _) ⟨List.Perm.refl _, (fun r hr => by cases hr), (fun q q' j i hj _ _ _ => by obtain ⟨r, hr, _⟩ := hj; cases hr), (fun q i hi => by obtain ⟨r, hr, _⟩ := hi; cases hr)⟩
/-- Where number i stands. -/
def lvOf (rows : List (List Nat)) (i : Nat) : Nat := rows.findIdx fun r => r.contains i
theorem lvOf_at {rows : List (List Nat)} {i : Nat} (h : i ∈ rows.flatten) : At rows (lvOf rows i) i := by
  obtain ⟨r, hr, hi⟩ := List.mem_flatten.1 h
  have hlt : rows.findIdx (fun r => r.contains i) < rows.length := List.findIdx_lt_length_of_exists ⟨r, hr, by simpa using hi⟩
  have := List.findIdx_getElem (w := hlt)
  exact ⟨_, List.getElem?_eq_getElem hlt, by simpa using this⟩
theorem at_unique {rows : List (List Nat)} (h : rows.flatten.Nodup) {q q' i : Nat} (h1 : At rows q i) (h2 : At rows q' i) : q = q' := by
  induction rows generalizing q q' with
  | nil => obtain ⟨r, hr, _⟩ := h1; simp at hr
  | cons r rows ih =>
    rw [List.flatten_cons, List.nodup_append] at h
    obtain ⟨ha, hb, hc⟩ := h
    obtain ⟨r1, hr1, hi1⟩ := h1
    obtain ⟨r2, hr2, hi2⟩ := h2
    cases q with
    | zero =>
      cases q' with
      | zero => rfl
      | succ q' =>
        simp at hr1 hr2
        subst hr1
        exact absurd rfl (hc i hi1 i (List.mem_flatten.2 ⟨r2, List.mem_of_getElem? hr2, hi2⟩))
    | succ q =>
      cases q' with
      | zero =>
        simp at hr1 hr2
        subst hr2
        exact absurd rfl (hc i hi2 i (List.mem_flatten.2 ⟨r1, List.mem_of_getElem? hr1, hi1⟩))
      | succ q' =>
        simp at hr1 hr2
        exact congrArg (· + 1) (ih hb ⟨r1, hr1, hi1⟩ ⟨r2, hr2, hi2⟩)
end Brood
