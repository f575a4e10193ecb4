/- The document's batches are the program's: plain law. -/
import Derived.Test.YtefdblaolmckmaaSpecD
namespace Brood

theorem sorted_step {ss : List BSys} {k : Nat} {rows : List (List Nat)} {s : BSys} (hb : Bound k rows) (h : ∀ r ∈ rows, r.Pairwise (· < ·)) : ∀ r ∈ makeStep ss rows k s, r.Pairwise (· < ·) := by
  have hR : ∀ r ∈ roomy (makeAt ss s rows) rows, r.Pairwise (· < ·) := by
    intro r hr
    unfold roomy at hr
    split at hr
    · rcases List.mem_append.1 hr with hr | hr
      · exact h r hr
      · have : r = [] := by simpa using hr
        subst this; exact List.Pairwise.nil
    · exact h r hr
  have hbr := (bound_roomy (a := makeAt ss s rows) hb).2
  have hlt := roomy_lt ss s rows
  intro r hr
  unfold makeStep at hr
  rcases List.mem_or_eq_of_mem_set hr with hr | hr
  · exact hR r hr
  · subst hr
    have hg : (roomy (makeAt ss s rows) rows).getD (makeAt ss s rows) [] = (roomy (makeAt ss s rows) rows)[makeAt ss s rows] := by simp [List.getD_eq_getElem?_getD, hlt]
    rw [hg]
    have hm := List.getElem_mem hlt
    refine List.pairwise_append.2 ⟨hR _ hm, by simp, ?_⟩
    intro a ha b hb'
    have : b = k := by simpa using hb'
    subst this
    exact (hbr _ hm).2 a ha
theorem sorted_from (ss : List BSys) : ∀ (l : List BSys) (k : Nat) (rows : List (List Nat)), Bound k rows → (∀ r ∈ rows, r.Pairwise (· < ·)) → ∀ r ∈ makeFrom ss k rows l, r.Pairwise (· < ·)
  | [], _, _, _, h => h
  | s :: l, k, rows, hb, h => sorted_from ss l (k + 1) _ (bound_step ss s hb) (sorted_step hb h)
theorem sorted_rows (ss : List BSys) : ∀ r ∈ makeRows ss, r.Pairwise (· < ·) :=
  sorted_from ss ss 0 [] ⟨by simp, fun r hr => by cases hr⟩ (fun r hr => by cases hr)

section
variable (ss : List BSys) (rows : List (List Nat))
def mxTo (i : Nat) : Nat → Nat
  | 0 => 0
  | j + 1 => if clashAt ss j i && decide (mxTo i j < lvOf rows j + 1) then lvOf rows j + 1 else mxTo i j
def nTo : Nat → Nat
  | 0 => 0
  | k + 1 => if nTo k < lvOf rows k + 1 then lvOf rows k + 1 else nTo k
def colsTo (k : Nat) : List (List Nat) := (List.range rows.length).map fun q => (List.range k).filter fun i => lvOf rows i == q
end
section
variable {ss : List BSys} {rows : List (List Nat)}
theorem mx_ge {i j : Nat} : ∀ j', j' < j → clashAt ss j' i = true → lvOf rows j' + 1 ≤ mxTo ss rows i j := by
  induction j with
  | zero => intro j' h; omega
  | succ j ih =>
    intro j' h hc
    rw [mxTo]
    by_cases e : j' = j
    · subst e
      rw [hc, Bool.true_and]
      split
      · omega
      · rename_i hn; simp at hn; omega
    · have := ih j' (by omega) hc
      split
      · rename_i hn; simp at hn; omega
      · exact this
theorem mx_le {i : Nat} {b : Nat} (h : ∀ j, j < i → clashAt ss j i = true → lvOf rows j + 1 ≤ b) : ∀ j, j ≤ i → mxTo ss rows i j ≤ b := by
  intro j
  induction j with
  | zero => intro _; simp [mxTo]
  | succ j ih =>
    intro hj
    rw [mxTo]
    split
    · rename_i hn
      simp at hn
      exact h j (by omega) hn.1
    · exact ih (by omega)
theorem lv_mem (h : LevInv ss ss.length rows) {i : Nat} (hi : i < ss.length) : At rows (lvOf rows i) i := lvOf_at (h.perm.mem_iff.2 (List.mem_range.2 hi))
theorem lv_lt_len (h : LevInv ss ss.length rows) {i : Nat} (hi : i < ss.length) : lvOf rows i < rows.length := by
  obtain ⟨r, hr, _⟩ := lv_mem h hi
  exact (List.getElem?_eq_some_iff.1 hr).1
theorem mx_all (h : LevInv ss ss.length rows) {i : Nat} (hi : i < ss.length) : mxTo ss rows i i = lvOf rows i := by
  have hnd : rows.flatten.Nodup := h.perm.nodup_iff.2 List.nodup_range
  apply Nat.le_antisymm
  · exact mx_le (fun j hj hc => h.up _ _ j i (lv_mem h (by omega)) (lv_mem h hi) hj hc) i (Nat.le_refl _)
  · rcases h.held _ i (lv_mem h hi) with h0 | ⟨j, hj, hji, hc⟩
    · omega
    · have hl : lvOf rows j = lvOf rows i - 1 := at_unique hnd (lv_mem h (by omega)) hj
      have := mx_ge (ss := ss) (rows := rows) (i := i) (j := i) j hji hc
      omega
theorem n_ge {k : Nat} : ∀ i, i < k → lvOf rows i + 1 ≤ nTo rows k := by
  induction k with
  | zero => intro i h; omega
  | succ k ih =>
    intro i h
    rw [nTo]
    by_cases e : i = k
    · subst e; split <;> omega
    · have := ih i (by omega)
      split <;> omega
theorem n_le {b k : Nat} (h : ∀ i, i < k → lvOf rows i + 1 ≤ b) : ∀ j, j ≤ k → nTo rows j ≤ b := by
  intro j
  induction j with
  | zero => intro _; simp [nTo]
  | succ j ih =>
    intro hj
    rw [nTo]
    split
    · exact h j (by omega)
    · exact ih (by omega)
theorem n_all (h : LevInv ss ss.length rows) : nTo rows ss.length = rows.length := by
  have hnd : rows.flatten.Nodup := h.perm.nodup_iff.2 List.nodup_range
  apply Nat.le_antisymm
  · exact n_le (fun i hi => lv_lt_len h hi) _ (Nat.le_refl _)
  · rcases Nat.eq_zero_or_pos rows.length with e | e
    · omega
    · have hq : rows.length - 1 < rows.length := by omega
      have hne := h.ne rows[rows.length - 1] (List.getElem_mem hq)
      obtain ⟨i, hi⟩ := List.exists_mem_of_ne_nil _ hne
      have hA : At rows (rows.length - 1) i := ⟨_, List.getElem?_eq_getElem hq, hi⟩
      have hil := h.lt hA
      have hl : lvOf rows i = rows.length - 1 := at_unique hnd (lv_mem h hil) hA
      have := n_ge (rows := rows) (k := ss.length) i hil
      omega
theorem cols_zero : colsTo rows 0 = List.replicate rows.length [] := by
  simp [colsTo, List.map_const']
theorem cols_length (k : Nat) : (colsTo rows k).length = rows.length := by simp [colsTo]
theorem cols_at {k q : Nat} (hq : q < rows.length) : (colsTo rows k)[q]? = some ((List.range k).filter fun i => lvOf rows i == q) := by
  simp [colsTo, hq]
theorem cols_succ {k : Nat} (hk : lvOf rows k < rows.length) : colsTo rows (k + 1) = (colsTo rows k).set (lvOf rows k) (((List.range k).filter fun i => lvOf rows i == lvOf rows k) ++ [k]) := by
  apply List.ext_getElem?
  intro q
  by_cases hq : q < rows.length
  · rw [cols_at hq]
    by_cases e : q = lvOf rows k
    · subst e
      rw [List.getElem?_set_self (by rw [cols_length]; exact hk), List.range_succ, List.filter_append]
      simp
    · rw [List.getElem?_set_ne (by omega), cols_at hq, List.range_succ, List.filter_append]
      have : ¬ (lvOf rows k = q) := fun h => e h.symm
      simp [this]
  · rw [List.getElem?_eq_none (by rw [cols_length]; omega), List.getElem?_eq_none (by rw [List.length_set, cols_length]; omega)]
theorem eq_of_sorted : ∀ {a b : List Nat}, a.Pairwise (· < ·) → b.Pairwise (· < ·) → (∀ x, x ∈ a ↔ x ∈ b) → a = b
  | [], [], _, _, _ => rfl
  | [], y :: b, _, _, h => by have := (h y).2 (by simp); cases this
  | x :: a, [], _, _, h => by have := (h x).1 (by simp); cases this
  | x :: a, y :: b, ha, hb, h => by
    rw [List.pairwise_cons] at ha hb
    have hxy : x = y := by
      have h1 := (h x).1 (by simp)
      have h2 := (h y).2 (by simp)
      rcases List.mem_cons.1 h1 with e | h1
      · exact e
      · rcases List.mem_cons.1 h2 with e | h2
        · exact e.symm
        · have := hb.1 x h1; have := ha.1 y h2; omega
    subst hxy
    congr 1
    refine eq_of_sorted ha.2 hb.2 fun z => ?_
    have := h z
    simp only [List.mem_cons] at this
    constructor
    · intro hz
      have hne : z ≠ x := by have := ha.1 z hz; omega
      rcases this.1 (.inr hz) with e | h'
      · exact absurd e hne
      · exact h'
    · intro hz
      have hne : z ≠ x := by have := hb.1 z hz; omega
      rcases this.2 (.inr hz) with e | h'
      · exact absurd e hne
      · exact h'
theorem cols_all (h : LevInv ss ss.length rows) (hs : ∀ r ∈ rows, r.Pairwise (· < ·)) : colsTo rows ss.length = rows := by
  have hnd : rows.flatten.Nodup := h.perm.nodup_iff.2 List.nodup_range
  apply List.ext_getElem?
  intro q
  by_cases hq : q < rows.length
  · rw [cols_at hq, List.getElem?_eq_getElem hq]
    congr 1
    refine eq_of_sorted (List.Pairwise.filter _ List.pairwise_lt_range) (hs _ (List.getElem_mem hq)) fun i => ?_
    rw [List.mem_filter, List.mem_range]
    constructor
    · rintro ⟨hi, hl⟩
      obtain ⟨r, hr, hir⟩ := lv_mem h hi
      have hl' : lvOf rows i = q := by simpa using hl
      rw [hl', List.getElem?_eq_getElem hq] at hr
      obtain rfl := Option.some.inj hr
      exact hir
    · intro hi
      have hA : At rows q i := ⟨_, List.getElem?_eq_getElem hq, hi⟩
      have hil := h.lt hA
      exact ⟨hil, by simpa using at_unique hnd (lv_mem h hil) hA⟩
  · rw [List.getElem?_eq_none (by rw [cols_length]; omega), List.getElem?_eq_none (by omega)]
end
end Brood
