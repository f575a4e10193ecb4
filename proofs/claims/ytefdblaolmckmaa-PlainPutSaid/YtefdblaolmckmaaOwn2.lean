/- A slice of slices of ints that the call itself makes: the outer row and each inner one in a block of its own. -/
import Derived.Test.YtefdblaolmckmaaMem
import Derived.Maps.AppendAt
namespace Go.Proofs.Ytefdblaolmckmaa
open Go.RowKit

theorem own_keep {w w' : World} {base : Nat} {e : TypeId} {sz : Nat} {v : Value} {n : Nat} {xs : List Value} (h : w.ownsRow base e sz v n xs) (hk : ∀ b, v.ownBlock = some b → b < w.heap.size → w'.heap[b]? = w.heap[b]?) : w'.ownsRow base e sz v n xs := by
  refine ⟨h.1, ?_⟩
  rcases h.2 with hn | ⟨g, cap, cur, rfl, hb, hgg, rest⟩
  · exact .inl hn
  · refine .inr ⟨g, cap, cur, rfl, hb, ?_, rest⟩
    rw [hk g rfl (Array.getElem?_eq_some_iff.1 hgg).1]
    exact hgg
theorem own_below {w w' : World} {base : Nat} {e : TypeId} {sz : Nat} {v : Value} {n : Nat} {xs : List Value} (h : w.ownsRow base e sz v n xs) (hb : Below w.heap.size w w') : w'.ownsRow base e sz v n xs :=
  own_keep h fun b _ hlt => hb.block b hlt
theorem own_at {w : World} {base : Nat} {v : Value} {n : Nat} {zs : List Int} (h : w.ownsRow base 3 1 v n (ints zs)) : ∃ A c, v = .slice A n c ∧ zs.length = n ∧ RdI w A zs := by
  obtain ⟨A, c, rfl, h1, h2⟩ := own_shape h
  have hl : zs.length = n := by have := h.1; simpa [ints_length] using this
  subst hl
  exact ⟨A, c, rfl, rfl, RdI.of_own h⟩

/-- v is a slice of the slices us, which read as the rows; all of it is the call's own. -/
structure OwnLL (w : World) (base : Nat) (v : Value) (us : List Value) (rows : List (List Int)) : Prop where
  out : w.ownsRow base 32 1 v us.length us
  len : us.length = rows.length
  row : ∀ (k : Nat) (u : Value) (r : List Int), us[k]? = some u → rows[k]? = some r → w.ownsRow base 3 1 u r.length (ints r)
  apart : ∀ (k k' : Nat) (u u' : Value), us[k]? = some u → us[k']? = some u' → k ≠ k' → ∀ b, u.ownBlock = some b → u'.ownBlock ≠ some b
  off : ∀ (k : Nat) (u : Value), us[k]? = some u → ∀ b, u.ownBlock = some b → v.ownBlock ≠ some b
section
variable {w w' : World} {base : Nat} {v v' : Value} {us : List Value} {rows : List (List Int)}
theorem OwnLL.nil_ (w : World) (base : Nat) : OwnLL w base (.slice none 0 0) [] [] :=
  ⟨own_nil _ _ _ _, rfl, fun k u r h => by simp at h, fun k k' u u' h => by simp at h, fun k u h => by simp at h⟩
theorem OwnLL.below (h : OwnLL w base v us rows) (hb : Below w.heap.size w w') : OwnLL w' base v us rows :=
  ⟨own_below h.out hb, h.len, fun k u r h1 h2 => own_below (h.row k u r h1 h2) hb, h.apart, h.off⟩
theorem OwnLL.alloc (h : OwnLL w base v us rows) (o : Obj) : OwnLL (w.alloc o) base v us rows :=
  h.below ((Below.refl _ _).alloc (Nat.le_refl _) o)
theorem OwnLL.drew (h : OwnLL w base v us rows) : OwnLL w.drew base v us rows := ⟨h.out, h.len, h.row, h.apart, h.off⟩
theorem OwnLL.drewN (h : OwnLL w base v us rows) (n : Nat) : OwnLL (w.drewN n) base v us rows := ⟨h.out, h.len, h.row, h.apart, h.off⟩
theorem OwnLL.rowAt (h : OwnLL w base v us rows) {k : Nat} (hk : k < rows.length) : ∃ u, us[k]? = some u ∧ w.ownsRow base 3 1 u rows[k].length (ints rows[k]) := by
  have hk' : k < us.length := by rw [h.len]; exact hk
  exact ⟨us[k], List.getElem?_eq_getElem hk', h.row k _ _ (List.getElem?_eq_getElem hk') (List.getElem?_eq_getElem hk)⟩
theorem own_lower {w : World} {base base' : Nat} {e : TypeId} {sz : Nat} {v : Value} {n : Nat} {xs : List Value} (h : w.ownsRow base e sz v n xs) (hb : base' ≤ base) : w.ownsRow base' e sz v n xs := by
  refine ⟨h.1, ?_⟩
  rcases h.2 with hn | ⟨g, cap, cur, rfl, hg, rest⟩
  · exact .inl hn
  · exact .inr ⟨g, cap, cur, rfl, Nat.le_trans hb hg, rest⟩
theorem own_far {w : World} {base : Nat} {e : TypeId} {sz : Nat} {v : Value} {n : Nat} {xs : List Value} (h : w.ownsRow base e sz v n xs) {p : Addr} (hp : p.block < base) (u : Value) : (w.setCell p u).ownsRow base e sz v n xs :=
  own_keep h fun b hb _ => Below.heap_setCell w p u b (fun e => by have := (h.lt b hb).1; omega)
theorem OwnLL.lower {base' : Nat} (h : OwnLL w base v us rows) (hb : base' ≤ base) : OwnLL w base' v us rows :=
  ⟨own_lower h.out hb, h.len, fun k u r h1 h2 => own_lower (h.row k u r h1 h2) hb, h.apart, h.off⟩
theorem OwnLL.far (h : OwnLL w base v us rows) {p : Addr} (hp : p.block < base) (u : Value) : OwnLL (w.setCell p u) base v us rows :=
  ⟨own_far h.out hp u, h.len, fun k x r h1 h2 => own_far (h.row k x r h1 h2) hp u, h.apart, h.off⟩
/-- The outer slice's place in memory. -/
theorem OwnLL.place (h : OwnLL w base v us rows) (h0 : 0 < rows.length) : ∃ g cap, v = .slice (some ⟨g, 0, none⟩) rows.length cap ∧ base ≤ g ∧ g < w.heap.size ∧ rows.length ≤ cap ∧
    (∀ k, k < rows.length → w.cell? ⟨g, k, none⟩ = us[k]?) ∧ ∀ k, w.frozen? ⟨g, k, none⟩ = false := by
  obtain ⟨A, c, hv, h1, h2⟩ := own_shape h.out
  subst hv
  have hl := h.len
  rcases h.out.2 with ⟨hv, hn⟩ | ⟨g, cap, cur, hv, hb, hgg, hc1, hc2, hc3⟩
  · omega
  · injection hv with e1 e2 e3
    subst e1 e3
    have ho := h.out
    rw [hl] at ho
    refine ⟨g, c, by rw [hl], hb, (Array.getElem?_eq_some_iff.1 hgg).1, by omega, fun k hk => ho.cellAt k (by omega), fun k => ho.frozenAt k⟩
theorem OwnLL.shape (h : OwnLL w base v us rows) : ∃ A c, v = .slice A rows.length c ∧ rows.length ≤ c ∧ c ≤ maxLen := by
  obtain ⟨A, c, hv, h1, h2⟩ := own_shape h.out
  exact ⟨A, c, by rw [hv, h.len], by rw [← h.len]; exact h1, h2⟩
/-- One empty row more. -/
theorem OwnLL.push (h : OwnLL w base v us rows) (hown : w'.ownsRow base 32 1 v' (us.length + 1) (us ++ [.slice none 0 0])) (hg : w.grownBy w' v.ownBlock)
    (hat : v'.ownBlock = v.ownBlock ∨ v'.ownBlock = some w.heap.size) : OwnLL w' base v' (us ++ [.slice none 0 0]) (rows ++ [[]]) := by
  refine ⟨by simpa using hown, by simp [h.len], ?_, ?_, ?_⟩
  · intro k u r h1 h2
    by_cases hk : k < us.length
    · rw [List.getElem?_append_left hk] at h1
      rw [List.getElem?_append_left (by rw [← h.len]; exact hk)] at h2
      refine (h.row k u r h1 h2).kept hg ?_
      cases hu : u.ownBlock with
      | none => exact .inl rfl
      | some b => exact .inr (fun e => h.off k u h1 b hu e.symm)
    · rw [List.getElem?_append_right (by omega)] at h1
      rw [List.getElem?_append_right (by rw [← h.len]; omega), ← h.len] at h2
      have hk0 : k - us.length = 0 := by
        rcases Nat.eq_zero_or_pos (k - us.length) with e | e
        · exact e
        · rw [List.getElem?_eq_none (by simp; omega)] at h1; cases h1
      rw [hk0] at h1 h2
      simp at h1 h2
      subst h1 h2
      exact own_nil _ _ _ _
  · intro k k' u u' h1 h2 hne b hb hb'
    by_cases hk : k < us.length
    · by_cases hk' : k' < us.length
      · rw [List.getElem?_append_left hk] at h1
        rw [List.getElem?_append_left hk'] at h2
        exact h.apart k k' u u' h1 h2 hne b hb hb'
      · rw [List.getElem?_append_right (by omega)] at h2
        have : u' = .slice none 0 0 := by
          have := List.mem_of_getElem? h2
          simpa using this
        subst this
        cases hb'
    · rw [List.getElem?_append_right (by omega)] at h1
      have : u = .slice none 0 0 := by
        have := List.mem_of_getElem? h1
        simpa using this
      subst this
      cases hb
  · intro k u h1 b hb hb'
    by_cases hk : k < us.length
    · rw [List.getElem?_append_left hk] at h1
      rcases hat with e | e
      · exact h.off k u h1 b hb (e.symm.trans hb')
      · rw [e] at hb'
        have e2 : w.heap.size = b := by simpa using hb'
        have hku : k < rows.length := by rw [← h.len]; exact hk
        have := (h.row k u rows[k] h1 (List.getElem?_eq_getElem hku)).lt b hb
        omega
    · rw [List.getElem?_append_right (by omega)] at h1
      have : u = .slice none 0 0 := by
        have := List.mem_of_getElem? h1
        simpa using this
      subst this
      cases hb
theorem OwnLL.keepOut {g cap k : Nat} {u : Value} (h : OwnLL w base (.slice (some ⟨g, 0, none⟩) rows.length cap) us rows) (hu : us[k]? = some u) (hg : w.grownBy w' u.ownBlock) :
    w'.cell? ⟨g, k, none⟩ = some u ∧ w'.frozen? ⟨g, k, none⟩ = false := by
  have hku : k < us.length := (List.getElem?_eq_some_iff.1 hu).1
  have hout : w'.ownsRow base 32 1 (.slice (some ⟨g, 0, none⟩) rows.length cap) us.length us := by
    refine h.out.kept hg (.inr fun e => ?_)
    cases hub : u.ownBlock with
    | none => rw [hub] at e; cases e
    | some b => exact h.off k u hu b hub (e.trans hub)
  rw [h.len] at hout
  exact ⟨(hout.cellAt k (by rw [← h.len]; omega)).trans hu, hout.frozenAt k⟩
/-- Row k grows: its new slice u' is stored in the outer one's cell. -/
theorem OwnLL.put {g cap k : Nat} {u u' : Value} {r r' : List Int} (h : OwnLL w base (.slice (some ⟨g, 0, none⟩) rows.length cap) us rows) (hu : us[k]? = some u) (hr : rows[k]? = some r)
    (hown : w'.ownsRow base 3 1 u' r'.length (ints r')) (hg : w.grownBy w' u.ownBlock) (hat : u'.ownBlock = u.ownBlock ∨ u'.ownBlock = some w.heap.size) :
    OwnLL (w'.setCell ⟨g, k, none⟩ u') base (.slice (some ⟨g, 0, none⟩) rows.length cap) (us.set k u') (rows.set k r') := by
  have hkr : k < rows.length := (List.getElem?_eq_some_iff.1 hr).1
  have hku : k < us.length := by rw [h.len]; exact hkr
  have hgsz : g < w.heap.size := (h.out.lt g rfl).2
  have hu'g : ∀ b, u'.ownBlock = some b → b ≠ g := by
    intro b hb e
    subst e
    rcases hat with e | e
    · exact h.off k u hu b (e.symm.trans hb) rfl
    · rw [e] at hb
      have : w.heap.size = b := by simpa using hb
      omega
  have hout : w'.ownsRow base 32 1 (.slice (some ⟨g, 0, none⟩) rows.length cap) us.length us := by
    refine h.out.kept hg (.inr fun e => ?_)
    cases hub : u.ownBlock with
    | none => rw [hub] at e; cases e
    | some b => exact h.off k u hu b hub (e.trans hub)
  have hst := World.ownsRow.stored (by rw [h.len] at hout; exact hout) k u'
  refine ⟨by rw [List.length_set, h.len]; exact hst.1, by simp [h.len], ?_, ?_, ?_⟩
  · intro j x y h1 h2
    by_cases hj : j = k
    · subst hj
      rw [List.getElem?_set_self hku] at h1
      rw [List.getElem?_set_self hkr] at h2
      obtain rfl := Option.some.inj h1
      obtain rfl := Option.some.inj h2
      exact hown.kept hst.2 (by
        cases hb : u'.ownBlock with
        | none => exact .inl rfl
        | some b => exact .inr (fun e => hu'g b hb (by simpa using e)))
    · rw [List.getElem?_set_ne (by omega)] at h1 h2
      have h3 := h.row j x y h1 h2
      have h4 : w'.ownsRow base 3 1 x y.length (ints y) := by
        refine h3.kept hg ?_
        cases hb : x.ownBlock with
        | none => exact .inl rfl
        | some b => exact .inr (fun e => h.apart j k x u h1 hu hj b hb e.symm)
      exact h4.kept hst.2 (by
        cases hb : x.ownBlock with
        | none => exact .inl rfl
        | some b => exact .inr (fun e => h.off j x h1 b hb (by simpa [Value.ownBlock] using e.symm)))
  · intro j j' x x' h1 h2 hne b hb hb'
    have hnew : ∀ (i : Nat) (y : Value), us[i]? = some y → i ≠ k → y.ownBlock = some b → u'.ownBlock = some b → False := by
      intro i y hi hik hy hub
      rcases hat with e | e
      · exact h.apart i k y u hi hu hik b hy (e.symm.trans hub)
      · rw [e] at hub
        have e2 : w.heap.size = b := by simpa using hub
        have hir : i < rows.length := by rw [← h.len]; exact (List.getElem?_eq_some_iff.1 hi).1
        have := (h.row i y rows[i] hi (List.getElem?_eq_getElem hir)).lt b hy
        omega
    by_cases hj : j = k
    · subst hj
      rw [List.getElem?_set_self hku] at h1
      obtain rfl := Option.some.inj h1
      rw [List.getElem?_set_ne (by omega)] at h2
      exact hnew j' x' h2 (Ne.symm hne) hb' hb
    · rw [List.getElem?_set_ne (by omega)] at h1
      by_cases hj' : j' = k
      · subst hj'
        rw [List.getElem?_set_self hku] at h2
        obtain rfl := Option.some.inj h2
        exact hnew j x h1 hj hb hb'
      · rw [List.getElem?_set_ne (by omega)] at h2
        exact h.apart j j' x x' h1 h2 hne b hb hb'
  · intro j x h1 b hb hb'
    by_cases hj : j = k
    · subst hj
      rw [List.getElem?_set_self hku] at h1
      obtain rfl := Option.some.inj h1
      exact hu'g b hb (by simpa [Value.ownBlock] using hb'.symm)
    · rw [List.getElem?_set_ne (by omega)] at h1
      exact h.off j x h1 b hb hb'
end
theorem infoInts : (Try.prog.info? 32).map (fun i => (i.zero, i.size, i.bytes)) = some (some (.slice none 0 0), 1, 24) := by kernel_rfl
end Go.Proofs.Ytefdblaolmckmaa
