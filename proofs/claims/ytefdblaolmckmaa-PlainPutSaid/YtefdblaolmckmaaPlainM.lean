/- The walks of what becomes of a row: the closures of plain.Kill, Put and Drop. -/
import Derived.Test.YtefdblaolmckmaaPlainL
import Derived.Deep.QuietTactic
import Derived.BigQuiet
namespace Go.Proofs.Ytefdblaolmckmaa
open Go.RowKit
open Brood
set_option linter.unusedVariables false
set_option linter.unusedSimpArgs false

def putF (part n : Int) (r : BRow) : BRow × Int :=
  if isPart part && isVal n then (⟨r.idx, r.gen, withS r.has part, r.vals.set part.toNat n, by rw [List.length_set]; exact r.h8⟩, 0) else (r, 3)
def dropF (part : Int) (r : BRow) : BRow × Int :=
  if hasB r.has part then (⟨r.idx, r.gen, withoutS r.has part, r.vals.set part.toNat 0, by rw [List.length_set]; exact r.h8⟩, 0) else (r, 5)
def keepF (r : BRow) : BRow × Int := (r, 0)
/-- In this array a row lies at o. -/
def RowIn (cur : Array Value) (o : Nat) (r : BRow) : Prop := ∀ j u, (rowCells r)[j]? = some u → cur[o + j]? = some u
theorem RowIn.has {cur : Array Value} {o : Nat} {r : BRow} (h : RowIn cur o r) : cur[o + 2]? = some (.int .i64 r.has) := h 2 _ rfl
theorem RowIn.val {cur : Array Value} {o : Nat} {r : BRow} (h : RowIn cur o r) {k : Nat} (hk : k < 8) : cur[o + 3 + k]? = some (.int .i64 (r.vals[k]'(by rw [r.h8]; exact hk))) := by
  have := h (3 + k) (.int .i64 (r.vals[k]'(by rw [r.h8]; exact hk))) (by
    unfold rowCells
    rw [List.getElem?_append_right (by simp), show 3 + k - [Value.int IntKind.i64 r.idx, Value.int IntKind.i64 r.gen, Value.int IntKind.i64 r.has].length = k by simp]
    exact ints_get (by rw [r.h8]; exact hk))
  rwa [← Nat.add_assoc] at this
theorem patch_row {cur : Array Value} {o : Nat} {r : BRow} (h : RowIn cur o r) (s z : Int) {q : Nat} (hq : q < 8) (h8 : (r.vals.set q z).length = 8) :
    (cur.setIfInBounds (o + 2) (.int .i64 s)).setIfInBounds (o + 3 + q) (.int .i64 z) = patch cur o (rowCells ⟨r.idx, r.gen, s, r.vals.set q z, h8⟩) := by
  have hsz : o + 10 < cur.size := by
    obtain ⟨idx, gen, has, vals, e8⟩ := r
    obtain ⟨a0, a1, a2, a3, a4, a5, a6, a7, rfl⟩ := vals_eight e8
    have := h 10 _ rfl
    exact (Array.getElem?_eq_some_iff.1 this).1
  apply Array.ext_getElem?
  intro j
  by_cases hj : j < o ∨ o + 11 ≤ j
  · rw [patch_out _ _ _ _ (by rw [rowCells_length]; exact hj), Array.getElem?_setIfInBounds_ne (by omega), Array.getElem?_setIfInBounds_ne (by omega)]
  · obtain ⟨d, rfl⟩ : ∃ d, j = o + d := ⟨j - o, by omega⟩
    have hd : d < 11 := by omega
    rw [patch_in _ _ _ _ (by rw [rowCells_length]; exact hd) (by rw [rowCells_length]; omega)]
    have hrd : (rowCells r)[d]? = cur[o + d]? := by
      obtain ⟨u, hu⟩ : ∃ u, (rowCells r)[d]? = some u := ⟨_, List.getElem?_eq_getElem (by rw [rowCells_length]; exact hd)⟩
      rw [hu, h d u hu]
    by_cases h2 : d = 3 + q
    · subst h2
      rw [← Nat.add_assoc, Array.getElem?_setIfInBounds_self_of_lt (by simp; omega)]
      unfold rowCells
      rw [List.getElem?_append_right (by simp), show 3 + q - ([Value.int IntKind.i64 r.idx, Value.int IntKind.i64 r.gen, Value.int IntKind.i64 s] : List Value).length = q by simp]
      simp [ints, r.h8, hq]
    · rw [Array.getElem?_setIfInBounds_ne (by omega)]
      by_cases h3 : d = 2
      · subst h3
        rw [Array.getElem?_setIfInBounds_self_of_lt (by omega)]
        rfl
      · rw [Array.getElem?_setIfInBounds_ne (by omega), ← hrd]
        unfold rowCells
        by_cases h4 : d < 3
        · rw [List.getElem?_append_left (by simpa using h4), List.getElem?_append_left (by simpa using h4)]
          match d, h4 with
          | 0, _ => rfl
          | 1, _ => rfl
          | 2, _ => exact absurd rfl h3
        · rw [List.getElem?_append_right (by simp; omega), List.getElem?_append_right (by simp; omega)]
          simp only [ints, List.getElem?_map, List.length_cons, List.length_nil]
          rw [List.getElem?_set_ne (by omega)]
theorem patch_same {cur : Array Value} {o : Nat} {r : BRow} (h : RowIn cur o r) : patch cur o (rowCells r) = cur := by
  apply Array.ext_getElem?
  intro j
  by_cases hj : j < o ∨ o + 11 ≤ j
  · rw [patch_out _ _ _ _ (by rw [rowCells_length]; exact hj)]
  · have hsz : o + 10 < cur.size := by
      obtain ⟨idx, gen, has, vals, e8⟩ := r
      obtain ⟨a0, a1, a2, a3, a4, a5, a6, a7, rfl⟩ := vals_eight e8
      have := h 10 _ rfl
      exact (Array.getElem?_eq_some_iff.1 this).1
    obtain ⟨d, rfl⟩ : ∃ d, j = o + d := ⟨j - o, by omega⟩
    rw [patch_in _ _ _ _ (by rw [rowCells_length]; omega) (by rw [rowCells_length]; omega)]
    obtain ⟨u, hu⟩ : ∃ u, (rowCells r)[d]? = some u := ⟨_, List.getElem?_eq_getElem (by rw [rowCells_length]; omega)⟩
    rw [hu, h d u hu]
theorem grown_refl (w : World) (row : Option Nat) : w.grownBy w row := ⟨rfl, rfl, rfl, Nat.le_refl _, fun _ _ _ => rfl⟩

set_option maxRecDepth 20000 in
set_option maxHeartbeats 1600000 in
theorem keepF_any (p : Value) (w : World) :
    Calls Try.prog 73 #[p] w fun e w' => e = .returned (.int .i64 0) ∧ w = w' := by
  go_enter Try.func73, Try.ntmps73
  go_wp2_with fail
  go_ret
  exact ⟨rfl, rfl⟩

set_option maxRecDepth 20000 in
set_option maxHeartbeats 6400000 in
theorem putF_any (r : BRow) (hs : isSet r.has = true) (part n : Int) (g o : Nat) (b1 b2 : Nat) (w : World) (h1 : Blk w b1 3 #[.int .i64 part]) (h2 : Blk w b2 3 #[.int .i64 n]) (n1 : g ≠ b1) (n2 : g ≠ b2) (cur : Array Value) (HC : Blk w g 82 cur) (hr : RowIn cur o r) :
    Calls Try.prog 78 #[.pointer (some ⟨g, o, none⟩), .pointer (some ⟨b1, 0, none⟩), .pointer (some ⟨b2, 0, none⟩)] w fun e w' => e = .returned (.int .i64 (putF part n r).2) ∧ w.grownBy w' (some g) ∧ Blk w' g 82 (patch cur o (rowCells (putF part n r).1)) := by
  have c1 := h1.cell 0; have c2 := h2.cell 0
  simp at c1 c2
  have ch := hr.has
  have hc2 : w.cell? ⟨g, o + 2, none⟩ = some (.int .i64 r.has) := (HC.cell (o + 2)).trans ch
  have m1 := n1.symm; have m2 := n2.symm
  by_cases hpv : isPart part = true ∧ isVal n = true
  · obtain ⟨hp, hv⟩ := hpv
    have hF : Hid (putF part n r = (⟨r.idx, r.gen, withS r.has part, r.vals.set part.toNat n, by rw [List.length_set]; exact r.h8⟩, 0)) := Lib.hid (by simp [putF, hp, hv])
    obtain ⟨p0, p8⟩ := isPart_iff.1 hp
    obtain ⟨q, rfl⟩ := nat_of p0
    have hq8 : q < 8 := by omega
    have cv := hr.val hq8
    have hpr := Lib.hid (patch_row hr (withS r.has q) n hq8 (by rw [List.length_set]; exact r.h8))
    have hcp := part_any q w; have hcn := value_any n w
    rw [hp] at hcp; rw [hv] at hcn
    have hcph := Lib.hid hcp; have hcnh := Lib.hid hcn
    have hwi := fun W => with_any r.has q hs W
    have hwih := Lib.hid hwi
    clear hcp hcn hwi hr hs hp hv
    obtain ⟨ridx, rgen, has, rvals, rh8⟩ := r
    simp only at *
    generalize rvals[q]'(by rw [rh8]; omega) = z at cv
    generalize withS has q = hs' at *
    go_enter Try.func78, Try.ntmps78
    go_wp2_with fail
    refine hcph.out.mono ?_
    rintro e w1 ⟨rfl, rfl⟩
    go_wp2_with fail
    refine hcnh.out.mono ?_
    rintro e w1 ⟨rfl, rfl⟩
    go_wp2_with fail
    refine wp_region_known mixed (by kernel_rfl) (by kernel_rfl) (tab [.pointer (some ⟨g, o, none⟩), .pointer (some ⟨g, o, none⟩), .int .i64 (q : Int), .pointer (some ⟨g, o, none⟩), .pointer (some ⟨g, o, none⟩), .pointer (some ⟨g, o + 2, none⟩), .int .i64 has, .int .i64 (q : Int), .int .i64 hs', .int .i64 n, .pointer (some ⟨g, o, none⟩), .pointer (some ⟨g, o + 2, none⟩), undef, .pointer (some ⟨g, o, none⟩), .pointer (some ⟨g, o + 3, none⟩), .pointer (some ⟨g, o + 3 + q, none⟩), undef]) (fun l w' => w.grownBy w' (some g) ∧ Blk w' g 82 (if l 16 then (cur.setIfInBounds (o + 2) (.int .i64 hs')).setIfInBounds (o + 3 + q) (.int .i64 n) else if l 12 then cur.setIfInBounds (o + 2) (.int .i64 hs') else cur) ∧ (l 12 = true → l 6 = true) ∧ (l 16 = true → l 12 = true)) ⟨⟨rfl, rfl, rfl, Nat.le_refl _, fun _ _ _ => rfl⟩, HC.drew, by simp, by simp⟩ ?_ ?_
    rotate_left
    · rintro i op ho l act w' ⟨hG, hC, hO1, hO2⟩ hli hd hv hwas K hK
      have hi : i < 17 := lt_of_some ho
      have e0 := hwas 0 rfl
      have e1 := hwas 1 rfl
      have e2 := hwas 2 rfl
      simp at e0 e1 e2
      have hB1 := h1.grown hG (by simpa using m1)
      have hB2 := h2.grown hG (by simpa using m2)
      have d1 := hB1.cell 0; have d2 := hB2.cell 0
      simp at d1 d2
      have hz := hC.frozen (o + 2); have hz2 := hC.frozen (o + 3 + q)
      match i, hi, ho, hli, hK with
      | 0, _, ho, hli, hK =>
        obtain rfl := Option.some.inj ho
        clear hv hwas
        go_simp
        exact hK _ ⟨hG, by simpa [upd] using hC, by simp [upd]; intro h; simp [hO1 h], by simpa [upd] using hO2⟩
      | 1, _, ho, hli, hK =>
        obtain rfl := Option.some.inj ho
        clear hv hwas
        go_simp
        exact hK _ ⟨hG, by simpa [upd] using hC, by simp [upd]; intro h; simp [hO1 h], by simpa [upd] using hO2⟩
      | 2, _, ho, hli, hK =>
        obtain rfl := Option.some.inj ho
        clear hv hwas
        go_simp
        exact hK _ ⟨hG, by simpa [upd] using hC, by simp [upd]; intro h; simp [hO1 h], by simpa [upd] using hO2⟩
      | 3, _, ho, hli, hK =>
        obtain rfl := Option.some.inj ho
        clear hv hwas
        go_simp
        exact hK _ ⟨hG, by simpa [upd] using hC, by simp [upd]; intro h; simp [hO1 h], by simpa [upd] using hO2⟩
      | 4, _, ho, hli, hK =>
        obtain rfl := Option.some.inj ho
        have x16 : act.tmps[16]?.getD undef = .pointer (some ⟨g, o, none⟩) := hv 3 16 rfl (by simp [Region.binds] at hd; simp [hd])
        clear hv hwas
        go_simp
        exact hK _ ⟨hG, by simpa [upd] using hC, by simp [upd]; intro h; simp [hO1 h], by simpa [upd] using hO2⟩
      | 5, _, ho, hli, hK =>
        obtain rfl := Option.some.inj ho
        have x17 : act.tmps[17]?.getD undef = .pointer (some ⟨g, o, none⟩) := hv 4 17 rfl (by simp [Region.binds] at hd; simp [hd])
        clear hv hwas
        go_simp
        exact hK _ ⟨hG, by simpa [upd] using hC, by simp [upd]; intro h; simp [hO1 h], by simpa [upd] using hO2⟩
      | 6, _, ho, hli, hK =>
        obtain rfl := Option.some.inj ho
        have x18 : act.tmps[18]?.getD undef = .pointer (some ⟨g, o + 2, none⟩) := hv 5 18 rfl (by simp [Region.binds] at hd; simp [hd])
        have l1 : l 12 = false := by
          cases h : l 12 with
          | false => rfl
          | true => exact absurd (hO1 h) (by simp [hli])
        have l2 : l 16 = false := by
          cases h : l 16 with
          | false => rfl
          | true => rw [hO2 h] at l1; cases l1
        have hC2 := hC
        simp only [l1, l2] at hC2
        have d3 := hC2.cell (o + 2)
        simp [ch] at d3
        clear hC2
        clear hv hwas
        go_simp
        exact hK _ ⟨hG, by simpa [upd] using hC, by simp [upd], by simpa [upd] using hO2⟩
      | 7, _, ho, hli, hK =>
        obtain rfl := Option.some.inj ho
        clear hv hwas
        go_simp
        exact hK _ ⟨hG, by simpa [upd] using hC, by simp [upd]; intro h; simp [hO1 h], by simpa [upd] using hO2⟩
      | 8, _, ho, hli, hK =>
        obtain rfl := Option.some.inj ho
        have x19 : act.tmps[19]?.getD undef = .int .i64 has := hv 6 19 rfl (by simp [Region.binds] at hd; simp [hd])
        have x20 : act.tmps[20]?.getD undef = .int .i64 (q : Int) := hv 7 20 rfl (by simp [Region.binds] at hd; simp [hd])
        have hwc := hwih.out w'
        clear hwih
        clear hv hwas
        go_simp
        exact hwc.mono (fun e w2 ⟨he, hw⟩ => by subst he hw; exact hK _ ⟨hG, by simpa [upd] using hC, by simp [upd]; intro h; simp [hO1 h], by simpa [upd] using hO2⟩)
      | 9, _, ho, hli, hK =>
        obtain rfl := Option.some.inj ho
        clear hv hwas
        go_simp
        exact hK _ ⟨hG, by simpa [upd] using hC, by simp [upd]; intro h; simp [hO1 h], by simpa [upd] using hO2⟩
      | 10, _, ho, hli, hK =>
        obtain rfl := Option.some.inj ho
        have x13 : act.tmps[13]?.getD undef = .pointer (some ⟨g, o, none⟩) := hv 0 13 rfl (by simp [Region.binds] at hd; simp [hd])
        clear hv hwas
        go_simp
        exact hK _ ⟨hG, by simpa [upd] using hC, by simp [upd]; intro h; simp [hO1 h], by simpa [upd] using hO2⟩
      | 11, _, ho, hli, hK =>
        obtain rfl := Option.some.inj ho
        have x23 : act.tmps[23]?.getD undef = .pointer (some ⟨g, o, none⟩) := hv 10 23 rfl (by simp [Region.binds] at hd; simp [hd])
        clear hv hwas
        go_simp
        exact hK _ ⟨hG, by simpa [upd] using hC, by simp [upd]; intro h; simp [hO1 h], by simpa [upd] using hO2⟩
      | 12, _, ho, hli, hK =>
        obtain rfl := Option.some.inj ho
        have x24 : act.tmps[24]?.getD undef = .pointer (some ⟨g, o + 2, none⟩) := hv 11 24 rfl (by simp [Region.binds] at hd; simp [hd])
        have x21 : act.tmps[21]?.getD undef = .int .i64 hs' := hv 8 21 rfl (by simp [Region.binds] at hd; simp [hd])
        have l2 : l 16 = false := by
          cases h : l 16 with
          | false => rfl
          | true => exact absurd (hO2 h) (by simp [hli])
        have hC2 := hC
        simp only [hli, l2] at hC2
        have d3 := hC2.cell (o + 2)
        simp [ch] at d3
        have l6 : l 6 = true := by simp [Region.binds] at hd; simp [hd]
        have hCn := hC2.set_ (o + 2) (.int .i64 hs')
        clear hC2 hC
        clear hv hwas
        go_simp
        exact hK _ ⟨⟨hG.os, hG.tape, hG.output, by simpa [World.setCell] using hG.size, fun k h1 h2 => (Below.heap_setCell _ _ _ _ (fun e => h2 (by rw [e]))).trans (hG.block k h1 h2)⟩, by simpa [upd, l2] using hCn, by simp [upd, l6], by simp [upd]⟩
      | 13, _, ho, hli, hK =>
        obtain rfl := Option.some.inj ho
        have x14 : act.tmps[14]?.getD undef = .pointer (some ⟨g, o, none⟩) := hv 1 14 rfl (by simp [Region.binds] at hd; simp [hd])
        clear hv hwas
        go_simp
        exact hK _ ⟨hG, by simpa [upd] using hC, by simp [upd]; intro h; simp [hO1 h], by simpa [upd] using hO2⟩
      | 14, _, ho, hli, hK =>
        obtain rfl := Option.some.inj ho
        have x25 : act.tmps[25]?.getD undef = .pointer (some ⟨g, o, none⟩) := hv 13 25 rfl (by simp [Region.binds] at hd; simp [hd])
        clear hv hwas
        go_simp
        exact hK _ ⟨hG, by simpa [upd] using hC, by simp [upd]; intro h; simp [hO1 h], by simpa [upd] using hO2⟩
      | 15, _, ho, hli, hK =>
        obtain rfl := Option.some.inj ho
        have x26 : act.tmps[26]?.getD undef = .pointer (some ⟨g, o + 3, none⟩) := hv 14 26 rfl (by simp [Region.binds] at hd; simp [hd])
        have x15 : act.tmps[15]?.getD undef = .int .i64 (q : Int) := hv 2 15 rfl (by simp [Region.binds] at hd; simp [hd])
        clear hv hwas
        go_simp
        exact hK _ ⟨hG, by simpa [upd] using hC, by simp [upd]; intro h; simp [hO1 h], by simpa [upd] using hO2⟩
      | 16, _, ho, hli, hK =>
        obtain rfl := Option.some.inj ho
        have x27 : act.tmps[27]?.getD undef = .pointer (some ⟨g, o + 3 + q, none⟩) := hv 15 27 rfl (by simp [Region.binds] at hd; simp [hd])
        have x22 : act.tmps[22]?.getD undef = .int .i64 n := hv 9 22 rfl (by simp [Region.binds] at hd; simp [hd])
        have l1 : l 12 = true := by simp [Region.binds] at hd; simp [hd]
        have hC2 := hC
        simp only [hli, l1] at hC2
        have d3 := hC2.cell (o + 3 + q)
        simp only [if_true, Bool.false_eq_true, if_false] at d3
        rw [Array.getElem?_setIfInBounds_ne (by omega), cv] at d3
        have hCn := hC2.set_ (o + 3 + q) (.int .i64 n)
        clear hC2 hC
        clear hv hwas
        go_simp
        exact hK _ ⟨⟨hG.os, hG.tape, hG.output, by simpa [World.setCell] using hG.size, fun k h1 h2 => (Below.heap_setCell _ _ _ _ (fun e => h2 (by rw [e]))).trans (hG.block k h1 h2)⟩, by simpa [upd] using hCn, by simpa [upd] using hO1, by simp [upd, l1]⟩
    rintro w' l ⟨hG, hC, hO1, hO2⟩ hl
    rw [putAll_tab _ _ _ _ [(some 13, .pointer (some ⟨g, o, none⟩)), (some 14, .pointer (some ⟨g, o, none⟩)), (some 15, .int .i64 (q : Int)), (some 16, .pointer (some ⟨g, o, none⟩)), (some 17, .pointer (some ⟨g, o, none⟩)), (some 18, .pointer (some ⟨g, o + 2, none⟩)), (some 19, .int .i64 has), (some 20, .int .i64 (q : Int)), (some 21, .int .i64 hs'), (some 22, .int .i64 n), (some 23, .pointer (some ⟨g, o, none⟩)), (some 24, .pointer (some ⟨g, o + 2, none⟩)), (none, undef), (some 25, .pointer (some ⟨g, o, none⟩)), (some 26, .pointer (some ⟨g, o + 3, none⟩)), (some 27, .pointer (some ⟨g, o + 3 + q, none⟩)), (none, undef)] rfl]
    simp only [putL_eq, putT, List.set_cons_succ, List.set_cons_zero]
    have hl2 : l 16 = true := hl 16 (by decide)
    rw [hl2, if_pos rfl] at hC
    go_wp2_with fail
    go_ret
    refine ⟨by rw [hF.out]; rfl, hG, ?_⟩
    rw [hF.out]
    show Blk w' g _ (patch cur o (rowCells ⟨ridx, rgen, hs', rvals.set q n, by rw [List.length_set]; exact rh8⟩))
    rw [← hpr.out]
    exact hC
  · have hF : Hid (putF part n r = (r, 3)) := Lib.hid (by unfold putF; rw [if_neg (by simpa using hpv)])
    have hsame := Lib.hid (patch_same hr)
    clear hr hs ch hc2
    have hcp := part_any part w; have hcn := value_any n w
    cases hp : isPart part with
    | false =>
      rw [hp] at hcp
      have hcph := Lib.hid hcp
      clear hcp hcn hpv
      go_enter Try.func78, Try.ntmps78
      go_wp2_with fail
      refine hcph.out.mono ?_
      rintro e w1 ⟨rfl, rfl⟩
      go_wp2_with fail
      go_ret
      exact ⟨by rw [hF.out]; rfl, grown_refl _ _, by rw [hF.out, hsame.out]; exact HC⟩
    | true =>
      have hv : isVal n = false := by cases h : isVal n; rfl; exact absurd ⟨hp, h⟩ hpv
      rw [hp] at hcp; rw [hv] at hcn
      have hcph := Lib.hid hcp; have hcnh := Lib.hid hcn
      clear hcp hcn hpv
      go_enter Try.func78, Try.ntmps78
      go_wp2_with fail
      refine hcph.out.mono ?_
      rintro e w1 ⟨rfl, rfl⟩
      go_wp2_with fail
      refine hcnh.out.mono ?_
      rintro e w1 ⟨rfl, rfl⟩
      go_wp2_with fail
      go_ret
      exact ⟨by rw [hF.out]; rfl, grown_refl _ _, by rw [hF.out, hsame.out]; exact HC⟩

set_option maxRecDepth 20000 in
set_option maxHeartbeats 6400000 in
theorem dropF_any (r : BRow) (hs : isSet r.has = true) (part : Int) (g o : Nat) (b1 : Nat) (w : World) (h1 : Blk w b1 3 #[.int .i64 part]) (n1 : g ≠ b1) (cur : Array Value) (HC : Blk w g 82 cur) (hr : RowIn cur o r) :
    Calls Try.prog 79 #[.pointer (some ⟨g, o, none⟩), .pointer (some ⟨b1, 0, none⟩)] w fun e w' => e = .returned (.int .i64 (dropF part r).2) ∧ w.grownBy w' (some g) ∧ Blk w' g 82 (patch cur o (rowCells (dropF part r).1)) := by
  have c1 := h1.cell 0
  simp at c1
  have ch := hr.has
  have hc2 : w.cell? ⟨g, o + 2, none⟩ = some (.int .i64 r.has) := (HC.cell (o + 2)).trans ch
  have m1 := n1.symm
  by_cases hp : hasB r.has part = true
  · have hF : Hid (dropF part r = (⟨r.idx, r.gen, withoutS r.has part, r.vals.set part.toNat 0, by rw [List.length_set]; exact r.h8⟩, 0)) := Lib.hid (by simp [dropF, hp])
    have hpp : isPart part = true := by simp only [hasB, Bool.and_eq_true] at hp; exact hp.1
    obtain ⟨p0, p8⟩ := isPart_iff.1 hpp
    obtain ⟨q, rfl⟩ := nat_of p0
    have hq8 : q < 8 := by omega
    have cv := hr.val hq8
    have hpr := Lib.hid (patch_row hr (withoutS r.has q) 0 hq8 (by rw [List.length_set]; exact r.h8))
    have hwi := fun W => without_any r.has q hs W
    have hwih := Lib.hid hwi
    have hha := fun W => has_any r.has q hs W
    rw [hp] at hha
    have hhah := Lib.hid hha
    clear hwi hha hr hs hp hpp
    obtain ⟨ridx, rgen, has, rvals, rh8⟩ := r
    simp only at *
    generalize rvals[q]'(by rw [rh8]; omega) = z at cv
    generalize withoutS has q = hs' at *
    go_enter Try.func79, Try.ntmps79
    go_upto_region 1 with fail
    go_quiet (exact quiet_same (hhah.out _))
    go_wp2_with fail
    refine wp_region_known mixed (by kernel_rfl) (by kernel_rfl) (tab [.pointer (some ⟨g, o, none⟩), .pointer (some ⟨g, o, none⟩), .int .i64 (q : Int), .pointer (some ⟨g, o, none⟩), .pointer (some ⟨g, o, none⟩), .pointer (some ⟨g, o + 2, none⟩), .int .i64 has, .int .i64 (q : Int), .int .i64 hs', .pointer (some ⟨g, o, none⟩), .pointer (some ⟨g, o + 2, none⟩), undef, .pointer (some ⟨g, o, none⟩), .pointer (some ⟨g, o + 3, none⟩), .pointer (some ⟨g, o + 3 + q, none⟩), undef]) (fun l w' => w.grownBy w' (some g) ∧ Blk w' g 82 (if l 15 then (cur.setIfInBounds (o + 2) (.int .i64 hs')).setIfInBounds (o + 3 + q) (.int .i64 0) else if l 11 then cur.setIfInBounds (o + 2) (.int .i64 hs') else cur) ∧ (l 11 = true → l 6 = true) ∧ (l 15 = true → l 11 = true)) ⟨⟨rfl, rfl, rfl, Nat.le_refl _, fun _ _ _ => rfl⟩, HC.drew, by simp, by simp⟩ ?_ ?_
    rotate_left
    · rintro i op ho l act w' ⟨hG, hC, hO1, hO2⟩ hli hd hv hwas K hK
      have hi : i < 16 := lt_of_some ho
      have e0 := hwas 0 rfl
      have e1 := hwas 1 rfl
      simp at e0 e1
      have hB1 := h1.grown hG (by simpa using m1)
      have d1 := hB1.cell 0
      simp at d1
      have hz := hC.frozen (o + 2); have hz2 := hC.frozen (o + 3 + q)
      match i, hi, ho, hli, hK with
      | 0, _, ho, hli, hK =>
        obtain rfl := Option.some.inj ho
        clear hv hwas
        go_simp
        exact hK _ ⟨hG, by simpa [upd] using hC, by simp [upd]; intro h; simp [hO1 h], by simpa [upd] using hO2⟩
      | 1, _, ho, hli, hK =>
        obtain rfl := Option.some.inj ho
        clear hv hwas
        go_simp
        exact hK _ ⟨hG, by simpa [upd] using hC, by simp [upd]; intro h; simp [hO1 h], by simpa [upd] using hO2⟩
      | 2, _, ho, hli, hK =>
        obtain rfl := Option.some.inj ho
        clear hv hwas
        go_simp
        exact hK _ ⟨hG, by simpa [upd] using hC, by simp [upd]; intro h; simp [hO1 h], by simpa [upd] using hO2⟩
      | 3, _, ho, hli, hK =>
        obtain rfl := Option.some.inj ho
        clear hv hwas
        go_simp
        exact hK _ ⟨hG, by simpa [upd] using hC, by simp [upd]; intro h; simp [hO1 h], by simpa [upd] using hO2⟩
      | 4, _, ho, hli, hK =>
        obtain rfl := Option.some.inj ho
        have x14 : act.tmps[14]?.getD undef = .pointer (some ⟨g, o, none⟩) := hv 3 14 rfl (by simp [Region.binds] at hd; simp [hd])
        clear hv hwas
        go_simp
        exact hK _ ⟨hG, by simpa [upd] using hC, by simp [upd]; intro h; simp [hO1 h], by simpa [upd] using hO2⟩
      | 5, _, ho, hli, hK =>
        obtain rfl := Option.some.inj ho
        have x15 : act.tmps[15]?.getD undef = .pointer (some ⟨g, o, none⟩) := hv 4 15 rfl (by simp [Region.binds] at hd; simp [hd])
        clear hv hwas
        go_simp
        exact hK _ ⟨hG, by simpa [upd] using hC, by simp [upd]; intro h; simp [hO1 h], by simpa [upd] using hO2⟩
      | 6, _, ho, hli, hK =>
        obtain rfl := Option.some.inj ho
        have x16 : act.tmps[16]?.getD undef = .pointer (some ⟨g, o + 2, none⟩) := hv 5 16 rfl (by simp [Region.binds] at hd; simp [hd])
        have l1 : l 11 = false := by
          cases h : l 11 with
          | false => rfl
          | true => exact absurd (hO1 h) (by simp [hli])
        have l2 : l 15 = false := by
          cases h : l 15 with
          | false => rfl
          | true => rw [hO2 h] at l1; cases l1
        have hC2 := hC
        simp only [l1, l2] at hC2
        have d3 := hC2.cell (o + 2)
        simp [ch] at d3
        clear hC2
        clear hv hwas
        go_simp
        exact hK _ ⟨hG, by simpa [upd] using hC, by simp [upd], by simpa [upd] using hO2⟩
      | 7, _, ho, hli, hK =>
        obtain rfl := Option.some.inj ho
        clear hv hwas
        go_simp
        exact hK _ ⟨hG, by simpa [upd] using hC, by simp [upd]; intro h; simp [hO1 h], by simpa [upd] using hO2⟩
      | 8, _, ho, hli, hK =>
        obtain rfl := Option.some.inj ho
        have x17 : act.tmps[17]?.getD undef = .int .i64 has := hv 6 17 rfl (by simp [Region.binds] at hd; simp [hd])
        have x18 : act.tmps[18]?.getD undef = .int .i64 (q : Int) := hv 7 18 rfl (by simp [Region.binds] at hd; simp [hd])
        have hwc := hwih.out w'
        clear hwih
        clear hv hwas
        go_simp
        exact hwc.mono (fun e w2 ⟨he, hw⟩ => by subst he hw; exact hK _ ⟨hG, by simpa [upd] using hC, by simp [upd]; intro h; simp [hO1 h], by simpa [upd] using hO2⟩)
      | 9, _, ho, hli, hK =>
        obtain rfl := Option.some.inj ho
        have x11 : act.tmps[11]?.getD undef = .pointer (some ⟨g, o, none⟩) := hv 0 11 rfl (by simp [Region.binds] at hd; simp [hd])
        clear hv hwas
        go_simp
        exact hK _ ⟨hG, by simpa [upd] using hC, by simp [upd]; intro h; simp [hO1 h], by simpa [upd] using hO2⟩
      | 10, _, ho, hli, hK =>
        obtain rfl := Option.some.inj ho
        have x20 : act.tmps[20]?.getD undef = .pointer (some ⟨g, o, none⟩) := hv 9 20 rfl (by simp [Region.binds] at hd; simp [hd])
        clear hv hwas
        go_simp
        exact hK _ ⟨hG, by simpa [upd] using hC, by simp [upd]; intro h; simp [hO1 h], by simpa [upd] using hO2⟩
      | 11, _, ho, hli, hK =>
        obtain rfl := Option.some.inj ho
        have x21 : act.tmps[21]?.getD undef = .pointer (some ⟨g, o + 2, none⟩) := hv 10 21 rfl (by simp [Region.binds] at hd; simp [hd])
        have x19 : act.tmps[19]?.getD undef = .int .i64 hs' := hv 8 19 rfl (by simp [Region.binds] at hd; simp [hd])
        have l2 : l 15 = false := by
          cases h : l 15 with
          | false => rfl
          | true => exact absurd (hO2 h) (by simp [hli])
        have hC2 := hC
        simp only [hli, l2] at hC2
        have d3 := hC2.cell (o + 2)
        simp [ch] at d3
        have l6 : l 6 = true := by simp [Region.binds] at hd; simp [hd]
        have hCn := hC2.set_ (o + 2) (.int .i64 hs')
        clear hC2 hC
        clear hv hwas
        go_simp
        exact hK _ ⟨⟨hG.os, hG.tape, hG.output, by simpa [World.setCell] using hG.size, fun k h1 h2 => (Below.heap_setCell _ _ _ _ (fun e => h2 (by rw [e]))).trans (hG.block k h1 h2)⟩, by simpa [upd, l2] using hCn, by simp [upd, l6], by simp [upd]⟩
      | 12, _, ho, hli, hK =>
        obtain rfl := Option.some.inj ho
        have x12 : act.tmps[12]?.getD undef = .pointer (some ⟨g, o, none⟩) := hv 1 12 rfl (by simp [Region.binds] at hd; simp [hd])
        clear hv hwas
        go_simp
        exact hK _ ⟨hG, by simpa [upd] using hC, by simp [upd]; intro h; simp [hO1 h], by simpa [upd] using hO2⟩
      | 13, _, ho, hli, hK =>
        obtain rfl := Option.some.inj ho
        have x22 : act.tmps[22]?.getD undef = .pointer (some ⟨g, o, none⟩) := hv 12 22 rfl (by simp [Region.binds] at hd; simp [hd])
        clear hv hwas
        go_simp
        exact hK _ ⟨hG, by simpa [upd] using hC, by simp [upd]; intro h; simp [hO1 h], by simpa [upd] using hO2⟩
      | 14, _, ho, hli, hK =>
        obtain rfl := Option.some.inj ho
        have x23 : act.tmps[23]?.getD undef = .pointer (some ⟨g, o + 3, none⟩) := hv 13 23 rfl (by simp [Region.binds] at hd; simp [hd])
        have x13 : act.tmps[13]?.getD undef = .int .i64 (q : Int) := hv 2 13 rfl (by simp [Region.binds] at hd; simp [hd])
        clear hv hwas
        go_simp
        exact hK _ ⟨hG, by simpa [upd] using hC, by simp [upd]; intro h; simp [hO1 h], by simpa [upd] using hO2⟩
      | 15, _, ho, hli, hK =>
        obtain rfl := Option.some.inj ho
        have x24 : act.tmps[24]?.getD undef = .pointer (some ⟨g, o + 3 + q, none⟩) := hv 14 24 rfl (by simp [Region.binds] at hd; simp [hd])
        have l1 : l 11 = true := by simp [Region.binds] at hd; simp [hd]
        have hC2 := hC
        simp only [hli, l1] at hC2
        have d3 := hC2.cell (o + 3 + q)
        simp only [if_true, Bool.false_eq_true, if_false] at d3
        rw [Array.getElem?_setIfInBounds_ne (by omega), cv] at d3
        have hCn := hC2.set_ (o + 3 + q) (.int .i64 0)
        clear hC2 hC
        clear hv hwas
        go_simp
        exact hK _ ⟨⟨hG.os, hG.tape, hG.output, by simpa [World.setCell] using hG.size, fun k h1 h2 => (Below.heap_setCell _ _ _ _ (fun e => h2 (by rw [e]))).trans (hG.block k h1 h2)⟩, by simpa [upd] using hCn, by simpa [upd] using hO1, by simp [upd, l1]⟩
    rintro w' l ⟨hG, hC, hO1, hO2⟩ hl
    rw [putAll_tab _ _ _ _ [(some 11, .pointer (some ⟨g, o, none⟩)), (some 12, .pointer (some ⟨g, o, none⟩)), (some 13, .int .i64 (q : Int)), (some 14, .pointer (some ⟨g, o, none⟩)), (some 15, .pointer (some ⟨g, o, none⟩)), (some 16, .pointer (some ⟨g, o + 2, none⟩)), (some 17, .int .i64 has), (some 18, .int .i64 (q : Int)), (some 19, .int .i64 hs'), (some 20, .pointer (some ⟨g, o, none⟩)), (some 21, .pointer (some ⟨g, o + 2, none⟩)), (none, undef), (some 22, .pointer (some ⟨g, o, none⟩)), (some 23, .pointer (some ⟨g, o + 3, none⟩)), (some 24, .pointer (some ⟨g, o + 3 + q, none⟩)), (none, undef)] rfl]
    simp only [putL_eq, putT, List.set_cons_succ, List.set_cons_zero]
    have hl2 : l 15 = true := hl 15 (by decide)
    rw [hl2, if_pos rfl] at hC
    go_wp2_with fail
    go_ret
    refine ⟨by rw [hF.out]; rfl, hG, ?_⟩
    rw [hF.out]
    show Blk w' g _ (patch cur o (rowCells ⟨ridx, rgen, hs', rvals.set q 0, by rw [List.length_set]; exact rh8⟩))
    rw [← hpr.out]
    exact hC
  · have hp' : hasB r.has part = false := by simpa using hp
    have hF : Hid (dropF part r = (r, 5)) := Lib.hid (by simp [dropF, hp'])
    have hha := fun W => has_any r.has part hs W
    rw [hp'] at hha
    have hhah := Lib.hid hha
    have hsame := Lib.hid (patch_same hr)
    clear hha hr hs hp hp' ch
    generalize r.has = has at hc2 hhah
    go_enter Try.func79, Try.ntmps79
    go_upto_region 1 with fail
    go_quiet (exact quiet_same (hhah.out _))
    go_wp2_with fail
    go_ret
    exact ⟨by rw [hF.out]; rfl, ⟨rfl, rfl, rfl, Nat.le_refl _, fun _ _ _ => rfl⟩, by rw [hF.out, hsame.out]; exact HC⟩
end Go.Proofs.Ytefdblaolmckmaa
