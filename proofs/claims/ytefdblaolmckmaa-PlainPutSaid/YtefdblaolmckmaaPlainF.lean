/- The walk of plain.Own. -/
import Derived.Test.YtefdblaolmckmaaPlainE
import Derived.Test.YtefdblaolmckmaaVals2
import Derived.Test.YtefdblaolmckmaaOwn2
namespace Go.Proofs.Ytefdblaolmckmaa
open Go.RowKit
open Brood
set_option linter.unusedVariables false
set_option linter.unusedSimpArgs false

theorem own_lower2 {w : World} {base : Nat} {e : TypeId} {sz : Nat} {v : Value} {n : Nat} {xs : List Value} (h : w.ownsRow (base + 1 + 1) e sz v n xs) : w.ownsRow base e sz v n xs := by
  refine ⟨h.1, ?_⟩
  rcases h.2 with hn | ⟨g, cap, cur, rfl, hg, rest⟩
  · exact .inl hn
  · exact .inr ⟨g, cap, cur, rfl, by omega, rest⟩
/-- A world of the call's own: rows and gens in blocks from base on. -/
structure OwnW (w : World) (base : Nat) (vr vg : Value) (rows : List BRow) (gens : List Int) : Prop where
  rows_ : w.ownsRow base 82 11 vr rows.length (rows.flatMap rowCells)
  gens_ : w.ownsRow base 3 1 vg gens.length (ints gens)
def OwnI (w0 : World) (base b1 b2 : Nat) (Ar : Option Addr) (cr : Nat) (Ag : Option Addr) (cg : Nat) (rows : List BRow) (gens : List Int) (l : Nat → Bool) (vs : Nat → Value) (w' : World) : Prop :=
  Below base w0 w' ∧ Blk w' b1 66 #[.slice Ar rows.length cr, .slice Ag gens.length cg] ∧
    Blk w' b2 66 (if l 7 then #[vs 2, vs 5] else #[.slice none 0 0, .slice none 0 0]) ∧
    (l 0 = true → vs 0 = .pointer (some ⟨b1, 0, none⟩)) ∧ (l 1 = true → vs 1 = .slice Ar rows.length cr) ∧ (l 2 = true → w'.ownsRow (b2 + 1) 82 11 (vs 2) rows.length (rows.flatMap rowCells)) ∧
    (l 3 = true → vs 3 = .pointer (some ⟨b1, 1, none⟩)) ∧ (l 4 = true → vs 4 = .slice Ag gens.length cg) ∧ (l 5 = true → w'.ownsRow (b2 + 1) 3 1 (vs 5) gens.length (ints gens)) ∧ (l 6 = true → vs 6 = .agg #[vs 2, vs 5]) ∧
    (l 6 = true → l 2 = true ∧ l 5 = true) ∧ (l 7 = true → l 6 = true)

set_option maxRecDepth 20000 in
set_option maxHeartbeats 3200000 in
theorem own_any (rows : List BRow) (gens : List Int) (Ar : Option Addr) (cr : Nat) (Ag : Option Addr) (cg : Nat) (hlr : rows.length ≤ 1000000) (hlg : gens.length ≤ 1000000) (hnr : Ar = none → cr = 0 ∧ rows = []) (hng : Ag = none → cg = 0 ∧ gens = [])
    (w : World) (hr : RdR w w.heap.size Ar rows) (hg : RdG w w.heap.size Ag gens) :
    Calls Try.prog 67 #[.agg #[.slice Ar rows.length cr, .slice Ag gens.length cg]] w fun e w' => ∃ vr vg, e = .returned (.agg #[vr, vg]) ∧ OwnW w' w.heap.size vr vg rows gens ∧ Below w.heap.size w w' := by
  have HB := (Blk.new w 66 #[.slice Ar rows.length cr, .slice Ag gens.length cg]).alloc (.cells #[.slice none 0 0, .slice none 0 0] 66)
  have HQ := Blk.new (w.alloc (.cells #[.slice Ar rows.length cr, .slice Ag gens.length cg] 66)) 66 #[.slice none 0 0, .slice none 0 0]
  simp only [World.size_alloc] at HQ
  have hbel0 : Below w.heap.size w ((w.alloc (.cells #[.slice Ar rows.length cr, .slice Ag gens.length cg] 66)).alloc (.cells #[.slice none 0 0, .slice none 0 0] 66)) := ((Below.refl _ _).alloc (Nat.le_refl _) _).alloc (by simp) _
  go_enter Try.func67, Try.ntmps67
  go_upto_region 1 with fail
  refine wp_region_open mixed (by kernel_rfl) (by kernel_rfl) (OwnI w w.heap.size w.heap.size (w.heap.size + 1) Ar cr Ag cg rows gens) ?_ ?_ ?_
  · exact ⟨hbel0.drew, HB.drew, HQ.drew, fun h => (by cases h), fun h => (by cases h), fun h => (by cases h), fun h => (by cases h), fun h => (by cases h), fun h => (by cases h), fun h => (by cases h), fun h => (by cases h), fun h => (by cases h)⟩
  · rintro vs w' l ⟨hbel, hB, hQ, v0, v1, v2, v3, v4, v5, v6, w6, w7⟩ hl
    rw [if_pos (hl 7 (by decide))] at hQ
    have o2 := v2 (hl 2 (by decide)); have o5 := v5 (hl 5 (by decide))
    rw [putAll_tab _ _ _ _ [(some 3, vs 0), (some 4, vs 1), (some 5, vs 2), (some 6, vs 3), (some 7, vs 4), (some 8, vs 5), (some 9, vs 6), (none, vs 7)] rfl]
    simp only [putL_eq, putT, List.set_cons_succ, List.set_cons_zero]
    have q0 := hQ.cell 0; have q1 := hQ.cell 1
    simp at q0 q1
    go_wp2_with fail
    refine bodyPost_ret (v := .agg #[vs 2, vs 5]) (by simp [results, Try.results67, go_sem, q0, q1]) rfl ⟨_, _, rfl, ⟨own_lower2 o2, own_lower2 o5⟩, hbel⟩
  · rintro i o ho l vs act w' hF ⟨hbel, hB, hQ, v0, v1, v2, v3, v4, v5, v6, w6, w7⟩ hli hd K hK
    have e1 := hF.was (k := 1) rfl
    have e2 := hF.was (k := 2) rfl
    simp at e1 e2
    have b0 := hB.cell 0; have b1 := hB.cell 1
    have hblt := hB.lt
    simp at b0 b1
    have hi : i < 8 := lt_of_some ho
    match i, hi, ho with
    | 0, _, ho =>
      obtain rfl := Option.some.inj ho
      go_simp
      exact hK _ _ ⟨hbel, hB, by simpa [upd] using hQ, fun _ => by simp [upd], by simpa [upd] using v1, by simpa [upd] using v2, by simpa [upd] using v3, by simpa [upd] using v4, by simpa [upd] using v5, by simpa [upd] using v6, by simpa [upd] using w6, by simpa [upd] using w7⟩
    | 1, _, ho =>
      obtain rfl := Option.some.inj ho
      have x0 : act.tmps[3]?.getD undef = .pointer (some ⟨w.heap.size, 0, none⟩) := (hF.val (j := 0) (d := 3) rfl (by simp [Region.binds] at hd; simp [hd])).trans (v0 (by simp [Region.binds] at hd; simp [hd]))
      go_simp
      exact hK _ _ ⟨hbel, hB, by simpa [upd] using hQ, by simpa [upd] using v0, fun _ => by simp [upd], by simpa [upd] using v2, by simpa [upd] using v3, by simpa [upd] using v4, by simpa [upd] using v5, by simpa [upd] using v6, by simpa [upd] using w6, by simpa [upd] using w7⟩
    | 2, _, ho =>
      obtain rfl := Option.some.inj ho
      have n6 : l 6 = false := by
        cases h : l 6
        · rfl
        · have := w6 h; rw [hli] at this; simp at this
      have n7 : l 7 = false := by
        cases h : l 7
        · rfl
        · have := w7 h; rw [n6] at this; cases this
      rw [n7] at hQ
      have x0 : act.tmps[4]?.getD undef = .slice Ar rows.length cr := (hF.val (j := 1) (d := 4) rfl (by simp [Region.binds] at hd; simp [hd])).trans (v1 (by simp [Region.binds] at hd; simp [hd]))
      go_simp
      refine (cloneR_any rows Ar cr hlr hnr w' (Rd.more (Rd.under hr hbel (Nat.le_refl _)) hbel.size)).mono ?_
      rintro e w'' ⟨v, rfl, hown, hb⟩
      have hown2 := own_lower hown (show w.heap.size + 1 + 1 ≤ w'.heap.size from by have := hQ.lt; omega)
      exact hK _ _ ⟨hbel.trans (hb.mono (by have := hbel.size; omega)), hB.below hb hB.lt, by have h := hQ.below hb hQ.lt; simpa [upd, n7] using h, by simpa [upd] using v0, by simpa [upd] using v1, fun _ => by simpa [upd] using hown2, by simpa [upd] using v3, by simpa [upd] using v4, fun h => by have h2 := own_below (v5 (by simpa [upd] using h)) hb; simpa [upd] using h2, by simp [upd, n6], by simp [upd, n6], by simp [upd, n7]⟩
    | 3, _, ho =>
      obtain rfl := Option.some.inj ho
      go_simp
      exact hK _ _ ⟨hbel, hB, by simpa [upd] using hQ, by simpa [upd] using v0, by simpa [upd] using v1, by simpa [upd] using v2, fun _ => by simp [upd], by simpa [upd] using v4, by simpa [upd] using v5, by simpa [upd] using v6, by simpa [upd] using w6, by simpa [upd] using w7⟩
    | 4, _, ho =>
      obtain rfl := Option.some.inj ho
      have x0 : act.tmps[6]?.getD undef = .pointer (some ⟨w.heap.size, 1, none⟩) := (hF.val (j := 3) (d := 6) rfl (by simp [Region.binds] at hd; simp [hd])).trans (v3 (by simp [Region.binds] at hd; simp [hd]))
      go_simp
      exact hK _ _ ⟨hbel, hB, by simpa [upd] using hQ, by simpa [upd] using v0, by simpa [upd] using v1, by simpa [upd] using v2, by simpa [upd] using v3, fun _ => by simp [upd], by simpa [upd] using v5, by simpa [upd] using v6, by simpa [upd] using w6, by simpa [upd] using w7⟩
    | 5, _, ho =>
      obtain rfl := Option.some.inj ho
      have n6 : l 6 = false := by
        cases h : l 6
        · rfl
        · have := w6 h; rw [hli] at this; simp at this
      have n7 : l 7 = false := by
        cases h : l 7
        · rfl
        · have := w7 h; rw [n6] at this; cases this
      rw [n7] at hQ
      have x0 : act.tmps[7]?.getD undef = .slice Ag gens.length cg := (hF.val (j := 4) (d := 7) rfl (by simp [Region.binds] at hd; simp [hd])).trans (v4 (by simp [Region.binds] at hd; simp [hd]))
      go_simp
      refine (cloneG_any gens Ag cg hlg hng w' (Rd.more (Rd.under hg hbel (Nat.le_refl _)) hbel.size)).mono ?_
      rintro e w'' ⟨v, rfl, hown, hb⟩
      have hown2 := own_lower hown (show w.heap.size + 1 + 1 ≤ w'.heap.size from by have := hQ.lt; omega)
      exact hK _ _ ⟨hbel.trans (hb.mono (by have := hbel.size; omega)), hB.below hb hB.lt, by have h := hQ.below hb hQ.lt; simpa [upd, n7] using h, by simpa [upd] using v0, by simpa [upd] using v1, fun h => by have h2 := own_below (v2 (by simpa [upd] using h)) hb; simpa [upd] using h2, by simpa [upd] using v3, by simpa [upd] using v4, fun _ => by simpa [upd] using hown2, by simp [upd, n6], by simp [upd, n6], by simp [upd, n7]⟩
    | 6, _, ho =>
      obtain rfl := Option.some.inj ho
      have l2 : l 2 = true := (by simp [Region.binds] at hd; simp [hd])
      have l5 : l 5 = true := (by simp [Region.binds] at hd; simp [hd])
      have n7 : l 7 = false := by
        cases h : l 7
        · rfl
        · have := w7 h; rw [hli] at this; cases this
      obtain ⟨A2, c2, hs2, _, _⟩ := own_shape (v2 l2)
      obtain ⟨A5, c5, hs5, _, _⟩ := own_shape (v5 l5)
      have x0 : act.tmps[5]?.getD undef = .slice A2 rows.length c2 := (hF.val (j := 2) (d := 5) rfl l2).trans hs2
      have x1 : act.tmps[8]?.getD undef = .slice A5 gens.length c5 := (hF.val (j := 5) (d := 8) rfl l5).trans hs5
      go_simp
      exact hK _ _ ⟨hbel, hB, by simpa [upd, n7] using hQ, by simpa [upd] using v0, by simpa [upd] using v1, by simpa [upd] using v2, by simpa [upd] using v3, by simpa [upd] using v4, by simpa [upd] using v5, fun _ => by simp [upd, hs2, hs5], fun _ => by simp [upd, l2, l5], by simp [upd, n7]⟩
    | 7, _, ho =>
      obtain rfl := Option.some.inj ho
      have l6 : l 6 = true := (by simp [Region.binds] at hd; simp [hd])
      have l2 := (w6 l6).1; have l5 := (w6 l6).2
      obtain ⟨A2, c2, hs2, _, _⟩ := own_shape (v2 l2)
      obtain ⟨A5, c5, hs5, _, _⟩ := own_shape (v5 l5)
      have x0 : act.tmps[9]?.getD undef = .agg #[.slice A2 rows.length c2, .slice A5 gens.length c5] := by rw [(hF.val (j := 6) (d := 9) rfl l6), v6 l6, hs2, hs5]
      rw [hli, if_neg (by decide)] at hQ
      have q0 := hQ.cell 0; have q1 := hQ.cell 1; have y0 := hQ.frozen 0; have y1 := hQ.frozen 1
      have hqlt := hQ.lt
      simp at q0 q1
      go_simp
      exact hK undef _ ⟨(hbel.setCell (by simp) _).setCell (by simp) _, (hB.far (by simp) _).far (by simp) _, by have h := (hQ.set_ 0 (.slice A2 rows.length c2)).set_ 1 (.slice A5 gens.length c5); simpa [upd, hs2, hs5] using h, by simpa [upd] using v0, by simpa [upd] using v1, fun _ => by have h2 := own_far (own_far (v2 l2) (p := ⟨w.heap.size + 1, 0, none⟩) (by simp) (.slice A2 rows.length c2)) (p := ⟨w.heap.size + 1, 1, none⟩) (by simp) (.slice A5 gens.length c5); simpa [upd] using h2, by simpa [upd] using v3, by simpa [upd] using v4, fun _ => by have h2 := own_far (own_far (v5 l5) (p := ⟨w.heap.size + 1, 0, none⟩) (by simp) (.slice A2 rows.length c2)) (p := ⟨w.heap.size + 1, 1, none⟩) (by simp) (.slice A5 gens.length c5); simpa [upd] using h2, by simpa [upd] using v6, by simpa [upd] using w6, fun _ => by simp [upd, l6]⟩
end Go.Proofs.Ytefdblaolmckmaa
