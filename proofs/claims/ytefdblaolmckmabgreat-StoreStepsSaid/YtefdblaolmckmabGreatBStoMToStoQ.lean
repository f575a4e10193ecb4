/- The walks of what becomes of a row: the closures of store.Kill, Put and Drop. The walk of plain.change. The walks of slices.IndexFunc and DeleteFunc at rows, whatever the predicate. The walk of slices.DeleteFunc at rows. The walks of plain.Put, Drop and Kill. The walks of store.Kill, Put and Drop. -/
import Derived.Test.YtefdblaolmckmabGreatBStoFToPlainM
import Derived.Test.YtefdblaolmckmabGreatBSpecOToSpecR
import Derived.Test.YtefdblaolmckmabGreatBPosKToInsB
import Derived.Test.YtefdblaolmckmabGreatBStoBToKg
import Derived.Test.YtefdblaolmckmabGreatBPlainAToHp
import Derived.Test.YtefdblaolmckmabGreatBSpecVToStoA
import Derived.Test.YtefdblaolmckmabGreatBSortTRToStoO
import Derived.Test.YtefdblaolmckmabGreatBRowToInv
namespace Go.Proofs.YtefdblaolmckmabGreat
open Go.RowKit
open Brood
set_option linter.unusedVariables false
set_option linter.unusedSimpArgs false
set_option maxHeartbeats 1600000 in
theorem skeepF_any (p : Value) (w : World) :
    Calls Tryz.prog 53 #[p] w fun e w' => e = .returned (.tuple #[.bool false, .int .i64 0]) ∧ w = w' := by
  go_enter Tryz.func53, Tryz.ntmps53
  go_wp2_with fail
  refine bodyPost_ret (v := .tuple #[.bool false, .int .i64 0]) (by simp [results, Tryz.results53, go_sem]) rfl ⟨rfl, rfl⟩
set_option maxRecDepth 20000 in
set_option maxHeartbeats 6400000 in
theorem sputF_any (r : BRow) (hs : isSet r.has = true) (part n : Int) (g o : Nat) (b1 b2 : Nat) (w : World) (h1 : Blk w b1 3 #[.int .i64 part]) (h2 : Blk w b2 3 #[.int .i64 n]) (n1 : g ≠ b1) (n2 : g ≠ b2) (cur : Array Value) (HC : Blk w g 114 cur) (hr : RowIn cur o r) :
    Calls Tryz.prog 58 #[.pointer (some ⟨g, o, none⟩), .pointer (some ⟨b1, 0, none⟩), .pointer (some ⟨b2, 0, none⟩)] w fun e w' => e = .returned (.tuple #[.bool true, .int .i64 (putF part n r).2]) ∧ w.grownBy w' (some g) ∧ Blk w' g 114 (patch cur o (rowCells (putF part n r).1)) := by
  have c1 := h1.cell 0; have c2 := h2.cell 0
  simp at c1 c2
  have ch := hr.has
  have hc2 : w.cell? ⟨g, o + 2, none⟩ = some (.int .i64 r.has) := (HC.cell (o + 2)).trans ch
  have m1 := n1.symm; have m2 := n2.symm
  by_cases hpv : isPart part = true ∧ isVal n = true
  · obtain ⟨hp, hv⟩ := hpv
    have hF : Hid (putF part n r = (⟨r.idx, r.gen, withS r.has part, r.vals.set part.toNat n, by rw [List.length_set]; exact r.h8⟩, 0)) := Lib.hid (by simp [putF, hp, hv])
    obtain ⟨p0, p8⟩ := isPart_iff.1 hp
    obtain ⟨q, rfl⟩ := nat_of p0
    have hq8 : q < 8 := by omega
    have cv := hr.val hq8
    have hpr := Lib.hid (patch_row hr (withS r.has q) n hq8 (by rw [List.length_set]; exact r.h8))
    have hcp := part_any q w; have hcn := value_any n w
    rw [hp] at hcp; rw [hv] at hcn
    have hcph := Lib.hid hcp; have hcnh := Lib.hid hcn
    have hwi := fun W => with_any r.has q hs W
    have hwih := Lib.hid hwi
    clear hcp hcn hwi hr hs hp hv
    obtain ⟨ridx, rgen, has, rvals, rh8⟩ := r
    simp only at *
    generalize rvals[q]'(by rw [rh8]; omega) = z at cv
    generalize withS has q = hs' at *
    go_enter Tryz.func58, Tryz.ntmps58
    go_wp2_with fail
    refine hcph.out.mono ?_
    rintro e w1 ⟨rfl, rfl⟩
    go_wp2_with fail
    refine hcnh.out.mono ?_
    rintro e w1 ⟨rfl, rfl⟩
    go_wp2_with fail
    refine wp_region_known mixed (by kernel_rfl) (by kernel_rfl) (tab [.pointer (some ⟨g, o, none⟩), .pointer (some ⟨g, o, none⟩), .int .i64 (q : Int), .pointer (some ⟨g, o, none⟩), .pointer (some ⟨g, o, none⟩), .pointer (some ⟨g, o + 2, none⟩), .int .i64 has, .int .i64 (q : Int), .int .i64 hs', .int .i64 n, .pointer (some ⟨g, o, none⟩), .pointer (some ⟨g, o + 2, none⟩), undef, .pointer (some ⟨g, o, none⟩), .pointer (some ⟨g, o + 3, none⟩), .pointer (some ⟨g, o + 3 + q, none⟩), undef]) (fun l w' => w.grownBy w' (some g) ∧ Blk w' g 114 (if l 16 then (cur.setIfInBounds (o + 2) (.int .i64 hs')).setIfInBounds (o + 3 + q) (.int .i64 n) else if l 12 then cur.setIfInBounds (o + 2) (.int .i64 hs') else cur) ∧ (l 12 = true → l 6 = true) ∧ (l 16 = true → l 12 = true)) ⟨⟨rfl, rfl, rfl, Nat.le_refl _, fun _ _ _ => rfl⟩, HC.drew, by simp, by simp⟩ ?_ ?_
    rotate_left
    · rintro i op ho l act w' ⟨hG, hC, hO1, hO2⟩ hli hd hv hwas K hK
      have hi : i < 17 := lt_of_some ho
      have e0 := hwas 0 rfl
      have e1 := hwas 1 rfl
      have e2 := hwas 2 rfl
      simp at e0 e1 e2
      have hB1 := h1.grown hG (by simpa using m1)
      have hB2 := h2.grown hG (by simpa using m2)
      have d1 := hB1.cell 0; have d2 := hB2.cell 0
      simp at d1 d2
      have hz := hC.frozen (o + 2); have hz2 := hC.frozen (o + 3 + q)
      match i, hi, ho, hli, hK with
      | 0, _, ho, hli, hK =>
        obtain rfl := Option.some.inj ho
        clear hv hwas
        go_simp
        exact hK _ ⟨hG, by simpa [upd] using hC, by simp [upd]; intro h; simp [hO1 h], by simpa [upd] using hO2⟩
      | 1, _, ho, hli, hK =>
        obtain rfl := Option.some.inj ho
        clear hv hwas
        go_simp
        exact hK _ ⟨hG, by simpa [upd] using hC, by simp [upd]; intro h; simp [hO1 h], by simpa [upd] using hO2⟩
      | 2, _, ho, hli, hK =>
        obtain rfl := Option.some.inj ho
        clear hv hwas
        go_simp
        exact hK _ ⟨hG, by simpa [upd] using hC, by simp [upd]; intro h; simp [hO1 h], by simpa [upd] using hO2⟩
      | 3, _, ho, hli, hK =>
        obtain rfl := Option.some.inj ho
        clear hv hwas
        go_simp
        exact hK _ ⟨hG, by simpa [upd] using hC, by simp [upd]; intro h; simp [hO1 h], by simpa [upd] using hO2⟩
      | 4, _, ho, hli, hK =>
        obtain rfl := Option.some.inj ho
        have x16 : act.tmps[17]?.getD undef = .pointer (some ⟨g, o, none⟩) := hv 3 17 rfl (by simp [Region.binds] at hd; simp [hd])
        clear hv hwas
        go_simp
        exact hK _ ⟨hG, by simpa [upd] using hC, by simp [upd]; intro h; simp [hO1 h], by simpa [upd] using hO2⟩
      | 5, _, ho, hli, hK =>
        obtain rfl := Option.some.inj ho
        have x17 : act.tmps[18]?.getD undef = .pointer (some ⟨g, o, none⟩) := hv 4 18 rfl (by simp [Region.binds] at hd; simp [hd])
        clear hv hwas
        go_simp
        exact hK _ ⟨hG, by simpa [upd] using hC, by simp [upd]; intro h; simp [hO1 h], by simpa [upd] using hO2⟩
      | 6, _, ho, hli, hK =>
        obtain rfl := Option.some.inj ho
        have x18 : act.tmps[19]?.getD undef = .pointer (some ⟨g, o + 2, none⟩) := hv 5 19 rfl (by simp [Region.binds] at hd; simp [hd])
        have l1 : l 12 = false := by
          cases h : l 12 with
          | false => rfl
          | true => exact absurd (hO1 h) (by simp [hli])
        have l2 : l 16 = false := by
          cases h : l 16 with
          | false => rfl
          | true => rw [hO2 h] at l1; cases l1
        have hC2 := hC
        simp only [l1, l2] at hC2
        have d3 := hC2.cell (o + 2)
        simp [ch] at d3
        clear hC2
        clear hv hwas
        go_simp
        exact hK _ ⟨hG, by simpa [upd] using hC, by simp [upd], by simpa [upd] using hO2⟩
      | 7, _, ho, hli, hK =>
        obtain rfl := Option.some.inj ho
        clear hv hwas
        go_simp
        exact hK _ ⟨hG, by simpa [upd] using hC, by simp [upd]; intro h; simp [hO1 h], by simpa [upd] using hO2⟩
      | 8, _, ho, hli, hK =>
        obtain rfl := Option.some.inj ho
        have x19 : act.tmps[20]?.getD undef = .int .i64 has := hv 6 20 rfl (by simp [Region.binds] at hd; simp [hd])
        have x20 : act.tmps[21]?.getD undef = .int .i64 (q : Int) := hv 7 21 rfl (by simp [Region.binds] at hd; simp [hd])
        have hwc := hwih.out w'
        clear hwih
        clear hv hwas
        go_simp
        exact hwc.mono (fun e w2 ⟨he, hw⟩ => by subst he hw; exact hK _ ⟨hG, by simpa [upd] using hC, by simp [upd]; intro h; simp [hO1 h], by simpa [upd] using hO2⟩)
      | 9, _, ho, hli, hK =>
        obtain rfl := Option.some.inj ho
        clear hv hwas
        go_simp
        exact hK _ ⟨hG, by simpa [upd] using hC, by simp [upd]; intro h; simp [hO1 h], by simpa [upd] using hO2⟩
      | 10, _, ho, hli, hK =>
        obtain rfl := Option.some.inj ho
        have x13 : act.tmps[14]?.getD undef = .pointer (some ⟨g, o, none⟩) := hv 0 14 rfl (by simp [Region.binds] at hd; simp [hd])
        clear hv hwas
        go_simp
        exact hK _ ⟨hG, by simpa [upd] using hC, by simp [upd]; intro h; simp [hO1 h], by simpa [upd] using hO2⟩
      | 11, _, ho, hli, hK =>
        obtain rfl := Option.some.inj ho
        have x23 : act.tmps[24]?.getD undef = .pointer (some ⟨g, o, none⟩) := hv 10 24 rfl (by simp [Region.binds] at hd; simp [hd])
        clear hv hwas
        go_simp
        exact hK _ ⟨hG, by simpa [upd] using hC, by simp [upd]; intro h; simp [hO1 h], by simpa [upd] using hO2⟩
      | 12, _, ho, hli, hK =>
        obtain rfl := Option.some.inj ho
        have x24 : act.tmps[25]?.getD undef = .pointer (some ⟨g, o + 2, none⟩) := hv 11 25 rfl (by simp [Region.binds] at hd; simp [hd])
        have x21 : act.tmps[22]?.getD undef = .int .i64 hs' := hv 8 22 rfl (by simp [Region.binds] at hd; simp [hd])
        have l2 : l 16 = false := by
          cases h : l 16 with
          | false => rfl
          | true => exact absurd (hO2 h) (by simp [hli])
        have hC2 := hC
        simp only [hli, l2] at hC2
        have d3 := hC2.cell (o + 2)
        simp [ch] at d3
        have l6 : l 6 = true := by simp [Region.binds] at hd; simp [hd]
        have hCn := hC2.set_ (o + 2) (.int .i64 hs')
        clear hC2 hC
        clear hv hwas
        go_simp
        exact hK _ ⟨⟨hG.os, hG.tape, hG.output, by simpa [World.setCell] using hG.size, fun k h1 h2 => (Below.heap_setCell _ _ _ _ (fun e => h2 (by rw [e]))).trans (hG.block k h1 h2)⟩, by simpa [upd, l2] using hCn, by simp [upd, l6], by simp [upd]⟩
      | 13, _, ho, hli, hK =>
        obtain rfl := Option.some.inj ho
        have x14 : act.tmps[15]?.getD undef = .pointer (some ⟨g, o, none⟩) := hv 1 15 rfl (by simp [Region.binds] at hd; simp [hd])
        clear hv hwas
        go_simp
        exact hK _ ⟨hG, by simpa [upd] using hC, by simp [upd]; intro h; simp [hO1 h], by simpa [upd] using hO2⟩
      | 14, _, ho, hli, hK =>
        obtain rfl := Option.some.inj ho
        have x25 : act.tmps[26]?.getD undef = .pointer (some ⟨g, o, none⟩) := hv 13 26 rfl (by simp [Region.binds] at hd; simp [hd])
        clear hv hwas
        go_simp
        exact hK _ ⟨hG, by simpa [upd] using hC, by simp [upd]; intro h; simp [hO1 h], by simpa [upd] using hO2⟩
      | 15, _, ho, hli, hK =>
        obtain rfl := Option.some.inj ho
        have x26 : act.tmps[27]?.getD undef = .pointer (some ⟨g, o + 3, none⟩) := hv 14 27 rfl (by simp [Region.binds] at hd; simp [hd])
        have x15 : act.tmps[16]?.getD undef = .int .i64 (q : Int) := hv 2 16 rfl (by simp [Region.binds] at hd; simp [hd])
        clear hv hwas
        go_simp
        exact hK _ ⟨hG, by simpa [upd] using hC, by simp [upd]; intro h; simp [hO1 h], by simpa [upd] using hO2⟩
      | 16, _, ho, hli, hK =>
        obtain rfl := Option.some.inj ho
        have x27 : act.tmps[28]?.getD undef = .pointer (some ⟨g, o + 3 + q, none⟩) := hv 15 28 rfl (by simp [Region.binds] at hd; simp [hd])
        have x22 : act.tmps[23]?.getD undef = .int .i64 n := hv 9 23 rfl (by simp [Region.binds] at hd; simp [hd])
        have l1 : l 12 = true := by simp [Region.binds] at hd; simp [hd]
        have hC2 := hC
        simp only [hli, l1] at hC2
        have d3 := hC2.cell (o + 3 + q)
        simp only [if_true, Bool.false_eq_true, if_false] at d3
        rw [Array.getElem?_setIfInBounds_ne (by omega), cv] at d3
        have hCn := hC2.set_ (o + 3 + q) (.int .i64 n)
        clear hC2 hC
        clear hv hwas
        go_simp
        exact hK _ ⟨⟨hG.os, hG.tape, hG.output, by simpa [World.setCell] using hG.size, fun k h1 h2 => (Below.heap_setCell _ _ _ _ (fun e => h2 (by rw [e]))).trans (hG.block k h1 h2)⟩, by simpa [upd] using hCn, by simpa [upd] using hO1, by simp [upd, l1]⟩
    rintro w' l ⟨hG, hC, hO1, hO2⟩ hl
    rw [putAll_tab _ _ _ _ [(some 14, .pointer (some ⟨g, o, none⟩)), (some 15, .pointer (some ⟨g, o, none⟩)), (some 16, .int .i64 (q : Int)), (some 17, .pointer (some ⟨g, o, none⟩)), (some 18, .pointer (some ⟨g, o, none⟩)), (some 19, .pointer (some ⟨g, o + 2, none⟩)), (some 20, .int .i64 has), (some 21, .int .i64 (q : Int)), (some 22, .int .i64 hs'), (some 23, .int .i64 n), (some 24, .pointer (some ⟨g, o, none⟩)), (some 25, .pointer (some ⟨g, o + 2, none⟩)), (none, undef), (some 26, .pointer (some ⟨g, o, none⟩)), (some 27, .pointer (some ⟨g, o + 3, none⟩)), (some 28, .pointer (some ⟨g, o + 3 + q, none⟩)), (none, undef)] rfl]
    simp only [putL_eq, putT, List.set_cons_succ, List.set_cons_zero]
    have hl2 : l 16 = true := hl 16 (by decide)
    rw [hl2, if_pos rfl] at hC
    go_wp2_with fail
    refine bodyPost_ret (v := .tuple #[.bool true, .int .i64 0]) (by simp [results, Tryz.results58, go_sem]) rfl ⟨by rw [hF.out], hG, ?_⟩
    rw [hF.out]
    show Blk w' g _ (patch cur o (rowCells ⟨ridx, rgen, hs', rvals.set q n, by rw [List.length_set]; exact rh8⟩))
    rw [← hpr.out]
    exact hC
  · have hF : Hid (putF part n r = (r, 3)) := Lib.hid (by unfold putF; rw [if_neg (by simpa using hpv)])
    have hsame := Lib.hid (patch_same hr)
    clear hr hs ch hc2
    have hcp := part_any part w; have hcn := value_any n w
    cases hp : isPart part with
    | false =>
      rw [hp] at hcp
      have hcph := Lib.hid hcp
      clear hcp hcn hpv
      go_enter Tryz.func58, Tryz.ntmps58
      go_wp2_with fail
      refine hcph.out.mono ?_
      rintro e w1 ⟨rfl, rfl⟩
      go_wp2_with fail
      refine bodyPost_ret (v := .tuple #[.bool true, .int .i64 3]) (by simp [results, Tryz.results58, go_sem]) rfl ⟨by rw [hF.out], grown_refl _ _, by rw [hF.out, hsame.out]; exact HC⟩
    | true =>
      have hv : isVal n = false := by cases h : isVal n; rfl; exact absurd ⟨hp, h⟩ hpv
      rw [hp] at hcp; rw [hv] at hcn
      have hcph := Lib.hid hcp; have hcnh := Lib.hid hcn
      clear hcp hcn hpv
      go_enter Tryz.func58, Tryz.ntmps58
      go_wp2_with fail
      refine hcph.out.mono ?_
      rintro e w1 ⟨rfl, rfl⟩
      go_wp2_with fail
      refine hcnh.out.mono ?_
      rintro e w1 ⟨rfl, rfl⟩
      go_wp2_with fail
      refine bodyPost_ret (v := .tuple #[.bool true, .int .i64 3]) (by simp [results, Tryz.results58, go_sem]) rfl ⟨by rw [hF.out], grown_refl _ _, by rw [hF.out, hsame.out]; exact HC⟩
set_option maxRecDepth 20000 in
set_option maxHeartbeats 6400000 in
theorem sdropF_any (r : BRow) (hs : isSet r.has = true) (part : Int) (g o : Nat) (b1 : Nat) (w : World) (h1 : Blk w b1 3 #[.int .i64 part]) (n1 : g ≠ b1) (cur : Array Value) (HC : Blk w g 114 cur) (hr : RowIn cur o r) :
    Calls Tryz.prog 62 #[.pointer (some ⟨g, o, none⟩), .pointer (some ⟨b1, 0, none⟩)] w fun e w' => e = .returned (.tuple #[.bool true, .int .i64 (dropF part r).2]) ∧ w.grownBy w' (some g) ∧ Blk w' g 114 (patch cur o (rowCells (dropF part r).1)) := by
  have c1 := h1.cell 0
  simp at c1
  have ch := hr.has
  have hc2 : w.cell? ⟨g, o + 2, none⟩ = some (.int .i64 r.has) := (HC.cell (o + 2)).trans ch
  have m1 := n1.symm
  by_cases hp : hasB r.has part = true
  · have hF : Hid (dropF part r = (⟨r.idx, r.gen, withoutS r.has part, r.vals.set part.toNat 0, by rw [List.length_set]; exact r.h8⟩, 0)) := Lib.hid (by simp [dropF, hp])
    have hpp : isPart part = true := by simp only [hasB, Bool.and_eq_true] at hp; exact hp.1
    obtain ⟨p0, p8⟩ := isPart_iff.1 hpp
    obtain ⟨q, rfl⟩ := nat_of p0
    have hq8 : q < 8 := by omega
    have cv := hr.val hq8
    have hpr := Lib.hid (patch_row hr (withoutS r.has q) 0 hq8 (by rw [List.length_set]; exact r.h8))
    have hwi := fun W => without_any r.has q hs W
    have hwih := Lib.hid hwi
    have hha := fun W => has_any r.has q hs W
    rw [hp] at hha
    have hhah := Lib.hid hha
    clear hwi hha hr hs hp hpp
    obtain ⟨ridx, rgen, has, rvals, rh8⟩ := r
    simp only at *
    generalize rvals[q]'(by rw [rh8]; omega) = z at cv
    generalize withoutS has q = hs' at *
    go_enter Tryz.func62, Tryz.ntmps62
    go_upto_region 1 with fail
    go_quiet (exact quiet_same (hhah.out _))
    go_wp2_with fail
    refine wp_region_known mixed (by kernel_rfl) (by kernel_rfl) (tab [.pointer (some ⟨g, o, none⟩), .pointer (some ⟨g, o, none⟩), .int .i64 (q : Int), .pointer (some ⟨g, o, none⟩), .pointer (some ⟨g, o, none⟩), .pointer (some ⟨g, o + 2, none⟩), .int .i64 has, .int .i64 (q : Int), .int .i64 hs', .pointer (some ⟨g, o, none⟩), .pointer (some ⟨g, o + 2, none⟩), undef, .pointer (some ⟨g, o, none⟩), .pointer (some ⟨g, o + 3, none⟩), .pointer (some ⟨g, o + 3 + q, none⟩), undef]) (fun l w' => w.grownBy w' (some g) ∧ Blk w' g 114 (if l 15 then (cur.setIfInBounds (o + 2) (.int .i64 hs')).setIfInBounds (o + 3 + q) (.int .i64 0) else if l 11 then cur.setIfInBounds (o + 2) (.int .i64 hs') else cur) ∧ (l 11 = true → l 6 = true) ∧ (l 15 = true → l 11 = true)) ⟨⟨rfl, rfl, rfl, Nat.le_refl _, fun _ _ _ => rfl⟩, HC.drew, by simp, by simp⟩ ?_ ?_
    rotate_left
    · rintro i op ho l act w' ⟨hG, hC, hO1, hO2⟩ hli hd hv hwas K hK
      have hi : i < 16 := lt_of_some ho
      have e0 := hwas 0 rfl
      have e1 := hwas 1 rfl
      simp at e0 e1
      have hB1 := h1.grown hG (by simpa using m1)
      have d1 := hB1.cell 0
      simp at d1
      have hz := hC.frozen (o + 2); have hz2 := hC.frozen (o + 3 + q)
      match i, hi, ho, hli, hK with
      | 0, _, ho, hli, hK =>
        obtain rfl := Option.some.inj ho
        clear hv hwas
        go_simp
        exact hK _ ⟨hG, by simpa [upd] using hC, by simp [upd]; intro h; simp [hO1 h], by simpa [upd] using hO2⟩
      | 1, _, ho, hli, hK =>
        obtain rfl := Option.some.inj ho
        clear hv hwas
        go_simp
        exact hK _ ⟨hG, by simpa [upd] using hC, by simp [upd]; intro h; simp [hO1 h], by simpa [upd] using hO2⟩
      | 2, _, ho, hli, hK =>
        obtain rfl := Option.some.inj ho
        clear hv hwas
        go_simp
        exact hK _ ⟨hG, by simpa [upd] using hC, by simp [upd]; intro h; simp [hO1 h], by simpa [upd] using hO2⟩
      | 3, _, ho, hli, hK =>
        obtain rfl := Option.some.inj ho
        clear hv hwas
        go_simp
        exact hK _ ⟨hG, by simpa [upd] using hC, by simp [upd]; intro h; simp [hO1 h], by simpa [upd] using hO2⟩
      | 4, _, ho, hli, hK =>
        obtain rfl := Option.some.inj ho
        have x14 : act.tmps[15]?.getD undef = .pointer (some ⟨g, o, none⟩) := hv 3 15 rfl (by simp [Region.binds] at hd; simp [hd])
        clear hv hwas
        go_simp
        exact hK _ ⟨hG, by simpa [upd] using hC, by simp [upd]; intro h; simp [hO1 h], by simpa [upd] using hO2⟩
      | 5, _, ho, hli, hK =>
        obtain rfl := Option.some.inj ho
        have x15 : act.tmps[16]?.getD undef = .pointer (some ⟨g, o, none⟩) := hv 4 16 rfl (by simp [Region.binds] at hd; simp [hd])
        clear hv hwas
        go_simp
        exact hK _ ⟨hG, by simpa [upd] using hC, by simp [upd]; intro h; simp [hO1 h], by simpa [upd] using hO2⟩
      | 6, _, ho, hli, hK =>
        obtain rfl := Option.some.inj ho
        have x16 : act.tmps[17]?.getD undef = .pointer (some ⟨g, o + 2, none⟩) := hv 5 17 rfl (by simp [Region.binds] at hd; simp [hd])
        have l1 : l 11 = false := by
          cases h : l 11 with
          | false => rfl
          | true => exact absurd (hO1 h) (by simp [hli])
        have l2 : l 15 = false := by
          cases h : l 15 with
          | false => rfl
          | true => rw [hO2 h] at l1; cases l1
        have hC2 := hC
        simp only [l1, l2] at hC2
        have d3 := hC2.cell (o + 2)
        simp [ch] at d3
        clear hC2
        clear hv hwas
        go_simp
        exact hK _ ⟨hG, by simpa [upd] using hC, by simp [upd], by simpa [upd] using hO2⟩
      | 7, _, ho, hli, hK =>
        obtain rfl := Option.some.inj ho
        clear hv hwas
        go_simp
        exact hK _ ⟨hG, by simpa [upd] using hC, by simp [upd]; intro h; simp [hO1 h], by simpa [upd] using hO2⟩
      | 8, _, ho, hli, hK =>
        obtain rfl := Option.some.inj ho
        have x17 : act.tmps[18]?.getD undef = .int .i64 has := hv 6 18 rfl (by simp [Region.binds] at hd; simp [hd])
        have x18 : act.tmps[19]?.getD undef = .int .i64 (q : Int) := hv 7 19 rfl (by simp [Region.binds] at hd; simp [hd])
        have hwc := hwih.out w'
        clear hwih
        clear hv hwas
        go_simp
        exact hwc.mono (fun e w2 ⟨he, hw⟩ => by subst he hw; exact hK _ ⟨hG, by simpa [upd] using hC, by simp [upd]; intro h; simp [hO1 h], by simpa [upd] using hO2⟩)
      | 9, _, ho, hli, hK =>
        obtain rfl := Option.some.inj ho
        have x11 : act.tmps[12]?.getD undef = .pointer (some ⟨g, o, none⟩) := hv 0 12 rfl (by simp [Region.binds] at hd; simp [hd])
        clear hv hwas
        go_simp
        exact hK _ ⟨hG, by simpa [upd] using hC, by simp [upd]; intro h; simp [hO1 h], by simpa [upd] using hO2⟩
      | 10, _, ho, hli, hK =>
        obtain rfl := Option.some.inj ho
        have x20 : act.tmps[21]?.getD undef = .pointer (some ⟨g, o, none⟩) := hv 9 21 rfl (by simp [Region.binds] at hd; simp [hd])
        clear hv hwas
        go_simp
        exact hK _ ⟨hG, by simpa [upd] using hC, by simp [upd]; intro h; simp [hO1 h], by simpa [upd] using hO2⟩
      | 11, _, ho, hli, hK =>
        obtain rfl := Option.some.inj ho
        have x21 : act.tmps[22]?.getD undef = .pointer (some ⟨g, o + 2, none⟩) := hv 10 22 rfl (by simp [Region.binds] at hd; simp [hd])
        have x19 : act.tmps[20]?.getD undef = .int .i64 hs' := hv 8 20 rfl (by simp [Region.binds] at hd; simp [hd])
        have l2 : l 15 = false := by
          cases h : l 15 with
          | false => rfl
          | true => exact absurd (hO2 h) (by simp [hli])
        have hC2 := hC
        simp only [hli, l2] at hC2
        have d3 := hC2.cell (o + 2)
        simp [ch] at d3
        have l6 : l 6 = true := by simp [Region.binds] at hd; simp [hd]
        have hCn := hC2.set_ (o + 2) (.int .i64 hs')
        clear hC2 hC
        clear hv hwas
        go_simp
        exact hK _ ⟨⟨hG.os, hG.tape, hG.output, by simpa [World.setCell] using hG.size, fun k h1 h2 => (Below.heap_setCell _ _ _ _ (fun e => h2 (by rw [e]))).trans (hG.block k h1 h2)⟩, by simpa [upd, l2] using hCn, by simp [upd, l6], by simp [upd]⟩
      | 12, _, ho, hli, hK =>
        obtain rfl := Option.some.inj ho
        have x12 : act.tmps[13]?.getD undef = .pointer (some ⟨g, o, none⟩) := hv 1 13 rfl (by simp [Region.binds] at hd; simp [hd])
        clear hv hwas
        go_simp
        exact hK _ ⟨hG, by simpa [upd] using hC, by simp [upd]; intro h; simp [hO1 h], by simpa [upd] using hO2⟩
      | 13, _, ho, hli, hK =>
        obtain rfl := Option.some.inj ho
        have x22 : act.tmps[23]?.getD undef = .pointer (some ⟨g, o, none⟩) := hv 12 23 rfl (by simp [Region.binds] at hd; simp [hd])
        clear hv hwas
        go_simp
        exact hK _ ⟨hG, by simpa [upd] using hC, by simp [upd]; intro h; simp [hO1 h], by simpa [upd] using hO2⟩
      | 14, _, ho, hli, hK =>
        obtain rfl := Option.some.inj ho
        have x23 : act.tmps[24]?.getD undef = .pointer (some ⟨g, o + 3, none⟩) := hv 13 24 rfl (by simp [Region.binds] at hd; simp [hd])
        have x13 : act.tmps[14]?.getD undef = .int .i64 (q : Int) := hv 2 14 rfl (by simp [Region.binds] at hd; simp [hd])
        clear hv hwas
        go_simp
        exact hK _ ⟨hG, by simpa [upd] using hC, by simp [upd]; intro h; simp [hO1 h], by simpa [upd] using hO2⟩
      | 15, _, ho, hli, hK =>
        obtain rfl := Option.some.inj ho
        have x24 : act.tmps[25]?.getD undef = .pointer (some ⟨g, o + 3 + q, none⟩) := hv 14 25 rfl (by simp [Region.binds] at hd; simp [hd])
        have l1 : l 11 = true := by simp [Region.binds] at hd; simp [hd]
        have hC2 := hC
        simp only [hli, l1] at hC2
        have d3 := hC2.cell (o + 3 + q)
        simp only [if_true, Bool.false_eq_true, if_false] at d3
        rw [Array.getElem?_setIfInBounds_ne (by omega), cv] at d3
        have hCn := hC2.set_ (o + 3 + q) (.int .i64 0)
        clear hC2 hC
        clear hv hwas
        go_simp
        exact hK _ ⟨⟨hG.os, hG.tape, hG.output, by simpa [World.setCell] using hG.size, fun k h1 h2 => (Below.heap_setCell _ _ _ _ (fun e => h2 (by rw [e]))).trans (hG.block k h1 h2)⟩, by simpa [upd] using hCn, by simpa [upd] using hO1, by simp [upd, l1]⟩
    rintro w' l ⟨hG, hC, hO1, hO2⟩ hl
    rw [putAll_tab _ _ _ _ [(some 12, .pointer (some ⟨g, o, none⟩)), (some 13, .pointer (some ⟨g, o, none⟩)), (some 14, .int .i64 (q : Int)), (some 15, .pointer (some ⟨g, o, none⟩)), (some 16, .pointer (some ⟨g, o, none⟩)), (some 17, .pointer (some ⟨g, o + 2, none⟩)), (some 18, .int .i64 has), (some 19, .int .i64 (q : Int)), (some 20, .int .i64 hs'), (some 21, .pointer (some ⟨g, o, none⟩)), (some 22, .pointer (some ⟨g, o + 2, none⟩)), (none, undef), (some 23, .pointer (some ⟨g, o, none⟩)), (some 24, .pointer (some ⟨g, o + 3, none⟩)), (some 25, .pointer (some ⟨g, o + 3 + q, none⟩)), (none, undef)] rfl]
    simp only [putL_eq, putT, List.set_cons_succ, List.set_cons_zero]
    have hl2 : l 15 = true := hl 15 (by decide)
    rw [hl2, if_pos rfl] at hC
    go_wp2_with fail
    refine bodyPost_ret (v := .tuple #[.bool true, .int .i64 0]) (by simp [results, Tryz.results62, go_sem]) rfl ⟨by rw [hF.out], hG, ?_⟩
    rw [hF.out]
    show Blk w' g _ (patch cur o (rowCells ⟨ridx, rgen, hs', rvals.set q 0, by rw [List.length_set]; exact rh8⟩))
    rw [← hpr.out]
    exact hC
  · have hp' : hasB r.has part = false := by simpa using hp
    have hF : Hid (dropF part r = (r, 5)) := Lib.hid (by simp [dropF, hp'])
    have hha := fun W => has_any r.has part hs W
    rw [hp'] at hha
    have hhah := Lib.hid hha
    have hsame := Lib.hid (patch_same hr)
    clear hha hr hs hp hp' ch
    generalize r.has = has at hc2 hhah
    go_enter Tryz.func62, Tryz.ntmps62
    go_upto_region 1 with fail
    go_quiet (exact quiet_same (hhah.out _))
    go_wp2_with fail
    refine bodyPost_ret (v := .tuple #[.bool true, .int .i64 5]) (by simp [results, Tryz.results62, go_sem]) rfl ⟨by rw [hF.out], ⟨rfl, rfl, rfl, Nat.le_refl _, fun _ _ _ => rfl⟩, by rw [hF.out, hsame.out]; exact HC⟩
theorem patch_whole (r r' : BRow) : patch (rowCells r).toArray 0 (rowCells r') = (rowCells r').toArray := by
  apply Array.ext_getElem?
  intro j
  have h1 := rowCells_length r; have h2 := rowCells_length r'
  by_cases hj : j < 11
  · have := patch_in (rowCells r') (rowCells r).toArray 0 j (by omega) (by simp; omega)
    rw [Nat.zero_add] at this
    rw [this]
    simp
  · rw [patch_out _ _ _ _ (by omega)]
    simp only [List.getElem?_toArray]
    rw [List.getElem?_eq_none (by omega), List.getElem?_eq_none (by omega)]
theorem rowIn_whole (r : BRow) : RowIn (rowCells r).toArray 0 r := fun j u hu => by
  rw [Nat.zero_add]
  simpa using hu
def keep3 (r : BRow) : BRow × Bool × Int := (r, false, 0)
def put3 (part n : Int) (r : BRow) : BRow × Bool × Int := ((putF part n r).1, true, (putF part n r).2)
def drop3 (part : Int) (r : BRow) : BRow × Bool × Int := ((dropF part r).1, true, (dropF part r).2)
theorem keep3_ok : FrOk keep3 := fun r h1 h2 h3 => by cases h3
theorem put3_ok (part n : Int) : FrOk (put3 part n) := fun r h1 h2 h3 => ⟨(putF_ok part n).ok r h1 h2, (putF_ok part n).idx r⟩
theorem drop3_ok (part : Int) : FrOk (drop3 part) := fun r h1 h2 h3 => ⟨(dropF_ok part).ok r h1 h2, (dropF_ok part).idx r⟩
end Go.Proofs.YtefdblaolmckmabGreat

namespace Go.Proofs.YtefdblaolmckmabGreat
open Go.RowKit
open Brood
set_option linter.unusedVariables false
set_option linter.unusedSimpArgs false
def RowFn (w0 : World) (F : FuncId) (caps : Array Value) (fr : BRow → BRow × Int) : Prop :=
  ∀ (w : World) (g o : Nat) (cur : Array Value) (r : BRow), Below w0.heap.size w0 w → w0.heap.size ≤ g → Blk w g 114 cur → RowIn cur o r → isSet r.has = true →
    Calls Tryz.prog F (#[.pointer (some ⟨g, o, none⟩)] ++ caps) w fun e w' => e = .returned (.int .i64 (fr r).2) ∧ w.grownBy w' (some g) ∧ Blk w' g 114 (patch cur o (rowCells (fr r).1))
set_option maxRecDepth 20000 in
set_option maxHeartbeats 6400000 in
theorem change_any (rows : List BRow) (gens : List Int) (Ar : Option Addr) (cr : Nat) (Ag : Option Addr) (cg : Nat) (i g : Int) (b : Nat) (F : FuncId) (caps : Array Value) (fr : BRow → BRow × Int) (hlr : rows.length ≤ 9223372036854775807) (hlg : gens.length ≤ 9223372036854775807) (hnr : Ar = none → cr = 0 ∧ rows = []) (hng : Ag = none → cg = 0 ∧ gens = [])
    (w : World) (hr : RdR w w.heap.size Ar rows) (hg : RdG w w.heap.size Ag gens) (HW : Blk w b 64 #[.slice Ar rows.length cr, .slice Ag gens.length cg]) (hF : RowFn w F caps fr) (hen : ∀ (args : Array Value) (W : World), (callFunc F args).run Tryz.prog W = .ok (.enter F args) W) :
    Calls Tryz.prog 54 #[.pointer (some ⟨b, 0, none⟩), .agg #[.int .i64 i, .int .i64 g], .func (.func F) #[] caps] w fun e w' =>
      ∃ v, e = .returned (.tuple #[v, .int .i64 (changeV rows gens i g fr).err]) ∧
        GotW w' w.heap.size v (changeV rows gens i g fr).rows (changeV rows gens i g fr).gens ∧ Below w.heap.size w w' := by
  have hch : Hid (changeV rows gens i g fr = if (worldErr ⟨rows, gens⟩).1 ≠ 0 then ⟨[], [], (worldErr ⟨rows, gens⟩).1⟩
    else match findR i g rows with
    | none => ⟨[], [], 5⟩
    | some k => match rows[k]? with
      | none => ⟨[], [], 5⟩
      | some r => if (fr r).2 ≠ 0 then ⟨[], [], (fr r).2⟩ else ⟨rows.set k (fr r).1, gens, 0⟩) := Lib.hid rfl
  generalize changeV rows gens i g fr = E at *
  have hFh := Lib.hid hF
  clear hF
  have hwlt := HW.lt
  have H0 := ((Hp.start w).new w.heap.size rfl 24 [.int .i64 i, .int .i64 g]).new (w.heap.size + 1) (by simp) 64 [.slice none 0 0, .slice none 0 0]
  have a0 := HW.cell 0; have a1 := HW.cell 1
  simp at a0 a1
  go_enter Tryz.func54, Tryz.ntmps54
  go_wp2_with fail
  clear a0 a1
  obtain ⟨w0, hw0, H0⟩ := H0.name
  rw [hw0]; clear hw0
  refine (pwrong_any rows gens Ar cr Ag cg hlr w0 (H0.old hr) (H0.old hg)).mono ?_
  rintro e w1 ⟨rfl, hb1⟩
  replace H0 := H0.grow hb1
  clear hb1
  have hrt : Hid ((worldErr ⟨rows, gens⟩).1 = 0 → RightW rows gens) := Lib.hid (right_iff rows gens).1
  generalize worldErr ⟨rows, gens⟩ = F' at *
  obtain ⟨f1, f2⟩ := F'
  have H2 := H0.new _ rfl 48 [.int .i64 f1, .int .i64 f2]
  clear H0
  simp only at hch hrt ⊢
  by_cases hf : f1 = 0
  case neg =>
    have hf' : (f1 != 0) = true := by simpa using hf
    have hE : Hid (E = ⟨[], [], f1⟩) := Lib.hid (by rw [hch.out, if_pos hf])
    clear hch hrt
    go_wp2_with fail
    obtain ⟨w2, hw2, H2⟩ := H2.name
    rw [hw2]; clear hw2
    have n13 := H2.ne 1 2 rfl rfl (by omega); have n31 := n13.symm
    have q0 := H2.cell 1 0 rfl rfl; have q1 := H2.cell 1 1 rfl rfl
    have y0 := H2.frozen 1 0 rfl; have y1 := H2.frozen 1 1 rfl
    have c0 := H2.cell 2 0 rfl rfl
    go_region_held3 (fun w' => w'.cell? ⟨w1.heap.size, 0, none⟩ = some (.int .i64 f1)) (go_keep) (fail)
    have H4 := ((H2.set 1 0 (.slice none 0 0) rfl).set 1 1 (.slice none 0 0) rfl).drew
    have p0 := H4.cell 1 0 rfl rfl; have p1 := H4.cell 1 1 rfl rfl
    go_wp2_with fail
    refine bodyPost_ret (v := .tuple #[.agg #[.slice none 0 0, .slice none 0 0], .int .i64 f1]) (by simp [results, Tryz.results54, go_sem, p0, p1]) rfl ⟨_, by rw [hE.out], by rw [hE.out]; exact GotW.zero _ _, H4.bel⟩
  case pos =>
    subst hf
    have hrw := hrt.out rfl
    replace hlg : gens.length ≤ 1000000 := by have := hrw.len; omega
    replace hlr : rows.length ≤ 1000000 := by have := hrw.rows_le; have := hrw.len; omega
    have hch2 : Hid (E = match findR i g rows with
      | none => ⟨[], [], 5⟩
      | some k => match rows[k]? with
        | none => ⟨[], [], 5⟩
        | some r => if (fr r).2 ≠ 0 then ⟨[], [], (fr r).2⟩ else ⟨rows.set k (fr r).1, gens, 0⟩) := Lib.hid (by rw [hch.out, if_neg (by simp)])
    clear hch hrt
    have x0 := H2.cell 0 0 rfl rfl; have x1 := H2.cell 0 1 rfl rfl
    go_wp2_with fail
    clear x0 x1
    obtain ⟨w2, hw2, H2⟩ := H2.name
    rw [hw2]; clear hw2
    refine (find_any rows Ar cr (.slice Ag gens.length cg) hlr i g b w2 (H2.old hr) (HW.below H2.bel hwlt)).mono ?_
    rintro e w3 ⟨rfl, hb3⟩
    replace H2 := H2.grow hb3
    clear hb3
    have q0 := H2.cell 1 0 rfl rfl; have q1 := H2.cell 1 1 rfl rfl
    have y0 := H2.frozen 1 0 rfl; have y1 := H2.frozen 1 1 rfl
    cases hfk : findR i g rows with
    | none =>
      have h1 : findI i g rows = -1 := by unfold findI; rw [hfk]
      have hE : Hid (E = ⟨[], [], 5⟩) := Lib.hid (by rw [hch2.out, hfk])
      rw [h1]
      clear hch2 hfk
      have H4 := (H2.set 1 0 (.slice none 0 0) rfl).set 1 1 (.slice none 0 0) rfl
      have p0 := H4.cell 1 0 rfl rfl; have p1 := H4.cell 1 1 rfl rfl
      go_wp2_with fail
      refine bodyPost_ret (v := .tuple #[.agg #[.slice none 0 0, .slice none 0 0], .int .i64 5]) (by simp [results, Tryz.results54, go_sem, p0, p1]) rfl ⟨_, by rw [hE.out], by rw [hE.out]; exact GotW.zero _ _, H4.bel⟩
    | some k =>
      have hk := findR_lt hfk
      have h1 : findI i g rows = (k : Int) := by unfold findI; rw [hfk]
      have hch3 : Hid (E = if (fr rows[k]).2 ≠ 0 then ⟨[], [], (fr rows[k]).2⟩ else ⟨rows.set k (fr rows[k]).1, gens, 0⟩) := Lib.hid (by rw [hch2.out, hfk]; simp only [List.getElem?_eq_getElem hk])
      rw [h1]
      clear hch2 hfk
      have hsr := hrw.set_ rows[k] (List.getElem_mem hk)
      have HW3 := HW.below H2.bel hwlt
      have b0 := HW3.cell 0; have b1 := HW3.cell 1
      simp at b0 b1
      have kn : ¬ ((k : Int) < 0) := by omega
      clear q0 q1 y0 y1
      go_wp2_with fail
      clear b0 b1 HW3
      refine (own_any rows gens Ar cr Ag cg (by omega) (by omega) hnr hng w3 (H2.old hr) (H2.old hg)).mono ?_
      rintro e w5 ⟨vr, vg, rfl, hO, hb5⟩
      have H5 := ((H2.got2 hb5 hO.rows_ hO.gens_ (by decide)).drop1 2).drop1 0
      obtain ⟨Ar2, cr2, rfl, hr1, hr2⟩ := own_shape hO.rows_
      obtain ⟨Ag2, cg2, rfl, hgc, hgm⟩ := own_shape hO.gens_
      obtain ⟨gb, rfl⟩ := own_some hO.rows_ (by omega)
      replace H5 := H5.new w5.heap.size rfl 64 [.slice (some ⟨gb, 0, none⟩) rows.length cr2, .slice Ag2 gens.length cg2]
      clear H2 hO hb5
      have i0 : (0 : Int) ≤ (k : Int) := by omega
      have i1 : (k : Int) < (rows.length : Int) := by omega
      go_wp2_with fail
      obtain ⟨w6, hw6, H5⟩ := H5.name
      rw [hw6]; clear hw6
      obtain ⟨cur, hblk, hgb, hnc, hcm, hsz, htk⟩ := own_blk (H5.owns 1 rfl)
      refine (hFh.out w6 gb (k * 11) cur rows[k] H5.bel hgb hblk (row_in hk rfl htk) hsr).mono ?_
      generalize hR : fr rows[k] = R at *
      obtain ⟨r', er⟩ := R
      rintro e w7 ⟨rfl, hg7, hb7⟩
      have ho7 : w7.ownsRow w.heap.size 114 11 (.slice (some ⟨gb, 0, none⟩) rows.length cr2) rows.length ((rows.set k r').flatMap rowCells) :=
        own_of_blk hb7 hgb hnc hcm (by rw [patch_size]; exact hsz) (flat_set hk r' rfl htk (by omega))
      have H7 := H5.step (p' := .own _ _ _ _ _) 1 rfl hg7 ho7 (fun q hq => .inl hq)
      clear H5 hblk htk hsz hg7 hb7 ho7 hsr hR
      have q0 := H7.cell 0 0 rfl rfl; have q1 := H7.cell 0 1 rfl rfl
      have y0 := H7.frozen 0 0 rfl; have y1 := H7.frozen 0 1 rfl
      have x0 := H7.cell 3 0 rfl rfl; have x1 := H7.cell 3 1 rfl rfl
      simp only at hch3 ⊢
      by_cases her : er = 0
      · subst her
        have hE : Hid (E = ⟨rows.set k r', gens, 0⟩) := Lib.hid (by rw [hch3.out, if_neg (by simp)])
        clear hch3
        have H8 := (H7.set 0 0 (.slice (some ⟨gb, 0, none⟩) rows.length cr2) rfl).set 0 1 (.slice Ag2 gens.length cg2) rfl
        have p0 := H8.cell 0 0 rfl rfl; have p1 := H8.cell 0 1 rfl rfl
        go_wp2_with fail
        refine bodyPost_ret (v := .tuple #[.agg #[.slice (some ⟨gb, 0, none⟩) rows.length cr2, .slice Ag2 gens.length cg2], .int .i64 0]) (by simp [results, Tryz.results54, go_sem, p0, p1]) rfl ⟨_, by rw [hE.out], ?_, H8.bel⟩
        rw [hE.out]
        have ho := H8.owns 1 rfl
        exact ⟨_, _, rfl, by simp only [List.length_set]; exact ho, H8.owns 2 rfl⟩
      · have her' : (er != 0) = true := by simpa using her
        have hE : Hid (E = ⟨[], [], er⟩) := Lib.hid (by rw [hch3.out, if_pos her])
        clear hch3
        have H8 := (H7.set 0 0 (.slice none 0 0) rfl).set 0 1 (.slice none 0 0) rfl
        have p0 := H8.cell 0 0 rfl rfl; have p1 := H8.cell 0 1 rfl rfl
        go_wp2_with fail
        refine bodyPost_ret (v := .tuple #[.agg #[.slice none 0 0, .slice none 0 0], .int .i64 er]) (by simp [results, Tryz.results54, go_sem, p0, p1]) rfl ⟨_, by rw [hE.out], by rw [hE.out]; exact GotW.zero _ _, H8.bel⟩
end Go.Proofs.YtefdblaolmckmabGreat

namespace Go.Proofs.YtefdblaolmckmabGreat
open Go.RowKit
open Brood
set_option linter.unusedVariables false
set_option linter.unusedSimpArgs false
def RowPred (w0 : World) (g : Option Nat) (F : FuncId) (caps : Array Value) (p : BRow → Bool) : Prop :=
  ∀ (w : World) (r : BRow), w0.grownBy w g → Calls Tryz.prog F (#[rowV r] ++ caps) w fun e w' => e = .returned (.bool (p r)) ∧ Below w.heap.size w w'
set_option maxRecDepth 20000 in
set_option maxHeartbeats 3200000 in
theorem indexRows_any (rows : List BRow) (A : Option Addr) (c : Nat) (hlen : rows.length ≤ 1000000) (F : FuncId) (caps : Array Value) (p : BRow → Bool) (w : World) (g : Option Nat) (hR : RdR w w.heap.size A rows) (hP : RowPred w g F caps p) (hen : ∀ (args : Array Value) (W : World), (callFunc F args).run Tryz.prog W = .ok (.enter F args) W) :
    Calls Tryz.prog 100 #[.slice A rows.length c, .func (.func F) #[] caps] w fun e w' => e = .returned (.int .i64 (findPI p rows)) ∧ Below w.heap.size w w' := by
  have hPh := Lib.hid hP
  clear hP
  go_enter Tryz.func100, Tryz.ntmps100
  go_wp2_with fail
  go_loopw [8] (fun q wr => ∃ k : Nat, k ≤ rows.length ∧ q = .int .i64 k ∧ Hid (findP p rows = (findP p (rows.drop k)).map (· + k)) ∧ Below w.heap.size w wr) (fun q _ => rows.length - (intOf q).toNat)
  case atStart => exact ⟨0, by omega, rfl, Lib.hid (by simp), Below.refl _ _⟩
  case round =>
    obtain ⟨k, hk, rfl, hfr, hbel⟩ := hrel
    by_cases hlt : k < rows.length
    · have hR1 : RdR wr w.heap.size A rows := Rd.under hR hbel (Nat.le_refl _)
      obtain ⟨b1, off, rfl, hb1, hrow⟩ := hR1.at_ hlt
      have hst := Lib.hid (@findP_drop p rows k hlt)
      have hcall := hPh.out wr rows[k] (grown_then (grown_refl w g) hbel)
      generalize rows[k] = r at *
      have i0 : (0 : Int) ≤ (k : Int) := by omega
      have i1 : (k : Int) < (rows.length : Int) := by omega
      obtain ⟨c0, c1, c2⟩ := hrow.head
      generalize p r = B at *
      obtain ⟨idx, gen, has, vals, h8⟩ := r
      obtain ⟨a0, a1, a2, a3, a4, a5, a6, a7, rfl⟩ := vals_eight h8
      have v0 := hrow 3 (.int .i64 a0) rfl; have v1 := hrow 4 (.int .i64 a1) rfl; have v2 := hrow 5 (.int .i64 a2) rfl; have v3 := hrow 6 (.int .i64 a3) rfl; have v4 := hrow 7 (.int .i64 a4) rfl; have v5 := hrow 8 (.int .i64 a5) rfl; have v6 := hrow 9 (.int .i64 a6) rfl; have v7 := hrow 10 (.int .i64 a7) rfl
      simp only at c0 c1 c2
      have hrv : rowV ⟨idx, gen, has, [a0, a1, a2, a3, a4, a5, a6, a7], h8⟩ = .agg #[.int .i64 idx, .int .i64 gen, .int .i64 has, .int .i64 a0, .int .i64 a1, .int .i64 a2, .int .i64 a3, .int .i64 a4, .int .i64 a5, .int .i64 a6, .int .i64 a7] := rfl
      rw [hrv] at hcall
      have hcallh := Lib.hid hcall
      clear hcall hrv hrow
      go_wp2_with fail
      refine hcallh.out.mono ?_
      rintro e w1 ⟨rfl, hb2⟩
      cases B
      case true =>
        have hf : Hid (findPI p rows = (k : Int)) := Lib.hid (by unfold findPI; rw [hfr.out, hst.out, if_pos rfl])
        go_wp2_with fail
        go_ret
        exact ⟨ret_int hf.out.symm, grow_below hbel hb2⟩
      case false =>
        have hf : Hid (findP p rows = (findP p (rows.drop (k + 1))).map (· + (k + 1))) := Lib.hid (by rw [hfr.out, hst.out, if_neg (by decide)])
        go_wp2_with fail
        go_roundw
        case rel => exact ⟨k + 1, by omega, by go_num, hf, grow_below hbel hb2⟩
        case measure => simp [intOf]; omega
    · obtain rfl : k = rows.length := by omega
      have hf : Hid (findPI p rows = -1) := Lib.hid (by unfold findPI; rw [hfr.out, List.drop_length]; rfl)
      go_wp2_with fail
      go_ret
      exact ⟨ret_int hf.out.symm, hbel⟩
end Go.Proofs.YtefdblaolmckmabGreat

namespace Go.Proofs.YtefdblaolmckmabGreat
open Go.RowKit
open Brood
set_option linter.unusedVariables false
set_option linter.unusedSimpArgs false
theorem zeroRow (w : World) : (zeroValue 114).run Tryz.prog w = .ok (.agg #[.int .i64 0, .int .i64 0, .int .i64 0, .int .i64 0, .int .i64 0, .int .i64 0, .int .i64 0, .int .i64 0, .int .i64 0, .int .i64 0, .int .i64 0]) w := by kernel_rfl
set_option maxRecDepth 20000 in
set_option maxHeartbeats 6400000 in
theorem delrows_any (rows : List BRow) (hlen : rows.length ≤ 1000000) (F : FuncId) (caps : Array Value) (p : BRow → Bool) (v : Value) (base : Nat) (w : World) (hown : w.ownsRow base 114 11 v rows.length (rows.flatMap rowCells))
    (hP : RowPred w v.ownBlock F caps p) (hen : ∀ (args : Array Value) (W : World), (callFunc F args).run Tryz.prog W = .ok (.enter F args) W) :
    Calls Tryz.prog 56 #[v, .func (.func F) #[] caps] w fun e w' => ∃ v', e = .returned v' ∧ w'.ownsRow base 114 11 v' (keepR p rows).length ((keepR p rows).flatMap rowCells) ∧ w.grownBy w' v.ownBlock ∧ ∀ q, v'.ownBlock = some q → v.ownBlock = some q ∨ w.heap.size ≤ q := by
  obtain ⟨A, c, rfl, hnc, hcm⟩ := own_shape hown
  have hcx : c ≤ 9223372036854775807 := by unfold maxLen at hcm; omega
  have hR : RdR w w.heap.size A rows := Rd.of_own hown
  have hix := Lib.hid (indexRows_any rows A c hlen F caps p w _ hR hP hen)
  go_enter Tryz.func56, Tryz.ntmps56
  go_wp2_with fail
  refine hix.out.mono ?_
  rintro e w1 ⟨rfl, hb1⟩
  have hPh := Lib.hid hP
  clear hix hP
  cases hf : findP p rows with
  | none =>
    have h1 : findPI p rows = -1 := by unfold findPI; rw [hf]
    have hk := Lib.hid (keepR_all (findP_none hf))
    rw [h1]
    have ho := own_below hown hb1
    have hg := grown_then (grown_refl w (Value.slice A rows.length c).ownBlock) hb1
    clear hf h1 hR hown
    go_wp2_with fail
    go_ret
    exact ⟨_, rfl, by rw [hk.out]; exact ho, hg, fun q hq => .inl hq⟩
  | some k =>
    obtain ⟨hk, hk1, hk2⟩ := findP_some hf
    have h1 : findPI p rows = (k : Int) := by unfold findPI; rw [hf]
    rw [h1]
    obtain ⟨g, rfl⟩ := own_some hown (by omega)
    have hS := DelSt.first hk hk1 hk2
    have ho := own_below hown hb1
    have hg := grown_then (grown_refl w (some g)) hb1
    have hglt := (hown.lt g rfl).2
    clear hf h1 hR hown hb1 hk1 hk2
    have hkn : ((k : Int) == -1) = false := by simp
    have hkm : ¬ ((k : Int) = -1) := by omega
    go_wp2_with fail
    go_loopw [5, 6] (fun s5 s6 wr => ∃ (i j : Nat) (cur : List BRow), s5 = .int .i64 i ∧ s6 = .int .i64 j ∧ Hid (DelSt p rows cur i j) ∧ w.grownBy wr (some g) ∧ wr.ownsRow base 114 11 (.slice (some ⟨g, 0, none⟩) rows.length c) rows.length (cur.flatMap rowCells)) (fun _ s6 _ => rows.length - (intOf s6).toNat)
    case atStart => exact ⟨k, k + 1, rows, rfl, by go_num, Lib.hid hS, hg, ho⟩
    case round =>
      clear hS hg ho hkn hkm
      obtain ⟨i, j, cur, rfl, rfl, hS, hg, ho⟩ := hrel
      have hgr : g < wr.heap.size := by have := hg.size; omega
      by_cases hj : j < rows.length
      · have hat := hS.out.at_ hj
        have hcl := hS.out.len
        have hij := hS.out.lt
        have hRc : RdR wr wr.heap.size (some ⟨g, 0, none⟩) cur := by unfold RdR; rw [hcl]; exact Rd.of_own ho
        obtain ⟨b1, off, he, hb1, hrow⟩ := hRc.at_ (k := j) (by omega)
        injection he with he
        injection he with he1 he2
        subst he1 he2
        rw [hat, Nat.zero_add] at hrow
        have hskip := Lib.hid (fun h => hS.out.skip_ hj h)
        have hkeep := Lib.hid (fun h => hS.out.keep hj h)
        obtain ⟨r, hr⟩ : ∃ r, r = rows[j] := ⟨_, rfl⟩
        rw [← hr] at hskip hkeep hrow
        clear hat hr
        obtain ⟨arr, hblk, hgb, hnc', _, hsz, htk⟩ := own_blk ho
        have i0 : (0 : Int) ≤ (j : Int) := by omega
        have i1 : (j : Int) < (rows.length : Int) := by omega
        have i2 : (0 : Int) ≤ (i : Int) := by omega
        have i3 : (i : Int) < (rows.length : Int) := by omega
        have hcall := hPh.out (wr.alloc (.cells (rowCells r).toArray 114)) r (grown_then hg ((Below.refl _ _).alloc (Nat.le_refl _) _))
        have htkh := Lib.hid htk
        have hpat := Lib.hid (flat_set (rows := cur) (k := i) (by omega) r (cur := arr) (m := rows.length * 11) (by rw [hcl]) htk (by omega))
        have hpsz := patch_size (rowCells r) arr (i * 11)
        clear hRc htk
        generalize p r = B at *
        obtain ⟨idx, gen, has, vals, h8⟩ := r
        obtain ⟨a0, a1, a2, a3, a4, a5, a6, a7, rfl⟩ := vals_eight h8
        obtain ⟨c0, c1, c2⟩ := hrow.head
        have v0 := hrow 3 (.int .i64 a0) rfl; have v1 := hrow 4 (.int .i64 a1) rfl; have v2 := hrow 5 (.int .i64 a2) rfl; have v3 := hrow 6 (.int .i64 a3) rfl; have v4 := hrow 7 (.int .i64 a4) rfl; have v5 := hrow 8 (.int .i64 a5) rfl; have v6 := hrow 9 (.int .i64 a6) rfl; have v7 := hrow 10 (.int .i64 a7) rfl
        simp only at c0 c1 c2
        have hrv : rowV ⟨idx, gen, has, [a0, a1, a2, a3, a4, a5, a6, a7], h8⟩ = .agg #[.int .i64 idx, .int .i64 gen, .int .i64 has, .int .i64 a0, .int .i64 a1, .int .i64 a2, .int .i64 a3, .int .i64 a4, .int .i64 a5, .int .i64 a6, .int .i64 a7] := rfl
        have hrw2 : (rowCells ⟨idx, gen, has, [a0, a1, a2, a3, a4, a5, a6, a7], h8⟩).toArray = #[.int .i64 idx, .int .i64 gen, .int .i64 has, .int .i64 a0, .int .i64 a1, .int .i64 a2, .int .i64 a3, .int .i64 a4, .int .i64 a5, .int .i64 a6, .int .i64 a7] := rfl
        rw [hrv, hrw2] at hcall
        have hcallh := Lib.hid hcall
        have hblkh := Lib.hid hblk
        clear hcall hrv hrw2 hrow hblk
        go_wp2_with fail
        refine hcallh.out.mono ?_
        rintro e w2 ⟨rfl, hb2⟩
        have hslt : (wr.alloc (.cells #[.int .i64 idx, .int .i64 gen, .int .i64 has, .int .i64 a0, .int .i64 a1, .int .i64 a2, .int .i64 a3, .int .i64 a4, .int .i64 a5, .int .i64 a6, .int .i64 a7] 114)).heap.size = wr.heap.size + 1 := by simp
        have hblk2 : Blk w2 g 114 arr := (hblkh.out.alloc _).below hb2 (by rw [hslt]; omega)
        have hbox2 : Blk w2 wr.heap.size 114 #[.int .i64 idx, .int .i64 gen, .int .i64 has, .int .i64 a0, .int .i64 a1, .int .i64 a2, .int .i64 a3, .int .i64 a4, .int .i64 a5, .int .i64 a6, .int .i64 a7] := (Blk.new wr _ _).below hb2 (by rw [hslt]; omega)
        have hg2 : w.grownBy w2 (some g) := grown_then (grown_then hg ((Below.refl _ _).alloc (Nat.le_refl _) _)) hb2
        clear hb2 hslt hg hcallh hblkh v0 v1 v2 v3 v4 v5 v6 v7 c0 c1 c2 ho
        cases B with
        | true =>
          have hS2 := Lib.hid (hskip.out rfl)
          have ho2 : w2.ownsRow base 114 11 (.slice (some ⟨g, 0, none⟩) rows.length c) rows.length (cur.flatMap rowCells) := own_of_blk hblk2 hgb hnc' hcm hsz htkh.out
          have ho3 := Lib.hid ho2
          clear ho2 hskip hkeep htkh hpat hblk2 hbox2
          go_wp2_with fail
          go_roundw
          case rel => exact ⟨i, j + 1, cur, rfl, by go_num, hS2, hg2, ho3.out⟩
          case measure => simp [intOf]; omega
        | false =>
          have hS2 := Lib.hid (hkeep.out rfl)
          have hfz : ∀ q, w2.frozen? ⟨g, q, none⟩ = false := hblk2.frozen
          have hcs : ∀ q, q < 11 → ∃ u, w2.cell? ⟨g, i * 11 + q, none⟩ = some u := fun q hq => ⟨_, (hblk2.cell (i * 11 + q)).trans (Array.getElem?_eq_getElem (by omega))⟩
          obtain ⟨u0, k0⟩ := hcs 0 (by omega); obtain ⟨u1, k1⟩ := hcs 1 (by omega); obtain ⟨u2, k2⟩ := hcs 2 (by omega); obtain ⟨u3, k3⟩ := hcs 3 (by omega); obtain ⟨u4, k4⟩ := hcs 4 (by omega); obtain ⟨u5, k5⟩ := hcs 5 (by omega); obtain ⟨u6, k6⟩ := hcs 6 (by omega); obtain ⟨u7, k7⟩ := hcs 7 (by omega); obtain ⟨u8, k8⟩ := hcs 8 (by omega); obtain ⟨u9, k9⟩ := hcs 9 (by omega); obtain ⟨u10, k10⟩ := hcs 10 (by omega)
          simp only [Nat.add_zero] at k0
          have z0 := hfz (i * 11); have z1 := hfz (i * 11 + 1); have z2 := hfz (i * 11 + 2); have z3 := hfz (i * 11 + 3); have z4 := hfz (i * 11 + 4); have z5 := hfz (i * 11 + 5); have z6 := hfz (i * 11 + 6); have z7 := hfz (i * 11 + 7); have z8 := hfz (i * 11 + 8); have z9 := hfz (i * 11 + 9); have z10 := hfz (i * 11 + 10)
          clear hcs hfz

          have c0 := hbox2.cell 0; have c1 := hbox2.cell 1; have c2 := hbox2.cell 2; have c3 := hbox2.cell 3; have c4 := hbox2.cell 4; have c5 := hbox2.cell 5; have c6 := hbox2.cell 6; have c7 := hbox2.cell 7; have c8 := hbox2.cell 8; have c9 := hbox2.cell 9; have c10 := hbox2.cell 10
          simp at c0 c1 c2 c3 c4 c5 c6 c7 c8 c9 c10
          have hB2 := Lib.hid (Blk.sets (rowCells ⟨idx, gen, has, [a0, a1, a2, a3, a4, a5, a6, a7], h8⟩) (i * 11) hblk2)
          have hG2 := Lib.hid (grown_sets g (rowCells ⟨idx, gen, has, [a0, a1, a2, a3, a4, a5, a6, a7], h8⟩) w2 (i * 11))
          have hw3 := Lib.hid (show w2.setCells g (i * 11) (rowCells ⟨idx, gen, has, [a0, a1, a2, a3, a4, a5, a6, a7], h8⟩) = ((((((((((w2.setCell ⟨g, i * 11, none⟩ (.int .i64 idx)).setCell ⟨g, i * 11 + 1, none⟩ (.int .i64 gen)).setCell ⟨g, i * 11 + 2, none⟩ (.int .i64 has)).setCell ⟨g, i * 11 + 3, none⟩ (.int .i64 a0)).setCell ⟨g, i * 11 + 4, none⟩ (.int .i64 a1)).setCell ⟨g, i * 11 + 5, none⟩ (.int .i64 a2)).setCell ⟨g, i * 11 + 6, none⟩ (.int .i64 a3)).setCell ⟨g, i * 11 + 7, none⟩ (.int .i64 a4)).setCell ⟨g, i * 11 + 8, none⟩ (.int .i64 a5)).setCell ⟨g, i * 11 + 9, none⟩ (.int .i64 a6)).setCell ⟨g, i * 11 + 10, none⟩ (.int .i64 a7) from rfl)
          clear hskip hkeep hblk2 hbox2
          go_wp2_with fail
          go_roundw
          case rel =>
            rw [← hw3.out]
            refine ⟨i + 1, j + 1, _, by go_num, by go_num, hS2, grown_grown hg2 hG2.out, ?_⟩
            exact own_of_blk hB2.out hgb hnc' hcm (by rw [patch_size]; exact hsz) hpat.out
          case measure => simp [intOf]; omega
      · obtain rfl : j = rows.length := by have := hS.out.le; omega
        have hin := hS.out.lt
        have hhead := hS.out.head
        rw [List.take_length] at hhead
        have hkl : (keepR p rows).length = i := by rw [← hhead, List.length_take, hS.out.len]; omega
        obtain ⟨arr, hblk, hgb, hnc', _, hsz, htk⟩ := own_blk ho
        have hzl : (Builtin.zeroCells (Value.agg #[.int .i64 0, .int .i64 0, .int .i64 0, .int .i64 0, .int .i64 0, .int .i64 0, .int .i64 0, .int .i64 0, .int .i64 0, .int .i64 0, .int .i64 0]).cells (rows.length - i)).toList.length = (rows.length - i) * 11 := by rw [Array.length_toList, size_zeroCells]; rfl
        have hcl := fun ty => run_clear_sz (P := Tryz.prog) wr 62 114 ty _ 11 g (i * 11) (rows.length - i) (c - i) Tryz.underlying62 zeroRow rfl (zeroCells_one (by decide)) (by omega)
          (fun q hq => by rw [hblk.cell, Array.getElem?_eq_getElem (by omega)]; rfl) (fun q _ => hblk.frozen _)
        generalize (Builtin.zeroCells (Value.agg #[.int .i64 0, .int .i64 0, .int .i64 0, .int .i64 0, .int .i64 0, .int .i64 0, .int .i64 0, .int .i64 0, .int .i64 0, .int .i64 0, .int .i64 0]).cells (rows.length - i)).toList = zs at hcl hzl
        have hB3 := Lib.hid (Blk.sets zs (i * 11) hblk)
        have hG3 := Lib.hid (grown_grown hg (grown_sets g zs wr (i * 11)))
        have htk2 : (patch arr (i * 11) zs).toList.take (i * 11) = (keepR p rows).flatMap rowCells := by
          rw [← hhead, rows_take, ← htk]
          apply List.ext_getElem?
          intro q
          rw [List.getElem?_take, List.getElem?_take, List.getElem?_take]
          split
          · rename_i hq
            rw [if_pos (by omega), Array.getElem?_toList, Array.getElem?_toList, patch_out _ _ _ _ (.inl hq)]
          · rfl
        have htk3 := Lib.hid htk2
        have b1 : ¬ (c = i) := by omega
        have b2 : (0 : Int) ≤ (i : Int) := by omega
        have b3 : (i : Int) ≤ (rows.length : Int) := by omega
        have b4 : (i : Int) ≤ (c : Int) := by omega
        have hclh := Lib.hid hcl
        have hszh := Lib.hid hsz
        have hklh := Lib.hid hkl
        clear htk2 htk hhead hblk hg ho hsz hzl hS hkl
        go_wp2_with (simp only [hcl])
        go_ret
        rw [hklh.out]
        exact ⟨_, rfl, own_of_blk hB3.out hgb (by omega) hcm (by rw [patch_size]; exact hszh.out) htk3.out, hG3.out, fun q hq => .inl hq⟩
end Go.Proofs.YtefdblaolmckmabGreat

namespace Go.Proofs.YtefdblaolmckmabGreat
open Go.RowKit
open Brood
set_option linter.unusedVariables false
set_option linter.unusedSimpArgs false
theorem enter_put (args : Array Value) (W : World) : (callFunc 61 args).run Tryz.prog W = .ok (.enter 61 args) W := by kernel_rfl
theorem enter_drop (args : Array Value) (W : World) : (callFunc 64 args).run Tryz.prog W = .ok (.enter 64 args) W := by kernel_rfl
theorem enter_kill1 (args : Array Value) (W : World) : (callFunc 55 args).run Tryz.prog W = .ok (.enter 55 args) W := by kernel_rfl
theorem enter_kill2 (args : Array Value) (W : World) : (callFunc 57 args).run Tryz.prog W = .ok (.enter 57 args) W := by kernel_rfl
set_option maxRecDepth 20000 in
set_option maxHeartbeats 3200000 in
theorem put_any (rows : List BRow) (gens : List Int) (Ar : Option Addr) (cr : Nat) (Ag : Option Addr) (cg : Nat) (i g part n : Int) (hlr : rows.length ≤ 9223372036854775807) (hlg : gens.length ≤ 9223372036854775807) (hnr : Ar = none → cr = 0 ∧ rows = []) (hng : Ag = none → cg = 0 ∧ gens = [])
    (w : World) (hr : RdR w w.heap.size Ar rows) (hg : RdG w w.heap.size Ag gens) :
    Calls Tryz.prog 20 #[.agg #[.slice Ar rows.length cr, .slice Ag gens.length cg], .agg #[.int .i64 i, .int .i64 g], .int .i64 part, .int .i64 n] w fun e w' =>
      ∃ v, e = .returned (.tuple #[v, .int .i64 (putV rows gens i g part n).err]) ∧ GotW w' w.heap.size v (putV rows gens i g part n).rows (putV rows gens i g part n).gens ∧ Below w.heap.size w w' := by
  have H0 := ((((Hp.start w).new w.heap.size rfl 64 [.slice Ar rows.length cr, .slice Ag gens.length cg]).new (w.heap.size + 1) (by simp) 24 [.int .i64 i, .int .i64 g]).new (w.heap.size + 1 + 1) (by simp) 3 [.int .i64 part]).new (w.heap.size + 1 + 1 + 1) (by simp) 3 [.int .i64 n]
  replace H0 := H0.new (w.heap.size + 1 + 1 + 1 + 1) (by simp) 64 [.slice none 0 0, .slice none 0 0]
  have hmf : ∀ (fn : Fn) (first cap : Array Value) (w : World), (Instr.makeFunc fn first cap).run Tryz.prog w = .ok (.func fn first cap) w := fun _ _ _ _ => rfl
  have hpv : Hid (putV rows gens i g part n = changeV rows gens i g (putF part n)) := Lib.hid rfl
  generalize putV rows gens i g part n = E at *
  go_enter Tryz.func20, Tryz.ntmps20
  go_wp2_with fail
  obtain ⟨w0, hw0, H0⟩ := H0.name
  rw [hw0]; clear hw0
  refine (change_any rows gens Ar cr Ag cg i g w.heap.size 61 #[.pointer (some ⟨w.heap.size + 1 + 1, 0, none⟩), .pointer (some ⟨w.heap.size + 1 + 1 + 1, 0, none⟩)] (putF part n) hlr hlg hnr hng w0 (H0.old hr) (H0.old hg) (H0.blk 0 rfl) ?hF enter_put).mono ?_
  case hF =>
    intro W b o cur r hbW hb hblk hrow hset
    have l2 := H0.lt 2 rfl; have l3 := H0.lt 3 rfl
    exact putF_any r hset part n b o (w.heap.size + 1 + 1) (w.heap.size + 1 + 1 + 1) W ((H0.blk 2 rfl).below hbW l2) ((H0.blk 3 rfl).below hbW l3) (by omega) (by omega) cur hblk hrow
  rintro e w1 ⟨v, rfl, hG, hb⟩
  rw [← hpv.out] at hG ⊢
  obtain ⟨vr, vg, rfl, hO⟩ := hG
  have H1 := H0.got2 hb hO.rows_ hO.gens_ (by decide)
  obtain ⟨Ar2, cr2, hvr, _, _⟩ := own_shape hO.rows_
  obtain ⟨Ag2, cg2, hvg, _, _⟩ := own_shape hO.gens_
  rw [hvr, hvg] at H1
  rw [hvr, hvg]
  clear H0 hO hb hvr hvg
  have q0 := H1.cell 4 0 rfl rfl; have q1 := H1.cell 4 1 rfl rfl; have y0 := H1.frozen 4 0 rfl; have y1 := H1.frozen 4 1 rfl
  have H2 := (H1.set 4 0 (.slice Ar2 E.rows.length cr2) rfl).set 4 1 (.slice Ag2 E.gens.length cg2) rfl
  have p0 := H2.cell 4 0 rfl rfl; have p1 := H2.cell 4 1 rfl rfl
  go_wp2_with fail
  refine bodyPost_ret (v := .tuple #[.agg #[.slice Ar2 E.rows.length cr2, .slice Ag2 E.gens.length cg2], .int .i64 E.err]) (by simp [results, Tryz.results20, go_sem, p0, p1]) rfl ⟨_, rfl, ⟨_, _, rfl, H2.owns 5 rfl, H2.owns 6 rfl⟩, H2.bel⟩
set_option maxRecDepth 20000 in
set_option maxHeartbeats 3200000 in
theorem drop_any (rows : List BRow) (gens : List Int) (Ar : Option Addr) (cr : Nat) (Ag : Option Addr) (cg : Nat) (i g part : Int) (hlr : rows.length ≤ 9223372036854775807) (hlg : gens.length ≤ 9223372036854775807) (hnr : Ar = none → cr = 0 ∧ rows = []) (hng : Ag = none → cg = 0 ∧ gens = [])
    (w : World) (hr : RdR w w.heap.size Ar rows) (hg : RdG w w.heap.size Ag gens) :
    Calls Tryz.prog 22 #[.agg #[.slice Ar rows.length cr, .slice Ag gens.length cg], .agg #[.int .i64 i, .int .i64 g], .int .i64 part] w fun e w' =>
      ∃ v, e = .returned (.tuple #[v, .int .i64 (dropV rows gens i g part).err]) ∧ GotW w' w.heap.size v (dropV rows gens i g part).rows (dropV rows gens i g part).gens ∧ Below w.heap.size w w' := by
  have H0 := (((Hp.start w).new w.heap.size rfl 64 [.slice Ar rows.length cr, .slice Ag gens.length cg]).new (w.heap.size + 1) (by simp) 24 [.int .i64 i, .int .i64 g]).new (w.heap.size + 1 + 1) (by simp) 3 [.int .i64 part]
  replace H0 := H0.new (w.heap.size + 1 + 1 + 1) (by simp) 64 [.slice none 0 0, .slice none 0 0]
  have hmf : ∀ (fn : Fn) (first cap : Array Value) (w : World), (Instr.makeFunc fn first cap).run Tryz.prog w = .ok (.func fn first cap) w := fun _ _ _ _ => rfl
  have hpv : Hid (dropV rows gens i g part = changeV rows gens i g (dropF part)) := Lib.hid rfl
  generalize dropV rows gens i g part = E at *
  go_enter Tryz.func22, Tryz.ntmps22
  go_wp2_with fail
  obtain ⟨w0, hw0, H0⟩ := H0.name
  rw [hw0]; clear hw0
  refine (change_any rows gens Ar cr Ag cg i g w.heap.size 64 #[.pointer (some ⟨w.heap.size + 1 + 1, 0, none⟩)] (dropF part) hlr hlg hnr hng w0 (H0.old hr) (H0.old hg) (H0.blk 0 rfl) ?hF enter_drop).mono ?_
  case hF =>
    intro W b o cur r hbW hb hblk hrow hset
    have l2 := H0.lt 2 rfl
    exact dropF_any r hset part b o (w.heap.size + 1 + 1) W ((H0.blk 2 rfl).below hbW l2) (by omega) cur hblk hrow
  rintro e w1 ⟨v, rfl, hG, hb⟩
  rw [← hpv.out] at hG ⊢
  obtain ⟨vr, vg, rfl, hO⟩ := hG
  have H1 := H0.got2 hb hO.rows_ hO.gens_ (by decide)
  obtain ⟨Ar2, cr2, hvr, _, _⟩ := own_shape hO.rows_
  obtain ⟨Ag2, cg2, hvg, _, _⟩ := own_shape hO.gens_
  rw [hvr, hvg] at H1
  rw [hvr, hvg]
  clear H0 hO hb hvr hvg
  have q0 := H1.cell 3 0 rfl rfl; have q1 := H1.cell 3 1 rfl rfl; have y0 := H1.frozen 3 0 rfl; have y1 := H1.frozen 3 1 rfl
  have H2 := (H1.set 3 0 (.slice Ar2 E.rows.length cr2) rfl).set 3 1 (.slice Ag2 E.gens.length cg2) rfl
  have p0 := H2.cell 3 0 rfl rfl; have p1 := H2.cell 3 1 rfl rfl
  go_wp2_with fail
  refine bodyPost_ret (v := .tuple #[.agg #[.slice Ar2 E.rows.length cr2, .slice Ag2 E.gens.length cg2], .int .i64 E.err]) (by simp [results, Tryz.results22, go_sem, p0, p1]) rfl ⟨_, rfl, ⟨_, _, rfl, H2.owns 4 rfl, H2.owns 5 rfl⟩, H2.bel⟩
set_option maxRecDepth 20000 in
set_option maxHeartbeats 1600000 in
theorem isB2_any (r : BRow) (i g : Int) (b : Nat) (w : World) (h : Blk w b 24 #[.int .i64 i, .int .i64 g]) :
    Calls Tryz.prog 57 #[rowV r, .pointer (some ⟨b, 0, none⟩)] w fun e w' => e = .returned (.bool (isB i g r)) ∧ Below w.heap.size w w' := by
  have hib : Hid (isB i g r = (r.idx == i && r.gen == g)) := Lib.hid rfl
  generalize isB i g r = B at *
  obtain ⟨idx, gen, has, vals, h8⟩ := r
  obtain ⟨a0, a1, a2, a3, a4, a5, a6, a7, rfl⟩ := vals_eight h8
  simp only at hib
  have b0 := h.cell 0; have b1 := h.cell 1
  have hlt := h.lt
  simp at b0 b1
  have hrv : rowV ⟨idx, gen, has, [a0, a1, a2, a3, a4, a5, a6, a7], h8⟩ = .agg #[.int .i64 idx, .int .i64 gen, .int .i64 has, .int .i64 a0, .int .i64 a1, .int .i64 a2, .int .i64 a3, .int .i64 a4, .int .i64 a5, .int .i64 a6, .int .i64 a7] := rfl
  rw [hrv]
  go_enter Tryz.func57, Tryz.ntmps57
  go_wp2_with fail
  all_goals (go_ret; exact ⟨ret_bool (by rw [hib.out]; simp [*]), (Below.refl _ _).alloc (Nat.le_refl _) _⟩)
set_option maxRecDepth 20000 in
set_option maxHeartbeats 6400000 in
theorem kill_any (rows : List BRow) (gens : List Int) (Ar : Option Addr) (cr : Nat) (Ag : Option Addr) (cg : Nat) (i g : Int) (hlr : rows.length ≤ 9223372036854775807) (hlg : gens.length ≤ 9223372036854775807) (hnr : Ar = none → cr = 0 ∧ rows = []) (hng : Ag = none → cg = 0 ∧ gens = [])
    (w : World) (hr : RdR w w.heap.size Ar rows) (hg : RdG w w.heap.size Ag gens) :
    Calls Tryz.prog 18 #[.agg #[.slice Ar rows.length cr, .slice Ag gens.length cg], .agg #[.int .i64 i, .int .i64 g]] w fun e w' =>
      ∃ v, e = .returned (.tuple #[v, .int .i64 (killV rows gens i g).err]) ∧ GotW w' w.heap.size v (killV rows gens i g).rows (killV rows gens i g).gens ∧ Below w.heap.size w w' := by
  have H0 := ((Hp.start w).new w.heap.size rfl 64 [.slice Ar rows.length cr, .slice Ag gens.length cg]).new (w.heap.size + 1) (by simp) 24 [.int .i64 i, .int .i64 g]
  replace H0 := H0.new (w.heap.size + 1 + 1) (by simp) 64 [.slice none 0 0, .slice none 0 0]
  have hmf : ∀ (fn : Fn) (first cap : Array Value) (w : World), (Instr.makeFunc fn first cap).run Tryz.prog w = .ok (.func fn first cap) w := fun _ _ _ _ => rfl
  have hpv : Hid (killV rows gens i g = if (changeV rows gens i g keepF).err = 0 then ⟨keepR (isB i g) (changeV rows gens i g keepF).rows, (changeV rows gens i g keepF).gens, 0⟩ else changeV rows gens i g keepF) := Lib.hid rfl
  have hcl : Hid ((changeV rows gens i g keepF).err = 0 → (changeV rows gens i g keepF).rows.length ≤ 1000000) := Lib.hid (by
    intro _
    unfold changeV
    split
    · simp
    · rename_i hwe
      have hrw := (right_iff rows gens).1 (by simpa using hwe)
      have := hrw.rows_le; have := hrw.len
      split
      · simp
      · split
        · simp
        · split
          · simp
          · simp; omega)
  generalize killV rows gens i g = K at *
  go_enter Tryz.func18, Tryz.ntmps18
  go_wp2_with fail
  obtain ⟨w0, hw0, H0⟩ := H0.name
  rw [hw0]; clear hw0
  refine (change_any rows gens Ar cr Ag cg i g w.heap.size 55 #[] keepF hlr hlg hnr hng w0 (H0.old hr) (H0.old hg) (H0.blk 0 rfl) ?hF enter_kill1).mono ?_
  case hF =>
    intro W b o cur r hbW hb hblk hrow hset
    refine (keepF_any _ W).mono ?_
    rintro e W' ⟨rfl, rfl⟩
    exact ⟨rfl, grown_refl _ _, by rw [show (keepF r).1 = r from rfl, patch_same hrow]; exact hblk⟩
  rintro e w1 ⟨v, rfl, hG, hb⟩
  generalize changeV rows gens i g keepF = E at *
  obtain ⟨er, eg, ee⟩ := E
  obtain ⟨vr, vg, rfl, hO⟩ := hG
  dsimp only at hcl hpv hO ⊢
  have H1 := H0.got2 hb hO.rows_ hO.gens_ (by decide)
  obtain ⟨Ar2, cr2, hvr, _, _⟩ := own_shape hO.rows_
  obtain ⟨Ag2, cg2, hvg, _, _⟩ := own_shape hO.gens_
  skip
  subst hvr hvg
  clear H0 hO hb
  have l1 := H1.lt 1 rfl; have l2 := H1.lt 2 rfl
  replace H1 := H1.new w1.heap.size rfl 64 [.slice Ar2 er.length cr2, .slice Ag2 eg.length cg2]
  by_cases hee : ee = 0
  · subst hee
    have hK : Hid (K = ⟨keepR (isB i g) er, eg, 0⟩) := Lib.hid (by rw [hpv.out, if_pos rfl])
    have hel := hcl.out rfl
    clear hpv hcl
    go_wp2_with fail
    obtain ⟨w2, hw2, H1⟩ := H1.name
    rw [hw2]; clear hw2
    refine (delrows_any er hel 57 #[.pointer (some ⟨w.heap.size + 1, 0, none⟩)] (isB i g) _ w.heap.size w2 (H1.owns 3 rfl) ?hP enter_kill2).mono ?_
    case hP =>
      intro W r hgW
      have hap := H1.apart (i := 1) (j := 3) rfl rfl (by omega) (g := w.heap.size + 1) rfl
      exact isB2_any r i g (w.heap.size + 1) W ((H1.blk 1 rfl).grown hgW (fun e => hap e.symm))
    rintro e w3 ⟨v3, rfl, hown3, hgrow3, hat3⟩
    have H3 := H1.step (p' := .own v3 114 11 (keepR (isB i g) er).length _) 3 rfl hgrow3 hown3 hat3
    obtain ⟨A3, c3, hv3, _, _⟩ := own_shape hown3
    subst hv3
    clear H1 hown3 hgrow3 hat3
    have q0 := H3.cell 2 0 rfl rfl; have q1 := H3.cell 2 1 rfl rfl; have y0 := H3.frozen 2 0 rfl; have y1 := H3.frozen 2 1 rfl
    have x0 := H3.cell 5 0 rfl rfl; have x1 := H3.cell 5 1 rfl rfl; have z0 := H3.frozen 5 0 rfl
    have n1 := H3.ne 2 5 rfl rfl (by omega); have n2 := n1.symm
    generalize keepR (isB i g) er = kr at *
    have H4 := ((H3.set 5 0 (.slice A3 kr.length c3) rfl).set 2 0 (.slice A3 kr.length c3) rfl).set 2 1 (.slice Ag2 eg.length cg2) rfl
    have p0 := H4.cell 2 0 rfl rfl; have p1 := H4.cell 2 1 rfl rfl
    go_wp2_with fail
    refine bodyPost_ret (v := .tuple #[.agg #[.slice A3 kr.length c3, .slice Ag2 eg.length cg2], .int .i64 0]) (by simp [results, Tryz.results18, go_sem, p0, p1]) rfl ⟨_, by rw [hK.out], by rw [hK.out]; exact ⟨_, _, rfl, H4.owns 3 rfl, H4.owns 4 rfl⟩, H4.bel⟩
  · have hee' : (ee == 0) = false := by simpa using hee
    have hK : Hid (K = ⟨er, eg, ee⟩) := Lib.hid (by rw [hpv.out, if_neg hee])
    clear hpv hcl
    have H1' := H1.drop1 5
    go_upto_region 4 with fail
    obtain ⟨w2, hw2, H3⟩ := H1.name
    rw [hw2]; clear hw2
    have q0 := H3.cell 2 0 rfl rfl; have q1 := H3.cell 2 1 rfl rfl; have y0 := H3.frozen 2 0 rfl; have y1 := H3.frozen 2 1 rfl
    have x0 := H3.cell 5 0 rfl rfl; have x1 := H3.cell 5 1 rfl rfl
    have H4 := (H3.set 2 0 (.slice Ar2 er.length cr2) rfl).set 2 1 (.slice Ag2 eg.length cg2) rfl
    have p0 := H4.cell 2 0 rfl rfl; have p1 := H4.cell 2 1 rfl rfl
    go_wp2_with fail
    refine bodyPost_ret (v := .tuple #[.agg #[.slice Ar2 er.length cr2, .slice Ag2 eg.length cg2], .int .i64 ee]) (by simp [results, Tryz.results18, go_sem, p0, p1]) rfl ⟨_, by rw [hK.out], by rw [hK.out]; exact ⟨_, _, rfl, H4.owns 3 rfl, H4.owns 4 rfl⟩, H4.bel⟩
end Go.Proofs.YtefdblaolmckmabGreat

namespace Go.Proofs.YtefdblaolmckmabGreat
open Go.RowKit
open Brood
set_option linter.unusedVariables false
set_option linter.unusedSimpArgs false
theorem enter_sput (args : Array Value) (W : World) : (callFunc 58 args).run Tryz.prog W = .ok (.enter 58 args) W := by kernel_rfl
theorem enter_sdrop (args : Array Value) (W : World) : (callFunc 62 args).run Tryz.prog W = .ok (.enter 62 args) W := by kernel_rfl
theorem enter_skill (args : Array Value) (W : World) : (callFunc 53 args).run Tryz.prog W = .ok (.enter 53 args) W := by kernel_rfl
set_option maxRecDepth 20000 in
set_option maxHeartbeats 3200000 in
theorem skill_any (l : List TabIn) (A : Option Addr) (c : Nat) (gens : List Int) (Ag : Option Addr) (cg : Nat) (i g : Int) (hs : StSmall l gens) (w : World) (h : RdSt w w.heap.size ⟨A, c, l, Ag, cg, gens⟩) :
    Calls Tryz.prog 17 #[.agg #[.slice A l.length c, .slice Ag gens.length cg], .agg #[.int .i64 i, .int .i64 g]] w fun e w' =>
      ∃ v, e = .returned (.tuple #[v, .int .i64 (chgT (l.map tabOf) gens i g keep3).err]) ∧ GotSt w w' v (chgT (l.map tabOf) gens i g keep3).tabs (chgT (l.map tabOf) gens i g keep3).gens := by
  have H0 := (((Hp.start w).new w.heap.size rfl 40 [.slice A l.length c, .slice Ag gens.length cg]).new (w.heap.size + 1) (by simp) 24 [.int .i64 i, .int .i64 g]).new (w.heap.size + 1 + 1) (by simp) 40 [.slice none 0 0, .slice none 0 0]
  have hch := Lib.hid (fun w0 hR hF => schange_any l A c gens Ag cg i g hs 53 #[] keep3 w0 hR hF keep3_ok enter_skill)
  generalize chgT (l.map tabOf) gens i g keep3 = E at *
  have hmf : ∀ (fn : Fn) (first cap : Array Value) (w : World), (Instr.makeFunc fn first cap).run Tryz.prog w = .ok (.func fn first cap) w := fun _ _ _ _ => rfl
  go_enter Tryz.func17, Tryz.ntmps17
  go_wp2_with fail
  obtain ⟨w0, hw0, H0⟩ := H0.name
  rw [hw0]; clear hw0
  refine (hch.out w0 (h.hp H0) ?hF).mono ?_
  case hF =>
    intro W b r hbW hb hblk hrow
    refine (skeepF_any _ W).mono ?_
    rintro e w' ⟨rfl, rfl⟩
    exact ⟨rfl, grown_refl _ _, hblk⟩
  rintro e w1 ⟨v, rfl, hI⟩
  obtain ⟨A2, c2, l2, Ag2, cg2, rfl, hl2, hG⟩ := hI
  have H1 := H0.join hG
  have q0 := H1.cell 2 0 rfl rfl; have q1 := H1.cell 2 1 rfl rfl; have y0 := H1.frozen 2 0 rfl; have y1 := H1.frozen 2 1 rfl
  have H2 := (H1.set 2 0 (.slice A2 l2.length c2) rfl).set 2 1 (.slice Ag2 E.gens.length cg2) rfl
  have p0 := H2.cell 2 0 rfl rfl; have p1 := H2.cell 2 1 rfl rfl
  have H2h := Lib.hid H2
  clear H0 H1 H2 hG
  go_wp2_with fail
  refine bodyPost_ret (v := .tuple #[.agg #[.slice A2 l2.length c2, .slice Ag2 E.gens.length cg2], .int .i64 E.err]) (by simp [results, Tryz.results17, go_sem, p0, p1]) rfl ⟨_, rfl, A2, c2, l2, Ag2, cg2, rfl, hl2, H2h.out.last (E := [_, _, _])⟩
set_option maxRecDepth 20000 in
set_option maxHeartbeats 3200000 in
theorem sput_any (l : List TabIn) (A : Option Addr) (c : Nat) (gens : List Int) (Ag : Option Addr) (cg : Nat) (i g part n : Int) (hs : StSmall l gens) (w : World) (h : RdSt w w.heap.size ⟨A, c, l, Ag, cg, gens⟩) :
    Calls Tryz.prog 19 #[.agg #[.slice A l.length c, .slice Ag gens.length cg], .agg #[.int .i64 i, .int .i64 g], .int .i64 part, .int .i64 n] w fun e w' =>
      ∃ v, e = .returned (.tuple #[v, .int .i64 (chgT (l.map tabOf) gens i g (put3 part n)).err]) ∧ GotSt w w' v (chgT (l.map tabOf) gens i g (put3 part n)).tabs (chgT (l.map tabOf) gens i g (put3 part n)).gens := by
  have H0 := (((((Hp.start w).new w.heap.size rfl 40 [.slice A l.length c, .slice Ag gens.length cg]).new (w.heap.size + 1) (by simp) 24 [.int .i64 i, .int .i64 g]).new (w.heap.size + 1 + 1) (by simp) 3 [.int .i64 part]).new (w.heap.size + 1 + 1 + 1) (by simp) 3 [.int .i64 n]).new (w.heap.size + 1 + 1 + 1 + 1) (by simp) 40 [.slice none 0 0, .slice none 0 0]
  have hch := Lib.hid (fun w0 hR hF => schange_any l A c gens Ag cg i g hs 58 #[.pointer (some ⟨w.heap.size + 1 + 1, 0, none⟩), .pointer (some ⟨w.heap.size + 1 + 1 + 1, 0, none⟩)] (put3 part n) w0 hR hF (put3_ok part n) enter_sput)
  generalize chgT (l.map tabOf) gens i g (put3 part n) = E at *
  have hmf : ∀ (fn : Fn) (first cap : Array Value) (w : World), (Instr.makeFunc fn first cap).run Tryz.prog w = .ok (.func fn first cap) w := fun _ _ _ _ => rfl
  go_enter Tryz.func19, Tryz.ntmps19
  go_wp2_with fail
  obtain ⟨w0, hw0, H0⟩ := H0.name
  rw [hw0]; clear hw0
  refine (hch.out w0 (h.hp H0) ?hF).mono ?_
  case hF =>
    intro W b r hbW hb hblk hrow
    have l2 := H0.lt 2 rfl; have l3 := H0.lt 3 rfl
    have := sputF_any r ((rowErr_iff r).1 hrow).1 part n b 0 (w.heap.size + 1 + 1) (w.heap.size + 1 + 1 + 1) W ((H0.blk 2 rfl).below hbW l2) ((H0.blk 3 rfl).below hbW l3) (by omega) (by omega) _ hblk (rowIn_whole r)
    rw [patch_whole] at this
    exact this
  rintro e w1 ⟨v, rfl, hI⟩
  obtain ⟨A2, c2, l2, Ag2, cg2, rfl, hl2, hG⟩ := hI
  have H1 := H0.join hG
  have q0 := H1.cell 4 0 rfl rfl; have q1 := H1.cell 4 1 rfl rfl; have y0 := H1.frozen 4 0 rfl; have y1 := H1.frozen 4 1 rfl
  have H2 := (H1.set 4 0 (.slice A2 l2.length c2) rfl).set 4 1 (.slice Ag2 E.gens.length cg2) rfl
  have p0 := H2.cell 4 0 rfl rfl; have p1 := H2.cell 4 1 rfl rfl
  have H2h := Lib.hid H2
  clear H0 H1 H2 hG
  go_wp2_with fail
  refine bodyPost_ret (v := .tuple #[.agg #[.slice A2 l2.length c2, .slice Ag2 E.gens.length cg2], .int .i64 E.err]) (by simp [results, Tryz.results19, go_sem, p0, p1]) rfl ⟨_, rfl, A2, c2, l2, Ag2, cg2, rfl, hl2, H2h.out.last (E := [_, _, _, _, _])⟩
set_option maxRecDepth 20000 in
set_option maxHeartbeats 3200000 in
theorem sdrop_any (l : List TabIn) (A : Option Addr) (c : Nat) (gens : List Int) (Ag : Option Addr) (cg : Nat) (i g part : Int) (hs : StSmall l gens) (w : World) (h : RdSt w w.heap.size ⟨A, c, l, Ag, cg, gens⟩) :
    Calls Tryz.prog 21 #[.agg #[.slice A l.length c, .slice Ag gens.length cg], .agg #[.int .i64 i, .int .i64 g], .int .i64 part] w fun e w' =>
      ∃ v, e = .returned (.tuple #[v, .int .i64 (chgT (l.map tabOf) gens i g (drop3 part)).err]) ∧ GotSt w w' v (chgT (l.map tabOf) gens i g (drop3 part)).tabs (chgT (l.map tabOf) gens i g (drop3 part)).gens := by
  have H0 := ((((Hp.start w).new w.heap.size rfl 40 [.slice A l.length c, .slice Ag gens.length cg]).new (w.heap.size + 1) (by simp) 24 [.int .i64 i, .int .i64 g]).new (w.heap.size + 1 + 1) (by simp) 3 [.int .i64 part]).new (w.heap.size + 1 + 1 + 1) (by simp) 40 [.slice none 0 0, .slice none 0 0]
  have hch := Lib.hid (fun w0 hR hF => schange_any l A c gens Ag cg i g hs 62 #[.pointer (some ⟨w.heap.size + 1 + 1, 0, none⟩)] (drop3 part) w0 hR hF (drop3_ok part) enter_sdrop)
  generalize chgT (l.map tabOf) gens i g (drop3 part) = E at *
  have hmf : ∀ (fn : Fn) (first cap : Array Value) (w : World), (Instr.makeFunc fn first cap).run Tryz.prog w = .ok (.func fn first cap) w := fun _ _ _ _ => rfl
  go_enter Tryz.func21, Tryz.ntmps21
  go_wp2_with fail
  obtain ⟨w0, hw0, H0⟩ := H0.name
  rw [hw0]; clear hw0
  refine (hch.out w0 (h.hp H0) ?hF).mono ?_
  case hF =>
    intro W b r hbW hb hblk hrow
    have l2 := H0.lt 2 rfl
    have := sdropF_any r ((rowErr_iff r).1 hrow).1 part b 0 (w.heap.size + 1 + 1) W ((H0.blk 2 rfl).below hbW l2) (by omega) _ hblk (rowIn_whole r)
    rw [patch_whole] at this
    exact this
  rintro e w1 ⟨v, rfl, hI⟩
  obtain ⟨A2, c2, l2, Ag2, cg2, rfl, hl2, hG⟩ := hI
  have H1 := H0.join hG
  have q0 := H1.cell 3 0 rfl rfl; have q1 := H1.cell 3 1 rfl rfl; have y0 := H1.frozen 3 0 rfl; have y1 := H1.frozen 3 1 rfl
  have H2 := (H1.set 3 0 (.slice A2 l2.length c2) rfl).set 3 1 (.slice Ag2 E.gens.length cg2) rfl
  have p0 := H2.cell 3 0 rfl rfl; have p1 := H2.cell 3 1 rfl rfl
  have H2h := Lib.hid H2
  clear H0 H1 H2 hG
  go_wp2_with fail
  refine bodyPost_ret (v := .tuple #[.agg #[.slice A2 l2.length c2, .slice Ag2 E.gens.length cg2], .int .i64 E.err]) (by simp [results, Tryz.results21, go_sem, p0, p1]) rfl ⟨_, rfl, A2, c2, l2, Ag2, cg2, rfl, hl2, H2h.out.last (E := [_, _, _, _])⟩
end Go.Proofs.YtefdblaolmckmabGreat
