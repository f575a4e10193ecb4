/- The walk of plain.Wrong. -/
import Derived.Test.YtefdblaolmckmaaPlainB
import Derived.BigQuiet
import Derived.Deep.DeepCutAuto
import Derived.Deep.QuietTactic
namespace Go.Proofs.Ytefdblaolmckmaa
open Go.RowKit
open Brood
set_option linter.unusedVariables false
set_option linter.unusedSimpArgs false

def prevOf (rows : List BRow) (k : Nat) : Option Int := if k = 0 then none else (rows[k - 1]?).map (·.idx)
/-- A world's value: two slices. -/
def worldV (W : BWorld) (Ar : Option Addr) (cr : Nat) (Ag : Option Addr) (cg : Nat) : Value := .agg #[.slice Ar W.rows.length cr, .slice Ag W.gens.length cg]
theorem rowsFrom_ok {gens : List Int} {k : Nat} {p : Option Int} {r : BRow} {l : List BRow} (h1 : rowErr r = 0) (h2 : ¬ (r.idx < 0 ∨ (gens.length : Int) ≤ r.idx)) (h3 : prevGe p r.idx = false)
    (h4 : r.gen = gens.getD r.idx.toNat 0) : rowsFrom gens k p (r :: l) = rowsFrom gens (k + 1) (some r.idx) l := by
  rw [rowsFrom, if_neg (by simpa using h1), if_neg h2, if_neg (by rw [h3]; decide), if_neg (by simpa using h4)]

set_option maxRecDepth 20000 in
set_option maxHeartbeats 6400000 in
theorem pwrong_any (rows : List BRow) (gens : List Int) (Ar : Option Addr) (cr : Nat) (Ag : Option Addr) (cg : Nat) (hlenr : rows.length ≤ 9223372036854775807) (w : World) (hr : RdR w w.heap.size Ar rows) (hg : RdG w w.heap.size Ag gens) :
    Calls Try.prog 54 #[.agg #[.slice Ar rows.length cr, .slice Ag gens.length cg]] w fun e w' => e = .returned (.agg #[.int .i64 (worldErr ⟨rows, gens⟩).1, .int .i64 (worldErr ⟨rows, gens⟩).2]) ∧ Below w.heap.size w w' := by
  have B0 := (Blk.new w 66 #[.slice Ar rows.length cr, .slice Ag gens.length cg]).alloc (.cells #[.int .i64 0, .int .i64 0] 43)
  have F0 := Blk.new (w.alloc (.cells #[.slice Ar rows.length cr, .slice Ag gens.length cg] 66)) 43 #[.int .i64 0, .int .i64 0]
  simp only [World.size_alloc] at F0
  have hg0 : RdG ((w.alloc (.cells #[.slice Ar rows.length cr, .slice Ag gens.length cg] 66)).alloc (.cells #[.int .i64 0, .int .i64 0] 43)) w.heap.size Ag gens := Rd.alloc (Rd.alloc hg (Nat.le_refl _) _) (by simp) _
  have hr0 : RdR ((w.alloc (.cells #[.slice Ar rows.length cr, .slice Ag gens.length cg] 66)).alloc (.cells #[.int .i64 0, .int .i64 0] 43)) w.heap.size Ar rows := Rd.alloc (Rd.alloc hr (Nat.le_refl _) _) (by simp) _
  have hbel0 : Below w.heap.size w ((w.alloc (.cells #[.slice Ar rows.length cr, .slice Ag gens.length cg] 66)).alloc (.cells #[.int .i64 0, .int .i64 0] 43)) := ((Below.refl _ _).alloc (Nat.le_refl _) _).alloc (by simp) _
  have hwe : Hid (worldErr ⟨rows, gens⟩ = if (gensErr gens).1 ≠ 0 then gensErr gens else rowsFrom gens 0 none rows) := Lib.hid rfl
  generalize worldErr ⟨rows, gens⟩ = E at *
  go_enter Try.func54, Try.ntmps54
  go_wp2_with fail
  refine (gens_any gens Ag cg _ (Rd.more hg0 (by simp; omega))).mono ?_
  rintro e w1 ⟨rfl, hb1⟩
  have B1 := B0.below hb1 (by simp; omega)
  have F1 := F0.below hb1 (by simp)
  have hg1 : RdG w1 w.heap.size Ag gens := Rd.under hg0 hb1 (by simp; omega)
  have hr1 : RdR w1 w.heap.size Ar rows := Rd.under hr0 hb1 (by simp; omega)
  have hbel1 : Below w.heap.size w w1 := hbel0.trans (hb1.mono (by simp; omega))
  have hs1 := F1.lt
  have hs0 := B1.lt
  clear B0 F0 hg0 hr0 hbel0 hb1 hr hg
  by_cases hge : (gensErr gens).1 = 0
  case neg =>
    have hE : Hid (E = gensErr gens) := Lib.hid (by rw [hwe.out, if_pos hge])
    have hx' : ((gensErr gens).1 != 0) = true := by simpa using hge
    have f0 := F1.cell 0; have f1 := F1.cell 1; have z0 := F1.frozen 0; have z1 := F1.frozen 1
    simp at f0 f1
    have HQ := ((F1.set_ 0 (.int .i64 (gensErr gens).1)).set_ 1 (.int .i64 (gensErr gens).2)).alloc (.cells #[.int .i64 (gensErr gens).1, .int .i64 (gensErr gens).2] 43)
    have r0 := HQ.cell 0; have r1 := HQ.cell 1
    simp at r0 r1
    go_wp2_with fail
    refine bodyPost_ret (v := .agg #[.int .i64 (gensErr gens).1, .int .i64 (gensErr gens).2]) (by simp [results, Try.results54, go_sem, r0, r1]) rfl ⟨by rw [hE.out], ?_⟩
    exact ((hbel1.setCell (by simp) _).setCell (by simp) _).alloc (by simp; omega) _
  case pos =>
    have hE : Hid (E = rowsFrom gens 0 none rows) := Lib.hid (by rw [hwe.out, if_neg (by simpa using hge)])
    rw [hge]
    have k0 := B1.cell 0; have k1 := B1.cell 1
    simp at k0 k1
    have B2 := B1.alloc (.cells #[.int .i64 0, .int .i64 (gensErr gens).2] 43)
    have F2 := F1.alloc (.cells #[.int .i64 0, .int .i64 (gensErr gens).2] 43)
    have hg2 : RdG _ w.heap.size Ag gens := Rd.alloc hg1 hbel1.size (.cells #[.int .i64 0, .int .i64 (gensErr gens).2] 43)
    have hr2 : RdR _ w.heap.size Ar rows := Rd.alloc hr1 hbel1.size (.cells #[.int .i64 0, .int .i64 (gensErr gens).2] 43)
    have hbel2 := hbel1.alloc hbel1.size (.cells #[.int .i64 0, .int .i64 (gensErr gens).2] 43)
    go_wp2_with fail
    clear B1 F1 hg1 hr1 hbel1 k0 k1
    have hlg : gens.length ≤ 60 := by
      rcases Nat.lt_or_ge 60 gens.length with h | h
      · simp [gensErr, h] at hge
      · exact h
    go_loopw [18] (fun i wr => ∃ k : Nat, k ≤ rows.length ∧ i = .int .i64 k ∧ Hid (E = rowsFrom gens k (prevOf rows k) (rows.drop k)) ∧ Below w.heap.size w wr ∧ RdR wr w.heap.size Ar rows ∧ RdG wr w.heap.size Ag gens ∧
        Blk wr w.heap.size 66 #[.slice Ar rows.length cr, .slice Ag gens.length cg] ∧ Blk wr (w.heap.size + 1) 43 #[.int .i64 0, .int .i64 0]) (fun i _ => rows.length - (intOf i).toNat)
    case atStart => exact ⟨0, by omega, rfl, Lib.hid (by rw [hE.out]; simp [prevOf]), hbel2, hr2, hg2, B2, F2⟩
    case round =>
      clear B2 F2 hg2 hr2 hbel2 hs0 hs1
      obtain ⟨k, hk, rfl, heq, hbel, hR, hG, HB, HF⟩ := hrel
      have e0 := HB.cell 0; have e1 := HB.cell 1
      have f0 := HF.cell 0; have f1 := HF.cell 1; have z0 := HF.frozen 0; have z1 := HF.frozen 1
      simp at e0 e1 f0 f1
      have s1 := HF.lt; have s0 := HB.lt
      by_cases hlt : k < rows.length
      · obtain ⟨b, off, rfl, hb, hrow⟩ := hR.at_ hlt
        have hst := Lib.hid (drop_cons hlt)
        have hpn : Hid (prevOf rows (k + 1) = some rows[k].idx) := Lib.hid (by simp [prevOf, List.getElem?_eq_getElem hlt])
        have hsw := hbel.size
        have hcall := Lib.hid (row_any rows[k] b (off + k * 11) wr (by omega) hrow)
        generalize rows[k] = r at *
        have i0 : (0 : Int) ≤ (k : Int) := by omega
        have i1 : (k : Int) < (rows.length : Int) := by omega
        go_wp2_with fail
        refine hcall.out.mono ?_
        rintro e w2 ⟨rfl, rfl⟩
        clear hcall
        cases hx : (decide (rowErr r = 0)) with
        | false =>
          have hx1 := of_decide_eq_false hx
          have hx' : (rowErr r != 0) = true := by simpa using hx1
          have hEf : Hid (E = (rowErr r, (k : Int))) := Lib.hid (by rw [heq.out, hst.out, rowsFrom, if_pos hx1])
          clear hx hx1
          have HQ := ((HF.set_ 0 (.int .i64 (rowErr r))).set_ 1 (.int .i64 (k : Int)))
          have r0 := HQ.cell 0; have r1 := HQ.cell 1
          simp at r0 r1
          go_wp2_with fail
          refine bodyPost_ret (v := .agg #[.int .i64 (rowErr r), .int .i64 (k : Int)]) (by simp [results, Try.results54, go_sem, r0, r1]) rfl ⟨by rw [hEf.out], (hbel.setCell (by simp) _).setCell (by simp) _⟩
        | true =>
          have hre : rowErr r = 0 := of_decide_eq_true hx
          have hx' : (rowErr r != 0) = false := by simpa using hre
          have hok := Lib.hid (@rowsFrom_ok gens k (prevOf rows k) r (rows.drop (k + 1)) hre)
          have hrf := Lib.hid (show rowsFrom gens k (prevOf rows k) (r :: rows.drop (k + 1)) = (if rowErr r ≠ 0 then (rowErr r, (k : Int)) else if r.idx < 0 ∨ (gens.length : Int) ≤ r.idx then (3, (k : Int)) else if prevGe (prevOf rows k) r.idx = true then (2, (k : Int)) else if r.gen ≠ gens.getD r.idx.toNat 0 then (7, (k : Int)) else rowsFrom gens (k + 1) (some r.idx) (rows.drop (k + 1))) from by rw [rowsFrom])
          obtain ⟨c0, c1, _⟩ := hrow.head
          have hprev : ∀ k', k = k' + 1 → ∃ z : Int, prevOf rows k = some z ∧ wr.cell? ⟨b, off + k' * 11, none⟩ = some (.int .i64 z) := by
            rintro k' rfl
            have hk' : k' < rows.length := by omega
            obtain ⟨b', off', hbo, _, hrow'⟩ := hR.at_ hk'
            injection hbo with hbo
            injection hbo with hbo1 hbo2
            subst hbo1 hbo2
            exact ⟨rows[k'].idx, by simp [prevOf, List.getElem?_eq_getElem hk'], hrow'.head.1⟩
          have hgat : ∀ ix : Nat, r.idx = (ix : Int) → ix < gens.length → ∃ bg og z, Ag = some ⟨bg, og, none⟩ ∧ bg < w.heap.size ∧ gens.getD r.idx.toNat 0 = z ∧ wr.cell? ⟨bg, og + ix, none⟩ = some (.int .i64 z) := by
            intro ix hix hlx
            obtain ⟨bg, og, he, hbg, hcg⟩ := hG.at_ hlx
            exact ⟨bg, og, gens[ix], he, hbg, by rw [hix]; simp [List.getD_eq_getElem?_getD, hlx], hcg⟩
          rw [← hst.out] at hrf
          rw [hre]
          clear hx hrow hst
          generalize r.idx = idx at *
          generalize r.gen = gen at *
          have hbw : b ≠ wr.heap.size := by omega
          by_cases h1 : idx < 0
          · have hEf : Hid (E = (3, (k : Int))) := Lib.hid (by rw [heq.out, hrf.out, if_neg (by simpa using hre), if_pos (.inl h1)])
            clear hprev hgat hok hrf
            have HQ := ((HF.set_ 0 (.int .i64 3)).set_ 1 (.int .i64 (k : Int))).alloc (.cells #[.int .i64 idx, .int .i64 gen] 68)
            have r0 := HQ.cell 0; have r1 := HQ.cell 1
            simp at r0 r1
            go_wp2_with fail
            refine bodyPost_ret (v := .agg #[.int .i64 3, .int .i64 (k : Int)]) (by simp [results, Try.results54, go_sem, r0, r1]) rfl ⟨by rw [hEf.out], ((hbel.setCell (by simp) _).setCell (by simp) _).alloc (by simp; omega) _⟩
          by_cases h2 : (gens.length : Int) ≤ idx
          · have hEf : Hid (E = (3, (k : Int))) := Lib.hid (by rw [heq.out, hrf.out, if_neg (by simpa using hre), if_pos (.inr h2)])
            clear hprev hgat hok hrf
            have HQ := ((HF.set_ 0 (.int .i64 3)).set_ 1 (.int .i64 (k : Int))).alloc (.cells #[.int .i64 idx, .int .i64 gen] 68)
            have r0 := HQ.cell 0; have r1 := HQ.cell 1
            simp at r0 r1
            go_wp2_with fail
            refine bodyPost_ret (v := .agg #[.int .i64 3, .int .i64 (k : Int)]) (by simp [results, Try.results54, go_sem, r0, r1]) rfl ⟨by rw [hEf.out], ((hbel.setCell (by simp) _).setCell (by simp) _).alloc (by simp; omega) _⟩
          obtain ⟨ix, rfl⟩ := nat_of (n := idx) (by omega)
          have hixl : ix < gens.length := by omega
          obtain ⟨bg, og, z, rfl, hbg, hz, hcz⟩ := hgat ix rfl hixl
          have hrf2 : Hid (E = if prevGe (prevOf rows k) (ix : Int) = true then (2, (k : Int)) else if gen ≠ z then (7, (k : Int)) else rowsFrom gens (k + 1) (some (ix : Int)) (rows.drop (k + 1))) := Lib.hid (by
            rw [heq.out, hrf.out, if_neg (by simpa using hre), if_neg (by omega), hz])
          clear hok hrf hgat hz
          go_upto_region 14 with fail
          go_cut [50] (fun s50 wx => s50 = .bool (prevGe (prevOf rows k) (ix : Int)) ∧ ∃ n, wx = (wr.alloc (.cells #[.int .i64 (ix : Int), .int .i64 gen] 68)).drewN n)
          case first =>
            clear hrf2
            have hbl : b < wr.heap.size := by omega
            cases k with
            | zero =>
              go_quiet (fail)
              go_wp2_with fail
              go_meet
              exact ⟨by simp [prevOf, prevGe], _, rfl⟩
            | succ k' =>
              obtain ⟨q, hq, hcq⟩ := hprev k' rfl
              have hqv : Hid (prevGe (prevOf rows (k' + 1)) (ix : Int) = decide ((ix : Int) ≤ q)) := Lib.hid (by rw [hq]; rfl)
              have hwrap : IntKind.i64.wrap (((k' + 1 : Nat) : Int) - 1) = (k' : Int) := by rw [IntKind.wrap_i64]; omega
              have hkp : (0 : Int) < ((k' + 1 : Nat) : Int) := by omega
              have k0 : (0 : Int) ≤ (k' : Int) := by omega
              have k1 : (k' : Int) < (rows.length : Int) := by omega
              clear hprev hq
              go_quiet (fail)
              go_wp2_with fail
              go_meet
              exact ⟨by rw [hqv.out], _, rfl⟩
          case rest =>
            obtain ⟨rfl, n, rfl⟩ := hcut
            clear hprev
            have HF4 := (HF.alloc (.cells #[.int .i64 (ix : Int), .int .i64 gen] 68)).drewN n
            have HB4 := (HB.alloc (.cells #[.int .i64 (ix : Int), .int .i64 gen] 68)).drewN n
            have HX4 := (Blk.new wr 68 #[.int .i64 (ix : Int), .int .i64 gen]).drewN n
            have hR4 : RdR ((wr.alloc (.cells #[.int .i64 (ix : Int), .int .i64 gen] 68)).drewN n) w.heap.size (some ⟨b, off, none⟩) rows := Rd.alloc hR hsw _
            have hG4 : RdG ((wr.alloc (.cells #[.int .i64 (ix : Int), .int .i64 gen] 68)).drewN n) w.heap.size (some ⟨bg, og, none⟩) gens := Rd.alloc hG hsw _
            have hbel4 := below_drewN (hbel.alloc hsw (.cells #[.int .i64 (ix : Int), .int .i64 gen] 68)) n
            have hcz4 : ((wr.alloc (.cells #[.int .i64 (ix : Int), .int .i64 gen] 68)).drewN n).cell? ⟨bg, og + ix, none⟩ = some (.int .i64 z) := (World.cell?_alloc_lt wr _ ⟨bg, og + ix, none⟩ (by simp only; omega)).trans hcz
            have hgx : wr.heap.size < ((wr.alloc (.cells #[.int .i64 (ix : Int), .int .i64 gen] 68)).drewN n).heap.size := HX4.lt
            clear HF HB hR hG hbel hcz e0 e1 f0 f1 z0 z1 c0 c1
            generalize (wr.alloc (.cells #[.int .i64 (ix : Int), .int .i64 gen] 68)).drewN n = w5 at *
            generalize wr.heap.size = gx at *
            have f0 := HF4.cell 0; have f1 := HF4.cell 1; have z0 := HF4.frozen 0; have z1 := HF4.frozen 1
            have e0 := HB4.cell 0; have e1 := HB4.cell 1
            have x0 := HX4.cell 0; have x1 := HX4.cell 1
            simp at f0 f1 e0 e1 x0 x1
            cases hpg : prevGe (prevOf rows k) (ix : Int)
            case true =>
              have hEf : Hid (E = (2, (k : Int))) := Lib.hid (by rw [hrf2.out, if_pos hpg])
              have HQ := ((HF4.set_ 0 (.int .i64 2)).set_ 1 (.int .i64 (k : Int)))
              have r0 := HQ.cell 0; have r1 := HQ.cell 1
              simp at r0 r1
              go_wp2_with fail
              refine bodyPost_ret (v := .agg #[.int .i64 2, .int .i64 (k : Int)]) (by simp [results, Try.results54, go_sem, r0, r1]) rfl ⟨by rw [hEf.out], (hbel4.setCell (by simp) _).setCell (by simp) _⟩
            case false =>
              have hrf3 : Hid (E = if gen ≠ z then (7, (k : Int)) else rowsFrom gens (k + 1) (some (ix : Int)) (rows.drop (k + 1))) := Lib.hid (by rw [hrf2.out, if_neg (by rw [hpg]; decide)])
              clear hrf2
              go_upto_region 16 with fail
              go_cut [68] (fun s68 wx => s68 = .bool (gen != z) ∧ ∃ m, wx = w5.drewN m)
              case first =>
                go_quiet (fail)
                go_wp2_with fail
                go_meet
                exact ⟨rfl, _, rfl⟩
              case rest =>
                obtain ⟨rfl, m, rfl⟩ := hcut
                replace HF4 := HF4.drewN m; replace HB4 := HB4.drewN m
                replace hR4 : RdR (w5.drewN m) w.heap.size (some ⟨b, off, none⟩) rows := hR4
                replace hG4 : RdG (w5.drewN m) w.heap.size (some ⟨bg, og, none⟩) gens := hG4
                replace hbel4 := below_drewN hbel4 m
                clear f0 f1 z0 z1 e0 e1 x0 x1 HX4 hcz4
                generalize w5.drewN m = w6 at *
                have f0 := HF4.cell 0; have f1 := HF4.cell 1; have z0 := HF4.frozen 0; have z1 := HF4.frozen 1
                simp at f0 f1
                by_cases hgz : gen = z
                · subst hgz
                  have hnext : Hid (E = rowsFrom gens (k + 1) (prevOf rows (k + 1)) (rows.drop (k + 1))) := Lib.hid (by rw [hrf3.out, if_neg (by simp), hpn.out])
                  go_wp2_with fail
                  go_roundw
                  case rel => exact ⟨k + 1, by omega, by go_num, hnext, hbel4, hR4, hG4, HB4, HF4⟩
                  case measure => simp [intOf]; omega
                · have hgz' : (gen != z) = true := by simpa using hgz
                  have hEf : Hid (E = (7, (k : Int))) := Lib.hid (by rw [hrf3.out, if_pos hgz])
                  have HQ := ((HF4.set_ 0 (.int .i64 7)).set_ 1 (.int .i64 (k : Int)))
                  have r0 := HQ.cell 0; have r1 := HQ.cell 1
                  simp at r0 r1
                  go_wp2_with fail
                  refine bodyPost_ret (v := .agg #[.int .i64 7, .int .i64 (k : Int)]) (by simp [results, Try.results54, go_sem, r0, r1]) rfl ⟨by rw [hEf.out], (hbel4.setCell (by simp) _).setCell (by simp) _⟩
      · obtain rfl : k = rows.length := by omega
        have HQ := (HF.set_ 0 (.int .i64 0)).set_ 1 (.int .i64 0)
        have r0 := HQ.cell 0; have r1 := HQ.cell 1
        simp at r0 r1
        have hEf : Hid (E = (0, 0)) := Lib.hid (by rw [heq.out, List.drop_length]; rfl)
        go_wp2_with fail
        refine bodyPost_ret (v := .agg #[.int .i64 0, .int .i64 0]) (by simp [results, Try.results54, go_sem, r0, r1]) rfl ⟨by rw [hEf.out], (hbel.setCell (by simp) _).setCell (by simp) _⟩
end Go.Proofs.Ytefdblaolmckmaa
