/- The walk of the reference's Wrong. The walk of the reference's WrongTable. The walk of the reference's WrongStore. -/
import Derived.Deep.RegionHeld3
import Derived.Test.YtefdblaolmckmabSBSpecOToSpecR
import Derived.Test.YtefdblaolmckmabSBSortTBToRefW
import Derived.Test.YtefdblaolmckmabSBStoBToKg
import Derived.Test.YtefdblaolmckmabSRefSW
import Derived.Test.YtefdblaolmckmabSBSortTRToStoO
import Derived.Test.YtefdblaolmckmabSBStoFToPlainM
namespace Go.Proofs.Ytefdblaolmckmab
open Go.RowKit
open Brood
set_option linter.unusedVariables false
set_option linter.unusedSimpArgs false
set_option maxHeartbeats 1600000 in
theorem rbad_any (e i : Int) (b : Nat) (w : World) (h : Blk w b 3 #[.int .i64 i]) :
    Calls Try.prog 56 #[.int .i64 e, .pointer (some ⟨b, 0, none⟩)] w fun e' w' => e' = .returned (.agg #[.int .i64 e, .int .i64 i]) ∧ Below w.heap.size w w' := by
  have c0 := h.cell 0
  have hlt := h.lt
  simp at c0
  have H0 := (Hp.start w).new w.heap.size rfl 32 [.int .i64 0, .int .i64 0]
  have H1 := (H0.set 0 0 (.int .i64 e) rfl).set 0 1 (.int .i64 i) rfl
  have p0 := H1.cell 0 0 rfl rfl; have p1 := H1.cell 0 1 rfl rfl
  go_enter Try.func56, Try.ntmps56
  go_wp2_with fail
  refine bodyPost_ret (v := .agg #[.int .i64 e, .int .i64 i]) (by simp [results, Try.results56, go_sem]) rfl ⟨rfl, (Below.refl _ _).alloc (Nat.le_refl _) _⟩
set_option maxRecDepth 20000 in
set_option maxHeartbeats 12800000 in
theorem rwrong2_any (rows : List BRow) (gens : List Int) (Ar : Option Addr) (cr : Nat) (Ag : Option Addr) (cg : Nat) (hlenr : rows.length ≤ 9223372036854775807) (w : World) (hr : RdR w w.heap.size Ar rows) (hg : RdG w w.heap.size Ag gens) :
    Calls Try.prog 12 #[.agg #[.slice Ar rows.length cr, .slice Ag gens.length cg]] w fun e w' => e = .returned (.agg #[.int .i64 (worldErr ⟨rows, gens⟩).1, .int .i64 (worldErr ⟨rows, gens⟩).2]) ∧ Below w.heap.size w w' := by
  have hmf : ∀ (fn : Fn) (first cap : Array Value) (w : World), (Instr.makeFunc fn first cap).run Try.prog w = .ok (.func fn first cap) w := fun _ _ _ _ => rfl
  have H0 := ((Hp.start w).new w.heap.size rfl 25 [.slice Ar rows.length cr, .slice Ag gens.length cg]).new (w.heap.size + 1) (by simp) 32 [.int .i64 0, .int .i64 0]
  have hwe : Hid (worldErr ⟨rows, gens⟩ = if (gensErr gens).1 ≠ 0 then gensErr gens else rowsFrom gens 0 none rows) := Lib.hid rfl
  generalize worldErr ⟨rows, gens⟩ = E at *
  by_cases hlen : 60 < gens.length
  · have hE : Hid (E = (4, 0)) := Lib.hid (by rw [hwe.out]; simp [gensErr, hlen])
    clear hwe
    go_enter Try.func12, Try.ntmps12
    go_wp2_with fail
    refine bodyPost_ret (v := .agg #[.int .i64 4, .int .i64 0]) (by simp [results, Try.results12, go_sem]) rfl ⟨by rw [hE.out], ?_⟩
    exact ((Below.refl _ _).alloc (Nat.le_refl _) _).alloc (by simp) _
  have hgf : Hid (gensErr gens = gensFrom 0 (gens.drop 0)) := Lib.hid (by simp [gensErr, hlen])
  go_enter Try.func12, Try.ntmps12
  go_wp2_with fail
  go_loopw [19] (fun q wr => ∃ k : Nat, k ≤ gens.length ∧ q = .int .i64 k ∧ Hid (gensErr gens = gensFrom k (gens.drop k)) ∧ Hp w wr [.box w.heap.size 25 [.slice Ar rows.length cr, .slice Ag gens.length cg], .box (w.heap.size + 1) 32 [.int .i64 0, .int .i64 0]]) (fun q _ => gens.length - (intOf q).toNat)
  case atStart => exact ⟨0, by omega, rfl, hgf, H0⟩
  case round =>
    clear H0 hgf
    obtain ⟨k, hk, rfl, hgf, H⟩ := hrel
    have f0 := H.cell 1 0 rfl rfl; have f1 := H.cell 1 1 rfl rfl; have z0 := H.frozen 1 0 rfl; have z1 := H.frozen 1 1 rfl
    by_cases hlt : k < gens.length
    · have hR1 : RdG wr w.heap.size Ag gens := Rd.under hg H.bel (Nat.le_refl _)
      obtain ⟨b1, off, rfl, hb1, c0⟩ := hR1.at_ hlt
      have hst := Lib.hid (drop_cons hlt)
      clear hR1
      generalize gens[k] = n at *
      have i0 : (0 : Int) ≤ (k : Int) := by omega
      have i1 : (k : Int) < (gens.length : Int) := by omega
      have H2 := (H.set 1 0 (.int .i64 3) rfl).set 1 1 (.int .i64 (k : Int)) rfl
      have p0 := H2.cell 1 0 rfl rfl; have p1 := H2.cell 1 1 rfl rfl
      by_cases h1 : n < 1
      · have hE : Hid (E = (3, (k : Int))) := Lib.hid (by
          have hgn : gensFrom k (n :: gens.drop (k + 1)) = (3, (k : Int)) := by rw [gensFrom, if_pos (.inl h1)]
          rw [hwe.out, hgf.out, hst.out, hgn]; simp)
        go_wp2_with fail
        refine bodyPost_ret (v := .agg #[.int .i64 3, .int .i64 (k : Int)]) (by simp [results, Try.results12, go_sem, p0, p1]) rfl ⟨by rw [hE.out], H2.bel⟩
      by_cases h2 : 1000 < n
      · have hE : Hid (E = (3, (k : Int))) := Lib.hid (by
          have hgn : gensFrom k (n :: gens.drop (k + 1)) = (3, (k : Int)) := by rw [gensFrom, if_pos (.inr h2)]
          rw [hwe.out, hgf.out, hst.out, hgn]; simp)
        go_wp2_with fail
        refine bodyPost_ret (v := .agg #[.int .i64 3, .int .i64 (k : Int)]) (by simp [results, Try.results12, go_sem, p0, p1]) rfl ⟨by rw [hE.out], H2.bel⟩
      have hnext : Hid (gensErr gens = gensFrom (k + 1) (gens.drop (k + 1))) := Lib.hid (by rw [hgf.out, hst.out, gensFrom, if_neg (by omega)])
      clear H2 p0 p1
      go_wp2_with fail
      go_roundw
      case rel => exact ⟨k + 1, by omega, by go_num, hnext, H⟩
      case measure => simp [intOf]; omega
    · obtain rfl : k = gens.length := by omega
      have hE : Hid (E = rowsFrom gens 0 (prevOf rows 0) (rows.drop 0)) := Lib.hid (by rw [hwe.out, hgf.out, List.drop_length]; simp [gensFrom, prevOf])
      clear hwe hgf
      have e0 := H.cell 0 0 rfl rfl; have e1 := H.cell 0 1 rfl rfl
      go_wp2_with fail
      go_loopw [36] (fun q wx => ∃ k : Nat, k ≤ rows.length ∧ q = .int .i64 k ∧ Hid (E = rowsFrom gens k (prevOf rows k) (rows.drop k)) ∧ Hp w wx [.box w.heap.size 25 [.slice Ar rows.length cr, .slice Ag gens.length cg], .box (w.heap.size + 1) 32 [.int .i64 0, .int .i64 0]]) (fun q _ => rows.length - (intOf q).toNat)
      case atStart => exact ⟨0, by omega, rfl, hE, H⟩
      case round =>
        clear H hE e0 e1 f0 f1 z0 z1
        obtain ⟨k, hk, rfl, hE, H⟩ := hrel
        have f0 := H.cell 1 0 rfl rfl; have f1 := H.cell 1 1 rfl rfl; have z0 := H.frozen 1 0 rfl; have z1 := H.frozen 1 1 rfl
        have e0 := H.cell 0 0 rfl rfl; have e1 := H.cell 0 1 rfl rfl
        by_cases hlt : k < rows.length
        · have hR1 : RdR wr w.heap.size Ar rows := Rd.under hr H.bel (Nat.le_refl _)
          have hG1 : RdG wr w.heap.size Ag gens := Rd.under hg H.bel (Nat.le_refl _)
          obtain ⟨b, off, rfl, hb, hrow⟩ := hR1.at_ hlt
          have hst := Lib.hid (drop_cons hlt)
          have hpn : Hid (prevOf rows (k + 1) = some rows[k].idx) := Lib.hid (by simp [prevOf, List.getElem?_eq_getElem hlt])
          have hprev : ∀ k', k = k' + 1 → ∃ z : Int, prevOf rows k = some z ∧ wr.cell? ⟨b, off + k' * 11, none⟩ = some (.int .i64 z) := by
            rintro k' rfl
            have hk' : k' < rows.length := by omega
            obtain ⟨b', off', hbo, _, hrow'⟩ := hR1.at_ hk'
            injection hbo with hbo
            injection hbo with hbo1 hbo2
            subst hbo1 hbo2
            exact ⟨rows[k'].idx, by simp [prevOf, List.getElem?_eq_getElem hk'], hrow'.head.1⟩
          have hgat : ∀ ix : Nat, ix < gens.length → ∃ bg og z, Ag = some ⟨bg, og, none⟩ ∧ bg < w.heap.size ∧ gens.getD ix 0 = z ∧ wr.cell? ⟨bg, og + ix, none⟩ = some (.int .i64 z) := by
            intro ix hlx
            obtain ⟨bg, og, he, hbg, hcg⟩ := hG1.at_ hlx
            exact ⟨bg, og, gens[ix], he, hbg, by simp [List.getD_eq_getElem?_getD, hlx], hcg⟩
          have hrf := Lib.hid (show rowsFrom gens k (prevOf rows k) (rows[k] :: rows.drop (k + 1)) = (if rowErr rows[k] ≠ 0 then (rowErr rows[k], (k : Int)) else if rows[k].idx < 0 ∨ (gens.length : Int) ≤ rows[k].idx then (3, (k : Int)) else if prevGe (prevOf rows k) rows[k].idx = true then (2, (k : Int)) else if rows[k].gen ≠ gens.getD rows[k].idx.toNat 0 then (7, (k : Int)) else rowsFrom gens (k + 1) (some rows[k].idx) (rows.drop (k + 1))) from by rw [rowsFrom])
          rw [← hst.out, ← hE.out] at hrf
          have hre : Hid (rowErr rows[k] = if isSet rows[k].has && !valsBad rows[k].has 0 rows[k].vals then 0 else 3) := Lib.hid rfl
          replace hprev := Lib.hid hprev
          replace hgat := Lib.hid hgat
          clear hR1 hG1 hst hE
          generalize rows[k] = r at *
          have i0 : (0 : Int) ≤ (k : Int) := by omega
          have i1 : (k : Int) < (rows.length : Int) := by omega
          obtain ⟨c0, c1, c2⟩ := hrow.head
          generalize rowErr r = re at *
          obtain ⟨idx, gen, has, vals, h8⟩ := r
          obtain ⟨a0, a1, a2, a3, a4, a5, a6, a7, rfl⟩ := vals_eight h8
          simp only at c0 c1 c2 hrf hre hpn
          have v0 := hrow 3 (.int .i64 a0) rfl; have v1 := hrow 4 (.int .i64 a1) rfl; have v2 := hrow 5 (.int .i64 a2) rfl; have v3 := hrow 6 (.int .i64 a3) rfl; have v4 := hrow 7 (.int .i64 a4) rfl; have v5 := hrow 8 (.int .i64 a5) rfl; have v6 := hrow 9 (.int .i64 a6) rfl; have v7 := hrow 10 (.int .i64 a7) rfl
          clear hrow
          have H3 := (H.new wr.heap.size rfl 3 [.int .i64 (k : Int)]).new (wr.heap.size + 1) (by simp) 51 [.int .i64 idx, .int .i64 gen, .int .i64 has, .int .i64 a0, .int .i64 a1, .int .i64 a2, .int .i64 a3, .int .i64 a4, .int .i64 a5, .int .i64 a6, .int .i64 a7]
          obtain ⟨wo, rfl⟩ : ∃ wo : World, wo = wr := ⟨_, rfl⟩
          have hbw3 : Below wo.heap.size wo ((wo.alloc (.cells #[.int .i64 (k : Int)] 3)).alloc (.cells #[.int .i64 idx, .int .i64 gen, .int .i64 has, .int .i64 a0, .int .i64 a1, .int .i64 a2, .int .i64 a3, .int .i64 a4, .int .i64 a5, .int .i64 a6, .int .i64 a7] 51)) := ((Below.refl _ _).alloc (Nat.le_refl _) _).alloc (by simp) _
          go_wp2_with fail
          clear c0 c1 c2 v0 v1 v2 v3 v4 v5 v6 v7 f0 f1 z0 z1 e0 e1
          refine (rset_any has _).mono ?_
          rintro e w3 ⟨rfl, hw3⟩
          rw [hw3] at H3 hbw3
          clear hw3
          cases hs : isSet has
          case false =>
            have y0 := H3.frozen 1 0 rfl; have y1 := H3.frozen 1 1 rfl
            have hE2 : Hid (E = (3, (k : Int))) := Lib.hid (by rw [hrf.out, hre.out, hs]; rfl)
            go_wp2_with fail
            refine (rbad_any 3 (k : Int) wo.heap.size _ (H3.blk 2 rfl)).mono ?_
            rintro e w9 ⟨rfl, hb9⟩
            replace H3 := H3.grow hb9
            have y0 := H3.frozen 1 0 rfl; have y1 := H3.frozen 1 1 rfl; have y2 := H3.cell 1 0 rfl rfl; have y3 := H3.cell 1 1 rfl rfl
            have H9 := (H3.set 1 0 (.int .i64 3) rfl).set 1 1 (.int .i64 (k : Int)) rfl
            have p0 := H9.cell 1 0 rfl rfl; have p1 := H9.cell 1 1 rfl rfl
            go_wp2_with fail
            refine bodyPost_ret (v := .agg #[.int .i64 3, .int .i64 (k : Int)]) (by simp [results, Try.results12, go_sem, p0, p1]) rfl ⟨by rw [hE2.out], H9.bel⟩
          case true =>
            have x0 := H3.cell 3 0 rfl rfl; have x1 := H3.cell 3 1 rfl rfl; have x2 := H3.cell 3 2 rfl rfl; have x3 := H3.cell 3 3 rfl rfl; have x4 := H3.cell 3 4 rfl rfl; have x5 := H3.cell 3 5 rfl rfl; have x6 := H3.cell 3 6 rfl rfl; have x7 := H3.cell 3 7 rfl rfl; have x8 := H3.cell 3 8 rfl rfl; have x9 := H3.cell 3 9 rfl rfl; have x10 := H3.cell 3 10 rfl rfl
            go_wp2_with fail
            clear x0 x1 x2 x3 x4 x5 x6 x7 x8 x9 x10
            have hre2 : Hid (re = if valsBad has 0 [a0, a1, a2, a3, a4, a5, a6, a7] then 3 else 0) := Lib.hid (by
              rw [hre.out, hs, Bool.true_and]
              cases valsBad has 0 [a0, a1, a2, a3, a4, a5, a6, a7] <;> rfl)
            clear hre
            have hL : ([a0, a1, a2, a3, a4, a5, a6, a7] : List Int).length = 8 := rfl
            have hst := Lib.hid (fun k hk => @valsBad_drop has [a0, a1, a2, a3, a4, a5, a6, a7] k hk)
            have hvv2 : Hid (∀ (q : Nat) (hq : q < ([a0, a1, a2, a3, a4, a5, a6, a7] : List Int).length) (W : World), (Instr.index 49 (.agg #[.int .i64 a0, .int .i64 a1, .int .i64 a2, .int .i64 a3, .int .i64 a4, .int .i64 a5, .int .i64 a6, .int .i64 a7]) (.int .i64 (q : Int))).run Try.prog W = .ok (.int .i64 (([a0, a1, a2, a3, a4, a5, a6, a7] : List Int)[q]'hq)) W) := Lib.hid (fun q hq W => vals_at (vs := [a0, a1, a2, a3, a4, a5, a6, a7]) rfl (by simpa using hq) W)
            obtain ⟨L, hLe⟩ : ∃ L : List Int, L = [a0, a1, a2, a3, a4, a5, a6, a7] := ⟨_, rfl⟩
            have hvv : Hid (∀ (q : Nat) (hq : q < L.length) (W : World), (Instr.index 49 (.agg #[.int .i64 a0, .int .i64 a1, .int .i64 a2, .int .i64 a3, .int .i64 a4, .int .i64 a5, .int .i64 a6, .int .i64 a7]) (.int .i64 (q : Int))).run Try.prog W = .ok (.int .i64 (L[q]'hq)) W) := by subst hLe; exact hvv2
            rw [← hLe] at hre2 hst hL
            clear hvv2 hLe
            go_loopw [50] (fun q wx => ∃ j : Nat, j ≤ 8 ∧ q = .int .i64 j ∧ Hid (valsBad has 0 L = valsBad has j (L.drop j)) ∧ Below wo.heap.size wo wx ∧ Hp w wx [.box w.heap.size 25 [.slice (some ⟨b, off, none⟩) rows.length cr, .slice Ag gens.length cg], .box (w.heap.size + 1) 32 [.int .i64 0, .int .i64 0], .box wo.heap.size 3 [.int .i64 (k : Int)], .box (wo.heap.size + 1) 51 [.int .i64 idx, .int .i64 gen, .int .i64 has, .int .i64 a0, .int .i64 a1, .int .i64 a2, .int .i64 a3, .int .i64 a4, .int .i64 a5, .int .i64 a6, .int .i64 a7]]) (fun q _ => 8 - (intOf q).toNat)
            case atStart => exact ⟨0, by omega, rfl, Lib.hid (by simp), hbw3, H3⟩
            case round =>
              clear H3 hbw3
              obtain ⟨j, hj, rfl, heq, hbw, H3⟩ := hrel
              by_cases hlt8 : j < 8
              · have hjL : j < L.length := by omega
                have hix := hvv.out j hjL
                have hst3 := Lib.hid (hst.out j hjL)
                generalize L[j] = z at *
                have hvb : Hid (valBad has j z = (!isVal z || (decide (z ≠ 0) && !hasB has (j : Int)))) := Lib.hid rfl
                have x2 := H3.cell 3 2 rfl rfl
                have j0 : (0 : Int) ≤ (j : Int) := by omega
                have j8 : (j : Int) < 8 := by omega
                go_wp2_with fail
                refine (rvalue_any z _).mono ?_
                rintro e w4 ⟨rfl, rfl⟩
                cases q1 : isVal z
                case false =>
                  have hf : Hid (valsBad has 0 L = true) := Lib.hid (by rw [heq.out, hst3.out, hvb.out, q1]; rfl)
                  have hE2 : Hid (E = (3, (k : Int))) := Lib.hid (by rw [hrf.out, hre2.out, hf.out]; rfl)
                  go_wp2_with fail
                  refine (rbad_any 3 (k : Int) wo.heap.size _ (H3.blk 2 rfl)).mono ?_
                  rintro e w9 ⟨rfl, hb9⟩
                  replace H3 := H3.grow hb9
                  have y0 := H3.frozen 1 0 rfl; have y1 := H3.frozen 1 1 rfl; have y2 := H3.cell 1 0 rfl rfl; have y3 := H3.cell 1 1 rfl rfl
                  have H9 := (H3.set 1 0 (.int .i64 3) rfl).set 1 1 (.int .i64 (k : Int)) rfl
                  have p0 := H9.cell 1 0 rfl rfl; have p1 := H9.cell 1 1 rfl rfl
                  go_wp2_with fail
                  refine bodyPost_ret (v := .agg #[.int .i64 3, .int .i64 (k : Int)]) (by simp [results, Try.results12, go_sem, p0, p1]) rfl ⟨by rw [hE2.out], H9.bel⟩
                case true =>
                  by_cases q2 : z = 0
                  · subst q2
                    have hf : Hid (valsBad has 0 L = valsBad has (j + 1) (L.drop (j + 1))) := Lib.hid (by rw [heq.out, hst3.out, hvb.out, q1]; rfl)
                    go_wp2_with fail
                    go_roundw
                    case rel => exact ⟨j + 1, by omega, by go_num, hf, hbw, H3⟩
                    case measure => simp [intOf]; omega
                  · have q2' : (z != 0) = true := by simpa using q2
                    go_wp2_with fail
                    refine (rhas_any has (j : Int) hs _).mono ?_
                    rintro e w4 ⟨rfl, hb4⟩
                    replace hbw := grow_below hbw hb4
                    replace H3 := H3.grow hb4
                    clear x2
                    cases q3 : hasB has (j : Int)
                    case false =>
                      have hf : Hid (valsBad has 0 L = true) := Lib.hid (by rw [heq.out, hst3.out, hvb.out, q1, q3]; simp [q2])
                      have hE2 : Hid (E = (3, (k : Int))) := Lib.hid (by rw [hrf.out, hre2.out, hf.out]; rfl)
                      go_wp2_with fail
                      refine (rbad_any 3 (k : Int) wo.heap.size _ (H3.blk 2 rfl)).mono ?_
                      rintro e w9 ⟨rfl, hb9⟩
                      replace H3 := H3.grow hb9
                      have y0 := H3.frozen 1 0 rfl; have y1 := H3.frozen 1 1 rfl; have y2 := H3.cell 1 0 rfl rfl; have y3 := H3.cell 1 1 rfl rfl
                      have H9 := (H3.set 1 0 (.int .i64 3) rfl).set 1 1 (.int .i64 (k : Int)) rfl
                      have p0 := H9.cell 1 0 rfl rfl; have p1 := H9.cell 1 1 rfl rfl
                      go_wp2_with fail
                      refine bodyPost_ret (v := .agg #[.int .i64 3, .int .i64 (k : Int)]) (by simp [results, Try.results12, go_sem, p0, p1]) rfl ⟨by rw [hE2.out], H9.bel⟩
                    case true =>
                      have hf : Hid (valsBad has 0 L = valsBad has (j + 1) (L.drop (j + 1))) := Lib.hid (by rw [heq.out, hst3.out, hvb.out, q1, q3]; simp)
                      go_wp2_with fail
                      go_roundw
                      case rel => exact ⟨j + 1, by omega, by go_num, hf, hbw, H3⟩
                      case measure => simp [intOf]; omega
              · obtain rfl : j = 8 := by omega
                have hf : Hid (valsBad has 0 L = false) := Lib.hid (by rw [heq.out, ← hL, List.drop_length]; rfl)
                have hrf2 : Hid (E = if idx < 0 ∨ (gens.length : Int) ≤ idx then (3, (k : Int)) else if prevGe (prevOf rows k) idx = true then (2, (k : Int)) else if gen ≠ gens.getD idx.toNat 0 then (7, (k : Int)) else rowsFrom gens (k + 1) (some idx) (rows.drop (k + 1))) := Lib.hid (by rw [hrf.out, hre2.out, hf.out]; rfl)
                clear hrf hre2 hf hvv heq hst
                have x0 := H3.cell 3 0 rfl rfl; have x1 := H3.cell 3 1 rfl rfl
                have e0 := H3.cell 0 0 rfl rfl; have e1 := H3.cell 0 1 rfl rfl; have e2 := H3.cell 2 0 rfl rfl
                by_cases h1 : idx < 0
                · have hE2 : Hid (E = (3, (k : Int))) := Lib.hid (by rw [hrf2.out, if_pos (.inl h1)])
                  go_wp2_with fail
                  refine (rbad_any 3 (k : Int) wo.heap.size _ (H3.blk 2 rfl)).mono ?_
                  rintro e w9 ⟨rfl, hb9⟩
                  replace H3 := H3.grow hb9
                  have y0 := H3.frozen 1 0 rfl; have y1 := H3.frozen 1 1 rfl; have y2 := H3.cell 1 0 rfl rfl; have y3 := H3.cell 1 1 rfl rfl
                  have H9 := (H3.set 1 0 (.int .i64 3) rfl).set 1 1 (.int .i64 (k : Int)) rfl
                  have p0 := H9.cell 1 0 rfl rfl; have p1 := H9.cell 1 1 rfl rfl
                  go_wp2_with fail
                  refine bodyPost_ret (v := .agg #[.int .i64 3, .int .i64 (k : Int)]) (by simp [results, Try.results12, go_sem, p0, p1]) rfl ⟨by rw [hE2.out], H9.bel⟩
                by_cases h2 : (gens.length : Int) ≤ idx
                · have hE2 : Hid (E = (3, (k : Int))) := Lib.hid (by rw [hrf2.out, if_pos (.inr h2)])
                  go_wp2_with fail
                  refine (rbad_any 3 (k : Int) wo.heap.size _ (H3.blk 2 rfl)).mono ?_
                  rintro e w9 ⟨rfl, hb9⟩
                  replace H3 := H3.grow hb9
                  have y0 := H3.frozen 1 0 rfl; have y1 := H3.frozen 1 1 rfl; have y2 := H3.cell 1 0 rfl rfl; have y3 := H3.cell 1 1 rfl rfl
                  have H9 := (H3.set 1 0 (.int .i64 3) rfl).set 1 1 (.int .i64 (k : Int)) rfl
                  have p0 := H9.cell 1 0 rfl rfl; have p1 := H9.cell 1 1 rfl rfl
                  go_wp2_with fail
                  refine bodyPost_ret (v := .agg #[.int .i64 3, .int .i64 (k : Int)]) (by simp [results, Try.results12, go_sem, p0, p1]) rfl ⟨by rw [hE2.out], H9.bel⟩
                obtain ⟨ix, rfl⟩ := nat_of (n := idx) (by omega)
                have hixl : ix < gens.length := by omega
                obtain ⟨bg, og, z, rfl, hbg, hz, hcz⟩ := hgat.out ix hixl
                have hrf3 : Hid (E = if prevGe (prevOf rows k) (ix : Int) = true then (2, (k : Int)) else if gen ≠ z then (7, (k : Int)) else rowsFrom gens (k + 1) (some (ix : Int)) (rows.drop (k + 1))) := Lib.hid (by
                  rw [hrf2.out, if_neg (by omega), Int.toNat_natCast, hz])
                have hwl := H.bel.size
                replace hcz := (hbw.cell (p := ⟨bg, og + ix, none⟩) (by simp only; omega)).trans hcz
                have ix0 : (0 : Int) ≤ (ix : Int) := by omega
                have ix1 : (ix : Int) < (gens.length : Int) := by omega
                clear hrf2 hgat hz
                go_upto_region 24 with fail
                go_cut [98] (fun s98 wx => s98 = .bool (prevGe (prevOf rows k) (ix : Int)) ∧ wx = wr)
                case first =>
                  clear hrf3
                  cases k with
                  | zero =>
                    go_wp2_with fail
                    go_meet
                    exact ⟨by simp [prevOf, prevGe], rfl⟩
                  | succ k' =>
                    obtain ⟨q, hq, hcq⟩ := hprev.out k' rfl
                    have hqv : Hid (prevGe (prevOf rows (k' + 1)) (ix : Int) = decide ((ix : Int) ≤ q)) := Lib.hid (by rw [hq]; rfl)
                    have hwrap : IntKind.i64.wrap (((k' + 1 : Nat) : Int) - 1) = (k' : Int) := by rw [IntKind.wrap_i64]; omega
                    have hkp : (0 : Int) < ((k' + 1 : Nat) : Int) := by omega
                    have k0 : (0 : Int) ≤ (k' : Int) := by omega
                    have k1 : (k' : Int) < (rows.length : Int) := by omega
                    replace hcq := (hbw.cell (p := ⟨b, off + k' * 11, none⟩) (by simp only; omega)).trans hcq
                    clear hq
                    go_wp2_with fail
                    go_meet
                    exact ⟨by rw [hqv.out], rfl⟩
                case rest =>
                  obtain ⟨rfl, rfl⟩ := hcut
                  cases hpg : prevGe (prevOf rows k) (ix : Int)
                  case true =>
                    have hE2 : Hid (E = (2, (k : Int))) := Lib.hid (by rw [hrf3.out, if_pos hpg])
                    go_wp2_with fail
                    refine (rbad_any 2 (k : Int) wo.heap.size _ (H3.blk 2 rfl)).mono ?_
                    rintro e w9 ⟨rfl, hb9⟩
                    replace H3 := H3.grow hb9
                    have y0 := H3.frozen 1 0 rfl; have y1 := H3.frozen 1 1 rfl; have y2 := H3.cell 1 0 rfl rfl; have y3 := H3.cell 1 1 rfl rfl
                    have H9 := (H3.set 1 0 (.int .i64 2) rfl).set 1 1 (.int .i64 (k : Int)) rfl
                    have p0 := H9.cell 1 0 rfl rfl; have p1 := H9.cell 1 1 rfl rfl
                    go_wp2_with fail
                    refine bodyPost_ret (v := .agg #[.int .i64 2, .int .i64 (k : Int)]) (by simp [results, Try.results12, go_sem, p0, p1]) rfl ⟨by rw [hE2.out], H9.bel⟩
                  case false =>
                    have hrf4 : Hid (E = if gen ≠ z then (7, (k : Int)) else rowsFrom gens (k + 1) (some (ix : Int)) (rows.drop (k + 1))) := Lib.hid (by rw [hrf3.out, if_neg (by rw [hpg]; decide)])
                    clear hrf3
                    go_upto_region 26 with fail
                    go_cut [109] (fun s109 wx => s109 = .bool (z != gen) ∧ ∃ m, wx = wc.drewN m)
                    case first =>
                      go_quiet (fail)
                      go_wp2_with fail
                      go_meet
                      exact ⟨rfl, _, rfl⟩
                    case rest =>
                      obtain ⟨rfl, m, rfl⟩ := hcut
                      replace H3 := H3.drewN m
                      clear x0 x1 e0 e1 e2 hcz
                      by_cases hgz : gen = z
                      · subst hgz
                        have hnext : Hid (E = rowsFrom gens (k + 1) (prevOf rows (k + 1)) (rows.drop (k + 1))) := Lib.hid (by rw [hrf4.out, if_neg (by simp), hpn.out])
                        go_wp2_with fail
                        go_roundw
                        case rel => exact ⟨k + 1, by omega, by go_num, hnext, H3.sub (by simp)⟩
                        case measure => simp [intOf]; omega
                      · have hgz' : (z != gen) = true := by simpa using Ne.symm hgz
                        have hE2 : Hid (E = (7, (k : Int))) := Lib.hid (by rw [hrf4.out, if_pos hgz])
                        go_wp2_with fail
                        refine (rbad_any 7 (k : Int) wo.heap.size _ (H3.blk 2 rfl)).mono ?_
                        rintro e w9 ⟨rfl, hb9⟩
                        replace H3 := H3.grow hb9
                        have y0 := H3.frozen 1 0 rfl; have y1 := H3.frozen 1 1 rfl; have y2 := H3.cell 1 0 rfl rfl; have y3 := H3.cell 1 1 rfl rfl
                        have H9 := (H3.set 1 0 (.int .i64 7) rfl).set 1 1 (.int .i64 (k : Int)) rfl
                        have p0 := H9.cell 1 0 rfl rfl; have p1 := H9.cell 1 1 rfl rfl
                        go_wp2_with fail
                        refine bodyPost_ret (v := .agg #[.int .i64 7, .int .i64 (k : Int)]) (by simp [results, Try.results12, go_sem, p0, p1]) rfl ⟨by rw [hE2.out], H9.bel⟩
        · obtain rfl : k = rows.length := by omega
          have hE2 : Hid (E = (0, 0)) := Lib.hid (by rw [hE.out, List.drop_length]; rfl)
          have H2 := (H.set 1 0 (.int .i64 0) rfl).set 1 1 (.int .i64 0) rfl
          have p0 := H2.cell 1 0 rfl rfl; have p1 := H2.cell 1 1 rfl rfl
          go_wp2_with fail
          refine bodyPost_ret (v := .agg #[.int .i64 0, .int .i64 0]) (by simp [results, Try.results12, go_sem, p0, p1]) rfl ⟨by rw [hE2.out], H2.bel⟩
end Go.Proofs.Ytefdblaolmckmab

namespace Go.Proofs.Ytefdblaolmckmab
open Go.RowKit
open Brood
set_option linter.unusedVariables false
set_option linter.unusedSimpArgs false
set_option maxRecDepth 20000 in
set_option maxHeartbeats 6400000 in
theorem rtable_any (t : TabIn) (w : World) (hbs : Rd w w.heap.size 2 t.bA t.bs.length (t.bs.flatMap beC)) (hcs : Rd w w.heap.size 1 t.cA t.cols.length (t.cols.map colV)) (hzs : ∀ c ∈ t.cols, Rd w w.heap.size 1 c.A c.zs.length (ints c.zs)) (hs : TabSmall t) :
    Calls Try.prog 83 #[.agg #[.int .i64 t.has, .slice t.bA t.bs.length t.bc, .slice t.cA t.cols.length t.cc]] w fun e w' => e = .returned (.int .i64 (tabErr (tabOf t))) ∧ Below w.heap.size w w' := by
  obtain ⟨E, hE⟩ : ∃ E, E = tabErr (tabOf t) := ⟨_, rfl⟩
  rw [← hE]
  obtain ⟨has, bA, bc, bs, cA, cc, cols⟩ := t
  replace hE : Hid (E = if isSet has = false then 3 else if bs.length = 0 ∨ cols.length ≠ (listS has).length then 4 else if colsErr bs.length (cols.map ColIn.zs) ≠ 0 then colsErr bs.length (cols.map ColIn.zs) else bsErr none bs) := Lib.hid (by rw [hE]; unfold tabErr tabOf; simp only [List.length_map])
  obtain ⟨s1, s2, s3⟩ := hs
  dsimp only at hbs hcs hzs s1 s2 s3 ⊢
  have hzsh := Lib.hid hzs; have s3h := Lib.hid s3
  clear hzs s3
  have H := (Hp.start w).new w.heap.size rfl 78 [.int .i64 has, .slice bA bs.length bc, .slice cA cols.length cc]
  replace H : Hp w _ [.box w.heap.size 78 [.int .i64 has, .slice bA bs.length bc, .slice cA cols.length cc]] := H
  have hset := fun W => rset_any has W
  cases hset1 : isSet has with
  | false =>
    rw [hset1] at hset
    have hEf : Hid (E = 3) := Lib.hid (by rw [hE.out, if_pos hset1])
    have hsch := Lib.hid hset
    clear hset hset1 hE
    go_enter Try.func83, Try.ntmps83
    go_wp2_with fail
    refine (hsch.out _).mono ?_
    rintro e w2 ⟨rfl, rfl⟩
    go_wp2_with fail
    go_ret
    exact ⟨ret_int hEf.out.symm, H.bel⟩
  | true =>
    rw [hset1] at hset
    have hE2 : Hid (E = if bs.length = 0 ∨ cols.length ≠ (listS has).length then 4 else if colsErr bs.length (cols.map ColIn.zs) ≠ 0 then colsErr bs.length (cols.map ColIn.zs) else bsErr none bs) := Lib.hid (by rw [hE.out, if_neg (by rw [hset1]; decide)])
    have hl8 := listS_len has
    have hsch := Lib.hid hset
    obtain ⟨q, rfl, hq⟩ : ∃ q : Nat, has = (q : Int) ∧ q < 256 := by
      have := isSet_iff.1 hset1
      obtain ⟨q, rfl⟩ := nat_of this.1
      exact ⟨q, rfl, by omega⟩
    have hrl := fun W => rlist_any q hq W
    have hrlh := Lib.hid hrl
    clear hset hset1 hE hrl
    by_cases hn : bs.length = 0
    · have hz : ((bs.length : Int) == 0) = true := by simp [hn]
      have hEf : Hid (E = 4) := Lib.hid (by rw [hE2.out, if_pos (.inl hn)])
      clear hE2
      have hnh := Lib.hid hn
      clear hn
      go_enter Try.func83, Try.ntmps83
      go_wp2_with fail
      obtain ⟨w1, hw1, H⟩ := H.name
      rw [hw1]
      clear hw1
      have a0 := H.cell 0 0 rfl rfl; have a1 := H.cell 0 1 rfl rfl; have a2 := H.cell 0 2 rfl rfl
      have Hh := Lib.hid H
      clear H
      refine (hsch.out _).mono ?_
      rintro e w2 ⟨rfl, rfl⟩
      go_wp2_with fail
      go_quiet (fail)
      go_wp2_with fail
      go_ret
      exact ⟨ret_int hEf.out.symm, below_drewN Hh.out.bel _⟩
    · have hz : ((bs.length : Int) == 0) = false := beq_false_of_ne (by omega)
      have hnh := Lib.hid hn
      clear hn
      go_enter Try.func83, Try.ntmps83
      go_wp2_with fail
      obtain ⟨w1, hw1, H⟩ := H.name
      rw [hw1]
      clear hw1
      have a0 := H.cell 0 0 rfl rfl; have a1 := H.cell 0 1 rfl rfl; have a2 := H.cell 0 2 rfl rfl
      have Hh := Lib.hid H
      clear H
      refine (hsch.out _).mono ?_
      rintro e w2 ⟨rfl, rfl⟩
      go_upto_region 3 with fail
      go_cut [25] (fun s wx => s = .bool ((cols.length : Int) != ((listS q).length : Int)) ∧ Hp w wx [.box w.heap.size 78 [.int .i64 q, .slice bA bs.length bc, .slice cA cols.length cc]])
      case first =>
        have hz2 := Lib.hid (hrlh.out w1.drew)
        have hdr := Lib.hid Hh.out.drew
        go_region_held3 (fun w' => w'.cell? ⟨w.heap.size, 0, none⟩ = some (.int .i64 q) ∧ w'.cell? ⟨w.heap.size, 1, none⟩ = some (.slice bA bs.length bc) ∧ w'.cell? ⟨w.heap.size, 2, none⟩ = some (.slice cA cols.length cc)) (first | exact ⟨a0, a1, a2⟩ | go_keep)
          (first
            | (go_at_call 87; refine hz2.out.mono ?_; rintro e w5 ⟨v, rfl, hol, hb5⟩; obtain ⟨Al, cl, rfl, _, _⟩ := own_shape hol; have H5 := hdr.out.grow hb5; have a0 := H5.cell 0 0 rfl rfl; have a1 := H5.cell 0 1 rfl rfl; have a2 := H5.cell 0 2 rfl rfl))
        go_wp2_with fail
        go_meet
        exact ⟨rfl, H5⟩
      case rest =>
      clear a0 a1 a2 Hh hrlh
      obtain ⟨rfl, H⟩ := hcut
      have a2 := H.cell 0 2 rfl rfl
      have Hh := Lib.hid H
      clear H
      generalize (listS (q : Int)).length = L at *
      by_cases hm : cols.length = L
      case neg =>
        have hq2 : ((cols.length : Int) != (L : Int)) = true := bne_iff_ne.2 (by omega)
        have hEf : Hid (E = 4) := Lib.hid (by rw [hE2.out, if_pos (.inr hm)])
        clear hE2 hm
        rw [hq2]
        go_wp2_with fail
        go_ret
        exact ⟨ret_int hEf.out.symm, Hh.out.bel⟩
      case pos =>
        have hq2 : ((cols.length : Int) != (L : Int)) = false := by simp [hm]
        have hE3 : Hid (E = if colsErr bs.length (cols.map ColIn.zs) ≠ 0 then colsErr bs.length (cols.map ColIn.zs) else bsErr none bs) := Lib.hid (by rw [hE2.out, if_neg (by simp [hnh.out, hm])])
        clear hE2 hm
        rw [hq2]
        clear hq2
        go_wp2_with fail
        clear a2
        go_loopw [29] (fun s wr => ∃ k : Nat, k ≤ cols.length ∧ s = .int .i64 k ∧ Hid (colsErr bs.length (cols.map ColIn.zs) = colsErr bs.length ((cols.drop k).map ColIn.zs)) ∧ Hp w wr [.box w.heap.size 78 [.int .i64 q, .slice bA bs.length bc, .slice cA cols.length cc]]) (fun s _ => cols.length - (intOf s).toNat)
        case atStart => exact ⟨0, by omega, rfl, Lib.hid (by simp), Hh.out⟩
        case round =>
          clear Hh
          obtain ⟨k, hk, rfl, hfr, H⟩ := hrel
          by_cases hkl : k < cols.length
          · obtain ⟨b1, off, rfl, hb1, e0⟩ := rdC_at (Rd.under hcs H.bel (Nat.le_refl _)) hkl
            have hst : Hid ((cols.drop k).map ColIn.zs = cols[k].zs :: (cols.drop (k + 1)).map ColIn.zs) := Lib.hid (by rw [List.drop_eq_getElem_cons hkl]; rfl)
            have hcol := Lib.hid (hzsh.out _ (List.getElem_mem hkl))
            have hsm := s3h.out _ (List.getElem_mem hkl)
            generalize cols[k] = C at *
            obtain ⟨CA, Cc, Cz⟩ := C
            dsimp only at e0 hst hsm hcol
            have i0 : (0 : Int) ≤ (k : Int) := by omega
            have i1 : (k : Int) < (cols.length : Int) := by omega
            have a1 := H.cell 0 1 rfl rfl
            have Hh := Lib.hid H
            clear H
            by_cases hcl : Cz.length = bs.length
            case neg =>
              have hq3 : ((Cz.length : Int) != (bs.length : Int)) = true := bne_iff_ne.2 (by omega)
              have hx : colsErr bs.length (cols.map ColIn.zs) = 4 := by rw [hfr.out, hst.out, colsErr, if_pos hcl]
              have hEf : Hid (E = 4) := Lib.hid (by rw [hE3.out, hx]; rfl)
              clear hx hE3 hst hfr hcl
              go_wp2_with fail
              go_ret
              exact ⟨ret_int hEf.out.symm, Hh.out.bel⟩
            case pos =>
              have hq3 : ((Cz.length : Int) != (bs.length : Int)) = false := by simp [hcl]
              have hclh := Lib.hid hcl
              clear hcl
              go_wp2_with fail
              clear a1 e0
              go_loopw [41] (fun s wr => ∃ i : Nat, i ≤ Cz.length ∧ s = .int .i64 i ∧ Hid (∀ v ∈ Cz.take i, isVal v = true) ∧ Hp w wr [.box w.heap.size 78 [.int .i64 q, .slice bA bs.length bc, .slice (some ⟨b1, off, none⟩) cols.length cc]]) (fun s _ => Cz.length - (intOf s).toNat)
              case atStart => exact ⟨0, by omega, rfl, Lib.hid (by simp), Hh.out⟩
              case round =>
                clear Hh
                obtain ⟨i, hi, rfl, hok, H⟩ := hrel
                obtain ⟨wp, rfl⟩ : ∃ wp : World, wp = wr := ⟨_, rfl⟩
                by_cases hil : i < Cz.length
                · obtain ⟨v1, p1, rfl, hv1, y0⟩ := rdZ_at (Rd.under hcol.out H.bel (Nat.le_refl _)) hil
                  have htk := Lib.hid (List.take_append_getElem hil)
                  have hmem : Cz[i] ∈ Cz := List.getElem_mem hil
                  generalize Cz[i] = z at *
                  have i4 : (0 : Int) ≤ (i : Int) := by omega
                  have i5 : (i : Int) < (Cz.length : Int) := by omega
                  have hv := fun W => rvalue_any z W
                  obtain ⟨V, hV⟩ : ∃ V, V = isVal z := ⟨_, rfl⟩
                  rw [← hV] at hv
                  have hvh := Lib.hid hv
                  have Hh := Lib.hid H
                  clear H hv
                  cases V with
                  | true =>
                    have hok2 : Hid (∀ v ∈ Cz.take (i + 1), isVal v = true) := Lib.hid (by
                      intro v hv
                      rw [← htk.out] at hv
                      rcases List.mem_append.1 hv with hv | hv
                      · exact hok.out v hv
                      · obtain rfl : v = z := by simpa using hv
                        exact hV.symm)
                    clear hok hV htk hmem
                    go_wp2_with fail
                    refine (hvh.out _).mono ?_
                    rintro e w5 ⟨rfl, rfl⟩
                    go_wp2_with fail
                    go_roundw
                    case rel => exact ⟨i + 1, by omega, by go_num, hok2, Hh.out⟩
                    case measure => simp [intOf]; omega
                  | false =>
                    have hx : colsErr bs.length (cols.map ColIn.zs) = 3 := by
                      rw [hfr.out, hst.out, colsErr, if_neg (fun e => e hclh.out), if_pos]
                      rw [List.any_eq_true]
                      exact ⟨z, hmem, by rw [← hV]; rfl⟩
                    have hEf : Hid (E = 3) := Lib.hid (by rw [hE3.out, hx]; rfl)
                    clear hok hV htk hmem hx hE3 hst hfr
                    go_wp2_with fail
                    refine (hvh.out _).mono ?_
                    rintro e w5 ⟨rfl, rfl⟩
                    go_wp2_with fail
                    go_ret
                    exact ⟨ret_int hEf.out.symm, Hh.out.bel⟩
                · obtain rfl : i = Cz.length := by omega
                  have hf2 : Hid (colsErr bs.length (cols.map ColIn.zs) = colsErr bs.length ((cols.drop (k + 1)).map ColIn.zs)) := Lib.hid (by
                    rw [hfr.out, hst.out, colsErr, if_neg (fun e => e hclh.out), if_neg]
                    rw [List.any_eq_true]
                    rintro ⟨v, hv, hb⟩
                    have := hok.out v (by rw [List.take_length]; exact hv)
                    rw [this] at hb
                    cases hb)
                  have Hh := Lib.hid H
                  clear H
                  go_wp2_with fail
                  go_roundw
                  case rel => exact ⟨k + 1, by omega, by go_num, hf2, Hh.out⟩
                  case measure => simp [intOf]; omega
          · obtain rfl : k = cols.length := by omega
            have hE4 : Hid (E = bsErr none bs) := Lib.hid (by rw [hE3.out, hfr.out, List.drop_length]; rfl)
            have hE5 : Hid (E = bsErr (prevB bs 1) (bs.drop 1)) := Lib.hid (by
              rw [hE4.out]
              cases bs with
              | nil => exact absurd rfl hnh.out
              | cons r l => rw [bsErr]; simp [prevGe, prevB])
            have hn1 : 1 ≤ bs.length := by have := hnh.out; omega
            clear hE3 hE4 hfr hcs hzsh s3h
            obtain ⟨wo, rfl⟩ : ∃ wo : World, wo = wr := ⟨_, rfl⟩
            have Hh := Lib.hid H
            clear H
            go_wp2_with fail
            go_loopw [7] (fun s wr => ∃ k : Nat, 1 ≤ k ∧ k ≤ bs.length ∧ s = .int .i64 k ∧ Hid (E = bsErr (prevB bs k) (bs.drop k)) ∧ Hp w wr [.box w.heap.size 78 [.int .i64 q, .slice bA bs.length bc, .slice cA cols.length cc]]) (fun s _ => bs.length - (intOf s).toNat)
            case atStart => exact ⟨1, by omega, hn1, rfl, hE5, Hh.out⟩
            case round =>
              clear hE5 Hh
              obtain ⟨k, hk1, hk, rfl, hfr, H⟩ := hrel
              have d1 := H.cell 0 1 rfl rfl
              by_cases hkl : k < bs.length
              · obtain ⟨k', hkk⟩ : ∃ k', Hid (k = k' + 1) := ⟨k - 1, Lib.hid (by omega)⟩
                have hk' : k' < bs.length := by have := hkk.out; omega
                obtain ⟨b1, off, rfl, hb1, e0, e1⟩ := rdBe_at (Rd.under hbs H.bel (Nat.le_refl _)) hkl
                obtain ⟨b', off', hbo, _, e0', _⟩ := rdBe_at (Rd.under hbs H.bel (Nat.le_refl _)) hk'
                injection hbo with hbo
                injection hbo with hbo1 hbo2
                subst hbo1 hbo2
                have hst : Hid (bs.drop k = bs[k] :: bs.drop (k + 1)) := Lib.hid (List.drop_eq_getElem_cons hkl)
                have hpn : Hid (prevB bs (k + 1) = some bs[k].1) := Lib.hid (by simp [prevB, hkl])
                have hpp : Hid (prevB bs k = some bs[k'].1) := Lib.hid (by rw [hkk.out]; simp [prevB, hk'])
                generalize bs[k] = r at *
                generalize bs[k'] = r2 at *
                obtain ⟨ri, rg⟩ := r
                obtain ⟨si, sg⟩ := r2
                dsimp only at e0 e0' hst hpn hpp
                have i0 : (0 : Int) ≤ (k : Int) := by omega
                have i1 : (k : Int) < (bs.length : Int) := by omega
                have j0 : (0 : Int) ≤ (k' : Int) := by omega
                have j1 : (k' : Int) < (bs.length : Int) := by omega
                have hwrap : IntKind.i64.wrap ((k : Int) - 1) = (k' : Int) := by have := hkk.out; rw [IntKind.wrap_i64]; omega
                have hEq : Hid (E = if ri ≤ si then 2 else bsErr (some ri) (bs.drop (k + 1))) := Lib.hid (by rw [hfr.out, hst.out, bsErr, hpp.out]; simp [prevGe])
                have Hh := Lib.hid H
                clear hbs hfr hst hpp H
                go_upto_region 20 with fail
                obtain ⟨P, hP⟩ : ∃ P, Hid (decide (ri ≤ si) = P) := ⟨_, Lib.hid rfl⟩
                go_cut [70] (fun s wx => s = .bool P ∧ ∃ n, wx = wr.drewN n)
                case first =>
                  go_quiet (fail)
                  go_wp2_with fail
                  go_meet
                  exact ⟨by rw [← hP.out], _, rfl⟩
                case rest =>
                  obtain ⟨rfl, n, rfl⟩ := hcut
                  have H2 := Lib.hid (Hh.out.drewN n)
                  cases P with
                  | true =>
                    have hle : ri ≤ si := of_decide_eq_true hP.out
                    have hEf : Hid (E = 2) := Lib.hid (by rw [hEq.out, if_pos hle])
                    clear hEq hle
                    go_wp2_with fail
                    go_ret
                    exact ⟨ret_int hEf.out.symm, H2.out.bel⟩
                  | false =>
                    have hle : ¬ ri ≤ si := of_decide_eq_false hP.out
                    have hE6 : Hid (E = bsErr (prevB bs (k + 1)) (bs.drop (k + 1))) := Lib.hid (by rw [hEq.out, if_neg hle, hpn.out])
                    clear hEq hle hpn
                    go_wp2_with fail
                    go_roundw
                    case rel => exact ⟨k + 1, by omega, by omega, by go_num, hE6, H2.out⟩
                    case measure => simp [intOf]; omega
              · obtain rfl : k = bs.length := by omega
                have hEf : Hid (E = 0) := Lib.hid (by rw [hfr.out, List.drop_length, bsErr])
                have Hh := Lib.hid H
                clear H hfr
                go_wp2_with fail
                go_ret
                exact ⟨ret_int hEf.out.symm, Hh.out.bel⟩
end Go.Proofs.Ytefdblaolmckmab

namespace Go.Proofs.Ytefdblaolmckmab
open Go.RowKit
open Brood
set_option linter.unusedVariables false
set_option linter.unusedSimpArgs false
set_option maxRecDepth 20000 in
set_option maxHeartbeats 12800000 in
theorem rswrong_any (l : List TabIn) (A : Option Addr) (c : Nat) (gens : List Int) (Ag : Option Addr) (cg : Nat) (hs : StSmall l gens) (w : World) (hT : RdT w w.heap.size A l) (hg : RdG w w.heap.size Ag gens) (hng : Ag = none → cg = 0 ∧ gens = []) :
    Calls Try.prog 33 #[.agg #[.slice A l.length c, .slice Ag gens.length cg]] w fun e w' => e = .returned (.agg #[.int .i64 (storeErr (l.map tabOf) gens).1, .int .i64 (storeErr (l.map tabOf) gens).2]) ∧ Below w.heap.size w w' := by
  obtain ⟨E, hE⟩ : ∃ E, E = storeErr (l.map tabOf) gens := ⟨_, rfl⟩
  rw [← hE]
  obtain ⟨s1, s2, s3, s4⟩ := hs
  have s2h := Lib.hid s2; have s3h := Lib.hid s3
  obtain ⟨T, hTe⟩ : ∃ T, T = tabsFrom 0 none (l.map tabOf) := ⟨_, rfl⟩
  have hET : Hid (E = if T.1 ≠ 0 then T else ((worldErr ⟨worldT (l.map tabOf), gens⟩).1, 0)) := Lib.hid (by rw [hE, hTe]; rfl)
  have hok : Hid (T.1 = 0 → ∀ t ∈ l.map tabOf, TabOk t) := Lib.hid (fun h => ((tabsFrom_iff _ 0 none).1 (hTe ▸ h)).1)
  have hTh := Lib.hid hTe
  clear s2 s3 hE hTe
  have H := ((Hp.start w).new w.heap.size rfl 59 [.slice A l.length c, .slice Ag gens.length cg]).new (w.heap.size + 1) (by simp) 32 [.int .i64 0, .int .i64 0]
  replace H : Hp w _ [stBox w.heap.size A l.length c Ag gens.length cg, fBox (w.heap.size + 1) 0 0] := H
  have a0 := H.cell 0 0 rfl rfl; have a1 := H.cell 0 1 rfl rfl
  go_enter Try.func33, Try.ntmps33
  go_wp2_with fail
  go_loopw [10] (fun q wr => ∃ k : Nat, k ≤ l.length ∧ q = .int .i64 k ∧ Hid (T = tabsFrom k (prevT l k) ((l.drop k).map tabOf)) ∧ Hp w wr [stBox w.heap.size A l.length c Ag gens.length cg, fBox (w.heap.size + 1) 0 0]) (fun q _ => l.length - (intOf q).toNat)
  case atStart => exact ⟨0, by omega, rfl, Lib.hid (by rw [hTh.out]; simp [prevT]), H⟩
  case round =>
    clear H a0 a1
    obtain ⟨k, hk, rfl, hfr, H⟩ := hrel
    have a0 := H.cell 0 0 rfl rfl; have a1 := H.cell 0 1 rfl rfl; have f0 := H.cell 1 0 rfl rfl; have f1 := H.cell 1 1 rfl rfl
    have y0 := H.frozen 1 0 rfl; have y1 := H.frozen 1 1 rfl
    by_cases hlt : k < l.length
    · obtain ⟨b, off, rfl, hb, hat⟩ := (RdT.more (hT.under H.bel (Nat.le_refl _)) H.bel.size).tab hlt
      have hst : Hid ((l.drop k).map tabOf = tabOf l[k] :: (l.drop (k + 1)).map tabOf) := Lib.hid (by rw [List.drop_eq_getElem_cons hlt]; rfl)
      have hpn : Hid (prevT l (k + 1) = some l[k].has) := Lib.hid (by simp [prevT, hlt])
      have hbs := Lib.hid (hT.bs _ (List.getElem_mem hlt)); have hcs := Lib.hid (hT.cs _ (List.getElem_mem hlt)); have hzs := Lib.hid (hT.zs _ (List.getElem_mem hlt)); have hsm := Lib.hid (s2h.out _ (List.getElem_mem hlt))
      have hprev : ∀ k', k = k' + 1 → ∃ z : Int, prevT l k = some z ∧ w.cell? ⟨b, off + k' * 3, none⟩ = some (.int .i64 z) := by
        rintro k' rfl
        have hk' : k' < l.length := by omega
        obtain ⟨b', off', hbo, _, e0', _⟩ := hT.at_ hk'
        injection hbo with hbo
        injection hbo with hbo1 hbo2
        subst hbo1 hbo2
        exact ⟨l[k'].has, by simp [prevT, hk'], e0'⟩
      obtain ⟨_, _, he, hb2, e0, e1, e2⟩ := hT.at_ hlt
      injection he with he
      injection he with he1 he2
      subst he1 he2
      have hth : Hid ((tabOf l[k]).has = l[k].has) := Lib.hid rfl
      obtain ⟨P, hP⟩ : ∃ P, P = prevT l k := ⟨_, rfl⟩
      have hP0 : Hid (k = 0 → P = none) := Lib.hid (by rintro rfl; rw [hP]; rfl)
      rw [← hP] at hprev hfr
      clear hP
      generalize l[k] = t at *
      obtain ⟨er, her⟩ : ∃ er, er = tabErr (tabOf t) := ⟨_, rfl⟩
      have hTq : Hid (T = if er ≠ 0 then (er, (k : Int)) else if prevGe P t.has = true then (2, (k : Int)) else tabsFrom (k + 1) (some t.has) ((l.drop (k + 1)).map tabOf)) := Lib.hid (by rw [hfr.out, hst.out, tabsFrom, ← her, hth.out])
      have hcallh : Hid (∀ W, Below w.heap.size w W → Calls Try.prog 83 #[.agg #[.int .i64 t.has, .slice t.bA t.bs.length t.bc, .slice t.cA t.cols.length t.cc]] W fun e w' => e = .returned (.int .i64 er) ∧ Below W.heap.size W w') := Lib.hid (fun W hbW => by
        rw [her]
        exact rtable_any t W (Rd.grow hbs.out hbW) (Rd.grow hcs.out hbW) (fun x hx => Rd.grow (hzs.out x hx) hbW) hsm.out)
      have i0 : (0 : Int) ≤ (k : Int) := by omega
      have i1 : (k : Int) < (l.length : Int) := by omega
      have e0w : wr.cell? ⟨b, off + k * 3, none⟩ = some (.int .i64 t.has) := (H.bel.cell (by simpa using hb2)).trans e0
      have e1w : wr.cell? ⟨b, off + k * 3 + 1, none⟩ = some (.slice t.bA t.bs.length t.bc) := (H.bel.cell (by simpa using hb2)).trans e1
      have e2w : wr.cell? ⟨b, off + k * 3 + 2, none⟩ = some (.slice t.cA t.cols.length t.cc) := (H.bel.cell (by simpa using hb2)).trans e2
      have HN := H.new wr.heap.size rfl 78 [.int .i64 t.has, .slice t.bA t.bs.length t.bc, .slice t.cA t.cols.length t.cc]
      have hHN := Lib.hid HN
      have hl4 := HN.lt 0 rfl
      clear her hth hfr hst HN hl4 hbs hcs hzs hsm H
      go_upto_region 4 with fail
      clear e0w e1w e2w
      obtain ⟨w0, hw0, HN⟩ := hHN.out.name
      rw [hw0]
      clear hw0 hHN a0 a1 f0 f1 y0 y1
      obtain ⟨g4, hg4⟩ : ∃ g4, g4 = wr.heap.size := ⟨_, rfl⟩
      rw [← hg4] at HN ⊢
      clear hg4
      have t0 := HN.cell 2 0 rfl rfl; have t1 := HN.cell 2 1 rfl rfl; have t2 := HN.cell 2 2 rfl rfl
      have hc0 := Lib.hid (hcallh.out w0 HN.bel)
      have hHN := Lib.hid HN
      clear HN hcallh
      go_wp2_with fail
      refine hc0.out.mono ?_
      rintro e w1 ⟨rfl, hb1⟩
      have H2 := hHN.out.grow hb1
      clear hc0 hHN t0 t1 t2
      have t0 := H2.cell 2 0 rfl rfl
      have a0 := H2.cell 0 0 rfl rfl; have a1 := H2.cell 0 1 rfl rfl; have f0 := H2.cell 1 0 rfl rfl; have f1 := H2.cell 1 1 rfl rfl
      have y0 := H2.frozen 1 0 rfl; have y1 := H2.frozen 1 1 rfl
      by_cases her : er = 0
      · subst her
        have hTq2 : Hid (T = if prevGe P t.has = true then (2, (k : Int)) else tabsFrom (k + 1) (some t.has) ((l.drop (k + 1)).map tabOf)) := Lib.hid (by rw [hTq.out, if_neg (by decide)])
        generalize t.has = ri at *
        have hprev' : ∀ k', k = k' + 1 → ∃ z : Int, P = some z ∧ w1.cell? ⟨b, off + k' * 3, none⟩ = some (.int .i64 z) := fun k' h => by
          obtain ⟨z, h1, h2⟩ := hprev k' h
          exact ⟨z, h1, (H2.bel.cell (by simpa using hb2)).trans h2⟩
        clear hTq e0 e1 e2 hprev hat
        go_upto_region 7 with fail
        go_cut [35] (fun s39 wx => s39 = .bool (prevGe P ri) ∧ ∃ n, wx = w1.drewN n)
        case first =>
          clear hTq2
          cases k with
          | zero =>
            have hpz : Hid (prevGe P ri = false) := Lib.hid (by rw [hP0.out rfl]; rfl)
            clear hprev'
            go_quiet (fail)
            go_wp2_with fail
            go_meet
            exact ⟨by rw [hpz.out], _, rfl⟩
          | succ k' =>
            obtain ⟨q, hq, hcq⟩ := hprev' k' rfl
            have hqv : Hid (prevGe P ri = decide (ri ≤ q)) := Lib.hid (by rw [hq]; rfl)
            have hwrap : IntKind.i64.wrap (((k' + 1 : Nat) : Int) - 1) = (k' : Int) := by rw [IntKind.wrap_i64]; omega
            have hkp : (0 : Int) < ((k' + 1 : Nat) : Int) := by omega
            have k0 : (0 : Int) ≤ (k' : Int) := by omega
            have k1 : (k' : Int) < (l.length : Int) := by omega
            clear hprev' hq
            go_quiet (fail)
            go_wp2_with fail
            go_meet
            exact ⟨by rw [hqv.out], _, rfl⟩
        case rest =>
          obtain ⟨rfl, n, rfl⟩ := hcut
          have H3 := H2.drewN n
          clear hprev' hP0 H2 a0 a1 f0 f1 y0 y1 t0
          have f0 := H3.cell 1 0 rfl rfl; have f1 := H3.cell 1 1 rfl rfl
          have y0 := H3.frozen 1 0 rfl; have y1 := H3.frozen 1 1 rfl
          cases hpg : prevGe P ri with
          | true =>
            have hEf : Hid (E = (2, (k : Int))) := Lib.hid (by rw [hET.out, hTq2.out, if_pos hpg, if_pos (by simp)])
            have H4 := (H3.set 1 0 (.int .i64 2) rfl).set 1 1 (.int .i64 (k : Int)) rfl
            have p0 := H4.cell 1 0 rfl rfl; have p1 := H4.cell 1 1 rfl rfl
            clear hTq2 hET
            go_wp2_with fail
            refine bodyPost_ret (v := .agg #[.int .i64 2, .int .i64 (k : Int)]) (by simp [results, Try.results33, go_sem, p0, p1]) rfl ⟨by rw [hEf.out], H4.bel⟩
          | false =>
            have hEf : Hid (T = tabsFrom (k + 1) (prevT l (k + 1)) ((l.drop (k + 1)).map tabOf)) := Lib.hid (by rw [hTq2.out, if_neg (by rw [hpg]; decide), hpn.out])
            clear hTq2 hpn
            go_wp2_with fail
            go_roundw
            case rel => exact ⟨k + 1, by omega, by go_num, hEf, H3.drop1 2⟩
            case measure => simp [intOf]; omega
      · have her' : (er != 0) = true := bne_iff_ne.2 her
        have hEf : Hid (E = (er, (k : Int))) := Lib.hid (by rw [hET.out, hTq.out, if_pos her, if_pos her])
        have H4 := (H2.set 1 0 (.int .i64 er) rfl).set 1 1 (.int .i64 (k : Int)) rfl
        have p0 := H4.cell 1 0 rfl rfl; have p1 := H4.cell 1 1 rfl rfl
        clear hTq hET hprev hpn her
        go_wp2_with fail
        refine bodyPost_ret (v := .agg #[.int .i64 er, .int .i64 (k : Int)]) (by simp [results, Try.results33, go_sem, p0, p1]) rfl ⟨by rw [hEf.out], H4.bel⟩
    · obtain rfl : k = l.length := by omega
      have hT0 : T = (0, 0) := by rw [hfr.out, List.drop_length]; rfl
      have hEf : Hid (E = ((worldErr ⟨worldT (l.map tabOf), gens⟩).1, 0)) := Lib.hid (by rw [hET.out, hT0, if_neg (by decide)])
      have hokk := hok.out (by rw [hT0])
      have hfit : l.map tabOf = ((l.map tabOf).map grpOf).map tabG := by
        rw [List.map_map]
        have : ∀ t ∈ l.map tabOf, (tabG ∘ grpOf) t = id t := fun t ht => tabG_grpOf (hokk t ht).set_ (hokk t ht).many (hokk t ht).len
        rw [List.map_congr_left this, List.map_id]
      have hcln : ∀ g ∈ (l.map tabOf).map grpOf, Clean g := by
        intro g hg
        obtain ⟨t, ht, rfl⟩ := List.mem_map.1 hg
        exact grpOf_clean (hokk t ht).set_ (hokk t ht).many
      have hcall := rworld_any l A c gens Ag cg _ hfit hcln s1 (by rw [flat_sum]; exact s3h.out) s4 wr (RdT.more (hT.under H.bel (Nat.le_refl _)) H.bel.size)
      have hlw : (sortK BRow.idx (flatG ((l.map tabOf).map grpOf))).length ≤ 1048576 := by rw [(sortK_stb (key := BRow.idx) (flatG ((l.map tabOf).map grpOf))).2.1, flat_sum]; exact s3h.out
      have hwT : Hid (worldT (l.map tabOf) = sortK BRow.idx (flatG ((l.map tabOf).map grpOf))) := Lib.hid rfl
      generalize sortK BRow.idx (flatG ((l.map tabOf).map grpOf)) = R at *
      have hcallh := Lib.hid hcall
      clear hT0 hcall hokk hfit hcln hfr hET hTh hok
      go_wp2_with fail
      refine hcallh.out.mono ?_
      rintro e w1 ⟨Ar, cr, rfl, HR⟩
      have H2 := H.join HR
      have hgr : RdG w1 w1.heap.size Ag gens := H2.old hg
      clear H HR a0 a1 f0 f1 y0 y1
      go_wp2_with fail
      refine (rwrong2_any R gens Ar cr Ag cg (by omega) w1 (H2.rd 2 rfl) hgr).mono ?_
      rintro e w2 ⟨rfl, hb2⟩
      obtain ⟨F, hF⟩ : ∃ F, F = worldErr ⟨R, gens⟩ := ⟨_, rfl⟩
      rw [← hF]
      have hEf2 : Hid (E = (F.1, 0)) := Lib.hid (by rw [hEf.out, hwT.out, hF])
      clear hF hEf hwT
      obtain ⟨x, y⟩ := F
      have H3 := H2.grow hb2
      have f0 := (H2.grow hb2).cell 1 0 rfl rfl; have f1 := (H2.grow hb2).cell 1 1 rfl rfl
      have y0 := (H2.grow hb2).frozen 1 0 rfl; have y1 := (H2.grow hb2).frozen 1 1 rfl
      have lt1 := (H2.grow hb2).lt 1 rfl
      clear H2 hb2
      dsimp only at hEf2
      by_cases hx : x = 0
      · subst hx
        have H4 := ((H3.set 1 0 (.int .i64 0) rfl).set 1 1 (.int .i64 0) rfl).new w2.heap.size (by simp) 32 [.int .i64 0, .int .i64 y]
        have p0 := H4.cell 1 0 rfl rfl; have p1 := H4.cell 1 1 rfl rfl
        go_wp2_with fail
        refine bodyPost_ret (v := .agg #[.int .i64 0, .int .i64 0]) (by simp [results, Try.results33, go_sem, p0, p1]) rfl ⟨by rw [hEf2.out], H4.bel⟩
      · have hx' : (x != 0) = true := bne_iff_ne.2 hx
        have H4 := ((H3.set 1 0 (.int .i64 x) rfl).set 1 1 (.int .i64 0) rfl).new w2.heap.size (by simp) 32 [.int .i64 x, .int .i64 y]
        have p0 := H4.cell 1 0 rfl rfl; have p1 := H4.cell 1 1 rfl rfl
        clear hx
        go_wp2_with fail
        refine bodyPost_ret (v := .agg #[.int .i64 x, .int .i64 0]) (by simp [results, Try.results33, go_sem, p0, p1]) rfl ⟨by rw [hEf2.out], H4.bel⟩
end Go.Proofs.Ytefdblaolmckmab
