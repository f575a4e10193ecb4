/- The walk of StoreBoth. -/
import Derived.Deep.RegionHeld3
import Derived.Test.YtefdblaolmckmabBRef2MToRunG
import Derived.Test.YtefdblaolmckmabBStoFToPlainM
import Derived.Test.YtefdblaolmckmabBRef2AToLaw5N
import Derived.Test.YtefdblaolmckmabBSortTBToRefW
namespace Go.Proofs.Ytefdblaolmckmab
open Go.RowKit
open Brood
set_option linter.unusedVariables false
set_option linter.unusedSimpArgs false
theorem eqFault3 (i g : Int) (w : World) : (binOp .eql 32 (.agg #[.int .i64 i, .int .i64 g]) (.agg #[.int .i64 i, .int .i64 g])).run Try.prog w = .ok (.bool true) w := by
  rw [run_eql_struct, run_equalIn_struct _ _ _ _ _ (by kernel_rfl) (by kernel_rfl)]
  simp [go_sem, Op.eqFields]
set_option maxRecDepth 20000 in
set_option maxHeartbeats 12800000 in
theorem storeBoth_any (rows : List BRow) (gens : List Int) (Ar : Option Addr) (cr : Nat) (Ag : Option Addr) (cg : Nat) (i g part fa fn : Int) (hlr : rows.length ≤ 9223372036854775807) (hlg : gens.length ≤ 9223372036854775807) (hnr : Ar = none → cr = 0 ∧ rows = []) (hng : Ag = none → cg = 0 ∧ gens = [])
    (w : World) (hr : RdR w w.heap.size Ar rows) (hg : RdG w w.heap.size Ag gens) :
    Calls Try.prog 6 #[.agg #[.slice Ar rows.length cr, .slice Ag gens.length cg], .agg #[.int .i64 i, .int .i64 g], .int .i64 part, .agg #[.int .i64 fa, .int .i64 fn]] w fun e w' => e = .returned (.bool true) ∧ Below w.heap.size w w' := by
  have H0 := (((Hp.start w).new w.heap.size rfl 25 [.slice Ar rows.length cr, .slice Ag gens.length cg]).new (w.heap.size + 1) (by simp) 27 [.int .i64 i, .int .i64 g]).new (w.heap.size + 1 + 1) (by simp) 29 [.int .i64 fa, .int .i64 fn]
  replace H0 : Hp w _ [.box w.heap.size 25 [.slice Ar rows.length cr, .slice Ag gens.length cg], .box (w.heap.size + 1) 27 [.int .i64 i, .int .i64 g], .box (w.heap.size + 1 + 1) 29 [.int .i64 fa, .int .i64 fn]] := H0
  go_enter Try.func6, Try.ntmps6
  go_wp2_with fail
  obtain ⟨w0, hw0, H0⟩ := H0.name
  rw [hw0]; clear hw0
  refine (alive3_any w0).mono ?_
  rintro e w1 ⟨rfl, hb⟩
  replace H0 := H0.grow hb
  clear hb
  have a0 := H0.cell 0 0 rfl rfl; have a1 := H0.cell 0 1 rfl rfl
  go_wp2_with fail
  refine (sof_any rows gens Ar cr Ag cg hlr hng w1 (H0.old hr) (H0.old hg)).mono ?_
  rintro e w2 ⟨v, rfl, hG⟩
  have hrt : Hid ((worldErr ⟨rows, gens⟩).1 = 0 → RightW rows gens) := Lib.hid (right_iff rows gens).1
  have hof : Hid (ofV rows gens = if (worldErr ⟨rows, gens⟩).1 ≠ 0 then ([], []) else (tabsW rows, gens)) := Lib.hid rfl
  have hpw := Lib.hid (fun W => pwrong_any rows gens Ar cr Ag cg hlr W)
  generalize worldErr ⟨rows, gens⟩ = F at *
  obtain ⟨f1, f2⟩ := F
  have H1 := H0.grow hG.bel
  obtain ⟨A, c, l, Ag2, cg2, rfl, hl, hR⟩ := hG.rd
  clear hG H0 a0 a1
  unfold fV
  dsimp only at hrt hof ⊢
  by_cases hf : f1 = 0
  case neg =>
    have hf' : (f1 != 0) = true := by simpa using hf
    have a0 := H1.cell 0 0 rfl rfl; have a1 := H1.cell 0 1 rfl rfl
    have H2 := (H1.new w2.heap.size rfl 59 [.slice A l.length c, .slice Ag2 (ofV rows gens).2.length cg2]).new (w2.heap.size + 1) (by simp) 32 [.int .i64 f1, .int .i64 f2]
    have l0 := H1.lt 0 rfl
    clear H1 hR hl hof hrt
    generalize (ofV rows gens).2 = gs at *
    go_upto_region 5 with fail
    obtain ⟨w3, hw3, H2⟩ := H2.name
    rw [hw3]
    clear hw3 a0 a1 l0
    have a0 := H2.cell 0 0 rfl rfl; have a1 := H2.cell 0 1 rfl rfl; have f0 := H2.cell 4 0 rfl rfl; have f1' := H2.cell 4 1 rfl rfl
    have hz := Lib.hid (hpw.out w3.drew (H2.drew.old hr) (H2.drew.old hg))
    have heq := fun W => eqFault3 f1 f2 W
    have H2h := Lib.hid H2.drew
    clear hpw H2
    go_region_held3 (fun w' => w'.cell? ⟨w.heap.size, 0, none⟩ = some (.slice Ar rows.length cr) ∧ w'.cell? ⟨w.heap.size, 1, none⟩ = some (.slice Ag gens.length cg) ∧ w'.cell? ⟨w2.heap.size + 1, 0, none⟩ = some (.int .i64 f1) ∧ w'.cell? ⟨w2.heap.size + 1, 1, none⟩ = some (.int .i64 f2))
      (first | exact ⟨a0, a1, f0, f1'⟩ | go_keep)
      (first
        | (go_at_call 11; refine hz.out.mono ?_; rintro e w5 ⟨rfl, hb5⟩; have H5 := H2h.out.grow hb5; have a0 := H5.cell 0 0 rfl rfl; have a1 := H5.cell 0 1 rfl rfl; have f0 := H5.cell 4 0 rfl rfl; have f1' := H5.cell 4 1 rfl rfl))
    all_goals go_wp2_with fail
    all_goals go_ret
    all_goals exact ⟨rfl, H5.bel⟩
  case pos =>
    subst hf
    have hRw := hrt.out rfl
    rw [show ofV rows gens = (tabsW rows, gens) by rw [hof.out, if_neg (by simp)]] at hl hR ⊢
    dsimp only at hl hR ⊢
    have hlg60 : gens.length ≤ 60 := hRw.len
    have hlr60 : rows.length ≤ 60 := Nat.le_trans hRw.rows_le hRw.len
    have hsm := right_small hRw hl
    have hlens := right_len hRw
    have hll : Hid (l.length = (ofG rows).length) := Lib.hid (fit_len (G := ofG rows) hl)
    have H2 := (H1.new w2.heap.size rfl 59 [.slice A l.length c, .slice Ag2 gens.length cg2]).new (w2.heap.size + 1) (by simp) 32 [.int .i64 0, .int .i64 f2]
    have hR2 := (hR.alloc (.cells #[.slice A l.length c, .slice Ag2 gens.length cg2] 59)).alloc (.cells #[.int .i64 0, .int .i64 f2] 32)
    have l0 := H1.lt 0 rfl
    clear hof hrt hpw H1 hR
    have H2h := Lib.hid H2
    clear H2
    go_upto_region 6 with fail
    obtain ⟨w3, hw3, H2⟩ := H2h.out.name
    rw [hw3] at hR2 ⊢
    clear hw3 l0 H2h
    have hA : Hid (∀ W, Below w3.heap.size w3 W → Calls Try.prog 32 #[.agg #[.slice A l.length c, .slice Ag2 gens.length cg2]] W fun e w' => e = .returned (.agg #[.int .i64 0, .int .i64 0]) ∧ Below W.heap.size W w') := Lib.hid (fun W hW => by
      have hr := hR2.grow hW
      have := swrong_any l A c gens Ag2 cg2 hsm W hr.tabs hr.gen hr.ng
      rw [hl, hRw.store] at this
      exact this)
    have hB : Hid (∀ W, Below w3.heap.size w3 W → Calls Try.prog 36 #[.agg #[.slice A l.length c, .slice Ag2 gens.length cg2]] W fun e w' => ∃ Ar3 cr3 Ag3 cg3, e = .returned (.agg #[.slice Ar3 rows.length cr3, .slice Ag3 gens.length cg3]) ∧ RdR w' w'.heap.size Ar3 rows ∧ RdG w' w'.heap.size Ag3 gens ∧ Below W.heap.size W w') := Lib.hid (fun W hW => by
      have hr := hR2.grow hW
      refine (world_any l A c gens Ag2 cg2 (ofG rows) hl hRw.rep.clean (by have := hll.out; omega) (by omega) (by omega) W hr.tabs hr.gen hr.ng).mono ?_
      rintro e w' ⟨v, rfl, hG, hb⟩
      rw [hRw.rep.sorted] at hG
      obtain ⟨vr, vg, rfl, hO⟩ := hG
      obtain ⟨Ar3, cr3, rfl, _, _⟩ := own_shape hO.rows_
      obtain ⟨Ag3, cg3, rfl, _, _⟩ := own_shape hO.gens_
      exact ⟨Ar3, cr3, Ag3, cg3, rfl, Rd.of_own hO.rows_, Rd.of_own hO.gens_, hb⟩)
    have a0 := H2.cell 0 0 rfl rfl; have a1 := H2.cell 0 1 rfl rfl; have s0 := H2.cell 3 0 rfl rfl; have s1 := H2.cell 3 1 rfl rfl
    have hfl := fun a b W => fld_err3 a b W
    have H2h := Lib.hid H2.drew; have Hk := Lib.hid H2
    have hRwh := Lib.hid hRw; have hlh := Lib.hid hl; have hR2h := Lib.hid hR2; have hsmh := Lib.hid hsm
    clear H2 hRw hl hR2 hsm hlens hll
    have B0 : Below w3.heap.size w3 w3.drew := (Below.refl _ _).drew
    go_cut [39] (fun s wx => s = .bool false ∧ Below w3.heap.size w3 wx)
    case first =>
      go_region_held3 (fun w' => w'.cell? ⟨w.heap.size, 0, none⟩ = some (.slice Ar rows.length cr) ∧ w'.cell? ⟨w.heap.size, 1, none⟩ = some (.slice Ag gens.length cg) ∧ w'.cell? ⟨w2.heap.size, 0, none⟩ = some (.slice A l.length c) ∧ w'.cell? ⟨w2.heap.size, 1, none⟩ = some (.slice Ag2 gens.length cg2))
        (first | exact ⟨a0, a1, s0, s1⟩ | go_keep)
        (first
          | (go_at_call 32; refine (hA.out w3.drew B0).mono ?_; rintro e w5 ⟨rfl, hb5⟩; have H5 := H2h.out.grow hb5; have B5 : Below w3.heap.size w3 w5 := B0.trans (hb5.mono B0.size); have a0 := H5.cell 0 0 rfl rfl; have a1 := H5.cell 0 1 rfl rfl; have s0 := H5.cell 3 0 rfl rfl; have s1 := H5.cell 3 1 rfl rfl)
          | (go_at_call 36; refine (hB.out _ B5).mono ?_; rintro e w6 ⟨Ar3, cr3, Ag3, cg3, rfl, hr6, hg6, hb6⟩; have H6 := H5.grow hb6; have B6 := B5.trans (hb6.mono B5.size); have a0 := H6.cell 0 0 rfl rfl; have a1 := H6.cell 0 1 rfl rfl; have s0 := H6.cell 3 0 rfl rfl; have s1 := H6.cell 3 1 rfl rfl)
          | (go_at_call 13; refine (rsame_any rows gens Ar3 cr3 Ag3 cg3 Ar cr Ag cg (by omega) (by omega) w6 hr6 (H6.old hr) hg6 (H6.old hg)).mono ?_; rintro e w7 ⟨rfl, hb7⟩; have H7 := H6.grow hb7; have B7 := B6.trans (hb7.mono B6.size); have a0 := H7.cell 0 0 rfl rfl; have a1 := H7.cell 0 1 rfl rfl; have s0 := H7.cell 3 0 rfl rfl; have s1 := H7.cell 3 1 rfl rfl))
      all_goals go_wp2_with fail
      all_goals go_meet
      all_goals exact ⟨rfl, B7⟩
    case rest =>
    clear a0 a1 s0 s1 hA hB H2h
    obtain ⟨rfl, hB7⟩ := hcut
    have H := Hk.out.grow hB7
    have hR3 := hR2h.out.grow hB7
    clear Hk hR2h B0 hB7
    have s0 := H.cell 3 0 rfl rfl; have s1 := H.cell 3 1 rfl rfl; have b0 := H.cell 1 0 rfl rfl; have b1 := H.cell 1 1 rfl rfl
    have Hh := Lib.hid H
    clear H
    go_wp2_with fail
    refine (sget_any l A c gens Ag2 cg2 rows hRwh.out hlh.out i g part _ hR3).mono ?_
    rintro e w8 ⟨rfl, hb8⟩
    have H := Hh.out.grow hb8
    have hR4 := Lib.hid (hR3.grow hb8)
    clear hR3 hb8 s0 s1 b0 b1 Hh
    have a0 := H.cell 0 0 rfl rfl; have a1 := H.cell 0 1 rfl rfl; have b0 := H.cell 1 0 rfl rfl; have b1 := H.cell 1 1 rfl rfl
    have Hh := Lib.hid H
    clear H
    go_wp2_with fail
    refine (get_any rows gens Ar cr Ag cg (by omega) hRwh.out.set_ i g part w8 (Hh.out.old hr)).mono ?_
    rintro e w9 ⟨rfl, hb9⟩
    have H := Hh.out.grow hb9
    have hR5 := hR4.out.grow hb9
    clear hR4 hb9 a0 a1 b0 b1 Hh
    generalize getP i g rows part = P at *
    obtain ⟨p1, p2⟩ := P
    dsimp only
    have a0 := H.cell 0 0 rfl rfl; have a1 := H.cell 0 1 rfl rfl; have s0 := H.cell 3 0 rfl rfl; have s1 := H.cell 3 1 rfl rfl; have q0 := H.cell 2 0 rfl rfl; have q1 := H.cell 2 1 rfl rfl
    have H9 := Lib.hid H
    have hR9 := Lib.hid (hR5.drewN 1)
    have hR5h := Lib.hid hR5
    clear H hR5
    go_upto_region 10 with fail
    have hsa := fun W => rset_any fa W
    have hsn := fun W => rset_any fn W
    cases hfa : isSet fa with
    | false =>
      rw [hfa] at hsa
      have hsah := Lib.hid hsa
      clear hsa hsn
      clear a0 a1 s0 s1 q1 hR9
      have hp1 : (p1 == p1) = true := by simp
      have hp2 : (p2 == p2) = true := by simp
      go_quiet (exact quiet_same (hsah.out _))
      go_wp2_with fail
      go_ret
      first | exact ⟨by simp, below_drewN H9.out.bel _⟩ | exact ⟨rfl, below_drewN H9.out.bel _⟩ | exact ⟨by simp, H9.out.bel⟩ | trace_state
    | true =>
      cases hfn : isSet fn with
      | false =>
        rw [hfa] at hsa
        rw [hfn] at hsn
        have hsah := Lib.hid hsa; have hsnh := Lib.hid hsn
        clear hsa hsn a0 a1 s0 s1 hR9 hR5h hRwh hlh hsmh hfl hr hg hnr hng H0
        go_quiet (first | exact quiet_same (hsah.out _) | exact quiet_same (hsnh.out _))
        go_wp2_with fail
        go_ret
        exact ⟨by simp, below_drewN H9.out.bel _⟩
      | true =>
        have hfah := Lib.hid hfa; have hfnh := Lib.hid hfn
        have hl60 : rows.length ≤ 60 := by omega
        have hset := Lib.hid hRwh.out.set_
        obtain ⟨M, hM⟩ : ∃ M, M = matchV fa fn rows := ⟨_, rfl⟩
        have hMl : M.length ≤ 60 := by
          have := List.length_filter_le (fun r : BRow => meetsB fa fn r.has) rows
          rw [hM]; unfold matchV; omega
        have hMh := Lib.hid hM
        clear hM hsa hsn hfa hfn a0 a1 s0 s1 q0 q1 hR9
        refine wp_region_pred mixed (by kernel_rfl) (by kernel_rfl) (fun _ => true) (fun j w' v => if j = 22 then (∃ A c, v = .slice A M.length c ∧ RdB w' w'.heap.size A M) else if j = 25 then (∃ A c, v = .slice A M.length c ∧ RdB w' w'.heap.size A M) else v = tab [.int .i64 p1, .int .i64 p1, .bool true, .bool true, .bool p2, .bool p2, .bool true, .bool true, .bool true, .pointer (some ⟨w.heap.size + 1 + 1, 0, none⟩), .int .i64 fa, .bool true, .bool false, .bool false, .pointer (some ⟨w.heap.size + 1 + 1, 1, none⟩), .int .i64 fn, .bool true, .bool false, .bool false, .bool false, .agg #[.slice A l.length c, .slice Ag2 gens.length cg2], .agg #[.int .i64 fa, .int .i64 fn], undef, .agg #[.slice Ar rows.length cr, .slice Ag gens.length cg], .agg #[.int .i64 fa, .int .i64 fn], undef, .bool true, .bool true, .bool true, .bool true] j) ?_ ?_ ?_ ?_ ?_
        · intro j w' w'' v h hb
          by_cases h22 : j = 22
          · simp only [h22, if_true, if_false, Nat.reduceEqDiff] at h ⊢
            obtain ⟨A, c, h1, h2⟩ := h
            exact ⟨A, c, h1, Rd.grow h2 hb⟩
          rw [if_neg h22] at h ⊢
          by_cases h25 : j = 25
          · simp only [h25, if_true, if_false, Nat.reduceEqDiff] at h ⊢
            obtain ⟨A, c, h1, h2⟩ := h
            exact ⟨A, c, h1, Rd.grow h2 hb⟩
          rw [if_neg h25] at h ⊢
          exact h
        · intro q op ho
          have hi : q < 30 := lt_of_some ho
          match q, hi, ho with
          | 0, _, ho | 1, _, ho | 2, _, ho | 3, _, ho | 7, _, ho | 8, _, ho | 28, _, ho | 29, _, ho =>
            obtain rfl := Option.some.inj ho
            rfl
          | 4, _, ho | 5, _, ho | 6, _, ho =>
            obtain rfl := Option.some.inj ho
            intro w' v h
            have h' : v = .bool true := h
            subst h'
            rfl
          | 9, _, ho | 10, _, ho | 11, _, ho | 12, _, ho | 13, _, ho | 18, _, ho | 19, _, ho | 27, _, ho =>
            obtain rfl := Option.some.inj ho
            intro w' v h
            have h' : v = .bool true := h
            subst h'
            rfl
          | 14, _, ho | 15, _, ho | 16, _, ho | 17, _, ho =>
            obtain rfl := Option.some.inj ho
            intro w' v h
            have h' : v = .bool false := h
            subst h'
            rfl
          | 20, _, ho | 21, _, ho | 22, _, ho | 23, _, ho | 24, _, ho | 25, _, ho | 26, _, ho =>
            obtain rfl := Option.some.inj ho
            intro w' v h
            have h' : v = .bool false := h
            subst h'
            rfl
        · intro q w' h; cases h
        · intro vs w' hb hv
          have h29 : vs 29 = .bool true := hv 29 (by decide)
          rw [putAll_tab _ _ _ _ [(some 54, vs 0), (some 55, vs 1), (some 56, vs 2), (some 57, vs 3), (some 58, vs 4), (some 59, vs 5), (some 60, vs 6), (some 61, vs 7), (some 62, vs 8), (some 63, vs 9), (some 64, vs 10), (some 65, vs 11), (some 66, vs 12), (some 67, vs 13), (some 68, vs 14), (some 69, vs 15), (some 70, vs 16), (some 71, vs 17), (some 72, vs 18), (some 73, vs 19), (some 74, vs 20), (some 75, vs 21), (some 76, vs 22), (some 77, vs 23), (some 78, vs 24), (some 79, vs 25), (some 80, vs 26), (some 81, vs 27), (some 82, vs 28), (some 8, vs 29)] rfl]
          simp only [putL_eq, putT, List.set_cons_succ, List.set_cons_zero]
          rw [h29]
          go_wp2_with fail
          go_ret
          exact ⟨rfl, (H9.out.grow hb).bel⟩
        · intro q op ho hG act w' hb hv hwas K hK
          have e4 := hwas 4 rfl
          have e7 := hwas 7 rfl
          have e9 := hwas 9 rfl
          have e11 := hwas 11 rfl
          have e12 := hwas 12 rfl
          have e13 := hwas 13 rfl
          have e14 := hwas 14 rfl
          simp at e4 e7 e9 e11 e12 e13 e14
          have H := H9.out.grow hb
          have hRw := hR5h.out.grow hb
          have a0 := H.cell 0 0 rfl rfl; have a1 := H.cell 0 1 rfl rfl; have s0 := H.cell 3 0 rfl rfl; have s1 := H.cell 3 1 rfl rfl; have q0 := H.cell 2 0 rfl rfl; have q1 := H.cell 2 1 rfl rfl
          have hi : q < 30 := lt_of_some ho
          match q, hi, ho, hG, hK, hv with
          | 0, _, ho, hG, hK, hv =>
            obtain rfl := Option.some.inj ho
            clear hv hwas
            go_simp
            exact hK _ _ (Below.refl _ _) rfl
          | 1, _, ho, hG, hK, hv =>
            obtain rfl := Option.some.inj ho
            clear hv hwas
            go_simp
            exact hK _ _ (Below.refl _ _) rfl
          | 2, _, ho, hG, hK, hv =>
            obtain rfl := Option.some.inj ho
            have x54 : act.tmps[54]?.getD undef = .int .i64 p1 := hv 0 54 rfl rfl
            have x55 : act.tmps[55]?.getD undef = .int .i64 p1 := hv 1 55 rfl rfl
            clear hv hwas
            go_simp
            exact hK _ _ (Below.refl _ _) rfl
          | 3, _, ho, hG, hK, hv =>
            obtain rfl := Option.some.inj ho
            have x56 : act.tmps[56]?.getD undef = .bool true := hv 2 56 rfl rfl
            clear hv hwas
            go_simp
            exact hK _ _ (Below.refl _ _) rfl
          | 4, _, ho, hG, hK, hv =>
            obtain rfl := Option.some.inj ho
            clear hv hwas
            go_simp
            exact hK _ _ (Below.refl _ _) rfl
          | 5, _, ho, hG, hK, hv =>
            obtain rfl := Option.some.inj ho
            clear hv hwas
            go_simp
            exact hK _ _ (Below.refl _ _) rfl
          | 6, _, ho, hG, hK, hv =>
            obtain rfl := Option.some.inj ho
            have x58 : act.tmps[58]?.getD undef = .bool p2 := hv 4 58 rfl rfl
            have x59 : act.tmps[59]?.getD undef = .bool p2 := hv 5 59 rfl rfl
            clear hv hwas
            go_simp
            exact hK _ _ (Below.refl _ _) rfl
          | 7, _, ho, hG, hK, hv =>
            obtain rfl := Option.some.inj ho
            have x57 : act.tmps[57]?.getD undef = .bool true := hv 3 57 rfl rfl
            have x60 : act.tmps[60]?.getD undef = .bool true := hv 6 60 rfl rfl
            clear hv hwas
            go_simp
            exact hK _ _ (Below.refl _ _) rfl
          | 8, _, ho, hG, hK, hv =>
            obtain rfl := Option.some.inj ho
            have x61 : act.tmps[61]?.getD undef = .bool true := hv 7 61 rfl rfl
            clear hv hwas
            go_simp
            exact hK _ _ (Below.refl _ _) rfl
          | 9, _, ho, hG, hK, hv =>
            obtain rfl := Option.some.inj ho
            clear hv hwas
            go_simp
            exact hK _ _ (Below.refl _ _) rfl
          | 10, _, ho, hG, hK, hv =>
            obtain rfl := Option.some.inj ho
            have x63 : act.tmps[63]?.getD undef = .pointer (some ⟨w.heap.size + 1 + 1, 0, none⟩) := hv 9 63 rfl rfl
            clear hv hwas
            go_simp
            exact hK _ _ (Below.refl _ _) rfl
          | 11, _, ho, hG, hK, hv =>
            obtain rfl := Option.some.inj ho
            have x64 : act.tmps[64]?.getD undef = .int .i64 fa := hv 10 64 rfl rfl
            clear hv hwas
            go_simp
            refine (rset_any fa w').mono ?_
            rintro e w'' ⟨rfl, rfl⟩
            rw [hfah.out]
            exact hK _ _ (Below.refl _ _) rfl
          | 12, _, ho, hG, hK, hv =>
            obtain rfl := Option.some.inj ho
            have x65 : act.tmps[65]?.getD undef = .bool true := hv 11 65 rfl rfl
            clear hv hwas
            go_simp
            exact hK _ _ (Below.refl _ _) rfl
          | 13, _, ho, hG, hK, hv =>
            obtain rfl := Option.some.inj ho
            have x66 : act.tmps[66]?.getD undef = .bool false := hv 12 66 rfl rfl
            clear hv hwas
            go_simp
            exact hK _ _ (Below.refl _ _) rfl
          | 14, _, ho, hG, hK, hv =>
            obtain rfl := Option.some.inj ho
            clear hv hwas
            go_simp
            exact hK _ _ (Below.refl _ _) rfl
          | 15, _, ho, hG, hK, hv =>
            obtain rfl := Option.some.inj ho
            have x68 : act.tmps[68]?.getD undef = .pointer (some ⟨w.heap.size + 1 + 1, 1, none⟩) := hv 14 68 rfl rfl
            clear hv hwas
            go_simp
            exact hK _ _ (Below.refl _ _) rfl
          | 16, _, ho, hG, hK, hv =>
            obtain rfl := Option.some.inj ho
            have x69 : act.tmps[69]?.getD undef = .int .i64 fn := hv 15 69 rfl rfl
            clear hv hwas
            go_simp
            refine (rset_any fn w').mono ?_
            rintro e w'' ⟨rfl, rfl⟩
            rw [hfnh.out]
            exact hK _ _ (Below.refl _ _) rfl
          | 17, _, ho, hG, hK, hv =>
            obtain rfl := Option.some.inj ho
            have x70 : act.tmps[70]?.getD undef = .bool true := hv 16 70 rfl rfl
            clear hv hwas
            go_simp
            exact hK _ _ (Below.refl _ _) rfl
          | 18, _, ho, hG, hK, hv =>
            obtain rfl := Option.some.inj ho
            have x67 : act.tmps[67]?.getD undef = .bool false := hv 13 67 rfl rfl
            have x71 : act.tmps[71]?.getD undef = .bool false := hv 17 71 rfl rfl
            clear hv hwas
            go_simp
            exact hK _ _ (Below.refl _ _) rfl
          | 19, _, ho, hG, hK, hv =>
            obtain rfl := Option.some.inj ho
            have x72 : act.tmps[72]?.getD undef = .bool false := hv 18 72 rfl rfl
            clear hv hwas
            go_simp
            exact hK _ _ (Below.refl _ _) rfl
          | 20, _, ho, hG, hK, hv =>
            obtain rfl := Option.some.inj ho
            clear hv hwas
            go_simp
            exact hK _ _ (Below.refl _ _) rfl
          | 21, _, ho, hG, hK, hv =>
            obtain rfl := Option.some.inj ho
            clear hv hwas
            go_simp
            exact hK _ _ (Below.refl _ _) rfl
          | 22, _, ho, hG, hK, hv =>
            obtain rfl := Option.some.inj ho
            have x74 : act.tmps[74]?.getD undef = .agg #[.slice A l.length c, .slice Ag2 gens.length cg2] := hv 20 74 rfl rfl
            have x75 : act.tmps[75]?.getD undef = .agg #[.int .i64 fa, .int .i64 fn] := hv 21 75 rfl rfl
            clear hv hwas
            go_simp
            refine (smatch_any l A c gens Ag2 cg2 rows hRwh.out hlh.out fa fn hfah.out hfnh.out w' hRw).mono ?_
            rintro e w'' ⟨⟨A3, c3, rfl, hO⟩, hb''⟩
            rw [← hMh.out] at hO ⊢
            exact hK _ _ hb'' ⟨A3, c3, rfl, Rd.of_own hO⟩
          | 23, _, ho, hG, hK, hv =>
            obtain rfl := Option.some.inj ho
            clear hv hwas
            go_simp
            exact hK _ _ (Below.refl _ _) rfl
          | 24, _, ho, hG, hK, hv =>
            obtain rfl := Option.some.inj ho
            clear hv hwas
            go_simp
            exact hK _ _ (Below.refl _ _) rfl
          | 25, _, ho, hG, hK, hv =>
            obtain rfl := Option.some.inj ho
            have x77 : act.tmps[77]?.getD undef = .agg #[.slice Ar rows.length cr, .slice Ag gens.length cg] := hv 23 77 rfl rfl
            have x78 : act.tmps[78]?.getD undef = .agg #[.int .i64 fa, .int .i64 fn] := hv 24 78 rfl rfl
            clear hv hwas
            go_simp
            refine (pmatch_any rows gens Ar cr Ag cg fa fn hl60 hset.out hfah.out hfnh.out w' (H.old hr)).mono ?_
            rintro e w'' ⟨⟨A3, c3, rfl, hO⟩, hb''⟩
            rw [← hMh.out] at hO ⊢
            exact hK _ _ hb'' ⟨A3, c3, rfl, Rd.of_own hO⟩
          | 26, _, ho, hG, hK, hv =>
            obtain rfl := Option.some.inj ho
            have x76 := hv 22 76 rfl rfl
            simp only [if_true, if_false, Nat.reduceEqDiff] at x76
            obtain ⟨A1, c1, x76, hA1⟩ := x76
            have x79 := hv 25 79 rfl rfl
            simp only [if_true, if_false, Nat.reduceEqDiff] at x79
            obtain ⟨A2, c2, x79, hA2⟩ := x79
            clear hv hwas
            go_simp
            refine (samebe_any M A1 c1 A2 c2 hMl w' hA1 hA2).mono ?_
            rintro e w'' ⟨rfl, hb''⟩
            exact hK _ _ hb'' rfl
          | 27, _, ho, hG, hK, hv =>
            obtain rfl := Option.some.inj ho
            have x73 : act.tmps[73]?.getD undef = .bool false := hv 19 73 rfl rfl
            have x80 : act.tmps[80]?.getD undef = .bool true := hv 26 80 rfl rfl
            clear hv hwas
            go_simp
            exact hK _ _ (Below.refl _ _) rfl
          | 28, _, ho, hG, hK, hv =>
            obtain rfl := Option.some.inj ho
            have x62 : act.tmps[62]?.getD undef = .bool true := hv 8 62 rfl rfl
            have x81 : act.tmps[81]?.getD undef = .bool true := hv 27 81 rfl rfl
            clear hv hwas
            go_simp
            exact hK _ _ (Below.refl _ _) rfl
          | 29, _, ho, hG, hK, hv =>
            obtain rfl := Option.some.inj ho
            have x82 : act.tmps[82]?.getD undef = .bool true := hv 28 82 rfl rfl
            clear hv hwas
            go_simp
            exact hK _ _ (Below.refl _ _) rfl
end Go.Proofs.Ytefdblaolmckmab
