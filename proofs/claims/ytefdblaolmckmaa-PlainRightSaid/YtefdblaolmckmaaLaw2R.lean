/- The walk of PlainRight. -/
import Derived.Test.YtefdblaolmckmaaLaw2A
namespace Go.Proofs.Ytefdblaolmckmaa
open Go.RowKit
open Brood
set_option linter.unusedVariables false
set_option linter.unusedSimpArgs false

/-- What is done: which of four. -/
def doneV (rows : List BRow) (gens : List Int) (i g has part n : Int) (k : Nat) : Changed :=
  match k with
  | 0 => ⟨(spawnV rows gens has n).rows, (spawnV rows gens has n).gens, (spawnV rows gens has n).err⟩
  | 1 => killV rows gens i g
  | 2 => putV rows gens i g part n
  | _ => dropV rows gens i g part
structure DoneOk (rows : List BRow) (gens : List Int) (i g : Int) (E : Changed) : Prop where
  is : RightW E.rows E.gens
  stay : ∀ (i' g' : Int) (p : BRow), ¬ (i' = i ∧ g' = g) → rowOf i' g' rows = some p → rowOf i' g' E.rows = some p
theorem done_ok {rows : List BRow} {gens : List Int} {i g has part n : Int} (k : Nat) (h : (doneV rows gens i g has part n k).err = 0) : DoneOk rows gens i g (doneV rows gens i g has part n k) := by
  match k with
  | 0 =>
    have hS := spawn_ok (rows := rows) (gens := gens) (has := has) (n := n) h
    exact ⟨hS.is, fun i' g' p _ hp => hS.stay hp⟩
  | 1 =>
    have hK := kill_ok (rows := rows) (gens := gens) (i := i) (g := g) h
    exact ⟨hK.is, fun i' g' p hne hp => (hK.rest hne).trans hp⟩
  | 2 =>
    obtain ⟨k, r, hC⟩ := change_ok (rows := rows) (gens := gens) (i := i) (g := g) (fr := putF part n) h
    exact ⟨hC.is (putF_ok part n), fun i' g' p hne hp => (hC.rest (putF_ok part n) hne).trans hp⟩
  | k + 3 =>
    obtain ⟨k, r, hC⟩ := change_ok (rows := rows) (gens := gens) (i := i) (g := g) (fr := dropF part) h
    exact ⟨hC.is (dropF_ok part), fun i' g' p hne hp => (hC.rest (dropF_ok part) hne).trans hp⟩
theorem done_bad {rows : List BRow} {gens : List Int} {i g has part n : Int} (k : Nat) (h : (doneV rows gens i g has part n k).err ≠ 0) : (doneV rows gens i g has part n k).rows = [] ∧ (doneV rows gens i g has part n k).gens = [] := by
  match k with
  | 0 => exact spawn_bad (rows := rows) (gens := gens) (has := has) (n := n) h
  | 1 => exact kill_bad (rows := rows) (gens := gens) (i := i) (g := g) h
  | 2 => exact change_bad (rows := rows) (gens := gens) (i := i) (g := g) (fr := putF part n) h
  | k + 3 => exact change_bad (rows := rows) (gens := gens) (i := i) (g := g) (fr := dropF part) h

set_option maxRecDepth 20000 in
set_option maxHeartbeats 6400000 in
theorem plainRight_any (rows : List BRow) (gens : List Int) (Ar : Option Addr) (cr : Nat) (Ag : Option Addr) (cg : Nat) (i g has part n oi og : Int) (hlr : rows.length ≤ 9223372036854775807) (hlg : gens.length ≤ 9223372036854775807) (hnr : Ar = none → cr = 0 ∧ rows = []) (hng : Ag = none → cg = 0 ∧ gens = [])
    (w : World) (hr : RdR w w.heap.size Ar rows) (hg : RdG w w.heap.size Ag gens) :
    Calls Try.prog 13 #[.agg #[.slice Ar rows.length cr, .slice Ag gens.length cg], .agg #[.int .i64 i, .int .i64 g], .int .i64 has, .int .i64 part, .int .i64 n, .agg #[.int .i64 oi, .int .i64 og]] w fun e w' => e = .returned (.bool true) ∧ Below w.heap.size w w' := by
  have H0 := (((Hp.start w).new w.heap.size rfl 66 [.slice Ar rows.length cr, .slice Ag gens.length cg]).new (w.heap.size + 1) (by simp) 68 [.int .i64 i, .int .i64 g]).new (w.heap.size + 1 + 1) (by simp) 68 [.int .i64 oi, .int .i64 og]
  have hfld := fun a b W => fld_err a b W
  go_enter Try.func13, Try.ntmps13
  go_wp2_with fail
  obtain ⟨w0, hw0, H0⟩ := H0.name
  rw [hw0]; clear hw0
  refine (alive2_any w0).mono ?_
  rintro e w1 ⟨rfl, hb⟩
  replace H0 := H0.grow hb
  clear hb
  have a0 := H0.cell 0 0 rfl rfl; have a1 := H0.cell 0 1 rfl rfl
  go_wp2_with fail
  refine (pwrong_any rows gens Ar cr Ag cg hlr w1 (H0.old hr) (H0.old hg)).mono ?_
  rintro e w2 ⟨rfl, hb⟩
  replace H0 := H0.grow hb
  clear hb a0 a1
  by_cases hw : (worldErr ⟨rows, gens⟩).1 = 0
  · have hRW := Lib.hid ((right_iff rows gens).1 hw)
    rw [hw]
    generalize (worldErr ⟨rows, gens⟩).2 = e2 at *
    clear hw
    go_wp2_with fail
    go_loopw [24] (fun q wr => ∃ k : Nat, k ≤ 4 ∧ q = .int .i64 k ∧ Hp w wr [.box w.heap.size 66 [.slice Ar rows.length cr, .slice Ag gens.length cg], .box (w.heap.size + 1) 68 [.int .i64 i, .int .i64 g], .box (w.heap.size + 1 + 1) 68 [.int .i64 oi, .int .i64 og]]) (fun q _ => 4 - (intOf q).toNat)
    case atStart => exact ⟨0, by omega, rfl, H0⟩
    case round =>
      clear H0
      obtain ⟨k, hk, rfl, H⟩ := hrel
      by_cases hlt : k < 4
      · have i0 : (0 : Int) ≤ (k : Int) := by omega
        have i1 : (k : Int) < 4 := by omega
        have H1 := H.new wr.heap.size rfl 66 [.slice none 0 0, .slice none 0 0]
        go_upto_region 9 with fail
        go_step
        go_step
        go_step
        go_step
        go_step
        go_step
        go_step
        go_step
        go_cut [15] (fun s15 wx => ∃ Br c2 Bg c3, s15 = .int .i64 (doneV rows gens i g has part n k).err ∧ (Br = none → c2 = 0 ∧ (doneV rows gens i g has part n k).rows = []) ∧ (Bg = none → c3 = 0 ∧ (doneV rows gens i g has part n k).gens = []) ∧
          Hp w wx [.box w.heap.size 66 [.slice Ar rows.length cr, .slice Ag gens.length cg], .box (w.heap.size + 1) 68 [.int .i64 i, .int .i64 g], .box (w.heap.size + 1 + 1) 68 [.int .i64 oi, .int .i64 og],
            .box wr.heap.size 66 [.slice Br (doneV rows gens i g has part n k).rows.length c2, .slice Bg (doneV rows gens i g has part n k).gens.length c3],
            .own (.slice Br (doneV rows gens i g has part n k).rows.length c2) 82 11 (doneV rows gens i g has part n k).rows.length ((doneV rows gens i g has part n k).rows.flatMap rowCells),
            .own (.slice Bg (doneV rows gens i g has part n k).gens.length c3) 3 1 (doneV rows gens i g has part n k).gens.length (ints (doneV rows gens i g has part n k).gens)])
        case first =>
          have a0 := H.cell 0 0 rfl rfl; have a1 := H.cell 0 1 rfl rfl; have b0 := H.cell 1 0 rfl rfl; have b1 := H.cell 1 1 rfl rfl
          have l0 := H.lt 0 rfl; have l1 := H.lt 1 rfl
          obtain rfl | rfl | rfl | rfl : k = 0 ∨ k = 1 ∨ k = 2 ∨ k = 3 := by omega
          · go_wp2_with fail
            obtain ⟨w3, hw3, H1⟩ := H1.name
            rw [hw3]; clear hw3
            refine (spawn_any rows gens Ar cr Ag cg has n hlr hlg hnr hng w3 (H1.old hr) (H1.old hg)).mono ?_
            rintro e w4 ⟨v, rfl, hG, hb⟩
            have hE : Hid (doneV rows gens i g has part n 0 = ⟨(spawnV rows gens has n).rows, (spawnV rows gens has n).gens, (spawnV rows gens has n).err⟩) := Lib.hid rfl
            generalize spawnV rows gens has n = E at *
            dsimp only
            obtain ⟨Br, c2, Bg, c3, rfl, nr, ng, H2⟩ := hG.got H1 hb
            have q0 := H2.cell 3 0 rfl rfl; have q1 := H2.cell 3 1 rfl rfl; have y0 := H2.frozen 3 0 rfl; have y1 := H2.frozen 3 1 rfl
            have H3 := (H2.set 3 0 (.slice Br E.rows.length c2) rfl).set 3 1 (.slice Bg E.gens.length c3) rfl
            clear hG hb H1 a0 a1 b0 b1
            go_wp2_with fail
            go_meet
            rw [hE.out]
            exact ⟨Br, c2, Bg, c3, rfl, nr, ng, H3⟩
          · go_wp2_with fail
            obtain ⟨w3, hw3, H1⟩ := H1.name
            rw [hw3]; clear hw3
            refine (kill_any rows gens Ar cr Ag cg i g hlr hlg hnr hng w3 (H1.old hr) (H1.old hg)).mono ?_
            rintro e w4 ⟨v, rfl, hG, hb⟩
            have hE : Hid (doneV rows gens i g has part n 1 = ⟨(killV rows gens i g).rows, (killV rows gens i g).gens, (killV rows gens i g).err⟩) := Lib.hid rfl
            generalize killV rows gens i g = E at *
            dsimp only
            obtain ⟨Br, c2, Bg, c3, rfl, nr, ng, H2⟩ := hG.got H1 hb
            have q0 := H2.cell 3 0 rfl rfl; have q1 := H2.cell 3 1 rfl rfl; have y0 := H2.frozen 3 0 rfl; have y1 := H2.frozen 3 1 rfl
            have H3 := (H2.set 3 0 (.slice Br E.rows.length c2) rfl).set 3 1 (.slice Bg E.gens.length c3) rfl
            clear hG hb H1 a0 a1 b0 b1
            go_wp2_with fail
            go_meet
            rw [hE.out]
            exact ⟨Br, c2, Bg, c3, rfl, nr, ng, H3⟩
          · go_wp2_with fail
            obtain ⟨w3, hw3, H1⟩ := H1.name
            rw [hw3]; clear hw3
            refine (put_any rows gens Ar cr Ag cg i g part n hlr hlg hnr hng w3 (H1.old hr) (H1.old hg)).mono ?_
            rintro e w4 ⟨v, rfl, hG, hb⟩
            have hE : Hid (doneV rows gens i g has part n 2 = ⟨(putV rows gens i g part n).rows, (putV rows gens i g part n).gens, (putV rows gens i g part n).err⟩) := Lib.hid rfl
            generalize putV rows gens i g part n = E at *
            dsimp only
            obtain ⟨Br, c2, Bg, c3, rfl, nr, ng, H2⟩ := hG.got H1 hb
            have q0 := H2.cell 3 0 rfl rfl; have q1 := H2.cell 3 1 rfl rfl; have y0 := H2.frozen 3 0 rfl; have y1 := H2.frozen 3 1 rfl
            have H3 := (H2.set 3 0 (.slice Br E.rows.length c2) rfl).set 3 1 (.slice Bg E.gens.length c3) rfl
            clear hG hb H1 a0 a1 b0 b1
            go_wp2_with fail
            go_meet
            rw [hE.out]
            exact ⟨Br, c2, Bg, c3, rfl, nr, ng, H3⟩
          · go_wp2_with fail
            obtain ⟨w3, hw3, H1⟩ := H1.name
            rw [hw3]; clear hw3
            refine (drop_any rows gens Ar cr Ag cg i g part hlr hlg hnr hng w3 (H1.old hr) (H1.old hg)).mono ?_
            rintro e w4 ⟨v, rfl, hG, hb⟩
            have hE : Hid (doneV rows gens i g has part n 3 = ⟨(dropV rows gens i g part).rows, (dropV rows gens i g part).gens, (dropV rows gens i g part).err⟩) := Lib.hid rfl
            generalize dropV rows gens i g part = E at *
            dsimp only
            obtain ⟨Br, c2, Bg, c3, rfl, nr, ng, H2⟩ := hG.got H1 hb
            have q0 := H2.cell 3 0 rfl rfl; have q1 := H2.cell 3 1 rfl rfl; have y0 := H2.frozen 3 0 rfl; have y1 := H2.frozen 3 1 rfl
            have H3 := (H2.set 3 0 (.slice Br E.rows.length c2) rfl).set 3 1 (.slice Bg E.gens.length c3) rfl
            clear hG hb H1 a0 a1 b0 b1
            go_wp2_with fail
            go_meet
            rw [hE.out]
            exact ⟨Br, c2, Bg, c3, rfl, nr, ng, H3⟩
        case rest =>
          obtain ⟨Br, c2, Bg, c3, rfl, nr, ng, H2⟩ := hcut
          clear H1
          have hok := Lib.hid (@done_ok rows gens i g has part n k)
          have hbad := Lib.hid (@done_bad rows gens i g has part n k)
          generalize doneV rows gens i g has part n k = E at *
          obtain ⟨er, eg, ee⟩ := E
          dsimp only at hok hbad nr ng H2 ⊢
          have a0 := H2.cell 3 0 rfl rfl; have a1 := H2.cell 3 1 rfl rfl
          by_cases hee : ee = 0
          · subst hee
            have hD := Lib.hid (hok.out rfl)
            have hl := hD.out.is.lens
            dsimp only at hl
            clear hok hbad
            go_wp2_with fail
            refine (pwrong_any er eg Br c2 Bg c3 (by omega) wc (H2.rd 4 rfl) (H2.rd 5 rfl)).mono ?_
            rintro e w5 ⟨rfl, hb⟩
            replace H2 := H2.grow hb
            have hwe : (worldErr ⟨er, eg⟩).1 = 0 := (right_iff er eg).2 hD.out.is
            rw [hwe]
            generalize (worldErr ⟨er, eg⟩).2 = e3 at *
            clear hwe hb a0 a1
            go_upto_region 23 with fail
            go_cut [16, 17] (fun s16 s17 wx => s16 = rowPtr Ar oi og rows ∧ s17 = rowPtr Br oi og er ∧ Below w5.heap.size w5 wx)
            case first =>
              refine wp_region_fixed mixed (by kernel_rfl) (by kernel_rfl) (tab [.agg #[.slice Ar rows.length cr, .slice Ag gens.length cg], .agg #[.int .i64 oi, .int .i64 og], rowPtr Ar oi og rows, .agg #[.slice Br er.length c2, .slice Bg eg.length c3], .agg #[.int .i64 oi, .int .i64 og], rowPtr Br oi og er, rowPtr Ar oi og rows, rowPtr Br oi og er]) ?_ ?_
              · intro w' hb
                rw [putAll_tab _ _ _ _ [(some 73, .agg #[.slice Ar rows.length cr, .slice Ag gens.length cg]), (some 74, .agg #[.int .i64 oi, .int .i64 og]), (some 75, rowPtr Ar oi og rows), (some 76, .agg #[.slice Br er.length c2, .slice Bg eg.length c3]), (some 77, .agg #[.int .i64 oi, .int .i64 og]), (some 78, rowPtr Br oi og er), (some 16, rowPtr Ar oi og rows), (some 17, rowPtr Br oi og er)] rfl]
                simp only [putL_eq, putT, List.set_cons_succ, List.set_cons_zero]
                go_wp2_with fail
                go_meet
                exact ⟨rfl, rfl, hb⟩
              · intro q op ho act w' hb hv hwas K hK
                have e6 := hwas 6 rfl
                have e11 := hwas 11 rfl
                have e14 := hwas 14 rfl
                simp at e6 e11 e14
                replace H2 := H2.grow hb
                have a0 := H2.cell 0 0 rfl rfl; have a1 := H2.cell 0 1 rfl rfl; have b0 := H2.cell 2 0 rfl rfl; have b1 := H2.cell 2 1 rfl rfl; have d0 := H2.cell 3 0 rfl rfl; have d1 := H2.cell 3 1 rfl rfl
                have hi : q < 8 := lt_of_some ho
                match q, hi, ho, hK with
                | 0, _, ho, hK | 1, _, ho, hK | 3, _, ho, hK | 4, _, ho, hK =>
                  obtain rfl := Option.some.inj ho
                  clear hv hwas
                  go_simp
                  exact hK _ hb
                | 2, _, ho, hK =>
                  obtain rfl := Option.some.inj ho
                  have x0 : act.tmps[73]?.getD undef = .agg #[.slice Ar rows.length cr, .slice Ag gens.length cg] := hv 0 73 rfl rfl
                  have x1 : act.tmps[74]?.getD undef = .agg #[.int .i64 oi, .int .i64 og] := hv 1 74 rfl rfl
                  clear hv hwas
                  go_simp
                  refine (rrow_at rows gens Ar cr Ag cg oi og hlr w' (H2.old hr)).mono ?_
                  rintro e w'' ⟨rfl, hb''⟩
                  exact hK _ (grow_below hb hb'')
                | 5, _, ho, hK =>
                  obtain rfl := Option.some.inj ho
                  have x0 : act.tmps[76]?.getD undef = .agg #[.slice Br er.length c2, .slice Bg eg.length c3] := hv 3 76 rfl rfl
                  have x1 : act.tmps[77]?.getD undef = .agg #[.int .i64 oi, .int .i64 og] := hv 4 77 rfl rfl
                  clear hv hwas
                  go_simp
                  refine (rrow_at er eg Br c2 Bg c3 oi og (by omega) w' (H2.rd 4 rfl)).mono ?_
                  rintro e w'' ⟨rfl, hb''⟩
                  exact hK _ (grow_below hb hb'')
                | 6, _, ho, hK =>
                  obtain rfl := Option.some.inj ho
                  have x0 : act.tmps[75]?.getD undef = rowPtr Ar oi og rows := hv 2 75 rfl rfl
                  clear hv hwas
                  go_simp
                  exact hK _ hb
                | 7, _, ho, hK =>
                  obtain rfl := Option.some.inj ho
                  have x0 : act.tmps[78]?.getD undef = rowPtr Br oi og er := hv 5 78 rfl rfl
                  clear hv hwas
                  go_simp
                  exact hK _ hb
            case rest =>
              obtain ⟨rfl, rfl, hb⟩ := hcut
              replace H2 := H2.grow hb
              have hP := rowPtr_ans (H2.old hr) (Nat.le_refl _) oi og
              have hQ := rowPtr_ans (H2.rd 4 rfl) (Nat.le_refl _) oi og
              have hst := Lib.hid (hD.out.stay oi og)
              generalize rowPtr Ar oi og rows = P at *
              generalize rowPtr Br oi og er = Q at *
              have a0 := H2.cell 1 0 rfl rfl; have a1 := H2.cell 1 1 rfl rfl; have b0 := H2.cell 2 0 rfl rfl; have b1 := H2.cell 2 1 rfl rfl
              go_upto_region 24 with fail
              go_cut [98] (fun s98 wx => s98 = .bool false ∧ ∃ n, wx = wc.drewN n)
              case first =>
                cases ho : rowOf oi og rows with
                | none =>
                  rw [ho] at hP
                  obtain rfl : P = .pointer none := hP
                  clear hQ hst ho
                  go_quiet (fail)
                  go_wp2_with fail
                  go_meet
                  exact ⟨rfl, _, rfl⟩
                | some r =>
                  rw [ho] at hP
                  obtain ⟨pb, po, rfl, hpb, hrow⟩ := hP
                  by_cases hB : (oi == i && og == g) = true
                  · have hne : ∀ W, (binOp .neq 68 (.agg #[.int .i64 oi, .int .i64 og]) (.agg #[.int .i64 i, .int .i64 g])).run Try.prog W = .ok (.bool false) W := by
                      intro W
                      rw [neBeing, hB]; rfl
                    clear hQ hst ho hrow
                    go_quiet (fail)
                    go_wp2_with fail
                    go_meet
                    exact ⟨rfl, _, rfl⟩
                  · have hne : ∀ W, (binOp .neq 68 (.agg #[.int .i64 oi, .int .i64 og]) (.agg #[.int .i64 i, .int .i64 g])).run Try.prog W = .ok (.bool true) W := by
                      intro W
                      have hB' : (oi == i && og == g) = false := by simpa using hB
                      rw [neBeing, hB']; rfl
                    have hqq := hst.out r (by simpa using hB) ho
                    rw [hqq] at hQ
                    obtain ⟨qb, qo, rfl, hqb, hrow2⟩ := hQ
                    have hq := fun W => neRow r r W
                    obtain ⟨c0, c1, c2'⟩ := hrow.head
                    obtain ⟨d0, d1, d2⟩ := hrow2.head
                    clear hst ho hqq hB
                    obtain ⟨idx, gen, has', vals, h8⟩ := r
                    obtain ⟨z0, z1, z2, z3, z4, z5, z6, z7, rfl⟩ := vals_eight h8
                    have v0 := hrow 3 (.int .i64 z0) rfl; have v1 := hrow 4 (.int .i64 z1) rfl; have v2 := hrow 5 (.int .i64 z2) rfl; have v3 := hrow 6 (.int .i64 z3) rfl; have v4 := hrow 7 (.int .i64 z4) rfl; have v5 := hrow 8 (.int .i64 z5) rfl; have v6 := hrow 9 (.int .i64 z6) rfl; have v7 := hrow 10 (.int .i64 z7) rfl
                    have u0 := hrow2 3 (.int .i64 z0) rfl; have u1 := hrow2 4 (.int .i64 z1) rfl; have u2 := hrow2 5 (.int .i64 z2) rfl; have u3 := hrow2 6 (.int .i64 z3) rfl; have u4 := hrow2 7 (.int .i64 z4) rfl; have u5 := hrow2 8 (.int .i64 z5) rfl; have u6 := hrow2 9 (.int .i64 z6) rfl; have u7 := hrow2 10 (.int .i64 z7) rfl
                    simp only at c0 c1 c2' d0 d1 d2
                    have hrv : rowV ⟨idx, gen, has', [z0, z1, z2, z3, z4, z5, z6, z7], h8⟩ = .agg #[.int .i64 idx, .int .i64 gen, .int .i64 has', .int .i64 z0, .int .i64 z1, .int .i64 z2, .int .i64 z3, .int .i64 z4, .int .i64 z5, .int .i64 z6, .int .i64 z7] := rfl
                    rw [hrv] at hq
                    simp only [decide_true, Bool.not_true] at hq
                    clear hrv hrow hrow2
                    go_quiet (fail)
                    go_wp2_with fail
                    go_meet
                    exact ⟨rfl, _, rfl⟩
              case rest =>
                obtain ⟨rfl, nd, rfl⟩ := hcut
                replace H2 := H2.drewN nd
                go_wp2_with fail
                go_roundw
                case rel => exact ⟨k + 1, by omega, by go_num, H2.sub (by simp)⟩
                case measure => simp [intOf]; omega
          · have hee' : (ee == 0) = false := by simpa using hee
            obtain ⟨q1, q2⟩ := hbad.out hee
            subst q1 q2
            clear hok hbad
            go_wp2_with fail
            refine (rsame_any [] [] Br c2 Bg c3 none 0 none 0 (by simp) (by simp) wc (H2.rd 4 rfl) Rd.nil_ (H2.rd 5 rfl) Rd.nil_).mono ?_
            rintro e w4 ⟨rfl, hb⟩
            replace H2 := H2.grow hb
            go_wp2_with fail
            go_roundw
            case rel => exact ⟨k + 1, by omega, by go_num, H2.sub (by simp)⟩
            case measure => simp [intOf]; omega
      · obtain rfl : k = 4 := by omega
        go_wp2_with fail
        go_ret
        exact ⟨rfl, H.bel⟩
  · have hw' : ((worldErr ⟨rows, gens⟩).1 == 0) = false := by simpa using hw
    generalize worldErr ⟨rows, gens⟩ = we at *
    obtain ⟨e1, e2⟩ := we
    dsimp only at hw hw' ⊢
    go_wp2_with fail
    go_ret
    exact ⟨rfl, H0.bel⟩
end Go.Proofs.Ytefdblaolmckmaa
