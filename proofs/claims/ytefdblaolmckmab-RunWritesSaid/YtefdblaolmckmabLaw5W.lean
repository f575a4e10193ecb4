/- The walk of RunWrites. -/
import Derived.Test.YtefdblaolmckmabBSortTBToRefW
import Derived.Test.YtefdblaolmckmabBRef2AToTwoB
import Derived.Test.YtefdblaolmckmabBRuleNToClash
namespace Go.Proofs.Ytefdblaolmckmab
open Go.RowKit
open Brood
set_option linter.unusedVariables false
set_option linter.unusedSimpArgs false
theorem row_val (r : BRow) {k : Nat} (hk : k < 8) : (rowCells r)[3 + k]? = some (.int .i64 (r.vals.getD k 0)) := by
  obtain ⟨idx, gen, has, vals, h8⟩ := r
  obtain ⟨z0, z1, z2, z3, z4, z5, z6, z7, rfl⟩ := vals_eight h8
  rcases (show k = 0 ∨ k = 1 ∨ k = 2 ∨ k = 3 ∨ k = 4 ∨ k = 5 ∨ k = 6 ∨ k = 7 by omega) with rfl | rfl | rfl | rfl | rfl | rfl | rfl | rfl <;> rfl
theorem be_none {A B : List BRow} (h : A.map beOf = B.map beOf) {r : BRow} (hr : r ∈ B) (hB : Rise B) : rowOf r.idx r.gen A ≠ none := by
  intro he
  have h1 := rowOf_be h r.idx r.gen
  rw [he, (rowOf_some_iff hB).2 ⟨hr, rfl, rfl⟩] at h1
  cases h1
def wrE (b0 g9 g10 : Nat) (Ar : Option Addr) (n cr : Nat) (Ag : Option Addr) (m cg : Nat) (nr nw : Int) (nm nl : Bool) (Av : Option Addr) (vr : List BRow) (cv : Nat) (Agv : Option Addr) (vg : List Int) (cgv : Nat) : List Ent :=
  [.box g9 89 [.int .i64 nr, .int .i64 nw, .bool nm, .bool nl], .box g10 25 [.slice Av vr.length cv, .slice Agv vg.length cgv], .box b0 25 [.slice Ar n cr, .slice Ag m cg], .own (.slice Av vr.length cv) 51 11 vr.length (vr.flatMap rowCells), .own (.slice Agv vg.length cgv) 3 1 vg.length (ints vg)]
set_option maxRecDepth 20000 in
set_option maxHeartbeats 12800000 in
theorem runWrites_any (rows : List BRow) (gens : List Int) (Ar : Option Addr) (cr : Nat) (Ag : Option Addr) (cg : Nat) (s : BSys) (sA : Option Addr) (sc : Nat) (hlr : rows.length ≤ 9223372036854775807) (hlg : gens.length ≤ 9223372036854775807) (hnr : Ar = none → cr = 0 ∧ rows = []) (hng : Ag = none → cg = 0 ∧ gens = [])
    (w : World) (hr : RdR w w.heap.size Ar rows) (hg : RdG w w.heap.size Ag gens) (hs : RdA w sA s.acts) :
    Calls Try.prog 8 #[.agg #[.slice Ar rows.length cr, .slice Ag gens.length cg], .agg #[.int .i64 s.mod, .int .i64 s.all, .int .i64 s.non, .slice sA s.acts.length sc]] w fun e w' => e = .returned (.bool true) ∧ Below w.heap.size w w' := by
  have H0 := ((Hp.start w).new w.heap.size rfl 25 [.slice Ar rows.length cr, .slice Ag gens.length cg]).new (w.heap.size + 1) (by simp) 85 [.int .i64 s.mod, .int .i64 s.all, .int .i64 s.non, .slice sA s.acts.length sc]
  replace H0 : Hp w _ [.box w.heap.size 25 [.slice Ar rows.length cr, .slice Ag gens.length cg], .box (w.heap.size + 1) 85 [.int .i64 s.mod, .int .i64 s.all, .int .i64 s.non, .slice sA s.acts.length sc]] := H0
  have hsh := Lib.hid hs
  clear hs
  go_enter Try.func8, Try.ntmps8
  go_wp2_with fail
  obtain ⟨w0, hw0, H0⟩ := H0.name
  rw [hw0]; clear hw0
  refine (alive5_any w0).mono ?_
  rintro e w1 ⟨rfl, hb⟩
  replace H0 := H0.grow hb
  clear hb
  have a0 := H0.cell 0 0 rfl rfl; have a1 := H0.cell 0 1 rfl rfl
  go_wp2_with fail
  refine (sof_any rows gens Ar cr Ag cg hlr hng w1 (H0.old hr) (H0.old hg)).mono ?_
  rintro e w2 ⟨v, rfl, hG⟩
  have H1 := H0.grow hG.bel
  obtain ⟨A, c, l, Ag2, cg2, rfl, hl, hR⟩ := hG.rd
  have hsm := Lib.hid (ofV_small hl)
  clear hG H0 a0 a1
  have hrt : Hid ((worldErr ⟨rows, gens⟩).1 = 0 → RightW rows gens) := Lib.hid (right_iff rows gens).1
  have hof : Hid (ofV rows gens = if (worldErr ⟨rows, gens⟩).1 ≠ 0 then ([], []) else (tabsW rows, gens)) := Lib.hid rfl
  generalize worldErr ⟨rows, gens⟩ = F at *
  obtain ⟨f1, f2⟩ := F
  generalize ofV rows gens = O at *
  obtain ⟨oT, oG⟩ := O
  unfold fV
  dsimp only at hl hR hsm hrt hof ⊢
  have H2 := (H1.new w2.heap.size rfl 59 [.slice A l.length c, .slice Ag2 oG.length cg2]).new (w2.heap.size + 1) (by simp) 32 [.int .i64 f1, .int .i64 f2]
  have hR2 := Lib.hid ((hR.alloc (.cells #[.slice A l.length c, .slice Ag2 oG.length cg2] 59)).alloc (.cells #[.int .i64 f1, .int .i64 f2] 32))
  have hlh := Lib.hid hl
  have l0 := H1.lt 0 rfl
  clear H1 hR hl
  go_upto_region 4 with fail
  obtain ⟨w3, hw3, H2⟩ := H2.name
  rw [hw3] at hR2 ⊢
  clear hw3 l0
  replace H2 : Hp w w3 [.box w.heap.size 25 [.slice Ar rows.length cr, .slice Ag gens.length cg], .box (w.heap.size + 1) 85 [.int .i64 s.mod, .int .i64 s.all, .int .i64 s.non, .slice sA s.acts.length sc], .box w2.heap.size 59 [.slice A l.length c, .slice Ag2 oG.length cg2], .box (w2.heap.size + 1) 32 [.int .i64 f1, .int .i64 f2]] := H2
  have u0 := H2.cell 1 0 rfl rfl; have u1 := H2.cell 1 1 rfl rfl; have u2 := H2.cell 1 2 rfl rfl; have u3 := H2.cell 1 3 rfl rfl; have x0 := H2.cell 2 0 rfl rfl; have x1 := H2.cell 2 1 rfl rfl
  have hrun := Lib.hid (srun_any l A c oG Ag2 cg2 hsm.out s sA sc w3 (RdA.grow hsh.out H2.bel) hR2.out)
  go_wp2_with fail
  refine hrun.out.mono ?_
  clear hrun u0 u1 u2 u3 x0 x1
  rintro e w4 ⟨v, rfl, hG⟩
  have H3 := H2.grow hG.bel
  have hR3 := hR2.out.grow hG.bel
  rw [hlh.out] at hG ⊢
  have hX : Hid (f1 = 0 → runT oT oG s = ⟨tabsW (runM ⟨rows, gens⟩ s).rows, (runM ⟨rows, gens⟩ s).gens, (runM ⟨rows, gens⟩ s).err⟩) := Lib.hid (fun h => by
    have h1 := hof.out
    rw [if_neg (by simpa using h)] at h1
    injection h1 with h1 h2
    rw [h1, h2]
    exact runT_right (hrt.out h) s)
  generalize runT oT oG s = X at *
  obtain ⟨xT, xG, xe⟩ := X
  dsimp only at hG hX ⊢
  obtain ⟨A3, c3, l3, Ag3, cg3, rfl, hl3, hR4⟩ := hG.rd
  have hl3h := Lib.hid hl3
  clear hG H2 hR2 hl3
  have H4 := H3.new w4.heap.size rfl 59 [.slice A3 l3.length c3, .slice Ag3 xG.length cg3]
  have hR5 := Lib.hid (hR3.alloc (.cells #[.slice A3 l3.length c3, .slice Ag3 xG.length cg3] 59))
  have hR6 := Lib.hid (hR4.alloc (.cells #[.slice A3 l3.length c3, .slice Ag3 xG.length cg3] 59))
  have l0 := H3.lt 3 rfl
  clear hR3 hR4 H3
  go_upto_region 5 with fail
  obtain ⟨w5, hw5, H4⟩ := H4.name
  rw [hw5] at hR5 hR6 ⊢
  clear hw5 l0
  replace H4 : Hp w w5 [.box w.heap.size 25 [.slice Ar rows.length cr, .slice Ag gens.length cg], .box (w.heap.size + 1) 85 [.int .i64 s.mod, .int .i64 s.all, .int .i64 s.non, .slice sA s.acts.length sc], .box w2.heap.size 59 [.slice A l.length c, .slice Ag2 oG.length cg2], .box (w2.heap.size + 1) 32 [.int .i64 f1, .int .i64 f2], .box w4.heap.size 59 [.slice A3 l3.length c3, .slice Ag3 xG.length cg3]] := H4
  have ff := H4.cell 3 0 rfl rfl
  by_cases hf : f1 = 0
  case neg =>
    have hf' : (f1 != 0) = true := by simpa using hf
    have H4h := Lib.hid H4
    clear hf H4
    go_wp2_with fail
    go_ret
    exact ⟨rfl, H4h.out.bel⟩
  subst hf
  by_cases he : xe = 0
  case neg =>
    have he' : (xe != 0) = true := by simpa using he
    have H4h := Lib.hid H4
    clear he H4
    go_wp2_with fail
    go_ret
    exact ⟨rfl, H4h.out.bel⟩
  subst he
  have hRw := hrt.out rfl
  have hO : oT = tabsW rows ∧ oG = gens := by
    have h1 := hof.out
    rw [if_neg (by simp)] at h1
    exact ⟨congrArg Prod.fst h1, congrArg Prod.snd h1⟩
  obtain ⟨rfl, rfl⟩ := hO
  have hXX := hX.out rfl
  have hxe : (runM ⟨rows, oG⟩ s).err = 0 := (congrArg ChangedT.err hXX).symm
  have hV := runM_right hxe hRw
  have hrs0 := right_of (runM_ok hxe).1
  have hnw := (needs_sets hrs0).2
  have hneed := Lib.hid (fun W hA => needs_right s hrs0 sA sc W hA)
  have hwrt := Lib.hid (fun (r : BRow) (hr : r ∈ rows) (q : BRow) (hq : rowOf r.idx r.gen (runM ⟨rows, oG⟩ s).rows = some q) => (And.intro (run_writes (W := ⟨rows, oG⟩) hRw hxe hr hq).has (run_writes (W := ⟨rows, oG⟩) hRw hxe hr hq).val))
  have hbes := Lib.hid (fun (hl : (needs s).life = false) => (run_beings (W := ⟨rows, oG⟩) hRw hxe hl).1)
  generalize runM ⟨rows, oG⟩ s = V at *
  generalize needs s = N at *
  obtain ⟨nr, nw, nm, nl⟩ := N
  obtain ⟨vr, vg, ve⟩ := V
  obtain ⟨rfl, rfl, rfl⟩ : xT = tabsW vr ∧ xG = vg ∧ 0 = ve := by injection hXX with h1 h2 h3; exact ⟨h1, h2, h3⟩
  have hlr60 : rows.length ≤ 60 := Nat.le_trans hRw.rows_le hRw.len
  have hRwh := Lib.hid hRw
  dsimp only [bw] at hV hneed hwrt hbes hnw
  have hVw : RightW vr xG := hV
  have hlens := right_len hVw
  have hlg3 : xG.length ≤ 60 := hVw.len
  have hlv : vr.length ≤ 60 := Nat.le_trans hVw.rows_le hVw.len
  have hlenV := fit_len (G := ofG vr) hl3h.out
  have hVh := Lib.hid hVw
  have hwld := Lib.hid (fun W (hR : RdSt W W.heap.size ⟨A3, c3, l3, Ag3, cg3, xG⟩) => world_any l3 A3 c3 xG Ag3 cg3 (ofG vr) hl3h.out hVh.out.rep.clean (by omega) (by omega) (by omega) W hR.tabs hR.gen hR.ng)
  have hsh2 := hsh
  clear hX hXX hxe hRw hof hrt hV hlens hVw hlenV hrs0
  have H4h := Lib.hid H4
  clear H0 H2
  go_upto_region 7 with fail
  clear ff H4
  refine wp_region_mx mixed (by kernel_rfl) (by kernel_rfl) (fun q => !(q == 1) && !(q == 3) && !(q == 4) && !(q == 5)) (tab [.agg #[.int .i64 s.mod, .int .i64 s.all, .int .i64 s.non, .slice sA s.acts.length sc], undef, .agg #[.slice A3 l3.length c3, .slice Ag3 xG.length cg3], undef, undef, undef, undef, undef]) (fun u vs w' => J2 w5 w [.box w.heap.size 25 [.slice Ar rows.length cr, .slice Ag oG.length cg], .box (w.heap.size + 1) 85 [.int .i64 s.mod, .int .i64 s.all, .int .i64 s.non, .slice sA s.acts.length sc], .box w2.heap.size 59 [.slice A l.length c, .slice Ag2 oG.length cg2], .box (w2.heap.size + 1) 32 [.int .i64 0, .int .i64 f2], .box w4.heap.size 59 [.slice A3 l3.length c3, .slice Ag3 xG.length cg3]] 89 25 [.int .i64 0, .int .i64 0, .bool false, .bool false] [.slice none 0 0, .slice none 0 0] (fun v C => v = [.int .i64 nr, .int .i64 nw, .bool nm, .bool nl] ∧ C = []) (fun v C => ∃ (Av : Option Addr) (cv : Nat) (Agv : Option Addr) (cgv : Nat), v = [.slice Av vr.length cv, .slice Agv xG.length cgv] ∧ C = [.own (.slice Av vr.length cv) 51 11 vr.length (vr.flatMap rowCells), .own (.slice Agv xG.length cgv) 3 1 xG.length (ints xG)]) (u 1) (u 3) (u 4) (u 5) (u 6) (u 7) (vs 1) (vs 3) (vs 4) (vs 5) w') ?_ ?_ ?_
  · exact J2.start H4h.out.drew (Below.refl _ _).drew
  · intro vs w' l1 hJ hl
    rw [putAll_tab _ _ _ _ [(some 35, .agg #[.int .i64 s.mod, .int .i64 s.all, .int .i64 s.non, .slice sA s.acts.length sc]), (some 36, vs 1), (some 37, .agg #[.slice A3 l3.length c3, .slice Ag3 xG.length cg3]), (some 38, vs 3), (some 9, vs 4), (some 10, vs 5), (none, undef), (none, undef)] rfl]
    simp only [putL_eq, putT, List.set_cons_succ, List.set_cons_zero]
    obtain ⟨g9, g10, v1, v2, C1, C2, hx1, hx2, ⟨rfl, rfl⟩, ⟨Av, cv, Agv, cgv, rfl, rfl⟩, _, HQ⟩ := hJ.done (hl 1 (by decide)) (hl 3 (by decide)) (hl 4 (by decide)) (hl 5 (by decide)) (hl 6 (by decide)) (hl 7 (by decide))
    rw [hx1, hx2]
    have H8 : Hp w w' (wrE w.heap.size g9 g10 Ar rows.length cr Ag oG.length cg nr nw nm nl Av vr cv Agv xG cgv) := ((((HQ.drop1 6).drop1 5).drop1 4).drop1 3)
    clear hJ HQ hx1 hx2 hl
    have H8h := Lib.hid H8
    clear H8
    have r00 := H8h.out.cell 2 0 rfl rfl
    go_wp2_with fail
    go_loopw [42] (fun q wr => ∃ k : Nat, k ≤ rows.length ∧ q = .int .i64 k ∧ Hp w wr (wrE w.heap.size g9 g10 Ar rows.length cr Ag oG.length cg nr nw nm nl Av vr cv Agv xG cgv)) (fun q _ => rows.length - (intOf q).toNat)
    case atStart => exact ⟨0, by omega, rfl, H8h.out⟩
    case round =>
      clear H8h r00
      obtain ⟨k0, hk, rfl, H⟩ := hrel
      by_cases hlt : k0 < rows.length
      · have hR1 : RdR wr w.heap.size Ar rows := Rd.under hr H.bel (Nat.le_refl _)
        obtain ⟨b1, off, rfl, hb1, hrow⟩ := hR1.at_ hlt
        have hmem := List.getElem_mem hlt
        have hrs := hRwh.out.set_ _ hmem
        have hbn := Lib.hid (fun hl => be_none (hbes.out hl) hmem hRwh.out.rise)
        have hwr2 := Lib.hid (hwrt.out _ hmem)
        generalize rows[k0] = r at *
        obtain ⟨c0, c1, c2'⟩ := hrow.head
        obtain ⟨idx, gen, rh, vals, h8⟩ := r
        obtain ⟨z0, z1, z2, z3, z4, z5, z6, z7, rfl⟩ := vals_eight h8
        have v0 := hrow 3 (.int .i64 z0) rfl; have v1 := hrow 4 (.int .i64 z1) rfl; have v2 := hrow 5 (.int .i64 z2) rfl; have v3 := hrow 6 (.int .i64 z3) rfl; have v4 := hrow 7 (.int .i64 z4) rfl; have v5 := hrow 8 (.int .i64 z5) rfl; have v6 := hrow 9 (.int .i64 z6) rfl; have v7 := hrow 10 (.int .i64 z7) rfl
        simp only at c0 c1 c2'
        dsimp only at hbn hwr2 hrs
        have H1 := H.new wr.heap.size rfl 51 (rowCells ⟨idx, gen, rh, [z0, z1, z2, z3, z4, z5, z6, z7], h8⟩)
        have i0 : (0 : Int) ≤ (k0 : Int) := by omega
        have i1 : (k0 : Int) < (rows.length : Int) := by omega
        have gl := H.lt 1 rfl; have g0 := H.cell 1 0 rfl rfl; have g1 := H.cell 1 1 rfl rfl
        clear hrow hmem hR1 H
        have H1h := Lib.hid H1
        clear H1
        go_upto_region 11 with fail
        obtain ⟨w8, hw8, H1⟩ := H1h.out.name
        change Code.wp _ _ _ _ (wr.alloc (.cells (rowCells ⟨idx, gen, rh, [z0, z1, z2, z3, z4, z5, z6, z7], h8⟩).toArray 51))
        rw [hw8]
        clear hw8 H1h
        obtain ⟨b12, hb12⟩ : ∃ b12, b12 = wr.heap.size := ⟨_, rfl⟩
        rw [← hb12] at H1 ⊢
        clear hb12 c0 c1 c2' v0 v1 v2 v3 v4 v5 v6 v7 i0 i1 hb1 g0 g1 gl
        have g0 := H1.cell 1 0 rfl rfl; have g1 := H1.cell 1 1 rfl rfl; have x0 := H1.cell 5 0 rfl rfl; have x1 := H1.cell 5 1 rfl rfl
        have hrr := Lib.hid (rrow_at vr xG Av cv Agv cgv idx gen (by omega) w8 (H1.rd 3 rfl))
        have hH1 := Lib.hid H1
        clear H1
        go_wp2_with fail
        refine hrr.out.mono ?_
        rintro e w9 ⟨rfl, hb9⟩
        have H := hH1.out.grow hb9
        have hQ := rowPtr_ans (H.rd 3 rfl) (Nat.le_refl _) idx gen
        generalize rowPtr Av idx gen vr = P at *
        clear hb9 hH1 hrr x0 x1 g0 g1
        have nc2 := H.cell 0 2 rfl rfl; have nc3 := H.cell 0 3 rfl rfl; have rc2 := H.cell 5 2 rfl rfl
        cases ho : rowOf idx gen vr with
        | none =>
          rw [ho] at hQ
          obtain rfl : P = .pointer none := hQ
          have hlife : nl = true := by
            cases hn : nl with
            | true => rfl
            | false => exact absurd ho (hbn.out hn)
          subst hlife
          have Hh := Lib.hid (H.drop1 5)
          clear ho hbn hwr2 H
          go_wp2_with fail
          go_roundw
          case rel => exact ⟨k0 + 1, by omega, by go_num, Hh.out⟩
          case measure => simp [intOf]; omega
        | some q =>
          rw [ho] at hQ
          obtain ⟨qb, qo, rfl, hqb, hrow2⟩ := hQ
          have hW := Lib.hid (hwr2.out q ho)
          have hqs := hVh.out.set_ _ ((rowOf_some_iff hVh.out.rise).1 ho).1
          have hrowh := Lib.hid hrow2
          obtain ⟨qi, qg, qh, qv, q8⟩ := q
          dsimp only at hqs
          have yh : w9.cell? ⟨qb, qo + 2, none⟩ = some (.int .i64 qh) := hrow2 2 _ rfl
          clear ho hbn hwr2 hrow2
          have hHd := Lib.hid (fun nd => H.drewN nd)
          have hql := Lib.hid hqb
          have Hh := Lib.hid H
          clear H
          go_upto_region 15 with fail
          have hmv : nm = true ∨ (nm = false ∧ qh = rh) := by
            cases hn : nm with
            | true => exact .inl rfl
            | false => exact .inr ⟨rfl, hW.out.1 hn⟩
          go_cut [66] (fun sx wx => sx = .bool false ∧ ∃ nd, wx = w9.drewN nd)
          case first =>
            rcases hmv with rfl | ⟨rfl, rfl⟩
            · clear yh
              go_quiet (fail)
              go_wp2_with fail
              go_meet
              exact ⟨rfl, _, rfl⟩
            · go_quiet (fail)
              go_wp2_with fail
              go_meet
              exact ⟨by simp, _, rfl⟩
          case rest =>
          clear nc2 nc3 rc2 yh hmv
          obtain ⟨rfl, nd, rfl⟩ := hcut
          have H2 := Lib.hid (hHd.out nd)
          obtain ⟨wi, hwi⟩ : ∃ wi, wi = w9.drewN nd := ⟨_, rfl⟩
          have hrow3 : RowAt wi qb qo ⟨qi, qg, qh, qv, q8⟩ := by rw [hwi]; exact fun j u hu => hrowh.out j u hu
          have hqb3 : qb < wi.heap.size := by rw [hwi]; exact hql.out
          rw [← hwi] at H2 ⊢
          clear hwi hHd hrowh hql Hh hqb
          have hrow3h := Lib.hid hrow3
          clear hrow3
          go_wp2_with fail
          go_loopw [67] (fun sq wx => ∃ k : Nat, k ≤ 8 ∧ sq = .int .i64 k ∧ Below wi.heap.size wi wx) (fun sq _ => 8 - (intOf sq).toNat)
          case atStart => exact ⟨0, by omega, rfl, Below.refl _ _⟩
          case round =>
            obtain ⟨k, hk8, rfl, hBi0⟩ := hrel
            have hBi := Lib.hid hBi0
            have HL0 := H2.out.grow hBi0
            have hrow4 := hrow3h.out.below hBi0 hqb3
            have hqb : qb < wr.heap.size := Nat.lt_of_lt_of_le hqb3 hBi0.size
            clear hBi0
            by_cases hlk : k < 8
            · have i0 : (0 : Int) ≤ (k : Int) := by omega
              have i1 : (k : Int) < 8 := by omega
              have HL := Lib.hid HL0
              have hb12 := HL0.lt 5 rfl
              have yr := HL0.cell 5 (3 + k) rfl (row_val ⟨idx, gen, rh, [z0, z1, z2, z3, z4, z5, z6, z7], h8⟩ hlk)
              have yz : wr.cell? ⟨qb, qo + 3 + k, none⟩ = some (.int .i64 (qv.getD k 0)) := by
                have := hrow4 (3 + k) _ (row_val ⟨qi, qg, qh, qv, q8⟩ hlk)
                rwa [← Nat.add_assoc] at this
              have yh : wr.cell? ⟨qb, qo + 2, none⟩ = some (.int .i64 qh) := hrow4 2 _ rfl
              have hval := hW.out.2 k hlk
              dsimp only at hval yr
              have hrk0 : Hid (hasB rh (k : Int) = hasB rh (k : Int)) := Lib.hid rfl
              obtain ⟨hb8, hhb⟩ : ∃ hb8, hb8 = hasB rh (k : Int) := ⟨_, rfl⟩
              obtain ⟨z, hz⟩ : ∃ z, z = ([z0, z1, z2, z3, z4, z5, z6, z7] : List Int).getD k 0 := ⟨_, rfl⟩
              rw [← hz] at yr hval
              rw [← hhb] at hval
              have hrk : Hid (hasB rh (k : Int) = hb8) := Lib.hid hhb.symm
              clear hz hhb hrk0 HL0 hrow4
              cases hkw0 : hasB nw (k : Int) with
              | true =>
                have hkw := Lib.hid hkw0
                clear hkw0 hval yz yr yh
                go_upto_region 20 with fail
                refine wp_region_pred mixed (by kernel_rfl) (by kernel_rfl) (fun q => ([true, true, true, true, true, true, false, false, false, false, false, false, false, false, false, false, false, false, false, false, false, false, false, false, false, false, false, false, false, false, true] : List Bool).getD q true) (fun j w' v => v = tab [.pointer (some ⟨g9, 1, none⟩), .int .i64 nw, .int .i64 (k : Int), .bool true, .bool false, .bool false, undef, undef, undef, undef, undef, undef, undef, undef, undef, undef, undef, undef, undef, undef, undef, undef, undef, undef, undef, undef, undef, undef, undef, undef, .bool false] j) ?_ ?_ ?_ ?_ ?_
                · intro j w' w'' v h hb; exact h
                · intro q op ho
                  have hi : q < 31 := lt_of_some ho
                  match q, hi, ho with
                  | 0, _, ho | 1, _, ho | 2, _, ho | 3, _, ho | 4, _, ho | 5, _, ho | 30, _, ho =>
                    obtain rfl := Option.some.inj ho
                    rfl
                  | 6, _, ho | 7, _, ho | 8, _, ho | 9, _, ho | 10, _, ho | 11, _, ho | 12, _, ho | 13, _, ho | 14, _, ho | 15, _, ho | 16, _, ho | 17, _, ho | 29, _, ho =>
                    obtain rfl := Option.some.inj ho
                    intro w' v h
                    have h' : v = .bool false := h
                    subst h'
                    rfl
                  | 18, _, ho | 19, _, ho | 20, _, ho | 21, _, ho | 22, _, ho | 23, _, ho | 24, _, ho | 25, _, ho | 26, _, ho | 27, _, ho | 28, _, ho =>
                    obtain rfl := Option.some.inj ho
                    intro w' v h
                    have h' : v = undef := h
                    subst h'
                    rfl
                · intro q w' h
                  by_cases hq : q < 31
                  · match q, hq, h with
                    | 6, _, _ | 7, _, _ | 8, _, _ | 9, _, _ | 10, _, _ | 11, _, _ | 12, _, _ | 13, _, _ | 14, _, _ | 15, _, _ | 16, _, _ | 17, _, _ | 18, _, _ | 19, _, _ | 20, _, _ | 21, _, _ | 22, _, _ | 23, _, _ | 24, _, _ | 25, _, _ | 26, _, _ | 27, _, _ | 28, _, _ | 29, _, _ => rfl
                    | 0, _, h | 1, _, h | 2, _, h | 3, _, h | 4, _, h | 5, _, h | 30, _, h => cases h
                  · exfalso
                    rw [List.getD_eq_getElem?_getD, List.getElem?_eq_none (by simp; omega)] at h
                    cases h
                · intro vs w' hb hv
                  rw [putAll_tab _ _ _ _ [(some 70, vs 0), (some 71, vs 1), (some 72, vs 2), (some 73, vs 3), (some 74, vs 4), (some 75, vs 5), (some 76, vs 6), (some 77, vs 7), (some 78, vs 8), (some 79, vs 9), (some 80, vs 10), (some 81, vs 11), (some 82, vs 12), (some 83, vs 13), (some 84, vs 14), (some 85, vs 15), (some 86, vs 16), (some 87, vs 17), (some 88, vs 18), (some 89, vs 19), (some 90, vs 20), (some 91, vs 21), (some 92, vs 22), (some 93, vs 23), (some 94, vs 24), (some 95, vs 25), (some 96, vs 26), (some 97, vs 27), (some 98, vs 28), (some 99, vs 29), (some 100, vs 30)] rfl]
                  simp only [putL_eq, putT, List.set_cons_succ, List.set_cons_zero]
                  have h30 : vs 30 = .bool false := hv 30 (by decide)
                  rw [h30]
                  have HB := Lib.hid (hBi.out.trans (hb.mono hBi.out.size))
                  clear hv hb h30
                  go_wp2_with fail
                  go_roundw
                  case rel => exact ⟨k + 1, by omega, by go_num, HB.out⟩
                  case measure => simp [intOf]; omega
                · intro q op ho hG act w' hb hv hwas K hK
                  have e9 := hwas 9 rfl
                  have e14 := hwas 14 rfl
                  simp at e9 e14
                  have H := HL.out.grow hb
                  have n1 := H.cell 0 1 rfl rfl
                  have hi : q < 31 := lt_of_some ho
                  match q, hi, ho, hG, hK, hv with
                  | 0, _, ho, hG, hK, hv =>
                    obtain rfl := Option.some.inj ho
                    clear hv hwas
                    go_simp
                    exact hK _ _ (Below.refl _ _) rfl
                  | 1, _, ho, hG, hK, hv =>
                    obtain rfl := Option.some.inj ho
                    have x70 : act.tmps[70]?.getD undef = .pointer (some ⟨g9, 1, none⟩) := hv 0 70 rfl rfl
                    clear hv hwas
                    go_simp
                    exact hK _ _ (Below.refl _ _) rfl
                  | 2, _, ho, hG, hK, hv =>
                    obtain rfl := Option.some.inj ho
                    clear hv hwas
                    go_simp
                    exact hK _ _ (Below.refl _ _) rfl
                  | 3, _, ho, hG, hK, hv =>
                    obtain rfl := Option.some.inj ho
                    have x71 : act.tmps[71]?.getD undef = .int .i64 nw := hv 1 71 rfl rfl
                    have x72 : act.tmps[72]?.getD undef = .int .i64 (k : Int) := hv 2 72 rfl rfl
                    clear hv hwas
                    go_simp
                    refine (rhas_any nw (k : Int) hnw w').mono ?_
                    rintro e w'' ⟨rfl, hb''⟩
                    rw [hkw.out]
                    exact hK _ _ hb'' rfl
                  | 4, _, ho, hG, hK, hv =>
                    obtain rfl := Option.some.inj ho
                    have x73 : act.tmps[73]?.getD undef = .bool true := hv 3 73 rfl rfl
                    clear hv hwas
                    go_simp
                    exact hK _ _ (Below.refl _ _) rfl
                  | 5, _, ho, hG, hK, hv =>
                    obtain rfl := Option.some.inj ho
                    have x74 : act.tmps[74]?.getD undef = .bool false := hv 4 74 rfl rfl
                    clear hv hwas
                    go_simp
                    exact hK _ _ (Below.refl _ _) rfl
                  | 6, _, ho, hG, hK, hv => cases hG
                  | 7, _, ho, hG, hK, hv => cases hG
                  | 8, _, ho, hG, hK, hv => cases hG
                  | 9, _, ho, hG, hK, hv => cases hG
                  | 10, _, ho, hG, hK, hv => cases hG
                  | 11, _, ho, hG, hK, hv => cases hG
                  | 12, _, ho, hG, hK, hv => cases hG
                  | 13, _, ho, hG, hK, hv => cases hG
                  | 14, _, ho, hG, hK, hv => cases hG
                  | 15, _, ho, hG, hK, hv => cases hG
                  | 16, _, ho, hG, hK, hv => cases hG
                  | 17, _, ho, hG, hK, hv => cases hG
                  | 18, _, ho, hG, hK, hv => cases hG
                  | 19, _, ho, hG, hK, hv => cases hG
                  | 20, _, ho, hG, hK, hv => cases hG
                  | 21, _, ho, hG, hK, hv => cases hG
                  | 22, _, ho, hG, hK, hv => cases hG
                  | 23, _, ho, hG, hK, hv => cases hG
                  | 24, _, ho, hG, hK, hv => cases hG
                  | 25, _, ho, hG, hK, hv => cases hG
                  | 26, _, ho, hG, hK, hv => cases hG
                  | 27, _, ho, hG, hK, hv => cases hG
                  | 28, _, ho, hG, hK, hv => cases hG
                  | 29, _, ho, hG, hK, hv => cases hG
                  | 30, _, ho, hG, hK, hv =>
                    obtain rfl := Option.some.inj ho
                    have x75 : act.tmps[75]?.getD undef = .bool false := hv 5 75 rfl rfl
                    clear hv hwas
                    go_simp
                    exact hK _ _ (Below.refl _ _) rfl
              | false =>
                obtain ⟨hv1, hv2⟩ := hval hkw0
                rw [hv1] at yz
                have hkw := Lib.hid hkw0; have hqk : Hid (hasB qh (k : Int) = hb8) := Lib.hid hv2
                clear hkw0 hval hv1 hv2
                go_upto_region 20 with fail
                refine wp_region_pred mixed (by kernel_rfl) (by kernel_rfl) (fun _ => true) (fun j w' v => v = tab [.pointer (some ⟨g9, 1, none⟩), .int .i64 nw, .int .i64 (k : Int), .bool false, .bool true, .bool true, .pointer (some ⟨qb, qo, none⟩), .int .i64 (k : Int), .pointer (some ⟨qb, qo, none⟩), .pointer (some ⟨qb, qo + 3, none⟩), .pointer (some ⟨qb, qo + 3 + k, none⟩), .int .i64 z, .int .i64 (k : Int), .pointer (some ⟨b12, 3, none⟩), .pointer (some ⟨b12, 3 + k, none⟩), .int .i64 z, .bool false, .bool false, .pointer (some ⟨qb, qo, none⟩), .pointer (some ⟨qb, qo, none⟩), .pointer (some ⟨qb, qo + 2, none⟩), .int .i64 qh, .int .i64 (k : Int), .bool hb8, .pointer (some ⟨b12, 2, none⟩), .int .i64 rh, .int .i64 (k : Int), .bool hb8, .bool false, .bool false, .bool false] j) ?_ ?_ ?_ ?_ ?_
                · intro j w' w'' v h hb; exact h
                · intro q op ho
                  have hi : q < 31 := lt_of_some ho
                  match q, hi, ho with
                  | 0, _, ho | 1, _, ho | 2, _, ho | 3, _, ho | 4, _, ho | 5, _, ho | 30, _, ho =>
                    obtain rfl := Option.some.inj ho
                    rfl
                  | 6, _, ho | 7, _, ho | 8, _, ho | 9, _, ho | 10, _, ho | 11, _, ho | 12, _, ho | 13, _, ho | 14, _, ho | 15, _, ho | 16, _, ho | 17, _, ho | 29, _, ho =>
                    obtain rfl := Option.some.inj ho
                    intro w' v h
                    have h' : v = .bool true := h
                    subst h'
                    rfl
                  | 18, _, ho | 19, _, ho | 20, _, ho | 21, _, ho | 22, _, ho | 23, _, ho | 24, _, ho | 25, _, ho | 26, _, ho | 27, _, ho | 28, _, ho =>
                    obtain rfl := Option.some.inj ho
                    intro w' v h
                    have h' : v = .bool false := h
                    subst h'
                    rfl
                · intro q w' h; cases h
                · intro vs w' hb hv
                  rw [putAll_tab _ _ _ _ [(some 70, vs 0), (some 71, vs 1), (some 72, vs 2), (some 73, vs 3), (some 74, vs 4), (some 75, vs 5), (some 76, vs 6), (some 77, vs 7), (some 78, vs 8), (some 79, vs 9), (some 80, vs 10), (some 81, vs 11), (some 82, vs 12), (some 83, vs 13), (some 84, vs 14), (some 85, vs 15), (some 86, vs 16), (some 87, vs 17), (some 88, vs 18), (some 89, vs 19), (some 90, vs 20), (some 91, vs 21), (some 92, vs 22), (some 93, vs 23), (some 94, vs 24), (some 95, vs 25), (some 96, vs 26), (some 97, vs 27), (some 98, vs 28), (some 99, vs 29), (some 100, vs 30)] rfl]
                  simp only [putL_eq, putT, List.set_cons_succ, List.set_cons_zero]
                  have h30 : vs 30 = .bool false := hv 30 (by decide)
                  rw [h30]
                  have HB := Lib.hid (hBi.out.trans (hb.mono hBi.out.size))
                  clear hv hb h30
                  go_wp2_with fail
                  go_roundw
                  case rel => exact ⟨k + 1, by omega, by go_num, HB.out⟩
                  case measure => simp [intOf]; omega
                · intro q op ho hG act w' hb hv hwas K hK
                  have e9 := hwas 9 rfl
                  have e12 := hwas 12 rfl
                  have e13 := hwas 13 rfl
                  have e14 := hwas 14 rfl
                  simp at e9 e12 e13 e14
                  have H := HL.out.grow hb
                  have n1 := H.cell 0 1 rfl rfl
                  have y0 := (hb.cell (p := ⟨qb, qo + 3 + k, none⟩) hqb).trans yz; have y1 := (hb.cell (p := ⟨qb, qo + 2, none⟩) hqb).trans yh; have y2 := H.cell 5 2 rfl rfl; have y3 := (hb.cell (p := ⟨b12, 3 + k, none⟩) hb12).trans yr
                  have hi : q < 31 := lt_of_some ho
                  match q, hi, ho, hG, hK, hv with
                  | 0, _, ho, hG, hK, hv =>
                    obtain rfl := Option.some.inj ho
                    clear hv hwas
                    go_simp
                    exact hK _ _ (Below.refl _ _) rfl
                  | 1, _, ho, hG, hK, hv =>
                    obtain rfl := Option.some.inj ho
                    have x70 : act.tmps[70]?.getD undef = .pointer (some ⟨g9, 1, none⟩) := hv 0 70 rfl rfl
                    clear hv hwas
                    go_simp
                    exact hK _ _ (Below.refl _ _) rfl
                  | 2, _, ho, hG, hK, hv =>
                    obtain rfl := Option.some.inj ho
                    clear hv hwas
                    go_simp
                    exact hK _ _ (Below.refl _ _) rfl
                  | 3, _, ho, hG, hK, hv =>
                    obtain rfl := Option.some.inj ho
                    have x71 : act.tmps[71]?.getD undef = .int .i64 nw := hv 1 71 rfl rfl
                    have x72 : act.tmps[72]?.getD undef = .int .i64 (k : Int) := hv 2 72 rfl rfl
                    clear hv hwas
                    go_simp
                    refine (rhas_any nw (k : Int) hnw w').mono ?_
                    rintro e w'' ⟨rfl, hb''⟩
                    rw [hkw.out]
                    exact hK _ _ hb'' rfl
                  | 4, _, ho, hG, hK, hv =>
                    obtain rfl := Option.some.inj ho
                    have x73 : act.tmps[73]?.getD undef = .bool false := hv 3 73 rfl rfl
                    clear hv hwas
                    go_simp
                    exact hK _ _ (Below.refl _ _) rfl
                  | 5, _, ho, hG, hK, hv =>
                    obtain rfl := Option.some.inj ho
                    have x74 : act.tmps[74]?.getD undef = .bool true := hv 4 74 rfl rfl
                    clear hv hwas
                    go_simp
                    exact hK _ _ (Below.refl _ _) rfl
                  | 6, _, ho, hG, hK, hv =>
                    obtain rfl := Option.some.inj ho
                    clear hv hwas
                    go_simp
                    exact hK _ _ (Below.refl _ _) rfl
                  | 7, _, ho, hG, hK, hv =>
                    obtain rfl := Option.some.inj ho
                    clear hv hwas
                    go_simp
                    exact hK _ _ (Below.refl _ _) rfl
                  | 8, _, ho, hG, hK, hv =>
                    obtain rfl := Option.some.inj ho
                    have x76 : act.tmps[76]?.getD undef = .pointer (some ⟨qb, qo, none⟩) := hv 6 76 rfl rfl
                    clear hv hwas
                    go_simp
                    exact hK _ _ (Below.refl _ _) rfl
                  | 9, _, ho, hG, hK, hv =>
                    obtain rfl := Option.some.inj ho
                    have x78 : act.tmps[78]?.getD undef = .pointer (some ⟨qb, qo, none⟩) := hv 8 78 rfl rfl
                    clear hv hwas
                    go_simp
                    exact hK _ _ (Below.refl _ _) rfl
                  | 10, _, ho, hG, hK, hv =>
                    obtain rfl := Option.some.inj ho
                    have x77 : act.tmps[77]?.getD undef = .int .i64 (k : Int) := hv 7 77 rfl rfl
                    have x79 : act.tmps[79]?.getD undef = .pointer (some ⟨qb, qo + 3, none⟩) := hv 9 79 rfl rfl
                    clear hv hwas
                    go_simp
                    exact hK _ _ (Below.refl _ _) rfl
                  | 11, _, ho, hG, hK, hv =>
                    obtain rfl := Option.some.inj ho
                    have x80 : act.tmps[80]?.getD undef = .pointer (some ⟨qb, qo + 3 + k, none⟩) := hv 10 80 rfl rfl
                    clear hv hwas
                    go_simp
                    exact hK _ _ (Below.refl _ _) rfl
                  | 12, _, ho, hG, hK, hv =>
                    obtain rfl := Option.some.inj ho
                    clear hv hwas
                    go_simp
                    exact hK _ _ (Below.refl _ _) rfl
                  | 13, _, ho, hG, hK, hv =>
                    obtain rfl := Option.some.inj ho
                    clear hv hwas
                    go_simp
                    exact hK _ _ (Below.refl _ _) rfl
                  | 14, _, ho, hG, hK, hv =>
                    obtain rfl := Option.some.inj ho
                    have x82 : act.tmps[82]?.getD undef = .int .i64 (k : Int) := hv 12 82 rfl rfl
                    have x83 : act.tmps[83]?.getD undef = .pointer (some ⟨b12, 3, none⟩) := hv 13 83 rfl rfl
                    clear hv hwas
                    go_simp
                    exact hK _ _ (Below.refl _ _) rfl
                  | 15, _, ho, hG, hK, hv =>
                    obtain rfl := Option.some.inj ho
                    have x84 : act.tmps[84]?.getD undef = .pointer (some ⟨b12, 3 + k, none⟩) := hv 14 84 rfl rfl
                    clear hv hwas
                    go_simp
                    exact hK _ _ (Below.refl _ _) rfl
                  | 16, _, ho, hG, hK, hv =>
                    obtain rfl := Option.some.inj ho
                    have x81 : act.tmps[81]?.getD undef = .int .i64 z := hv 11 81 rfl rfl
                    have x85 : act.tmps[85]?.getD undef = .int .i64 z := hv 15 85 rfl rfl
                    clear hv hwas
                    go_simp
                    exact hK _ _ (Below.refl _ _) rfl
                  | 17, _, ho, hG, hK, hv =>
                    obtain rfl := Option.some.inj ho
                    have x86 : act.tmps[86]?.getD undef = .bool false := hv 16 86 rfl rfl
                    clear hv hwas
                    go_simp
                    exact hK _ _ (Below.refl _ _) rfl
                  | 18, _, ho, hG, hK, hv =>
                    obtain rfl := Option.some.inj ho
                    clear hv hwas
                    go_simp
                    exact hK _ _ (Below.refl _ _) rfl
                  | 19, _, ho, hG, hK, hv =>
                    obtain rfl := Option.some.inj ho
                    have x88 : act.tmps[88]?.getD undef = .pointer (some ⟨qb, qo, none⟩) := hv 18 88 rfl rfl
                    clear hv hwas
                    go_simp
                    exact hK _ _ (Below.refl _ _) rfl
                  | 20, _, ho, hG, hK, hv =>
                    obtain rfl := Option.some.inj ho
                    have x89 : act.tmps[89]?.getD undef = .pointer (some ⟨qb, qo, none⟩) := hv 19 89 rfl rfl
                    clear hv hwas
                    go_simp
                    exact hK _ _ (Below.refl _ _) rfl
                  | 21, _, ho, hG, hK, hv =>
                    obtain rfl := Option.some.inj ho
                    have x90 : act.tmps[90]?.getD undef = .pointer (some ⟨qb, qo + 2, none⟩) := hv 20 90 rfl rfl
                    clear hv hwas
                    go_simp
                    exact hK _ _ (Below.refl _ _) rfl
                  | 22, _, ho, hG, hK, hv =>
                    obtain rfl := Option.some.inj ho
                    clear hv hwas
                    go_simp
                    exact hK _ _ (Below.refl _ _) rfl
                  | 23, _, ho, hG, hK, hv =>
                    obtain rfl := Option.some.inj ho
                    have x91 : act.tmps[91]?.getD undef = .int .i64 qh := hv 21 91 rfl rfl
                    have x92 : act.tmps[92]?.getD undef = .int .i64 (k : Int) := hv 22 92 rfl rfl
                    clear hv hwas
                    go_simp
                    refine (rhas_any qh (k : Int) hqs w').mono ?_
                    rintro e w'' ⟨rfl, hb''⟩
                    rw [hqk.out]
                    exact hK _ _ hb'' rfl
                  | 24, _, ho, hG, hK, hv =>
                    obtain rfl := Option.some.inj ho
                    clear hv hwas
                    go_simp
                    exact hK _ _ (Below.refl _ _) rfl
                  | 25, _, ho, hG, hK, hv =>
                    obtain rfl := Option.some.inj ho
                    have x94 : act.tmps[94]?.getD undef = .pointer (some ⟨b12, 2, none⟩) := hv 24 94 rfl rfl
                    clear hv hwas
                    go_simp
                    exact hK _ _ (Below.refl _ _) rfl
                  | 26, _, ho, hG, hK, hv =>
                    obtain rfl := Option.some.inj ho
                    clear hv hwas
                    go_simp
                    exact hK _ _ (Below.refl _ _) rfl
                  | 27, _, ho, hG, hK, hv =>
                    obtain rfl := Option.some.inj ho
                    have x95 : act.tmps[95]?.getD undef = .int .i64 rh := hv 25 95 rfl rfl
                    have x96 : act.tmps[96]?.getD undef = .int .i64 (k : Int) := hv 26 96 rfl rfl
                    clear hv hwas
                    go_simp
                    refine (rhas_any rh (k : Int) hrs w').mono ?_
                    rintro e w'' ⟨rfl, hb''⟩
                    rw [hrk.out]
                    exact hK _ _ hb'' rfl
                  | 28, _, ho, hG, hK, hv =>
                    obtain rfl := Option.some.inj ho
                    have x93 : act.tmps[93]?.getD undef = .bool hb8 := hv 23 93 rfl rfl
                    have x97 : act.tmps[97]?.getD undef = .bool hb8 := hv 27 97 rfl rfl
                    clear hv hwas
                    go_simp
                    exact hK _ _ (Below.refl _ _) rfl
                  | 29, _, ho, hG, hK, hv =>
                    obtain rfl := Option.some.inj ho
                    have x87 : act.tmps[87]?.getD undef = .bool false := hv 17 87 rfl rfl
                    have x98 : act.tmps[98]?.getD undef = .bool false := hv 28 98 rfl rfl
                    clear hv hwas
                    go_simp
                    exact hK _ _ (Below.refl _ _) rfl
                  | 30, _, ho, hG, hK, hv =>
                    obtain rfl := Option.some.inj ho
                    have x75 : act.tmps[75]?.getD undef = .bool true := hv 5 75 rfl rfl
                    have x99 : act.tmps[99]?.getD undef = .bool false := hv 29 99 rfl rfl
                    clear hv hwas
                    go_simp
                    exact hK _ _ (Below.refl _ _) rfl
            · obtain rfl : k = 8 := by omega
              have Hh := Lib.hid (HL0.drop1 5)
              clear HL0 hrow4 H2
              go_wp2_with fail
              go_roundw
              case rel => exact ⟨k0 + 1, by omega, by go_num, Hh.out⟩
              case measure => simp [intOf]; omega
      · obtain rfl : k0 = rows.length := by omega
        have nc3 := H.cell 0 3 rfl rfl; have x0 := H.cell 1 0 rfl rfl; have x1 := H.cell 2 0 rfl rfl
        have Hh := Lib.hid H
        clear H
        cases hn : nl with
        | true =>
          subst hn
          go_wp2_with fail
          go_ret
          exact ⟨rfl, Hh.out.bel⟩
        | false =>
          have hlen : vr.length = rows.length := by simpa using congrArg List.length (hbes.out hn)
          have hle : ((vr.length : Int) == (rows.length : Int)) = true := by rw [hlen]; simp
          subst hn
          clear hlen
          go_wp2_with fail
          go_ret
          exact ⟨rfl, Hh.out.bel⟩
  · intro qq op ho u vs act w' hJ hsh hli hd hv hwas K hK
    have hiq : qq < 8 := lt_of_some ho
    have s3_ := hwas 3 rfl
    have s7_ := hwas 7 rfl
    simp at s3_ s7_
    match qq, hiq, ho, hli, hK with
    | 0, _, ho, hli, hK =>
      obtain rfl := Option.some.inj ho
      have q0 := hJ.cell 1 0 rfl rfl; have q1 := hJ.cell 1 1 rfl rfl; have q2 := hJ.cell 1 2 rfl rfl; have q3 := hJ.cell 1 3 rfl rfl
      clear hv hwas
      go_simp
      exact hK _ _ (fun _ => rfl) hJ
    | 1, _, ho, hli, hK =>
      obtain rfl := Option.some.inj ho
      have x35 : act.tmps[35]?.getD undef = .agg #[.int .i64 s.mod, .int .i64 s.all, .int .i64 s.non, .slice sA s.acts.length sc] := hv 0 35 rfl (by simp [Region.binds] at hd; simp [hd])
      have n6 := hsh.not (i := 6) (j := 1) (by rfl) hli
      have hA := RdA.grow hsh2.out hJ.bel
      clear hv hwas
      go_simp
      refine (hneed.out w' hA).mono ?_
      rintro e w9 ⟨rfl, hb9⟩
      exact hK _ _ (fun h => by cases h) (hJ.call1 (v := [.int .i64 nr, .int .i64 nw, .bool nm, .bool nl]) (C := []) hli n6 ((Hp.start w').grow hb9) ⟨rfl, rfl⟩)
    | 2, _, ho, hli, hK =>
      obtain rfl := Option.some.inj ho
      have q0 := hJ.cell 4 0 rfl rfl; have q1 := hJ.cell 4 1 rfl rfl
      clear hv hwas
      go_simp
      exact hK _ _ (fun _ => rfl) hJ
    | 3, _, ho, hli, hK =>
      obtain rfl := Option.some.inj ho
      have x37 : act.tmps[37]?.getD undef = .agg #[.slice A3 l3.length c3, .slice Ag3 xG.length cg3] := hv 2 37 rfl (by simp [Region.binds] at hd; simp [hd])
      have n7 := hsh.not (i := 7) (j := 3) (by rfl) hli
      have hRW := hR6.out.grow hJ.below
      clear hv hwas
      go_simp
      refine (hwld.out w' hRW).mono ?_
      rintro e w9 ⟨v, rfl, hG, hb9⟩
      rw [hVh.out.rep.sorted] at hG
      obtain ⟨Av, cv, Agv, cgv, rfl, H9⟩ := hG.got' (Hp.start w') hb9
      exact hK _ _ (fun h => by cases h) (hJ.call2 (v := [.slice Av vr.length cv, .slice Agv xG.length cgv]) hli n7 H9 ⟨Av, cv, Agv, cgv, rfl, rfl⟩)
    | 4, _, ho, hli, hK =>
      obtain rfl := Option.some.inj ho
      have n6 := hsh.not (i := 6) (j := 4) (by rfl) hli
      clear hv hwas
      go_simp
      exact hK _ _ (fun h => by cases h) (hJ.al1 hli n6)
    | 5, _, ho, hli, hK =>
      obtain rfl := Option.some.inj ho
      have n7 := hsh.not (i := 7) (j := 5) (by rfl) hli
      clear hv hwas
      go_simp
      exact hK _ _ (fun h => by cases h) (hJ.al2 hli n7)
    | 6, _, ho, hli, hK =>
      obtain rfl := Option.some.inj ho
      have x9 : act.tmps[9]?.getD undef = vs 4 := hv 4 9 rfl (by simp [Region.binds] at hd; simp [hd])
      have x36 : act.tmps[36]?.getD undef = vs 1 := hv 1 36 rfl (by simp [Region.binds] at hd; simp [hd])
      have l4 : u 4 = true := by simp [Region.binds] at hd; simp [hd]
      have l1 : u 1 = true := by simp [Region.binds] at hd; simp [hd]
      obtain ⟨g1, v1, C1, hx, hy, ⟨rfl, rfl⟩, hz, hfz, hQ⟩ := hJ.st1 l4 l1 hli
      rw [hx] at x9; rw [hy] at x36
      have z0 := hz 0 _ rfl; have z1 := hz 1 _ rfl; have z2 := hz 2 _ rfl; have z3 := hz 3 _ rfl
      have y0 := hfz 0; have y1 := hfz 1; have y2 := hfz 2; have y3 := hfz 3
      have hQ2 := hQ rfl
      clear hv hwas hz hfz hQ
      go_simp
      exact hK _ _ (fun _ => rfl) hQ2
    | 7, _, ho, hli, hK =>
      obtain rfl := Option.some.inj ho
      have x10 : act.tmps[10]?.getD undef = vs 5 := hv 5 10 rfl (by simp [Region.binds] at hd; simp [hd])
      have x38 : act.tmps[38]?.getD undef = vs 3 := hv 3 38 rfl (by simp [Region.binds] at hd; simp [hd])
      have l5 : u 5 = true := by simp [Region.binds] at hd; simp [hd]
      have l3 : u 3 = true := by simp [Region.binds] at hd; simp [hd]
      obtain ⟨g2, v2, C2, hx, hy, ⟨Av, cv, Agv, cgv, rfl, rfl⟩, hz, hfz, hQ⟩ := hJ.st2 l5 l3 hli
      rw [hx] at x10; rw [hy] at x38
      have z0 := hz 0 _ rfl; have z1 := hz 1 _ rfl
      have y0 := hfz 0; have y1 := hfz 1
      have hQ2 := hQ rfl
      clear hv hwas hz hfz hQ
      go_simp
      exact hK _ _ (fun _ => rfl) hQ2
end Go.Proofs.Ytefdblaolmckmab
