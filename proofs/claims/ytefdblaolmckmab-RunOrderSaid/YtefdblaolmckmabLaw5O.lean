/- The walk of RunOrder. -/
import Derived.Test.YtefdblaolmckmabBSpecZAToRef3S
import Derived.Test.YtefdblaolmckmabBRuleNToClash
namespace Go.Proofs.Ytefdblaolmckmab
open Go.RowKit
open Brood
set_option linter.unusedVariables false
set_option linter.unusedSimpArgs false
theorem all_two {W : BWorld} {x y : BSys} (hw : RightB W) (hx : (sysWrong x).1 = 0) (hy : (sysWrong y).1 = 0) (hc : clash x y = false) :
    ∃ rs gs, RightW rs gs ∧ allM 0 W [x, y] = (⟨rs, gs⟩, (0, 0)) ∧ allM 0 W [y, x] = (⟨rs, gs⟩, (0, 0)) := by
  obtain ⟨h1, h2, h3, h4, h5⟩ := run_two hw hx hy hc
  have hr := runM_right h3 (runM_right h1 hw)
  refine ⟨(bw (runM (bw (runM W x)) y)).rows, (bw (runM (bw (runM W x)) y)).gens, hr, ?_, ?_⟩
  · rw [allM, if_neg (by simpa using h1), allM, if_neg (by simpa using h3)]; rfl
  · rw [allM, if_neg (by simpa using h2), allM, if_neg (by simpa using h4), h5]; rfl
theorem rdS_two {W : World} {g : Nat} {t : TypeId} {x y : SysIn} (h : Blk W g t (sysCells x ++ sysCells y).toArray) (hx : RdAB W W.heap.size x.A x.s.acts) (hy : RdAB W W.heap.size y.A y.s.acts) : RdS W W.heap.size (some ⟨g, 0, none⟩) [x, y] := by
  refine ⟨?_, ?_⟩
  · have := rd_blk (n := 2) (sz := 4) h rfl
    simpa using this
  · intro z hz
    simp only [List.mem_cons, List.not_mem_nil, or_false] at hz
    rcases hz with rfl | rfl
    · exact hx
    · exact hy
set_option maxRecDepth 20000 in
set_option maxHeartbeats 12800000 in
theorem runOrder_any (rows : List BRow) (gens : List Int) (Ar : Option Addr) (cr : Nat) (Ag : Option Addr) (cg : Nat) (s : BSys) (sA : Option Addr) (sc : Nat) (t : BSys) (tA : Option Addr) (tc : Nat) (hlr : rows.length ≤ 9223372036854775807) (hlg : gens.length ≤ 9223372036854775807) (hnr : Ar = none → cr = 0 ∧ rows = []) (hng : Ag = none → cg = 0 ∧ gens = [])
    (w : World) (hr : RdR w w.heap.size Ar rows) (hg : RdG w w.heap.size Ag gens) (hs : RdA w sA s.acts) (ht : RdA w tA t.acts) :
    Calls Try.prog 10 #[.agg #[.slice Ar rows.length cr, .slice Ag gens.length cg], .agg #[.int .i64 s.mod, .int .i64 s.all, .int .i64 s.non, .slice sA s.acts.length sc], .agg #[.int .i64 t.mod, .int .i64 t.all, .int .i64 t.non, .slice tA t.acts.length tc]] w fun e w' => e = .returned (.bool true) ∧ Below w.heap.size w w' := by
  have H0 := (((Hp.start w).new w.heap.size rfl 25 [.slice Ar rows.length cr, .slice Ag gens.length cg]).new (w.heap.size + 1) (by simp) 85 [.int .i64 s.mod, .int .i64 s.all, .int .i64 s.non, .slice sA s.acts.length sc]).new (w.heap.size + 1 + 1) (by simp) 85 [.int .i64 t.mod, .int .i64 t.all, .int .i64 t.non, .slice tA t.acts.length tc]
  replace H0 : Hp w _ [.box w.heap.size 25 [.slice Ar rows.length cr, .slice Ag gens.length cg], .box (w.heap.size + 1) 85 [.int .i64 s.mod, .int .i64 s.all, .int .i64 s.non, .slice sA s.acts.length sc], .box (w.heap.size + 1 + 1) 85 [.int .i64 t.mod, .int .i64 t.all, .int .i64 t.non, .slice tA t.acts.length tc]] := H0
  have hsh := Lib.hid hs; have hth := Lib.hid ht
  have hws := Lib.hid (fun W hA => wrong_any s sA sc W hA)
  have hwt := Lib.hid (fun W hA => wrong_any t tA tc W hA)
  have hcl := Lib.hid (fun (h1 : (sysWrong s).1 = 0) (h2 : (sysWrong t).1 = 0) W hA hB => clash_any s t (right_of h1) (right_of h2) sA tA sc tc W hA hB)
  have htwo := Lib.hid (fun (W : BWorld) (hw : RightB W) (h1 : (sysWrong s).1 = 0) (h2 : (sysWrong t).1 = 0) (h3 : clash s t = false) => all_two hw h1 h2 h3)
  clear hs ht
  go_enter Try.func10, Try.ntmps10
  go_wp2_with fail
  obtain ⟨w0, hw0, H0⟩ := H0.name
  rw [hw0]; clear hw0
  refine (alive5_any w0).mono ?_
  rintro e w1 ⟨rfl, hb⟩
  replace H0 := H0.grow hb
  clear hb
  have a0 := H0.cell 0 0 rfl rfl; have a1 := H0.cell 0 1 rfl rfl
  go_wp2_with fail
  refine (sof_any rows gens Ar cr Ag cg hlr hng w1 (H0.old hr) (H0.old hg)).mono ?_
  rintro e w2 ⟨v, rfl, hG⟩
  have hrt : Hid ((worldErr ⟨rows, gens⟩).1 = 0 → RightW rows gens) := Lib.hid (right_iff rows gens).1
  have hof : Hid (ofV rows gens = if (worldErr ⟨rows, gens⟩).1 ≠ 0 then ([], []) else (tabsW rows, gens)) := Lib.hid rfl
  generalize worldErr ⟨rows, gens⟩ = F at *
  obtain ⟨f1, f2⟩ := F
  have H1 := H0.grow hG.bel
  obtain ⟨A, c, l, Ag2, cg2, rfl, hl, hR⟩ := hG.rd
  clear hG H0 a0 a1
  unfold fV
  dsimp only at hrt hof ⊢
  by_cases hf : f1 = 0
  case neg =>
    have hf' : (f1 != 0) = true := by simpa using hf
    have H2 := (H1.new w2.heap.size rfl 59 [.slice A l.length c, .slice Ag2 (ofV rows gens).2.length cg2]).new (w2.heap.size + 1) (by simp) 32 [.int .i64 f1, .int .i64 f2]
    have H2h := Lib.hid H2
    clear H1 hR hl hof hrt H2 hf
    generalize (ofV rows gens).2 = gs at *
    go_wp2_with fail
    go_ret
    exact ⟨rfl, H2h.out.bel⟩
  case pos =>
    subst hf
    have hRw := hrt.out rfl
    rw [show ofV rows gens = (tabsW rows, gens) by rw [hof.out, if_neg (by simp)]] at hl hR ⊢
    dsimp only at hl hR ⊢
    have H2 := (H1.new w2.heap.size rfl 59 [.slice A l.length c, .slice Ag2 gens.length cg2]).new (w2.heap.size + 1) (by simp) 32 [.int .i64 0, .int .i64 f2]
    have hR2 := Lib.hid ((hR.alloc (.cells #[.slice A l.length c, .slice Ag2 gens.length cg2] 59)).alloc (.cells #[.int .i64 0, .int .i64 f2] 32))
    have hRwh := Lib.hid hRw; have hlh := Lib.hid hl
    clear hof hrt H1 hR hRw hl
    have l0 := H2.lt 0 rfl
    have hfl := fun a b W => fld_err3 a b W
    go_upto_region 4 with fail
    obtain ⟨w3, hw3, H2⟩ := H2.name
    rw [hw3] at hR2 ⊢
    clear hw3 l0
    replace H2 : Hp w w3 [.box w.heap.size 25 [.slice Ar rows.length cr, .slice Ag gens.length cg], .box (w.heap.size + 1) 85 [.int .i64 s.mod, .int .i64 s.all, .int .i64 s.non, .slice sA s.acts.length sc], .box (w.heap.size + 1 + 1) 85 [.int .i64 t.mod, .int .i64 t.all, .int .i64 t.non, .slice tA t.acts.length tc], .box w2.heap.size 59 [.slice A l.length c, .slice Ag2 gens.length cg2], .box (w2.heap.size + 1) 32 [.int .i64 0, .int .i64 f2]] := H2
    have u0 := H2.cell 1 0 rfl rfl; have u1 := H2.cell 1 1 rfl rfl; have u2 := H2.cell 1 2 rfl rfl; have u3 := H2.cell 1 3 rfl rfl; have ff := H2.cell 4 0 rfl rfl
    go_wp2_with fail
    refine (hws.out w3 (RdA.grow hsh.out H2.bel)).mono ?_
    clear hws
    generalize sysWrong s = F1 at *
    obtain ⟨s1, s2⟩ := F1
    rintro e w4 ⟨rfl, hb4⟩
    replace H2 := H2.grow hb4
    have hR3 := Lib.hid (hR2.out.grow hb4)
    dsimp only at hcl htwo ⊢
    clear hb4 hR2 u0 u1 u2 u3 ff
    by_cases hs1 : s1 = 0
    case neg =>
      have hs1' : (s1 != 0) = true := by simpa using hs1
      have H2h := Lib.hid H2
      clear hs1 H2
      go_wp2_with fail
      go_ret
      exact ⟨rfl, H2h.out.bel⟩
    subst hs1
    have u0 := H2.cell 2 0 rfl rfl; have u1 := H2.cell 2 1 rfl rfl; have u2 := H2.cell 2 2 rfl rfl; have u3 := H2.cell 2 3 rfl rfl
    go_wp2_with fail
    refine (hwt.out w4 (RdA.grow hth.out H2.bel)).mono ?_
    clear hwt
    generalize sysWrong t = F1 at *
    obtain ⟨t1, t2⟩ := F1
    rintro e w5 ⟨rfl, hb5⟩
    replace H2 := H2.grow hb5
    have hR4 := Lib.hid (hR3.out.grow hb5)
    dsimp only at hcl htwo ⊢
    clear hb5 hR3 u0 u1 u2 u3
    by_cases ht1 : t1 = 0
    case neg =>
      have ht1' : (t1 != 0) = true := by simpa using ht1
      have H2h := Lib.hid H2
      clear ht1 H2
      go_wp2_with fail
      go_ret
      exact ⟨rfl, H2h.out.bel⟩
    subst ht1
    have u0 := H2.cell 2 0 rfl rfl; have u1 := H2.cell 2 1 rfl rfl; have u2 := H2.cell 2 2 rfl rfl; have u3 := H2.cell 2 3 rfl rfl
    have v0 := H2.cell 1 0 rfl rfl; have v1 := H2.cell 1 1 rfl rfl; have v2 := H2.cell 1 2 rfl rfl; have v3 := H2.cell 1 3 rfl rfl
    go_wp2_with fail
    refine (hcl.out (by trivial) (by trivial) w5 (RdA.grow hsh.out H2.bel) (RdA.grow hth.out H2.bel)).mono ?_
    clear hcl
    generalize clash s t = C at *
    rintro e w6 ⟨rfl, hb6⟩
    replace H2 := H2.grow hb6
    have hR5 := Lib.hid (hR4.out.grow hb6)
    clear hb6 hR4 u0 u1 u2 u3 v0 v1 v2 v3
    cases C with
    | true =>
      have H2h := Lib.hid H2
      clear H2
      go_wp2_with fail
      go_ret
      exact ⟨rfl, H2h.out.bel⟩
    | false =>
      obtain ⟨rs, gs, hw2, ha1, ha2⟩ := htwo.out ⟨rows, gens⟩ hRwh.out (by trivial) (by trivial) (by trivial)
      have ha1h := Lib.hid ha1; have ha2h := Lib.hid ha2; have hw2h := Lib.hid hw2
      clear htwo ha1 ha2 hw2
      have H3 := H2.new w6.heap.size rfl 85 (sysCells ⟨s, sA, sc⟩ ++ sysCells ⟨t, tA, tc⟩)
      have u0 := H2.cell 2 0 rfl rfl; have u1 := H2.cell 2 1 rfl rfl; have u2 := H2.cell 2 2 rfl rfl; have u3 := H2.cell 2 3 rfl rfl
      have v0 := H2.cell 1 0 rfl rfl; have v1 := H2.cell 1 1 rfl rfl; have v2 := H2.cell 1 2 rfl rfl; have v3 := H2.cell 1 3 rfl rfl
      have x0 := H2.cell 3 0 rfl rfl; have x1 := H2.cell 3 1 rfl rfl
      have hR6 := Lib.hid (hR5.out.alloc (.cells (sysCells ⟨s, sA, sc⟩ ++ sysCells ⟨t, tA, tc⟩).toArray 85))
      clear H2 hR5
      go_wp2_with fail
      obtain ⟨w7, hw7, H3⟩ := H3.name
      change Calls _ _ _ (w6.alloc (.cells (sysCells ⟨s, sA, sc⟩ ++ sysCells ⟨t, tA, tc⟩).toArray 85)) _
      rw [hw7] at hR6 ⊢
      clear hw7 u0 u1 u2 u3 v0 v1 v2 v3 x0 x1
      have hsm := Lib.hid (right_small hRwh.out hlh.out)
      have hall := sall_any l A c gens Ag2 cg2 hsm.out [⟨s, sA, sc⟩, ⟨t, tA, tc⟩] (some ⟨w6.heap.size, 0, none⟩) 2 (by simp) w7 (rdS_two (H3.blk 5 rfl) (RdA.grow hsh.out H3.bel) (RdA.grow hth.out H3.bel)) hR6.out
      rw [hlh.out, allT_right hRwh.out, show sysOf [⟨s, sA, sc⟩, ⟨t, tA, tc⟩] = [s, t] from rfl, ha1h.out] at hall
      dsimp only at hall
      refine hall.mono ?_
      rintro e w8 ⟨v, rfl, hG⟩
      have H4 := H3.grow hG.bel
      have hR7 := hR6.out.grow hG.bel
      obtain ⟨A3, c3, l3, Ag3, cg3, rfl, hl3, hR8⟩ := hG.rd
      have hl3h := Lib.hid hl3
      clear hG H3 hR6 hall hl3
      replace H4 := (H4.new w8.heap.size rfl 59 [.slice A3 l3.length c3, .slice Ag3 gs.length cg3]).new (w8.heap.size + 1) (by simp) 32 [.int .i64 0, .int .i64 0]
      have hR9 := Lib.hid ((hR7.alloc (.cells #[.slice A3 l3.length c3, .slice Ag3 gs.length cg3] 59)).alloc (.cells #[.int .i64 0, .int .i64 0] 32))
      have hR10 := Lib.hid ((hR8.alloc (.cells #[.slice A3 l3.length c3, .slice Ag3 gs.length cg3] 59)).alloc (.cells #[.int .i64 0, .int .i64 0] 32))
      have l1 := H4.lt 3 rfl
      clear hR7 hR8
      go_upto_region 7 with fail
      obtain ⟨w9, hw9, H4⟩ := H4.name
      rw [hw9] at hR9 hR10 ⊢
      clear hw9 l1
      have H5 := H4.new w9.heap.size rfl 85 (sysCells ⟨t, tA, tc⟩ ++ sysCells ⟨s, sA, sc⟩)
      have u0 := H4.cell 2 0 rfl rfl; have u1 := H4.cell 2 1 rfl rfl; have u2 := H4.cell 2 2 rfl rfl; have u3 := H4.cell 2 3 rfl rfl
      have v0 := H4.cell 1 0 rfl rfl; have v1 := H4.cell 1 1 rfl rfl; have v2 := H4.cell 1 2 rfl rfl; have v3 := H4.cell 1 3 rfl rfl
      have x0 := H4.cell 3 0 rfl rfl; have x1 := H4.cell 3 1 rfl rfl
      have hR11 := hR9.out.alloc (.cells (sysCells ⟨t, tA, tc⟩ ++ sysCells ⟨s, sA, sc⟩).toArray 85)
      have hR12 := Lib.hid (hR10.out.alloc (.cells (sysCells ⟨t, tA, tc⟩ ++ sysCells ⟨s, sA, sc⟩).toArray 85))
      have hR11h := Lib.hid hR11
      clear H4 hR9 hR10 hR11
      go_wp2_with fail
      obtain ⟨wa, hwa, H5⟩ := H5.name
      change Calls _ _ _ (w9.alloc (.cells (sysCells ⟨t, tA, tc⟩ ++ sysCells ⟨s, sA, sc⟩).toArray 85)) _
      rw [hwa] at hR11h hR12 ⊢
      clear hwa u0 u1 u2 u3 v0 v1 v2 v3 x0 x1
      have hall := sall_any l A c gens Ag2 cg2 hsm.out [⟨t, tA, tc⟩, ⟨s, sA, sc⟩] (some ⟨w9.heap.size, 0, none⟩) 2 (by simp) wa (rdS_two (H5.blk 8 rfl) (RdA.grow hth.out H5.bel) (RdA.grow hsh.out H5.bel)) hR11h.out
      rw [hlh.out, allT_right hRwh.out, show sysOf [⟨t, tA, tc⟩, ⟨s, sA, sc⟩] = [t, s] from rfl, ha2h.out] at hall
      dsimp only at hall
      refine hall.mono ?_
      rintro e wb ⟨v, rfl, hG⟩
      have H6 := H5.grow hG.bel
      have hR13 := hR12.out.grow hG.bel
      obtain ⟨A4, c4, l4, Ag4, cg4, rfl, hl4, hR14⟩ := hG.rd
      have hl4h := Lib.hid hl4
      clear hG H5 hR12 hR11h hall hl4
      replace H6 := (H6.new wb.heap.size rfl 59 [.slice A4 l4.length c4, .slice Ag4 gs.length cg4]).new (wb.heap.size + 1) (by simp) 32 [.int .i64 0, .int .i64 0]
      have hR15 := Lib.hid ((hR13.alloc (.cells #[.slice A4 l4.length c4, .slice Ag4 gs.length cg4] 59)).alloc (.cells #[.int .i64 0, .int .i64 0] 32))
      have hR16 := Lib.hid ((hR14.alloc (.cells #[.slice A4 l4.length c4, .slice Ag4 gs.length cg4] 59)).alloc (.cells #[.int .i64 0, .int .i64 0] 32))
      have l1 := H6.lt 6 rfl
      clear hR13 hR14
      go_upto_region 8 with fail
      obtain ⟨wc, hwc, H6⟩ := H6.name
      rw [hwc] at hR15 hR16 ⊢
      clear hwc l1
      have u0 := H6.cell 6 0 rfl rfl; have u1 := H6.cell 6 1 rfl rfl; have u2 := H6.cell 7 0 rfl rfl
      have v0 := H6.cell 9 0 rfl rfl; have v1 := H6.cell 9 1 rfl rfl; have v2 := H6.cell 10 0 rfl rfl
      have H6h := Lib.hid H6
      clear H6
      go_wp2_with fail
      refine (rsamest_any l3 l4 gs A3 c3 Ag3 cg3 A4 c4 Ag4 cg4 (right_small hw2h.out hl3h.out) (hl4h.out.trans hl3h.out.symm) wc hR15.out hR16.out).mono ?_
      rintro e wd ⟨rfl, hbd⟩
      have H7 := Lib.hid (H6h.out.grow hbd)
      clear hbd H6h hR15 hR16 u0 u1 u2 v0 v1 v2
      go_wp2_with fail
      go_ret
      exact ⟨rfl, H7.out.bel⟩
end Go.Proofs.Ytefdblaolmckmab
