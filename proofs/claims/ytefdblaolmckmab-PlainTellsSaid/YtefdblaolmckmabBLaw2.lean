/- The walk of PlainTells, the last part. The walk of PlainTells, the third part. The walk of PlainTells, the second part. The walk of PlainTells, the first part. -/
import Derived.Test.YtefdblaolmckmabBRefb
import Derived.Test.YtefdblaolmckmabBMem
import Derived.Test.YtefdblaolmckmabBPlb
namespace Go.Proofs.Ytefdblaolmckmab
open Go.RowKit
open Brood
set_option linter.unusedVariables false
set_option linter.unusedSimpArgs false

theorem neFault (i g : Int) (w : World) : (binOp .neq 32 (.agg #[.int .i64 i, .int .i64 g]) (.agg #[.int .i64 i, .int .i64 g])).run Try.prog w = .ok (.bool false) w := by
  rw [run_neq_struct, run_equalIn_struct _ _ _ _ _ (by kernel_rfl) (by kernel_rfl)]
  simp [go_sem, Op.eqFields]
theorem neBeing2 (i g : Int) (w : World) : (binOp .neq 27 (.agg #[.int .i64 i, .int .i64 g]) (.agg #[.int .i64 i, .int .i64 g])).run Try.prog w = .ok (.bool false) w := by
  rw [neBeing]; simp
/-- A world as a value that can be read now. -/
def SeenW (w : World) (v : Value) (rows : List BRow) (gens : List Int) : Prop := ∃ A c A' c', v = .agg #[.slice A rows.length c, .slice A' gens.length c'] ∧ RdR w w.heap.size A rows ∧ RdG w w.heap.size A' gens
theorem SeenW.grow {w w' : World} {v : Value} {rows : List BRow} {gens : List Int} (h : SeenW w v rows gens) (hb : Below w.heap.size w w') : SeenW w' v rows gens := by
  obtain ⟨A, c, A', c', h1, h2, h3⟩ := h
  exact ⟨A, c, A', c', h1, Rd.grow h2 hb, Rd.grow h3 hb⟩
theorem GotW.seen {w : World} {base : Nat} {v : Value} {rows : List BRow} {gens : List Int} (h : GotW w base v rows gens) : SeenW w v rows gens := by
  obtain ⟨Ar, cr, Ag, cg, h1⟩ := h.open_
  exact ⟨Ar, cr, Ag, cg, h1.val, h1.row, h1.gen⟩
theorem GotW.got {w0 w w' : World} {E : List Ent} (h : Hp w0 w E) (hb : Below w.heap.size w w') {v : Value} {rows : List BRow} {gens : List Int} (hG : GotW w' w.heap.size v rows gens) :
    ∃ Ar cr Ag cg, v = .agg #[.slice Ar rows.length cr, .slice Ag gens.length cg] ∧
      Hp w0 w' (E ++ [.own (.slice Ar rows.length cr) 51 11 rows.length (rows.flatMap rowCells), .own (.slice Ag gens.length cg) 3 1 gens.length (ints gens)]) := by
  obtain ⟨vr, vg, rfl, hO⟩ := hG
  obtain ⟨Ar, cr, rfl, _, _⟩ := own_shape hO.rows_
  obtain ⟨Ag, cg, rfl, _, _⟩ := own_shape hO.gens_
  exact ⟨Ar, cr, Ag, cg, rfl, h.got2 hb hO.rows_ hO.gens_ (by decide)⟩


/-- Behind n statements. -/
def codeDrop : Nat → Code → Code
  | 0, c => c
  | n + 1, .seq _ b => codeDrop n b
  | _, c => c
set_option maxRecDepth 1000000 in
set_option maxHeartbeats 25600000 in
theorem plainTells_D (rows : List BRow) (gens : List Int) (Ar : Option Addr) (cr : Nat) (Ag : Option Addr) (cg : Nat) (i g has part n fa fn : Int) (hlr : rows.length ≤ 9223372036854775807) (hlg : gens.length ≤ 9223372036854775807) (hnr : Ar = none → cr = 0 ∧ rows = []) (hng : Ag = none → cg = 0 ∧ gens = [])
    (w : World) (hr : RdR w w.heap.size Ar rows) (hg : RdG w w.heap.size Ag gens) {w24 : World} {gc gd gx g6 : Nat} {y0 y1 y2 y3 y4 y5 y6 y7 : Value} (H : Hp w w24 [.box w.heap.size 25 [.slice Ar rows.length cr, .slice Ag gens.length cg], .box (w.heap.size + 1) 27 [.int .i64 i, .int .i64 g], .box (w.heap.size + 1 + 1) 29 [.int .i64 fa, .int .i64 fn], .box gc 27 [y0, y1], .box gd 27 [y2, y3], .box gx 25 [y4, y5], .box g6 25 [y6, y7]])
    {c0 c1 c5 c8 c9 c10 c12 c13 c14 c15 c16 c19 c20 c21 c22 u23 u24 u25 u26 u27 u28 u29 u30 u31 u32 u33 u34 u35 u36 u37 u38 u39 u40 u41 u42 u43 u44 u45 u46 u47 u48 u49 u50 u51 u52 u53 u54 u55 u56 u57 u58 u59 u60 u61 u62 u63 u64 u65 u66 u67 u68 u69 u70 u71 u72 u73 u74 u75 u76 u77 u78 u79 u80 u81 u82 u83 u84 u85 u86 u87 u88 u89 u90 u91 u92 u93 u94 u95 u96 u97 u98 u99 u100 u101 u102 u103 u104 u105 u106 u107 u108 u109 u110 u111 u112 u113 u114 u115 u116 u117 u118 u119 u120 u121 u122 u123 u124 u125 u126 u127 u128 u129 u130 u131 u132 u133 u134 u135 u136 u137 u138 u139 u140 u141 u142 u143 u144 u145 u146 u147 u148 u149 u150 u151 u152 u153 u154 u155 u156 u157 u158 u159 u160 u161 u162 u163 u164 u165 u166 u167 u168 u169 u170 u171 u172 u173 u174 u175 u176 u177 u178 u179 u180 u181 u182 u183 u184 u185 u186 u187 u188 u189 u190 u191 u192 u193 u194 u195 u196 u197 u198 u199 u200 u201 u202 u203 u204 u205 u206 u207 u208 u209 u210 u211 u212 u213 u214 u215 u216 u217 u218 : Value} :
    Code.wp Try.prog (codeDrop 17 ((Try.f3.body).getD .skip)) (bodyPost Try.prog Try.f3 fun e w' => e = .returned (.bool true) ∧ Below w.heap.size w w') ⟨#[c0, c1, .int .i64 has, .int .i64 part, .int .i64 n, c5, .pointer (some ⟨w.heap.size, 0, none⟩), .pointer (some ⟨w.heap.size + 1, 0, none⟩), c8, c9, c10, .pointer (some ⟨w.heap.size + 1 + 1, 0, none⟩), c12, c13, c14, c15, c16, .pointer (some ⟨gx, 0, none⟩), .pointer (some ⟨g6, 0, none⟩), c19, c20, c21, c22, u23, u24, u25, u26, u27, u28, u29, u30, u31, u32, u33, u34, u35, u36, u37, u38, u39, u40, u41, u42, u43, u44, u45, u46, u47, u48, u49, u50, u51, u52, u53, u54, u55, u56, u57, u58, u59, u60, u61, u62, u63, u64, u65, u66, u67, u68, u69, u70, u71, u72, u73, u74, u75, u76, u77, u78, u79, u80, u81, u82, u83, u84, u85, u86, u87, u88, u89, u90, u91, u92, u93, u94, u95, u96, u97, u98, u99, u100, u101, u102, u103, u104, u105, u106, u107, u108, u109, u110, u111, u112, u113, u114, u115, u116, u117, u118, u119, u120, u121, u122, u123, u124, u125, u126, u127, u128, u129, u130, u131, u132, u133, u134, u135, u136, u137, u138, u139, u140, u141, u142, u143, u144, u145, u146, u147, u148, u149, u150, u151, u152, u153, u154, u155, u156, u157, u158, u159, u160, u161, u162, u163, u164, u165, u166, u167, u168, u169, u170, u171, u172, u173, u174, u175, u176, u177, u178, u179, u180, u181, u182, u183, u184, u185, u186, u187, u188, u189, u190, u191, u192, u193, u194, u195, u196, u197, u198, u199, u200, u201, u202, u203, u204, u205, u206, u207, u208, u209, u210, u211, u212, u213, u214, u215, u216, u217, u218], []⟩ w24 := by
  conv => arg 2; whnf
  have hnf := fun a b W => neFault a b W
  have hnb := fun a b W => neBeing2 a b W
  have hfld : ∀ (a b : Int) (W : World), (Instr.field 32 (.agg #[.int .i64 a, .int .i64 b]) 0).run Try.prog W = .ok (.int .i64 a) W := fun _ _ _ => by kernel_rfl
  have a0 := H.cell 0 0 rfl rfl; have a1 := H.cell 0 1 rfl rfl
  go_wp2_with fail
  refine (rwrong2_any rows gens Ar cr Ag cg hlr w24 (H.old hr) (H.old hg)).mono ?_
  rintro e w25 ⟨rfl, hb⟩
  replace H := H.grow hb
  clear hb a0 a1
  by_cases hwe : (worldErr ⟨rows, gens⟩).1 = 0
  · have hRW := Lib.hid ((right_iff rows gens).1 hwe)
    rw [hwe]
    generalize (worldErr ⟨rows, gens⟩).2 = e2 at *
    clear hwe
    have hl60 : rows.length ≤ 60 := hRW.out.lens2.1
    have hset := Lib.hid hRW.out.set_
    go_upto_if 155 with fail
    go_cut [] from 23 (fun wx => w25 = wx)
    case first =>
      go_wp2_with fail
      go_meet
      exact rfl
    obtain rfl := hcut
    have a0 := H.cell 0 0 rfl rfl; have a1 := H.cell 0 1 rfl rfl; have b0 := H.cell 1 0 rfl rfl; have b1 := H.cell 1 1 rfl rfl
    go_wp2_with fail
    refine (get_any rows gens Ar cr Ag cg (by omega) hset.out i g part w25 (H.old hr)).mono ?_
    rintro e w26 ⟨rfl, hb⟩
    obtain ⟨gp, hgp⟩ : ∃ gp, gp = getP i g rows part := ⟨_, rfl⟩
    rw [← hgp]
    have hgph := Lib.hid hgp
    obtain ⟨gv, gb⟩ := gp
    clear hgp
    dsimp only
    replace H := H.grow hb
    clear hb a0 a1 b0 b1
    have a0 := H.cell 0 0 rfl rfl; have a1 := H.cell 0 1 rfl rfl; have b0 := H.cell 1 0 rfl rfl; have b1 := H.cell 1 1 rfl rfl
    go_wp2_with fail
    refine (rrow_any rows gens Ar cr Ag cg i g hlr w26 (H.old hr)).mono ?_
    rintro e w27 ⟨⟨v, rfl, hans⟩, hb⟩
    replace H := H.grow hb
    have hans' : RowAns w27 v (rowOf i g rows) := by
      cases ho : rowOf i g rows with
      | none => rw [ho] at hans; exact hans
      | some r =>
        rw [ho] at hans
        obtain ⟨pb, po, h1, h2, h3⟩ := hans
        exact ⟨pb, po, h1, Nat.lt_of_lt_of_le h2 hb.size, h3.below hb h2⟩
    clear hans hb a0 a1 b0 b1
    go_upto_region 27 with fail
    go_cut [22] (fun s wx => s = .bool gb ∧ Below w27.heap.size w27 wx)
    case first =>
      cases ho : rowOf i g rows with
      | none =>
        rw [ho] at hans'
        obtain rfl : v = .pointer none := hans'
        have hg2 := hgph.out
        rw [getP_none part ho] at hg2
        injection hg2 with q1 q2
        subst q1 q2
        clear ho hgph
        go_wp2_with fail
        go_meet
        exact ⟨rfl, Below.refl _ _⟩
      | some r =>
        rw [ho] at hans'
        obtain ⟨pb, po, rfl, hpb, hrow⟩ := hans'
        have hg2 := hgph.out
        rw [getP_some part ho] at hg2
        have hgb : gb = hasB r.has part := by
          split at hg2
          · rename_i hh; injection hg2 with q1 q2; rw [q2, hh]
          · rename_i hh; injection hg2 with q1 q2; rw [q2]; simpa using hh
        have hgbh := Lib.hid hgb
        have hs := Lib.hid (hset.out r (List.mem_of_find?_eq_some ho))
        obtain ⟨c0, c1, c2⟩ := hrow.head
        clear hg2 hgb ho hgph
        go_wp2_with fail
        refine (rhas_any r.has part hs.out w27).mono ?_
        rintro e w28 ⟨rfl, hb⟩
        rw [← hgbh.out]
        go_wp2_with fail
        go_meet
        exact ⟨rfl, hb⟩
    obtain ⟨rfl, hb⟩ := hcut
    replace H := H.grow hb
    have hans : RowAns wc v (rowOf i g rows) := by
      cases ho : rowOf i g rows with
      | none => rw [ho] at hans'; exact hans'
      | some r =>
        rw [ho] at hans'
        obtain ⟨pb, po, h1, h2, h3⟩ := hans'
        exact ⟨pb, po, h1, Nat.lt_of_lt_of_le h2 hb.size, h3.below hb h2⟩
    clear hans' hb
    go_upto_region 28 with fail
    go_cut [199] (fun s wx => s = .bool false ∧ wc = wx)
    case first =>
      cases ho : rowOf i g rows with
      | none =>
        rw [ho] at hans
        obtain rfl : v = .pointer none := hans
        have hg2 := hgph.out
        rw [getP_none part ho] at hg2
        injection hg2 with q1 q2
        subst q1 q2
        clear ho hgph
        go_wp2_with fail
        go_meet
        exact ⟨rfl, rfl⟩
      | some r =>
        rw [ho] at hans
        obtain ⟨pb, po, rfl, hpb, hrow⟩ := hans
        have hg2 := hgph.out
        rw [getP_some part ho] at hg2
        cases hq : hasB r.has part
        case false =>
          rw [hq, if_neg (by decide)] at hg2
          injection hg2 with q1 q2
          subst q1 q2
          clear ho hgph hrow hq
          go_wp2_with fail
          go_meet
          exact ⟨rfl, rfl⟩
        case true =>
          rw [hq, if_pos rfl] at hg2
          have hp : isPart part = true := by
            simp only [hasB, Bool.and_eq_true] at hq
            exact hq.1
          obtain ⟨p0, p1⟩ := isPart_iff.1 hp
          obtain ⟨p, rfl⟩ := nat_of p0
          have hp8 : p < 8 := by omega
          have cv := hrow.val hp8
          have hlen8 := r.h8
          have hgd : r.vals.getD ((p : Int)).toNat 0 = r.vals[p]'(by rw [hlen8]; exact hp8) := by simp [List.getD_eq_getElem?_getD, hlen8, hp8]
          rw [hgd] at hg2
          generalize r.vals[p]'(by rw [hlen8]; exact hp8) = z at *
          injection hg2 with q1 q2
          subst q1 q2
          clear ho hgph hrow hq hgd hlen8 hp p0 p1
          have p2 : (0 : Int) ≤ (p : Int) := by omega
          have p3 : (p : Int) < 8 := by omega
          go_wp2_with fail
          go_meet
          exact ⟨rfl, rfl⟩
    obtain ⟨rfl, rfl⟩ := hcut
    clear hans hgph
    go_upto_region 30 with fail
    obtain ⟨M, hM⟩ : ∃ M, M = matchV fa fn rows := ⟨_, rfl⟩
    have hMl : M.length ≤ 60 := by rw [hM]; exact Nat.le_trans (List.length_filter_le _ _) hl60
    have hMh := Lib.hid hM
    clear hM
    by_cases hfa : isSet fa = true
    · by_cases hfn : isSet fn = true
      refine wp_region_pred mixed (by kernel_rfl) (by kernel_rfl) (fun _ => true) (fun j w' v => if j = 13 ∨ j = 16 then (∃ A c, v = .slice A M.length c ∧ RdB w' w'.heap.size A M) else v = tab [.pointer (some ⟨w.heap.size + 1 + 1, 0, none⟩), .int .i64 fa, .bool true, .bool false, .bool false, .pointer (some ⟨w.heap.size + 1 + 1, 1, none⟩), .int .i64 fn, .bool true, .bool false, .bool false, .bool false, .agg #[.slice Ar rows.length cr, .slice Ag gens.length cg], .agg #[.int .i64 fa, .int .i64 fn], undef, .agg #[.slice Ar rows.length cr, .slice Ag gens.length cg], .agg #[.int .i64 fa, .int .i64 fn], undef, .bool true, .bool true, .bool true] j) ?_ ?_ ?_ ?_ ?_
      · intro j w' w'' v h hb
        by_cases h7 : j = 13 ∨ j = 16
        · rw [if_pos h7] at h ⊢
          obtain ⟨A, c, h1, h2⟩ := h
          exact ⟨A, c, h1, Rd.grow h2 hb⟩
        · rw [if_neg h7] at h ⊢
          exact h
      · intro q op ho
        have hi : q < 20 := lt_of_some ho
        match q, hi, ho with
        | 0, _, ho | 1, _, ho | 2, _, ho | 3, _, ho | 4, _, ho | 9, _, ho | 10, _, ho | 18, _, ho | 19, _, ho =>
          obtain rfl := Option.some.inj ho
          rfl
        | 5, _, ho | 6, _, ho | 7, _, ho | 8, _, ho =>
          obtain rfl := Option.some.inj ho
          intro w' v h
          have h' : v = .bool false := h
          subst h'
          rfl
        | 11, _, ho | 12, _, ho | 13, _, ho | 14, _, ho | 15, _, ho | 16, _, ho | 17, _, ho =>
          obtain rfl := Option.some.inj ho
          intro w' v h
          have h' : v = .bool false := h
          subst h'
          rfl
      · intro q w' h; cases h
      · intro vs w' hb hv
        have h19 : vs 19 = .bool true := hv 19 (by decide)
        rw [putAll_tab _ _ _ _ [(some 200, vs 0), (some 201, vs 1), (some 202, vs 2), (some 203, vs 3), (some 204, vs 4), (some 205, vs 5), (some 206, vs 6), (some 207, vs 7), (some 208, vs 8), (some 209, vs 9), (some 210, vs 10), (some 211, vs 11), (some 212, vs 12), (some 213, vs 13), (some 214, vs 14), (some 215, vs 15), (some 216, vs 16), (some 217, vs 17), (some 218, vs 18), (some 12, vs 19)] rfl]
        simp only [putL_eq, putT, List.set_cons_succ, List.set_cons_zero]
        rw [h19]
        go_wp2_with fail
        go_ret
        exact ⟨rfl, (H.grow hb).bel⟩
      · intro q op ho hG act w' hb hv hwas K hK
        have e6 := hwas 6 rfl
        have e11 := hwas 11 rfl
        simp at e6 e11
        replace H := H.grow hb
        have a0 := H.cell 0 0 rfl rfl; have a1 := H.cell 0 1 rfl rfl; have b0 := H.cell 2 0 rfl rfl; have b1 := H.cell 2 1 rfl rfl
        have hi : q < 20 := lt_of_some ho
        match q, hi, ho, hG, hK, hv with
        | 0, _, ho, hG, hK, hv =>
          obtain rfl := Option.some.inj ho
          clear hv hwas
          go_simp
          exact hK _ _ (Below.refl _ _) rfl
        | 1, _, ho, hG, hK, hv =>
          obtain rfl := Option.some.inj ho
          have x0 : act.tmps[200]?.getD undef = .pointer (some ⟨w.heap.size + 1 + 1, 0, none⟩) := hv 0 200 rfl rfl
          clear hv hwas
          go_simp
          exact hK _ _ (Below.refl _ _) rfl
        | 2, _, ho, hG, hK, hv =>
          obtain rfl := Option.some.inj ho
          have x1 : act.tmps[201]?.getD undef = .int .i64 fa := hv 1 201 rfl rfl
          clear hv hwas
          go_simp
          refine (rset_any fa w').mono ?_
          rintro e w'' ⟨rfl, rfl⟩
          rw [hfa]
          exact hK _ _ (Below.refl _ _) rfl
        | 3, _, ho, hG, hK, hv =>
          obtain rfl := Option.some.inj ho
          have x2 : act.tmps[202]?.getD undef = .bool true := hv 2 202 rfl rfl
          clear hv hwas
          go_simp
          exact hK _ _ (Below.refl _ _) rfl
        | 4, _, ho, hG, hK, hv =>
          obtain rfl := Option.some.inj ho
          have x3 : act.tmps[203]?.getD undef = .bool false := hv 3 203 rfl rfl
          clear hv hwas
          go_simp
          exact hK _ _ (Below.refl _ _) rfl
        | 5, _, ho, hG, hK, hv =>
          obtain rfl := Option.some.inj ho
          clear hv hwas
          go_simp
          exact hK _ _ (Below.refl _ _) rfl
        | 6, _, ho, hG, hK, hv =>
          obtain rfl := Option.some.inj ho
          have x5 : act.tmps[205]?.getD undef = .pointer (some ⟨w.heap.size + 1 + 1, 1, none⟩) := hv 5 205 rfl rfl
          clear hv hwas
          go_simp
          exact hK _ _ (Below.refl _ _) rfl
        | 7, _, ho, hG, hK, hv =>
          obtain rfl := Option.some.inj ho
          have x6 : act.tmps[206]?.getD undef = .int .i64 fn := hv 6 206 rfl rfl
          clear hv hwas
          go_simp
          refine (rset_any fn w').mono ?_
          rintro e w'' ⟨rfl, rfl⟩
          rw [hfn]
          exact hK _ _ (Below.refl _ _) rfl
        | 8, _, ho, hG, hK, hv =>
          obtain rfl := Option.some.inj ho
          have x7 : act.tmps[207]?.getD undef = .bool true := hv 7 207 rfl rfl
          clear hv hwas
          go_simp
          exact hK _ _ (Below.refl _ _) rfl
        | 9, _, ho, hG, hK, hv =>
          obtain rfl := Option.some.inj ho
          have x4 : act.tmps[204]?.getD undef = .bool false := hv 4 204 rfl rfl
          have x8 : act.tmps[208]?.getD undef = .bool false := hv 8 208 rfl rfl
          clear hv hwas
          go_simp
          exact hK _ _ (Below.refl _ _) rfl
        | 10, _, ho, hG, hK, hv =>
          obtain rfl := Option.some.inj ho
          have x9 : act.tmps[209]?.getD undef = .bool false := hv 9 209 rfl rfl
          clear hv hwas
          go_simp
          exact hK _ _ (Below.refl _ _) rfl
        | 11, _, ho, hG, hK, hv =>
          obtain rfl := Option.some.inj ho
          clear hv hwas
          go_simp
          exact hK _ _ (Below.refl _ _) rfl
        | 12, _, ho, hG, hK, hv =>
          obtain rfl := Option.some.inj ho
          clear hv hwas
          go_simp
          exact hK _ _ (Below.refl _ _) rfl
        | 13, _, ho, hG, hK, hv =>
          obtain rfl := Option.some.inj ho
          have x11 : act.tmps[211]?.getD undef = .agg #[.slice Ar rows.length cr, .slice Ag gens.length cg] := hv 11 211 rfl rfl
          have x12 : act.tmps[212]?.getD undef = .agg #[.int .i64 fa, .int .i64 fn] := hv 12 212 rfl rfl
          clear hv hwas
          go_simp
          refine (pmatch_any rows gens Ar cr Ag cg fa fn hl60 hset.out hfa hfn w' (H.old hr)).mono ?_
          rintro e w'' ⟨⟨A, c, rfl, hO⟩, hb''⟩
          rw [← hMh.out] at hO ⊢
          exact hK _ _ hb'' ⟨A, c, rfl, Rd.of_own hO⟩
        | 14, _, ho, hG, hK, hv =>
          obtain rfl := Option.some.inj ho
          clear hv hwas
          go_simp
          exact hK _ _ (Below.refl _ _) rfl
        | 15, _, ho, hG, hK, hv =>
          obtain rfl := Option.some.inj ho
          clear hv hwas
          go_simp
          exact hK _ _ (Below.refl _ _) rfl
        | 16, _, ho, hG, hK, hv =>
          obtain rfl := Option.some.inj ho
          have x14 : act.tmps[214]?.getD undef = .agg #[.slice Ar rows.length cr, .slice Ag gens.length cg] := hv 14 214 rfl rfl
          have x15 : act.tmps[215]?.getD undef = .agg #[.int .i64 fa, .int .i64 fn] := hv 15 215 rfl rfl
          clear hv hwas
          go_simp
          refine (rmatch_any rows gens Ar cr Ag cg fa fn hl60 hset.out hfa hfn w' (H.old hr)).mono ?_
          rintro e w'' ⟨⟨A, c, rfl, hO⟩, hb''⟩
          rw [← hMh.out] at hO ⊢
          exact hK _ _ hb'' ⟨A, c, rfl, Rd.of_own hO⟩
        | 17, _, ho, hG, hK, hv =>
          obtain rfl := Option.some.inj ho
          have x13 : ∃ A c, act.tmps[213]?.getD undef = .slice A M.length c ∧ RdB w' w'.heap.size A M := hv 13 213 rfl rfl
          have x16 : ∃ A c, act.tmps[216]?.getD undef = .slice A M.length c ∧ RdB w' w'.heap.size A M := hv 16 216 rfl rfl
          obtain ⟨A1, c1, x13, hA1⟩ := x13
          obtain ⟨A2, c2, x16, hA2⟩ := x16
          clear hv hwas
          go_simp
          refine (samebe_any M A1 c1 A2 c2 hMl w' hA1 hA2).mono ?_
          rintro e w'' ⟨rfl, hb''⟩
          exact hK _ _ hb'' rfl
        | 18, _, ho, hG, hK, hv =>
          obtain rfl := Option.some.inj ho
          have x10 : act.tmps[210]?.getD undef = .bool false := hv 10 210 rfl rfl
          have x17 : act.tmps[217]?.getD undef = .bool true := hv 17 217 rfl rfl
          clear hv hwas
          go_simp
          exact hK _ _ (Below.refl _ _) rfl
        | 19, _, ho, hG, hK, hv =>
          obtain rfl := Option.some.inj ho
          have x18 : act.tmps[218]?.getD undef = .bool true := hv 18 218 rfl rfl
          clear hv hwas
          go_simp
          exact hK _ _ (Below.refl _ _) rfl
      · have hfn' : isSet fn = false := by simpa using hfn
        refine wp_region_pred mixed (by kernel_rfl) (by kernel_rfl) (fun q => ([true, true, true, true, true, true, true, true, true, true, true, false, false, false, false, false, false, false, true, true] : List Bool).getD q true) (fun j w' v => v = tab [.pointer (some ⟨w.heap.size + 1 + 1, 0, none⟩), .int .i64 fa, .bool true, .bool false, .bool false, .pointer (some ⟨w.heap.size + 1 + 1, 1, none⟩), .int .i64 fn, .bool false, .bool true, .bool true, .bool true, undef, undef, undef, undef, undef, undef, undef, .bool true, .bool true] j) ?_ ?_ ?_ ?_ ?_
        · intro j w' w'' v h hb; exact h
        · intro q op ho
          have hi : q < 20 := lt_of_some ho
          match q, hi, ho with
          | 0, _, ho | 1, _, ho | 2, _, ho | 3, _, ho | 4, _, ho | 9, _, ho | 10, _, ho | 18, _, ho | 19, _, ho =>
            obtain rfl := Option.some.inj ho
            rfl
          | 5, _, ho | 6, _, ho | 7, _, ho | 8, _, ho =>
            obtain rfl := Option.some.inj ho
            intro w' v h
            have h' : v = .bool false := h
            subst h'
            rfl
          | 11, _, ho | 12, _, ho | 13, _, ho | 14, _, ho | 15, _, ho | 16, _, ho | 17, _, ho =>
            obtain rfl := Option.some.inj ho
            intro w' v h
            have h' : v = .bool true := h
            subst h'
            rfl
        · intro q w' h
          by_cases hq : q < 20
          · match q, hq, h with
            | 11, _, _ | 12, _, _ | 13, _, _ | 14, _, _ | 15, _, _ | 16, _, _ | 17, _, _ => rfl
            | 0, _, h | 1, _, h | 2, _, h | 3, _, h | 4, _, h | 5, _, h | 6, _, h | 7, _, h | 8, _, h | 9, _, h | 10, _, h | 18, _, h | 19, _, h => cases h
          · exfalso
            rw [List.getD_eq_getElem?_getD, List.getElem?_eq_none (by simp; omega)] at h
            cases h
        · intro vs w' hb hv
          have h19 : vs 19 = .bool true := hv 19 (by decide)
          rw [putAll_tab _ _ _ _ [(some 200, vs 0), (some 201, vs 1), (some 202, vs 2), (some 203, vs 3), (some 204, vs 4), (some 205, vs 5), (some 206, vs 6), (some 207, vs 7), (some 208, vs 8), (some 209, vs 9), (some 210, vs 10), (some 211, vs 11), (some 212, vs 12), (some 213, vs 13), (some 214, vs 14), (some 215, vs 15), (some 216, vs 16), (some 217, vs 17), (some 218, vs 18), (some 12, vs 19)] rfl]
          simp only [putL_eq, putT, List.set_cons_succ, List.set_cons_zero]
          rw [h19]
          go_wp2_with fail
          go_ret
          exact ⟨rfl, (H.grow hb).bel⟩
        · intro q op ho hG act w' hb hv hwas K hK
          have e6 := hwas 6 rfl
          have e11 := hwas 11 rfl
          simp at e6 e11
          replace H := H.grow hb
          have a0 := H.cell 0 0 rfl rfl; have a1 := H.cell 0 1 rfl rfl; have b0 := H.cell 2 0 rfl rfl; have b1 := H.cell 2 1 rfl rfl
          have hi : q < 20 := lt_of_some ho
          match q, hi, ho, hG, hK, hv with
          | 0, _, ho, hG, hK, hv =>
            obtain rfl := Option.some.inj ho
            clear hv hwas
            go_simp
            exact hK _ _ (Below.refl _ _) rfl
          | 1, _, ho, hG, hK, hv =>
            obtain rfl := Option.some.inj ho
            have x0 : act.tmps[200]?.getD undef = .pointer (some ⟨w.heap.size + 1 + 1, 0, none⟩) := hv 0 200 rfl rfl
            clear hv hwas
            go_simp
            exact hK _ _ (Below.refl _ _) rfl
          | 2, _, ho, hG, hK, hv =>
            obtain rfl := Option.some.inj ho
            have x1 : act.tmps[201]?.getD undef = .int .i64 fa := hv 1 201 rfl rfl
            clear hv hwas
            go_simp
            refine (rset_any fa w').mono ?_
            rintro e w'' ⟨rfl, rfl⟩
            rw [hfa]
            exact hK _ _ (Below.refl _ _) rfl
          | 3, _, ho, hG, hK, hv =>
            obtain rfl := Option.some.inj ho
            have x2 : act.tmps[202]?.getD undef = .bool true := hv 2 202 rfl rfl
            clear hv hwas
            go_simp
            exact hK _ _ (Below.refl _ _) rfl
          | 4, _, ho, hG, hK, hv =>
            obtain rfl := Option.some.inj ho
            have x3 : act.tmps[203]?.getD undef = .bool false := hv 3 203 rfl rfl
            clear hv hwas
            go_simp
            exact hK _ _ (Below.refl _ _) rfl
          | 5, _, ho, hG, hK, hv =>
            obtain rfl := Option.some.inj ho
            clear hv hwas
            go_simp
            exact hK _ _ (Below.refl _ _) rfl
          | 6, _, ho, hG, hK, hv =>
            obtain rfl := Option.some.inj ho
            have x5 : act.tmps[205]?.getD undef = .pointer (some ⟨w.heap.size + 1 + 1, 1, none⟩) := hv 5 205 rfl rfl
            clear hv hwas
            go_simp
            exact hK _ _ (Below.refl _ _) rfl
          | 7, _, ho, hG, hK, hv =>
            obtain rfl := Option.some.inj ho
            have x6 : act.tmps[206]?.getD undef = .int .i64 fn := hv 6 206 rfl rfl
            clear hv hwas
            go_simp
            refine (rset_any fn w').mono ?_
            rintro e w'' ⟨rfl, rfl⟩
            rw [hfn']
            exact hK _ _ (Below.refl _ _) rfl
          | 8, _, ho, hG, hK, hv =>
            obtain rfl := Option.some.inj ho
            have x7 : act.tmps[207]?.getD undef = .bool false := hv 7 207 rfl rfl
            clear hv hwas
            go_simp
            exact hK _ _ (Below.refl _ _) rfl
          | 9, _, ho, hG, hK, hv =>
            obtain rfl := Option.some.inj ho
            have x4 : act.tmps[204]?.getD undef = .bool false := hv 4 204 rfl rfl
            have x8 : act.tmps[208]?.getD undef = .bool true := hv 8 208 rfl rfl
            clear hv hwas
            go_simp
            exact hK _ _ (Below.refl _ _) rfl
          | 10, _, ho, hG, hK, hv =>
            obtain rfl := Option.some.inj ho
            have x9 : act.tmps[209]?.getD undef = .bool true := hv 9 209 rfl rfl
            clear hv hwas
            go_simp
            exact hK _ _ (Below.refl _ _) rfl
          | 11, _, ho, hG, hK, hv => cases hG
          | 12, _, ho, hG, hK, hv => cases hG
          | 13, _, ho, hG, hK, hv => cases hG
          | 14, _, ho, hG, hK, hv => cases hG
          | 15, _, ho, hG, hK, hv => cases hG
          | 16, _, ho, hG, hK, hv => cases hG
          | 17, _, ho, hG, hK, hv => cases hG
          | 18, _, ho, hG, hK, hv =>
            obtain rfl := Option.some.inj ho
            have x10 : act.tmps[210]?.getD undef = .bool true := hv 10 210 rfl rfl
            clear hv hwas
            go_simp
            exact hK _ _ (Below.refl _ _) rfl
          | 19, _, ho, hG, hK, hv =>
            obtain rfl := Option.some.inj ho
            have x18 : act.tmps[218]?.getD undef = .bool true := hv 18 218 rfl rfl
            clear hv hwas
            go_simp
            exact hK _ _ (Below.refl _ _) rfl
    · have hfa' : isSet fa = false := by simpa using hfa
      refine wp_region_pred mixed (by kernel_rfl) (by kernel_rfl) (fun q => ([true, true, true, true, true, false, false, false, false, true, true, false, false, false, false, false, false, false, true, true] : List Bool).getD q true) (fun j w' v => v = tab [.pointer (some ⟨w.heap.size + 1 + 1, 0, none⟩), .int .i64 fa, .bool false, .bool true, .bool true, undef, undef, undef, undef, .bool true, .bool true, undef, undef, undef, undef, undef, undef, undef, .bool true, .bool true] j) ?_ ?_ ?_ ?_ ?_
      · intro j w' w'' v h hb; exact h
      · intro q op ho
        have hi : q < 20 := lt_of_some ho
        match q, hi, ho with
        | 0, _, ho | 1, _, ho | 2, _, ho | 3, _, ho | 4, _, ho | 9, _, ho | 10, _, ho | 18, _, ho | 19, _, ho =>
          obtain rfl := Option.some.inj ho
          rfl
        | 5, _, ho | 6, _, ho | 7, _, ho | 8, _, ho =>
          obtain rfl := Option.some.inj ho
          intro w' v h
          have h' : v = .bool true := h
          subst h'
          rfl
        | 11, _, ho | 12, _, ho | 13, _, ho | 14, _, ho | 15, _, ho | 16, _, ho | 17, _, ho =>
          obtain rfl := Option.some.inj ho
          intro w' v h
          have h' : v = .bool true := h
          subst h'
          rfl
      · intro q w' h
        by_cases hq : q < 20
        · match q, hq, h with
          | 5, _, _ | 6, _, _ | 7, _, _ | 8, _, _ | 11, _, _ | 12, _, _ | 13, _, _ | 14, _, _ | 15, _, _ | 16, _, _ | 17, _, _ => rfl
          | 0, _, h | 1, _, h | 2, _, h | 3, _, h | 4, _, h | 9, _, h | 10, _, h | 18, _, h | 19, _, h => cases h
        · exfalso
          rw [List.getD_eq_getElem?_getD, List.getElem?_eq_none (by simp; omega)] at h
          cases h
      · intro vs w' hb hv
        have h19 : vs 19 = .bool true := hv 19 (by decide)
        rw [putAll_tab _ _ _ _ [(some 200, vs 0), (some 201, vs 1), (some 202, vs 2), (some 203, vs 3), (some 204, vs 4), (some 205, vs 5), (some 206, vs 6), (some 207, vs 7), (some 208, vs 8), (some 209, vs 9), (some 210, vs 10), (some 211, vs 11), (some 212, vs 12), (some 213, vs 13), (some 214, vs 14), (some 215, vs 15), (some 216, vs 16), (some 217, vs 17), (some 218, vs 18), (some 12, vs 19)] rfl]
        simp only [putL_eq, putT, List.set_cons_succ, List.set_cons_zero]
        rw [h19]
        go_wp2_with fail
        go_ret
        exact ⟨rfl, (H.grow hb).bel⟩
      · intro q op ho hG act w' hb hv hwas K hK
        have e6 := hwas 6 rfl
        have e11 := hwas 11 rfl
        simp at e6 e11
        replace H := H.grow hb
        have a0 := H.cell 0 0 rfl rfl; have a1 := H.cell 0 1 rfl rfl; have b0 := H.cell 2 0 rfl rfl; have b1 := H.cell 2 1 rfl rfl
        have hi : q < 20 := lt_of_some ho
        match q, hi, ho, hG, hK, hv with
        | 0, _, ho, hG, hK, hv =>
          obtain rfl := Option.some.inj ho
          clear hv hwas
          go_simp
          exact hK _ _ (Below.refl _ _) rfl
        | 1, _, ho, hG, hK, hv =>
          obtain rfl := Option.some.inj ho
          have x0 : act.tmps[200]?.getD undef = .pointer (some ⟨w.heap.size + 1 + 1, 0, none⟩) := hv 0 200 rfl rfl
          clear hv hwas
          go_simp
          exact hK _ _ (Below.refl _ _) rfl
        | 2, _, ho, hG, hK, hv =>
          obtain rfl := Option.some.inj ho
          have x1 : act.tmps[201]?.getD undef = .int .i64 fa := hv 1 201 rfl rfl
          clear hv hwas
          go_simp
          refine (rset_any fa w').mono ?_
          rintro e w'' ⟨rfl, rfl⟩
          rw [hfa']
          exact hK _ _ (Below.refl _ _) rfl
        | 3, _, ho, hG, hK, hv =>
          obtain rfl := Option.some.inj ho
          have x2 : act.tmps[202]?.getD undef = .bool false := hv 2 202 rfl rfl
          clear hv hwas
          go_simp
          exact hK _ _ (Below.refl _ _) rfl
        | 4, _, ho, hG, hK, hv =>
          obtain rfl := Option.some.inj ho
          have x3 : act.tmps[203]?.getD undef = .bool true := hv 3 203 rfl rfl
          clear hv hwas
          go_simp
          exact hK _ _ (Below.refl _ _) rfl
        | 5, _, ho, hG, hK, hv => cases hG
        | 6, _, ho, hG, hK, hv => cases hG
        | 7, _, ho, hG, hK, hv => cases hG
        | 8, _, ho, hG, hK, hv => cases hG
        | 9, _, ho, hG, hK, hv =>
          obtain rfl := Option.some.inj ho
          have x4 : act.tmps[204]?.getD undef = .bool true := hv 4 204 rfl rfl
          clear hv hwas
          go_simp
          exact hK _ _ (Below.refl _ _) rfl
        | 10, _, ho, hG, hK, hv =>
          obtain rfl := Option.some.inj ho
          have x9 : act.tmps[209]?.getD undef = .bool true := hv 9 209 rfl rfl
          clear hv hwas
          go_simp
          exact hK _ _ (Below.refl _ _) rfl
        | 11, _, ho, hG, hK, hv => cases hG
        | 12, _, ho, hG, hK, hv => cases hG
        | 13, _, ho, hG, hK, hv => cases hG
        | 14, _, ho, hG, hK, hv => cases hG
        | 15, _, ho, hG, hK, hv => cases hG
        | 16, _, ho, hG, hK, hv => cases hG
        | 17, _, ho, hG, hK, hv => cases hG
        | 18, _, ho, hG, hK, hv =>
          obtain rfl := Option.some.inj ho
          have x10 : act.tmps[210]?.getD undef = .bool true := hv 10 210 rfl rfl
          clear hv hwas
          go_simp
          exact hK _ _ (Below.refl _ _) rfl
        | 19, _, ho, hG, hK, hv =>
          obtain rfl := Option.some.inj ho
          have x18 : act.tmps[218]?.getD undef = .bool true := hv 18 218 rfl rfl
          clear hv hwas
          go_simp
          exact hK _ _ (Below.refl _ _) rfl
  · have hwe' : ((worldErr ⟨rows, gens⟩).1 == 0) = false := by simpa using hwe
    generalize worldErr ⟨rows, gens⟩ = we at *
    obtain ⟨e1, e2⟩ := we
    dsimp only at hwe hwe' ⊢
    go_wp2_with fail
    go_ret
    exact ⟨rfl, H.bel⟩

end Go.Proofs.Ytefdblaolmckmab

namespace Go.Proofs.Ytefdblaolmckmab
open Go.RowKit
open Brood
set_option linter.unusedVariables false
set_option linter.unusedSimpArgs false

set_option maxRecDepth 1000000 in
set_option maxHeartbeats 25600000 in
theorem plainTells_C (rows : List BRow) (gens : List Int) (Ar : Option Addr) (cr : Nat) (Ag : Option Addr) (cg : Nat) (i g has part n fa fn : Int) (hlr : rows.length ≤ 9223372036854775807) (hlg : gens.length ≤ 9223372036854775807) (hnr : Ar = none → cr = 0 ∧ rows = []) (hng : Ag = none → cg = 0 ∧ gens = [])
    (w : World) (hr : RdR w w.heap.size Ar rows) (hg : RdG w w.heap.size Ag gens) {w19 : World} {gc gd gx g6 : Nat} {y0 y1 y2 y3 y4 y5 y6 y7 : Value} (H : Hp w w19 [.box w.heap.size 25 [.slice Ar rows.length cr, .slice Ag gens.length cg], .box (w.heap.size + 1) 27 [.int .i64 i, .int .i64 g], .box (w.heap.size + 1 + 1) 29 [.int .i64 fa, .int .i64 fn], .box gc 27 [y0, y1], .box gd 27 [y2, y3], .box gx 25 [y4, y5], .box g6 25 [y6, y7]])
    {c0 c1 c5 c8 c9 c10 c12 c13 c14 c15 c16 c19 c20 c21 c22 u23 u24 u25 u26 u27 u28 u29 u30 u31 u32 u33 u34 u35 u36 u37 u38 u39 u40 u41 u42 u43 u44 u45 u46 u47 u48 u49 u50 u51 u52 u53 u54 u55 u56 u57 u58 u59 u60 u61 u62 u63 u64 u65 u66 u67 u68 u69 u70 u71 u72 u73 u74 u75 u76 u77 u78 u79 u80 u81 u82 u83 u84 u85 u86 u87 u88 u89 u90 u91 u92 u93 u94 u95 u96 u97 u98 u99 u100 u101 u102 u103 u104 u105 u106 u107 u108 u109 u110 u111 u112 u113 u114 u115 u116 u117 u118 u119 u120 u121 u122 u123 u124 u125 u126 u127 u128 u129 u130 u131 u132 u133 u134 u135 u136 u137 u138 u139 u140 u141 u142 u143 u144 u145 u146 u147 u148 u149 u150 u151 u152 u153 u154 u155 u156 u157 u158 u159 u160 u161 u162 u163 u164 u165 u166 u167 u168 u169 u170 u171 u172 u173 u174 u175 u176 u177 u178 u179 u180 u181 u182 u183 u184 u185 u186 u187 u188 u189 u190 u191 u192 u193 u194 u195 u196 u197 u198 u199 u200 u201 u202 u203 u204 u205 u206 u207 u208 u209 u210 u211 u212 u213 u214 u215 u216 u217 u218 : Value} :
    Code.wp Try.prog (codeDrop 14 ((Try.f3.body).getD .skip)) (bodyPost Try.prog Try.f3 fun e w' => e = .returned (.bool true) ∧ Below w.heap.size w w') ⟨#[c0, c1, .int .i64 has, .int .i64 part, .int .i64 n, c5, .pointer (some ⟨w.heap.size, 0, none⟩), .pointer (some ⟨w.heap.size + 1, 0, none⟩), c8, c9, c10, .pointer (some ⟨w.heap.size + 1 + 1, 0, none⟩), c12, c13, c14, c15, c16, .pointer (some ⟨gx, 0, none⟩), .pointer (some ⟨g6, 0, none⟩), c19, c20, c21, c22, u23, u24, u25, u26, u27, u28, u29, u30, u31, u32, u33, u34, u35, u36, u37, u38, u39, u40, u41, u42, u43, u44, u45, u46, u47, u48, u49, u50, u51, u52, u53, u54, u55, u56, u57, u58, u59, u60, u61, u62, u63, u64, u65, u66, u67, u68, u69, u70, u71, u72, u73, u74, u75, u76, u77, u78, u79, u80, u81, u82, u83, u84, u85, u86, u87, u88, u89, u90, u91, u92, u93, u94, u95, u96, u97, u98, u99, u100, u101, u102, u103, u104, u105, u106, u107, u108, u109, u110, u111, u112, u113, u114, u115, u116, u117, u118, u119, u120, u121, u122, u123, u124, u125, u126, u127, u128, u129, u130, u131, u132, u133, u134, u135, u136, u137, u138, u139, u140, u141, u142, u143, u144, u145, u146, u147, u148, u149, u150, u151, u152, u153, u154, u155, u156, u157, u158, u159, u160, u161, u162, u163, u164, u165, u166, u167, u168, u169, u170, u171, u172, u173, u174, u175, u176, u177, u178, u179, u180, u181, u182, u183, u184, u185, u186, u187, u188, u189, u190, u191, u192, u193, u194, u195, u196, u197, u198, u199, u200, u201, u202, u203, u204, u205, u206, u207, u208, u209, u210, u211, u212, u213, u214, u215, u216, u217, u218], []⟩ w19 := by
  conv => arg 2; whnf
  have hnf := fun a b W => neFault a b W
  have hnb := fun a b W => neBeing2 a b W
  have hfld : ∀ (a b : Int) (W : World), (Instr.field 32 (.agg #[.int .i64 a, .int .i64 b]) 0).run Try.prog W = .ok (.int .i64 a) W := fun _ _ _ => by kernel_rfl
  have a0 := H.cell 0 0 rfl rfl; have a1 := H.cell 0 1 rfl rfl; have b0 := H.cell 1 0 rfl rfl; have b1 := H.cell 1 1 rfl rfl
  go_wp2_with fail
  refine (drop_any rows gens Ar cr Ag cg i g part hlr hlg hnr hng w19 (H.old hr) (H.old hg)).mono ?_
  rintro e w20 ⟨v, rfl, hG, hb⟩
  obtain ⟨E, hE⟩ : ∃ E, E = dropV rows gens i g part := ⟨_, rfl⟩
  rw [← hE] at hG ⊢
  obtain ⟨er, eg, ee⟩ := E
  replace hE := Lib.hid hE
  have hlE : Hid (er.length ≤ 60 ∧ eg.length ≤ 60) := Lib.hid (by have h := @drop_lens rows gens i g part; rw [← hE.out] at h; exact h)
  dsimp only at hG ⊢
  obtain ⟨Br, c2, Bg, c3, rfl, H1⟩ := GotW.got H hb hG
  try simp only [List.set_cons_succ, List.set_cons_zero, List.eraseIdx_cons_succ, List.eraseIdx_cons_zero, List.cons_append, List.nil_append] at H1
  clear hG hb H a0 a1 b0 b1
  have q0 := H1.cell 5 0 rfl rfl; have q1 := H1.cell 5 1 rfl rfl; have y0 := H1.frozen 5 0 rfl; have y1 := H1.frozen 5 1 rfl
  have H2 := (H1.set 5 0 (.slice Br er.length c2) rfl).set 5 1 (.slice Bg eg.length c3) rfl
  try simp only [List.set_cons_succ, List.set_cons_zero, List.eraseIdx_cons_succ, List.eraseIdx_cons_zero, List.cons_append, List.nil_append] at H2
  go_upto_region 20 with fail
  obtain ⟨w21, hw, H2⟩ := H2.name
  rw [hw]
  clear hw q0 q1 y0 y1 H1
  have a0 := H2.cell 0 0 rfl rfl; have a1 := H2.cell 0 1 rfl rfl; have b0 := H2.cell 1 0 rfl rfl; have b1 := H2.cell 1 1 rfl rfl
  go_wp2_with fail
  refine (rdrop_any rows gens Ar cr Ag cg i g part hlr w.heap.size w21 (H2.old hr) (H2.old hg) (Rd.under hg H2.bel (Nat.le_refl _))).mono ?_
  rintro e w22 ⟨v, rfl, hR, hb⟩
  rw [← hE.out] at hR ⊢
  dsimp only at hR ⊢
  obtain ⟨A, c4, A', c5, rfl, h1, h2, hf1, hf2⟩ := hR
  have ge6 := H2.ge 6 rfl; have lt6 := H2.lt 6 rfl
  have H3 := H2.grow hb
  clear a0 a1 b0 b1 H2 hb
  have q0 := H3.cell 6 0 rfl rfl; have q1 := H3.cell 6 1 rfl rfl; have y0 := H3.frozen 6 0 rfl; have y1 := H3.frozen 6 1 rfl
  have H4 := (H3.set 6 0 (.slice A er.length c4) rfl).set 6 1 (.slice A' eg.length c5) rfl
  try simp only [List.set_cons_succ, List.set_cons_zero, List.eraseIdx_cons_succ, List.eraseIdx_cons_zero, List.cons_append, List.nil_append] at H4
  have h1' : RdR (((w22.setCell ⟨g6, 0, none⟩ (.slice A er.length c4)).setCell ⟨g6, 1, none⟩ (.slice A' eg.length c5))) w22.heap.size A er := rd_set (rd_set h1 hf1 ge6 lt6 _) hf1 ge6 lt6 _
  have h2' : RdG (((w22.setCell ⟨g6, 0, none⟩ (.slice A er.length c4)).setCell ⟨g6, 1, none⟩ (.slice A' eg.length c5))) w22.heap.size A' eg := rd_set (rd_set h2 hf2 ge6 lt6 _) hf2 ge6 lt6 _
  have hsz : Hid (w22.heap.size ≤ ((w22.setCell ⟨g6, 0, none⟩ (.slice A er.length c4)).setCell ⟨g6, 1, none⟩ (.slice A' eg.length c5)).heap.size) := Lib.hid (by simp)
  go_upto_region 21 with fail
  obtain ⟨w23, hw, H4⟩ := H4.name
  rw [hw] at h1' h2' hsz ⊢
  clear hw q0 q1 y0 y1 H3 h1 h2 hf1 hf2
  have x0 := H4.cell 5 0 rfl rfl; have x1 := H4.cell 5 1 rfl rfl; have x2 := H4.cell 6 0 rfl rfl; have x3 := H4.cell 6 1 rfl rfl
  go_wp2_with fail
  refine (rsame_any er eg Br c2 Bg c3 A c4 A' c5 (by have := hlE.out; omega) (by have := hlE.out; omega) w23 (H4.rd 7 rfl) (Rd.more h1' hsz.out) (H4.rd 8 rfl) (Rd.more h2' hsz.out)).mono ?_
  rintro e w24 ⟨rfl, hb⟩
  have H := ((H4.grow hb).drop1 7).drop1 7
  try simp only [List.set_cons_succ, List.set_cons_zero, List.eraseIdx_cons_succ, List.eraseIdx_cons_zero, List.cons_append, List.nil_append] at H
  clear hb H4 x0 x1 x2 x3 h1' h2' hsz hE hlE ge6 lt6
  go_upto_if 151 with fail
  go_cut [] from 23 (fun wx => w24 = wx)
  case first =>
    go_wp2_with fail
    go_meet
    exact rfl
  obtain rfl := hcut
  rename_i K1 hK1
  refine hK1 _ _ ?_
  exact plainTells_D rows gens Ar cr Ag cg i g has part n fa fn hlr hlg hnr hng w hr hg H

end Go.Proofs.Ytefdblaolmckmab

namespace Go.Proofs.Ytefdblaolmckmab
open Go.RowKit
open Brood
set_option linter.unusedVariables false
set_option linter.unusedSimpArgs false

set_option maxRecDepth 1000000 in
set_option maxHeartbeats 25600000 in
theorem plainTells_B (rows : List BRow) (gens : List Int) (Ar : Option Addr) (cr : Nat) (Ag : Option Addr) (cg : Nat) (i g has part n fa fn : Int) (hlr : rows.length ≤ 9223372036854775807) (hlg : gens.length ≤ 9223372036854775807) (hnr : Ar = none → cr = 0 ∧ rows = []) (hng : Ag = none → cg = 0 ∧ gens = [])
    (w : World) (hr : RdR w w.heap.size Ar rows) (hg : RdG w w.heap.size Ag gens) {w9 : World} {gc gd gx g6 : Nat} {y0 y1 y2 y3 y4 y5 y6 y7 : Value} (H : Hp w w9 [.box w.heap.size 25 [.slice Ar rows.length cr, .slice Ag gens.length cg], .box (w.heap.size + 1) 27 [.int .i64 i, .int .i64 g], .box (w.heap.size + 1 + 1) 29 [.int .i64 fa, .int .i64 fn], .box gc 27 [y0, y1], .box gd 27 [y2, y3], .box gx 25 [y4, y5], .box g6 25 [y6, y7]])
    {c0 c1 c5 c8 c9 c10 c12 c13 c14 c15 c16 c19 c20 c21 c22 u23 u24 u25 u26 u27 u28 u29 u30 u31 u32 u33 u34 u35 u36 u37 u38 u39 u40 u41 u42 u43 u44 u45 u46 u47 u48 u49 u50 u51 u52 u53 u54 u55 u56 u57 u58 u59 u60 u61 u62 u63 u64 u65 u66 u67 u68 u69 u70 u71 u72 u73 u74 u75 u76 u77 u78 u79 u80 u81 u82 u83 u84 u85 u86 u87 u88 u89 u90 u91 u92 u93 u94 u95 u96 u97 u98 u99 u100 u101 u102 u103 u104 u105 u106 u107 u108 u109 u110 u111 u112 u113 u114 u115 u116 u117 u118 u119 u120 u121 u122 u123 u124 u125 u126 u127 u128 u129 u130 u131 u132 u133 u134 u135 u136 u137 u138 u139 u140 u141 u142 u143 u144 u145 u146 u147 u148 u149 u150 u151 u152 u153 u154 u155 u156 u157 u158 u159 u160 u161 u162 u163 u164 u165 u166 u167 u168 u169 u170 u171 u172 u173 u174 u175 u176 u177 u178 u179 u180 u181 u182 u183 u184 u185 u186 u187 u188 u189 u190 u191 u192 u193 u194 u195 u196 u197 u198 u199 u200 u201 u202 u203 u204 u205 u206 u207 u208 u209 u210 u211 u212 u213 u214 u215 u216 u217 u218 : Value} :
    Code.wp Try.prog (codeDrop 8 ((Try.f3.body).getD .skip)) (bodyPost Try.prog Try.f3 fun e w' => e = .returned (.bool true) ∧ Below w.heap.size w w') ⟨#[c0, c1, .int .i64 has, .int .i64 part, .int .i64 n, c5, .pointer (some ⟨w.heap.size, 0, none⟩), .pointer (some ⟨w.heap.size + 1, 0, none⟩), c8, c9, c10, .pointer (some ⟨w.heap.size + 1 + 1, 0, none⟩), c12, c13, c14, c15, c16, .pointer (some ⟨gx, 0, none⟩), .pointer (some ⟨g6, 0, none⟩), c19, c20, c21, c22, u23, u24, u25, u26, u27, u28, u29, u30, u31, u32, u33, u34, u35, u36, u37, u38, u39, u40, u41, u42, u43, u44, u45, u46, u47, u48, u49, u50, u51, u52, u53, u54, u55, u56, u57, u58, u59, u60, u61, u62, u63, u64, u65, u66, u67, u68, u69, u70, u71, u72, u73, u74, u75, u76, u77, u78, u79, u80, u81, u82, u83, u84, u85, u86, u87, u88, u89, u90, u91, u92, u93, u94, u95, u96, u97, u98, u99, u100, u101, u102, u103, u104, u105, u106, u107, u108, u109, u110, u111, u112, u113, u114, u115, u116, u117, u118, u119, u120, u121, u122, u123, u124, u125, u126, u127, u128, u129, u130, u131, u132, u133, u134, u135, u136, u137, u138, u139, u140, u141, u142, u143, u144, u145, u146, u147, u148, u149, u150, u151, u152, u153, u154, u155, u156, u157, u158, u159, u160, u161, u162, u163, u164, u165, u166, u167, u168, u169, u170, u171, u172, u173, u174, u175, u176, u177, u178, u179, u180, u181, u182, u183, u184, u185, u186, u187, u188, u189, u190, u191, u192, u193, u194, u195, u196, u197, u198, u199, u200, u201, u202, u203, u204, u205, u206, u207, u208, u209, u210, u211, u212, u213, u214, u215, u216, u217, u218], []⟩ w9 := by
  conv => arg 2; whnf
  have hnf := fun a b W => neFault a b W
  have hnb := fun a b W => neBeing2 a b W
  have hfld : ∀ (a b : Int) (W : World), (Instr.field 32 (.agg #[.int .i64 a, .int .i64 b]) 0).run Try.prog W = .ok (.int .i64 a) W := fun _ _ _ => by kernel_rfl
  have a0 := H.cell 0 0 rfl rfl; have a1 := H.cell 0 1 rfl rfl; have b0 := H.cell 1 0 rfl rfl; have b1 := H.cell 1 1 rfl rfl
  go_wp2_with fail
  refine (kill_any rows gens Ar cr Ag cg i g hlr hlg hnr hng w9 (H.old hr) (H.old hg)).mono ?_
  rintro e w10 ⟨v, rfl, hG, hb⟩
  obtain ⟨E, hE⟩ : ∃ E, E = killV rows gens i g := ⟨_, rfl⟩
  rw [← hE] at hG ⊢
  obtain ⟨er, eg, ee⟩ := E
  replace hE := Lib.hid hE
  have hlE : Hid (er.length ≤ 60 ∧ eg.length ≤ 60) := Lib.hid (by have h := @kill_lens rows gens i g; rw [← hE.out] at h; exact h)
  dsimp only at hG ⊢
  obtain ⟨Br, c2, Bg, c3, rfl, H1⟩ := GotW.got H hb hG
  try simp only [List.set_cons_succ, List.set_cons_zero, List.eraseIdx_cons_succ, List.eraseIdx_cons_zero, List.cons_append, List.nil_append] at H1
  clear hG hb H a0 a1 b0 b1
  have q0 := H1.cell 5 0 rfl rfl; have q1 := H1.cell 5 1 rfl rfl; have y0 := H1.frozen 5 0 rfl; have y1 := H1.frozen 5 1 rfl
  have H2 := (H1.set 5 0 (.slice Br er.length c2) rfl).set 5 1 (.slice Bg eg.length c3) rfl
  try simp only [List.set_cons_succ, List.set_cons_zero, List.eraseIdx_cons_succ, List.eraseIdx_cons_zero, List.cons_append, List.nil_append] at H2
  go_upto_region 12 with fail
  obtain ⟨w11, hw, H2⟩ := H2.name
  rw [hw]
  clear hw q0 q1 y0 y1 H1
  have a0 := H2.cell 0 0 rfl rfl; have a1 := H2.cell 0 1 rfl rfl; have b0 := H2.cell 1 0 rfl rfl; have b1 := H2.cell 1 1 rfl rfl
  go_wp2_with fail
  refine (rkill_any rows gens Ar cr Ag cg i g hlr w.heap.size w11 (H2.old hr) (H2.old hg) (Rd.under hg H2.bel (Nat.le_refl _))).mono ?_
  rintro e w12 ⟨v, rfl, hR, hb⟩
  rw [← hE.out] at hR ⊢
  dsimp only at hR ⊢
  obtain ⟨A, c4, A', c5, rfl, h1, h2, hf1, hf2⟩ := hR
  have ge6 := H2.ge 6 rfl; have lt6 := H2.lt 6 rfl
  have H3 := H2.grow hb
  clear a0 a1 b0 b1 H2 hb
  have q0 := H3.cell 6 0 rfl rfl; have q1 := H3.cell 6 1 rfl rfl; have y0 := H3.frozen 6 0 rfl; have y1 := H3.frozen 6 1 rfl
  have H4 := (H3.set 6 0 (.slice A er.length c4) rfl).set 6 1 (.slice A' eg.length c5) rfl
  try simp only [List.set_cons_succ, List.set_cons_zero, List.eraseIdx_cons_succ, List.eraseIdx_cons_zero, List.cons_append, List.nil_append] at H4
  have h1' : RdR (((w12.setCell ⟨g6, 0, none⟩ (.slice A er.length c4)).setCell ⟨g6, 1, none⟩ (.slice A' eg.length c5))) w12.heap.size A er := rd_set (rd_set h1 hf1 ge6 lt6 _) hf1 ge6 lt6 _
  have h2' : RdG (((w12.setCell ⟨g6, 0, none⟩ (.slice A er.length c4)).setCell ⟨g6, 1, none⟩ (.slice A' eg.length c5))) w12.heap.size A' eg := rd_set (rd_set h2 hf2 ge6 lt6 _) hf2 ge6 lt6 _
  have hsz : Hid (w12.heap.size ≤ ((w12.setCell ⟨g6, 0, none⟩ (.slice A er.length c4)).setCell ⟨g6, 1, none⟩ (.slice A' eg.length c5)).heap.size) := Lib.hid (by simp)
  go_upto_region 13 with fail
  obtain ⟨w13, hw, H4⟩ := H4.name
  rw [hw] at h1' h2' hsz ⊢
  clear hw q0 q1 y0 y1 H3 h1 h2 hf1 hf2
  have x0 := H4.cell 5 0 rfl rfl; have x1 := H4.cell 5 1 rfl rfl; have x2 := H4.cell 6 0 rfl rfl; have x3 := H4.cell 6 1 rfl rfl
  go_wp2_with fail
  refine (rsame_any er eg Br c2 Bg c3 A c4 A' c5 (by have := hlE.out; omega) (by have := hlE.out; omega) w13 (H4.rd 7 rfl) (Rd.more h1' hsz.out) (H4.rd 8 rfl) (Rd.more h2' hsz.out)).mono ?_
  rintro e w14 ⟨rfl, hb⟩
  have H := ((H4.grow hb).drop1 7).drop1 7
  try simp only [List.set_cons_succ, List.set_cons_zero, List.eraseIdx_cons_succ, List.eraseIdx_cons_zero, List.cons_append, List.nil_append] at H
  clear hb H4 x0 x1 x2 x3 h1' h2' hsz hE hlE ge6 lt6
  go_upto_if 103 with fail
  go_cut [] from 23 (fun wx => w14 = wx)
  case first =>
    go_wp2_with fail
    go_meet
    exact rfl
  obtain rfl := hcut
  have a0 := H.cell 0 0 rfl rfl; have a1 := H.cell 0 1 rfl rfl; have b0 := H.cell 1 0 rfl rfl; have b1 := H.cell 1 1 rfl rfl
  go_wp2_with fail
  refine (put_any rows gens Ar cr Ag cg i g part n hlr hlg hnr hng w14 (H.old hr) (H.old hg)).mono ?_
  rintro e w15 ⟨v, rfl, hG, hb⟩
  obtain ⟨E, hE⟩ : ∃ E, E = putV rows gens i g part n := ⟨_, rfl⟩
  rw [← hE] at hG ⊢
  obtain ⟨er, eg, ee⟩ := E
  replace hE := Lib.hid hE
  have hlE : Hid (er.length ≤ 60 ∧ eg.length ≤ 60) := Lib.hid (by have h := @put_lens rows gens i g part n; rw [← hE.out] at h; exact h)
  dsimp only at hG ⊢
  obtain ⟨Br, c2, Bg, c3, rfl, H1⟩ := GotW.got H hb hG
  try simp only [List.set_cons_succ, List.set_cons_zero, List.eraseIdx_cons_succ, List.eraseIdx_cons_zero, List.cons_append, List.nil_append] at H1
  clear hG hb H a0 a1 b0 b1
  have q0 := H1.cell 5 0 rfl rfl; have q1 := H1.cell 5 1 rfl rfl; have y0 := H1.frozen 5 0 rfl; have y1 := H1.frozen 5 1 rfl
  have H2 := (H1.set 5 0 (.slice Br er.length c2) rfl).set 5 1 (.slice Bg eg.length c3) rfl
  try simp only [List.set_cons_succ, List.set_cons_zero, List.eraseIdx_cons_succ, List.eraseIdx_cons_zero, List.cons_append, List.nil_append] at H2
  go_upto_region 16 with fail
  obtain ⟨w16, hw, H2⟩ := H2.name
  rw [hw]
  clear hw q0 q1 y0 y1 H1
  have a0 := H2.cell 0 0 rfl rfl; have a1 := H2.cell 0 1 rfl rfl; have b0 := H2.cell 1 0 rfl rfl; have b1 := H2.cell 1 1 rfl rfl
  go_wp2_with fail
  refine (rput_any rows gens Ar cr Ag cg i g part n hlr w.heap.size w16 (H2.old hr) (H2.old hg) (Rd.under hg H2.bel (Nat.le_refl _))).mono ?_
  rintro e w17 ⟨v, rfl, hR, hb⟩
  rw [← hE.out] at hR ⊢
  dsimp only at hR ⊢
  obtain ⟨A, c4, A', c5, rfl, h1, h2, hf1, hf2⟩ := hR
  have ge6 := H2.ge 6 rfl; have lt6 := H2.lt 6 rfl
  have H3 := H2.grow hb
  clear a0 a1 b0 b1 H2 hb
  have q0 := H3.cell 6 0 rfl rfl; have q1 := H3.cell 6 1 rfl rfl; have y0 := H3.frozen 6 0 rfl; have y1 := H3.frozen 6 1 rfl
  have H4 := (H3.set 6 0 (.slice A er.length c4) rfl).set 6 1 (.slice A' eg.length c5) rfl
  try simp only [List.set_cons_succ, List.set_cons_zero, List.eraseIdx_cons_succ, List.eraseIdx_cons_zero, List.cons_append, List.nil_append] at H4
  have h1' : RdR (((w17.setCell ⟨g6, 0, none⟩ (.slice A er.length c4)).setCell ⟨g6, 1, none⟩ (.slice A' eg.length c5))) w17.heap.size A er := rd_set (rd_set h1 hf1 ge6 lt6 _) hf1 ge6 lt6 _
  have h2' : RdG (((w17.setCell ⟨g6, 0, none⟩ (.slice A er.length c4)).setCell ⟨g6, 1, none⟩ (.slice A' eg.length c5))) w17.heap.size A' eg := rd_set (rd_set h2 hf2 ge6 lt6 _) hf2 ge6 lt6 _
  have hsz : Hid (w17.heap.size ≤ ((w17.setCell ⟨g6, 0, none⟩ (.slice A er.length c4)).setCell ⟨g6, 1, none⟩ (.slice A' eg.length c5)).heap.size) := Lib.hid (by simp)
  go_upto_region 17 with fail
  obtain ⟨w18, hw, H4⟩ := H4.name
  rw [hw] at h1' h2' hsz ⊢
  clear hw q0 q1 y0 y1 H3 h1 h2 hf1 hf2
  have x0 := H4.cell 5 0 rfl rfl; have x1 := H4.cell 5 1 rfl rfl; have x2 := H4.cell 6 0 rfl rfl; have x3 := H4.cell 6 1 rfl rfl
  go_wp2_with fail
  refine (rsame_any er eg Br c2 Bg c3 A c4 A' c5 (by have := hlE.out; omega) (by have := hlE.out; omega) w18 (H4.rd 7 rfl) (Rd.more h1' hsz.out) (H4.rd 8 rfl) (Rd.more h2' hsz.out)).mono ?_
  rintro e w19 ⟨rfl, hb⟩
  have H := ((H4.grow hb).drop1 7).drop1 7
  try simp only [List.set_cons_succ, List.set_cons_zero, List.eraseIdx_cons_succ, List.eraseIdx_cons_zero, List.cons_append, List.nil_append] at H
  clear hb H4 x0 x1 x2 x3 h1' h2' hsz hE hlE ge6 lt6
  go_upto_if 128 with fail
  go_cut [] from 23 (fun wx => w19 = wx)
  case first =>
    go_wp2_with fail
    go_meet
    exact rfl
  obtain rfl := hcut
  rename_i K1 hK1
  refine hK1 _ _ ?_
  exact plainTells_C rows gens Ar cr Ag cg i g has part n fa fn hlr hlg hnr hng w hr hg H

end Go.Proofs.Ytefdblaolmckmab

namespace Go.Proofs.Ytefdblaolmckmab
open Go.RowKit
open Brood
set_option linter.unusedVariables false
set_option linter.unusedSimpArgs false

set_option maxRecDepth 20000 in
set_option maxHeartbeats 25600000 in
theorem plainTells_any (rows : List BRow) (gens : List Int) (Ar : Option Addr) (cr : Nat) (Ag : Option Addr) (cg : Nat) (i g has part n fa fn : Int) (hlr : rows.length ≤ 9223372036854775807) (hlg : gens.length ≤ 9223372036854775807) (hnr : Ar = none → cr = 0 ∧ rows = []) (hng : Ag = none → cg = 0 ∧ gens = [])
    (hwr : ∀ r ∈ rows, (Lit.int .i64 r.idx).wf = true) (hwg : ∀ n ∈ gens, -9223372036854775808 ≤ n) (hbr : rows.length * 88 ≤ 140737488355328) (hbg : gens.length * 8 ≤ 140737488355328)
    (w : World) (hr : RdR w w.heap.size Ar rows) (hg : RdG w w.heap.size Ag gens) :
    Calls Try.prog 3 #[.agg #[.slice Ar rows.length cr, .slice Ag gens.length cg], .agg #[.int .i64 i, .int .i64 g], .int .i64 has, .int .i64 part, .int .i64 n, .agg #[.int .i64 fa, .int .i64 fn]] w fun e w' => e = .returned (.bool true) ∧ Below w.heap.size w w' := by
  have hnf := fun a b W => neFault a b W
  have hnb := fun a b W => neBeing2 a b W
  have hfld : ∀ (a b : Int) (W : World), (Instr.field 32 (.agg #[.int .i64 a, .int .i64 b]) 0).run Try.prog W = .ok (.int .i64 a) W := fun _ _ _ => by kernel_rfl
  have H0 := (((Hp.start w).new w.heap.size rfl 25 [.slice Ar rows.length cr, .slice Ag gens.length cg]).new (w.heap.size + 1) (by simp) 27 [.int .i64 i, .int .i64 g]).new (w.heap.size + 1 + 1) (by simp) 29 [.int .i64 fa, .int .i64 fn]
  go_enter Try.func3, Try.ntmps3
  go_upto_region 1 with fail
  obtain ⟨w0, hw0, H0⟩ := H0.name
  rw [hw0]; clear hw0
  go_cut [34] (fun s34 wx => s34 = .bool false ∧ Below w0.heap.size w0 wx)
  case first =>
    obtain ⟨f1, f2, hwe⟩ : ∃ f1 f2, worldErr ⟨rows, gens⟩ = (f1, f2) := ⟨_, _, rfl⟩
    refine wp_region_pred mixed (by kernel_rfl) (by kernel_rfl) (fun _ => true) (fun j w' v => if j = 7 then SeenW w' v rows gens else v = tab [.agg #[.slice Ar rows.length cr, .slice Ag gens.length cg], .agg #[.int .i64 f1, .int .i64 f2], .agg #[.slice Ar rows.length cr, .slice Ag gens.length cg], .agg #[.int .i64 f1, .int .i64 f2], .bool false, .bool false, .agg #[.slice Ar rows.length cr, .slice Ag gens.length cg], undef, .agg #[.slice Ar rows.length cr, .slice Ag gens.length cg], .bool true, .bool false, .bool false] j) ?_ ?_ ?_ ?_ ?_
    · intro j w' w'' v h hb
      by_cases h7 : j = 7
      · subst h7
        exact SeenW.grow h hb
      · rw [if_neg h7] at h ⊢
        exact h
    · intro q op ho
      have hi : q < 12 := lt_of_some ho
      match q, hi, ho with
      | 0, _, ho | 1, _, ho | 2, _, ho | 3, _, ho | 4, _, ho | 5, _, ho | 11, _, ho =>
        obtain rfl := Option.some.inj ho
        rfl
      | 6, _, ho | 7, _, ho | 8, _, ho | 9, _, ho | 10, _, ho =>
        obtain rfl := Option.some.inj ho
        intro w' v h
        have h' : v = .bool false := h
        subst h'
        rfl
    · intro q w' h; cases h
    · intro vs w' hb hv
      have h11 : vs 11 = .bool false := hv 11 (by decide)
      rw [putAll_tab _ _ _ _ [(some 23, vs 0), (some 24, vs 1), (some 25, vs 2), (some 26, vs 3), (some 27, vs 4), (some 28, vs 5), (some 29, vs 6), (some 30, vs 7), (some 31, vs 8), (some 32, vs 9), (some 33, vs 10), (some 34, vs 11)] rfl]
      simp only [putL_eq, putT, List.set_cons_succ, List.set_cons_zero]
      rw [h11]
      go_wp2_with fail
      go_meet
      exact ⟨rfl, hb⟩
    · intro q op ho _ act w' hb hv hwas K hK
      have e6 := hwas 6 rfl
      simp at e6
      replace H0 := H0.grow hb
      have a0 := H0.cell 0 0 rfl rfl; have a1 := H0.cell 0 1 rfl rfl
      have hi : q < 12 := lt_of_some ho
      match q, hi, ho, hK, hv with
      | 0, _, ho, hK, hv | 2, _, ho, hK, hv | 6, _, ho, hK, hv | 8, _, ho, hK, hv =>
        obtain rfl := Option.some.inj ho
        clear hv hwas
        go_simp
        exact hK _ _ (Below.refl _ _) rfl
      | 1, _, ho, hK, hv =>
        obtain rfl := Option.some.inj ho
        have x0 : act.tmps[23]?.getD undef = .agg #[.slice Ar rows.length cr, .slice Ag gens.length cg] := hv 0 23 rfl rfl
        clear hv hwas
        go_simp
        refine (pwrong_any rows gens Ar cr Ag cg hlr w' (H0.old hr) (H0.old hg)).mono ?_
        rintro e w'' ⟨rfl, hb''⟩
        rw [hwe]
        exact hK _ _ hb'' rfl
      | 3, _, ho, hK, hv =>
        obtain rfl := Option.some.inj ho
        have x0 : act.tmps[25]?.getD undef = .agg #[.slice Ar rows.length cr, .slice Ag gens.length cg] := hv 2 25 rfl rfl
        clear hv hwas
        go_simp
        refine (rwrong2_any rows gens Ar cr Ag cg hlr w' (H0.old hr) (H0.old hg)).mono ?_
        rintro e w'' ⟨rfl, hb''⟩
        rw [hwe]
        exact hK _ _ hb'' rfl
      | 4, _, ho, hK, hv =>
        obtain rfl := Option.some.inj ho
        have x0 : act.tmps[24]?.getD undef = .agg #[.int .i64 f1, .int .i64 f2] := hv 1 24 rfl rfl
        have x1 : act.tmps[26]?.getD undef = .agg #[.int .i64 f1, .int .i64 f2] := hv 3 26 rfl rfl
        clear hv hwas
        go_simp
        exact hK _ _ (Below.refl _ _) rfl
      | 5, _, ho, hK, hv =>
        obtain rfl := Option.some.inj ho
        have x0 : act.tmps[27]?.getD undef = .bool false := hv 4 27 rfl rfl
        clear hv hwas
        go_simp
        exact hK _ _ (Below.refl _ _) rfl
      | 7, _, ho, hK, hv =>
        obtain rfl := Option.some.inj ho
        have x0 : act.tmps[29]?.getD undef = .agg #[.slice Ar rows.length cr, .slice Ag gens.length cg] := hv 6 29 rfl rfl
        clear hv hwas
        go_simp
        refine (own_any rows gens Ar cr Ag cg hbr hbg hnr hng w' (H0.old hr) (H0.old hg)).mono ?_
        rintro e w'' ⟨vr, vg, rfl, hO, hb''⟩
        exact hK _ _ hb'' (GotW.seen (base := w'.heap.size) ⟨vr, vg, rfl, hO⟩)
      | 9, _, ho, hK, hv =>
        obtain rfl := Option.some.inj ho
        have x1 : act.tmps[31]?.getD undef = .agg #[.slice Ar rows.length cr, .slice Ag gens.length cg] := hv 8 31 rfl rfl
        have x0 : SeenW w' (act.tmps[30]?.getD undef) rows gens := hv 7 30 rfl rfl
        obtain ⟨A, c, A', c', hv7, h1, h2⟩ := x0
        clear hv hwas
        go_simp
        refine (rsame_any rows gens A c A' c' Ar cr Ag cg hlr hlg w' h1 (H0.old hr) h2 (H0.old hg)).mono ?_
        rintro e w'' ⟨rfl, hb''⟩
        exact hK _ _ hb'' rfl
      | 10, _, ho, hK, hv =>
        obtain rfl := Option.some.inj ho
        have x0 : act.tmps[32]?.getD undef = .bool true := hv 9 32 rfl rfl
        clear hv hwas
        go_simp
        exact hK _ _ (Below.refl _ _) rfl
      | 11, _, ho, hK, hv =>
        obtain rfl := Option.some.inj ho
        have x0 : act.tmps[28]?.getD undef = .bool false := hv 5 28 rfl rfl
        have x1 : act.tmps[33]?.getD undef = .bool false := hv 10 33 rfl rfl
        clear hv hwas
        go_simp
        exact hK _ _ (Below.refl _ _) rfl
  case rest =>
    obtain ⟨rfl, hb⟩ := hcut
    replace H0 := H0.grow hb
    clear hb
    have a0 := H0.cell 0 0 rfl rfl; have a1 := H0.cell 0 1 rfl rfl
    go_wp2_with fail
    refine (next_any rows gens Ar cr Ag cg hlr hlg hwr hwg wc (H0.old hr) (H0.old hg)).mono ?_
    rintro e w1 ⟨rfl, hb⟩
    obtain ⟨N, hN⟩ : ∃ N, N = nextV rows gens := ⟨_, rfl⟩
    rw [← hN]
    obtain ⟨ni, ng, ne⟩ := N
    replace hN := Lib.hid hN
    dsimp only
    replace H0 := H0.grow hb
    clear hb a0 a1
    have a0 := H0.cell 0 0 rfl rfl; have a1 := H0.cell 0 1 rfl rfl; have l0 := H0.lt 0 rfl
    replace H0 := H0.new w1.heap.size rfl 27 [.int .i64 ni, .int .i64 ng]
    try simp only [List.set_cons_succ, List.set_cons_zero, List.eraseIdx_cons_succ, List.eraseIdx_cons_zero, List.cons_append, List.nil_append] at H0
    go_wp2_with fail
    obtain ⟨w2, hw2, H0⟩ := H0.name
    rw [hw2]; clear hw2 a0 a1 l0
    refine (rnext_any rows gens Ar cr Ag cg hlr hlg hwg w2 (H0.old hr) (H0.old hg)).mono ?_
    rintro e w3 ⟨rfl, hb⟩
    rw [← hN.out]
    dsimp only
    replace H0 := H0.grow hb
    clear hb
    have c0 := H0.cell 3 0 rfl rfl; have c1 := H0.cell 3 1 rfl rfl; have l3 := H0.lt 3 rfl
    replace H0 := H0.new w3.heap.size rfl 27 [.int .i64 ni, .int .i64 ng]
    try simp only [List.set_cons_succ, List.set_cons_zero, List.eraseIdx_cons_succ, List.eraseIdx_cons_zero, List.cons_append, List.nil_append] at H0
    go_upto_if 52 with fail
    obtain ⟨w4, hw4, H0⟩ := H0.name
    rw [hw4]; clear hw4 c0 c1 l3 hN
    go_cut [] from 23 (fun wx => w4 = wx)
    case first =>
      go_wp2_with fail
      go_meet
      exact rfl
    obtain rfl := hcut
    obtain ⟨gc, hgc⟩ : ∃ gc, gc = w1.heap.size := ⟨_, rfl⟩
    obtain ⟨gd, hgd⟩ : ∃ gd, gd = w3.heap.size := ⟨_, rfl⟩
    rw [← hgc, ← hgd] at H0 ⊢
    clear hgc hgd
    have a0 := H0.cell 0 0 rfl rfl; have a1 := H0.cell 0 1 rfl rfl; have l0 := H0.lt 0 rfl
    go_wp2_with fail
    refine (spawn_any rows gens Ar cr Ag cg has n hlr hlg hnr hng w4 (H0.old hr) (H0.old hg)).mono ?_
    rintro e w5 ⟨v, rfl, hG, hb⟩
    obtain ⟨E, hE⟩ : ∃ E, E = spawnV rows gens has n := ⟨_, rfl⟩
    rw [← hE] at hG ⊢
    obtain ⟨er, eg, ei, egn, ee⟩ := E
    replace hE := Lib.hid hE
    dsimp only at hG ⊢
    have hlE : Hid (er.length ≤ 60 ∧ eg.length ≤ 60) := Lib.hid (by have h := @spawn_lens rows gens has n; rw [← hE.out] at h; exact h)
    obtain ⟨Br, c2, Bg, c3, rfl, H1⟩ := GotW.got H0 hb hG
    try simp only [List.set_cons_succ, List.set_cons_zero, List.eraseIdx_cons_succ, List.eraseIdx_cons_zero, List.cons_append, List.nil_append] at H1
    clear hG hb H0 a0 a1 l0
    have c0 := H1.cell 3 0 rfl rfl; have c1 := H1.cell 3 1 rfl rfl; have l3 := H1.lt 3 rfl; have y0 := H1.frozen 3 0 rfl; have y1 := H1.frozen 3 1 rfl
    have H2 := ((H1.set 3 0 (.int .i64 ei) rfl).set 3 1 (.int .i64 egn) rfl).new w5.heap.size (by simp) 25 [.slice Br er.length c2, .slice Bg eg.length c3]
    try simp only [List.set_cons_succ, List.set_cons_zero, List.eraseIdx_cons_succ, List.eraseIdx_cons_zero, List.cons_append, List.nil_append] at H2
    go_upto_region 8 with fail
    obtain ⟨w6, hw6, H2⟩ := H2.name
    rw [hw6]
    clear hw6 c0 c1 l3 y0 y1 H1
    obtain ⟨gx, hgx⟩ : ∃ gx, gx = w5.heap.size := ⟨_, rfl⟩
    rw [← hgx] at H2 ⊢
    clear hgx
    have ge4 := H2.ge 4 rfl; have lt4 := H2.lt 4 rfl
    have a0 := H2.cell 0 0 rfl rfl; have a1 := H2.cell 0 1 rfl rfl
    go_wp2_with fail
    refine (rspawn_any rows gens Ar cr Ag cg has n hlr hng w.heap.size w6 (H2.old hr) (H2.old hg)).mono ?_
    rintro e w7 ⟨v, rfl, hR, hb⟩
    rw [← hE.out] at hR ⊢
    dsimp only at hR ⊢
    obtain ⟨A, c4, A', c5, rfl, h1, h2, hf1, hf2⟩ := hR
    have H3 := H2.grow hb
    clear H2 hb a0 a1
    have q0 := H3.cell 4 0 rfl rfl; have q1 := H3.cell 4 1 rfl rfl; have y0 := H3.frozen 4 0 rfl; have y1 := H3.frozen 4 1 rfl; have l4 := H3.lt 4 rfl
    have H4 := ((H3.set 4 0 (.int .i64 ei) rfl).set 4 1 (.int .i64 egn) rfl).new w7.heap.size (by simp) 25 [.slice A er.length c4, .slice A' eg.length c5]
    try simp only [List.set_cons_succ, List.set_cons_zero, List.eraseIdx_cons_succ, List.eraseIdx_cons_zero, List.cons_append, List.nil_append] at H4
    have h1' : RdR (((w7.setCell ⟨gd, 0, none⟩ (.int .i64 ei)).setCell ⟨gd, 1, none⟩ (.int .i64 egn)).alloc (.cells #[.slice A er.length c4, .slice A' eg.length c5] 25)) w7.heap.size A er := Rd.alloc (rd_set (rd_set h1 hf1 ge4 lt4 _) hf1 ge4 lt4 _) (by simp) _
    have h2' : RdG (((w7.setCell ⟨gd, 0, none⟩ (.int .i64 ei)).setCell ⟨gd, 1, none⟩ (.int .i64 egn)).alloc (.cells #[.slice A er.length c4, .slice A' eg.length c5] 25)) w7.heap.size A' eg := Rd.alloc (rd_set (rd_set h2 hf2 ge4 lt4 _) hf2 ge4 lt4 _) (by simp) _
    have hsz : Hid (w7.heap.size ≤ (((w7.setCell ⟨gd, 0, none⟩ (.int .i64 ei)).setCell ⟨gd, 1, none⟩ (.int .i64 egn)).alloc (.cells #[.slice A er.length c4, .slice A' eg.length c5] 25)).heap.size) := Lib.hid (by simp)
    go_upto_region 9 with fail
    obtain ⟨w8, hw8, H4⟩ := H4.name
    rw [hw8] at h1' h2' hsz ⊢
    clear hw8 q0 q1 y0 y1 l4 H3 h1 h2 hf1 hf2
    obtain ⟨g6, hg6⟩ : ∃ g6, g6 = w7.heap.size := ⟨_, rfl⟩
    rw [← hg6] at H4 h1' h2' hsz ⊢
    clear hg6
    have x0 := H4.cell 7 0 rfl rfl; have x1 := H4.cell 7 1 rfl rfl; have x2 := H4.cell 8 0 rfl rfl; have x3 := H4.cell 8 1 rfl rfl
    have x4 := H4.cell 3 0 rfl rfl; have x5 := H4.cell 3 1 rfl rfl; have x6 := H4.cell 4 0 rfl rfl; have x7 := H4.cell 4 1 rfl rfl
    go_wp2_with fail
    refine (rsame_any er eg Br c2 Bg c3 A c4 A' c5 (by have := hlE.out; omega) (by have := hlE.out; omega) w8 (H4.rd 5 rfl) (Rd.more h1' hsz.out) (H4.rd 6 rfl) (Rd.more h2' hsz.out)).mono ?_
    rintro e w9 ⟨rfl, hb⟩
    have H := ((H4.grow hb).drop1 5).drop1 5
    try simp only [List.set_cons_succ, List.set_cons_zero, List.eraseIdx_cons_succ, List.eraseIdx_cons_zero, List.cons_append, List.nil_append] at H
    clear hb H4 x0 x1 x2 x3 x4 x5 x6 x7 h1' h2' hsz hE hlE ge4 lt4
    go_upto_if 82 with fail
    go_cut [] from 23 (fun wx => w9 = wx)
    case first =>
      go_wp2_with fail
      go_meet
      exact rfl
    obtain rfl := hcut
    rename_i K1 hK1
    refine hK1 _ _ ?_
    exact plainTells_B rows gens Ar cr Ag cg i g has part n fa fn hlr hlg hnr hng w hr hg H

end Go.Proofs.Ytefdblaolmckmab
