/- The walk of StoreTells. -/
import Derived.Test.YtefdblaolmckmabSBSeenToNumB
import Derived.Test.YtefdblaolmckmabSBStoFToPlainM
import Derived.Test.YtefdblaolmckmabSRef2S
import Derived.Test.YtefdblaolmckmabSBSpecOToSpecR
import Derived.Test.YtefdblaolmckmabSBStoBToKg
namespace Go.Proofs.Ytefdblaolmckmab
open Go.RowKit
open Brood
set_option linter.unusedVariables false
set_option linter.unusedSimpArgs false
theorem neFau (i g : Int) (w : World) : (binOp .neq 32 (.agg #[.int .i64 i, .int .i64 g]) (.agg #[.int .i64 i, .int .i64 g])).run Try.prog w = .ok (.bool false) w := by
  rw [run_neq_struct, run_equalIn_struct _ _ _ _ _ (by kernel_rfl) (by kernel_rfl)]
  simp [go_sem, Op.eqFields]
theorem fldFau (a b : Int) (W : World) : (Instr.field 32 (.agg #[.int .i64 a, .int .i64 b]) 0).run Try.prog W = .ok (.int .i64 a) W := by kernel_rfl
def toldB (rows : List BRow) (gens : List Int) (has n : Int) (k : Nat) : Int × Int := match k with
  | 0 => ((spawnV rows gens has n).i, (spawnV rows gens has n).g)
  | _ => (0, 0)
def stA (w : World) (A : Option Addr) (n c : Nat) (Ag : Option Addr) (m cg : Nat) (Ar : Option Addr) (nr cr : Nat) (Aw : Option Addr) (nw cw : Nat) (i g : Int) : List Ent :=
  [.box w.heap.size 59 [.slice A n c, .slice Ag m cg], .box (w.heap.size + 1) 25 [.slice Ar nr cr, .slice Aw nw cw], .box (w.heap.size + 1 + 1) 27 [.int .i64 i, .int .i64 g]]
def stX (wr : World) (A3 : Option Addr) (n3 c3 : Nat) (Ag3 : Option Addr) (m3 cg3 : Nat) (Br : Option Addr) (nb c2 : Nat) (Bg : Option Addr) (mb c4 : Nat) (b : Int × Int) : List Ent :=
  [.box wr.heap.size 59 [.slice A3 n3 c3, .slice Ag3 m3 cg3], .box (wr.heap.size + 1) 25 [.slice Br nb c2, .slice Bg mb c4], .box (wr.heap.size + 1 + 1) 27 [.int .i64 b.1, .int .i64 b.2], .box (wr.heap.size + 1 + 1 + 1) 27 [.int .i64 b.1, .int .i64 b.2]]
set_option maxRecDepth 20000 in
set_option maxHeartbeats 25600000 in
theorem storeTells_any (l : List TabIn) (A : Option Addr) (c : Nat) (gens : List Int) (Ag : Option Addr) (cg : Nat) (hs : StSmall l gens) (rows : List BRow) (wg : List Int) (Ar : Option Addr) (cr : Nat) (Aw : Option Addr) (cw : Nat) (i g has part n : Int) (hlr : rows.length ≤ 9223372036854775807) (hlg : wg.length ≤ 9223372036854775807) (hnw : Aw = none → cw = 0 ∧ wg = [])
    (w : World) (h : RdSt w w.heap.size ⟨A, c, l, Ag, cg, gens⟩) (hr : RdR w w.heap.size Ar rows) (hg : RdG w w.heap.size Aw wg) :
    Calls Try.prog 4 #[.agg #[.slice A l.length c, .slice Ag gens.length cg], .agg #[.slice Ar rows.length cr, .slice Aw wg.length cw], .agg #[.int .i64 i, .int .i64 g], .int .i64 has, .int .i64 part, .int .i64 n] w fun e w' => e = .returned (.bool true) ∧ Below w.heap.size w w' := by
  have H0 := (((Hp.start w).new w.heap.size rfl 59 [.slice A l.length c, .slice Ag gens.length cg]).new (w.heap.size + 1) (by simp) 25 [.slice Ar rows.length cr, .slice Aw wg.length cw]).new (w.heap.size + 1 + 1) (by simp) 27 [.int .i64 i, .int .i64 g]
  replace H0 : Hp w _ (stA w A l.length c Ag gens.length cg Ar rows.length cr Aw wg.length cw i g) := H0
  have hh := Lib.hid h; have hsh := Lib.hid hs
  have hwr := Lib.hid (fun W (hR : RdSt W W.heap.size ⟨A, c, l, Ag, cg, gens⟩) => swrong_any l A c gens Ag cg hs W hR.tabs hR.gen hR.ng)
  have hrw := Lib.hid (fun W (hR : RdSt W W.heap.size ⟨A, c, l, Ag, cg, gens⟩) => rswrong_any l A c gens Ag cg hs W hR.tabs hR.gen hR.ng)
  have hrt : Hid ((storeErr (l.map tabOf) gens).1 = 0 → RightW (worldT (l.map tabOf)) gens ∧ l.map tabOf = tabsW (worldT (l.map tabOf))) := Lib.hid store_right
  have hsp : Hid ((storeErr (l.map tabOf) gens).1 ≠ 0 → spawnT (l.map tabOf) gens has n = ⟨[], [], 0, 0, (storeErr (l.map tabOf) gens).1⟩) := Lib.hid (fun h => by unfold spawnT; rw [if_pos h])
  have hpu : Hid ((storeErr (l.map tabOf) gens).1 ≠ 0 → chgT (l.map tabOf) gens i g (put3 part n) = ⟨[], [], (storeErr (l.map tabOf) gens).1⟩) := Lib.hid (fun h => by unfold chgT; rw [if_pos h])
  clear h hs
  generalize storeErr (l.map tabOf) gens = F at *
  obtain ⟨f1, f2⟩ := F
  dsimp only at hwr hrw hrt hsp hpu
  generalize worldT (l.map tabOf) = R at *
  go_enter Try.func4, Try.ntmps4
  go_upto_region 1 with fail
  obtain ⟨w1, hw1, H1⟩ := H0.name
  rw [hw1]
  clear hw1 H0
  have hHh := Lib.hid H1
  clear H1
  have hnf := fun a b W => neFau a b W
  have hfl := fun a b W => fldFau a b W
  go_cut [54] (fun s wx => s = .bool false ∧ Below w1.heap.size w1 wx)
  case first =>
    clear hlr hlg hr hg hnw
    by_cases hf : f1 = 0
    · subst hf
      have hRh := Lib.hid (hrt.out rfl)
      have hl64 : Hid (R.length ≤ 9223372036854775807 ∧ gens.length ≤ 9223372036854775807) := Lib.hid (by
        have h1 := hRh.out.1.rows_le; have h2 := hRh.out.1.len; omega)
      clear hrt hsp hpu
      refine wp_region_pred mixed (by kernel_rfl) (by kernel_rfl) (fun _ => true) (fun j w' v => if j = 7 then SeenT w' v (l.map tabOf) gens else if j = 19 then SeenV w' v R gens else if j = 21 then SeenV w' v R gens else v = tab [.agg #[.slice A l.length c, .slice Ag gens.length cg], .agg #[.int .i64 0, .int .i64 f2], .agg #[.slice A l.length c, .slice Ag gens.length cg], .agg #[.int .i64 0, .int .i64 f2], .bool false, .bool false, .agg #[.slice A l.length c, .slice Ag gens.length cg], undef, .agg #[.slice A l.length c, .slice Ag gens.length cg], .bool true, .bool false, .bool false, .bool false, .agg #[.slice A l.length c, .slice Ag gens.length cg], .agg #[.int .i64 0, .int .i64 f2], .int .i64 0, .bool true, .bool true, .agg #[.slice A l.length c, .slice Ag gens.length cg], undef, .agg #[.slice A l.length c, .slice Ag gens.length cg], undef, .bool true, .bool false, .bool false, .bool false] j) ?_ ?_ ?_ ?_ ?_
      · intro j w' w'' v h hb
        by_cases h7 : j = 7
        · simp only [h7, if_true, if_false, Nat.reduceEqDiff] at h ⊢
          exact SeenT.grow h hb
        rw [if_neg h7] at h ⊢
        by_cases h19 : j = 19
        · simp only [h19, if_true, if_false, Nat.reduceEqDiff] at h ⊢
          exact SeenV.grow h hb
        rw [if_neg h19] at h ⊢
        by_cases h21 : j = 21
        · simp only [h21, if_true, if_false, Nat.reduceEqDiff] at h ⊢
          exact SeenV.grow h hb
        rw [if_neg h21] at h ⊢
        exact h
      · intro q op ho
        have hi : q < 26 := lt_of_some ho
        match q, hi, ho with
        | 0, _, ho | 1, _, ho | 2, _, ho | 3, _, ho | 4, _, ho | 5, _, ho | 11, _, ho | 12, _, ho | 25, _, ho =>
          obtain rfl := Option.some.inj ho
          rfl
        | 6, _, ho | 7, _, ho | 8, _, ho | 9, _, ho | 10, _, ho =>
          obtain rfl := Option.some.inj ho
          intro w' v h
          have h' : v = .bool false := h
          subst h'
          rfl
        | 13, _, ho | 14, _, ho | 15, _, ho | 16, _, ho | 17, _, ho | 24, _, ho =>
          obtain rfl := Option.some.inj ho
          intro w' v h
          have h' : v = .bool false := h
          subst h'
          rfl
        | 18, _, ho | 19, _, ho | 20, _, ho | 21, _, ho | 22, _, ho | 23, _, ho =>
          obtain rfl := Option.some.inj ho
          intro w' v h
          have h' : v = .bool true := h
          subst h'
          rfl
      · intro q w' h; cases h
      · intro vs w' hb hv
        have h25 : vs 25 = .bool false := hv 25 (by decide)
        rw [putAll_tab _ _ _ _ [(some 29, vs 0), (some 30, vs 1), (some 31, vs 2), (some 32, vs 3), (some 33, vs 4), (some 34, vs 5), (some 35, vs 6), (some 36, vs 7), (some 37, vs 8), (some 38, vs 9), (some 39, vs 10), (some 40, vs 11), (some 41, vs 12), (some 42, vs 13), (some 43, vs 14), (some 44, vs 15), (some 45, vs 16), (some 46, vs 17), (some 47, vs 18), (some 48, vs 19), (some 49, vs 20), (some 50, vs 21), (some 51, vs 22), (some 52, vs 23), (some 53, vs 24), (some 54, vs 25)] rfl]
        simp only [putL_eq, putT, List.set_cons_succ, List.set_cons_zero]
        rw [h25]
        clear hv h25
        go_wp2_with fail
        go_meet
        exact ⟨rfl, hb⟩
      · intro q op ho hG act w' hb hv hwas K hK
        have e6 := hwas 6 rfl
        simp at e6
        have H := hHh.out.grow hb
        have hS := hh.out.hp H
        have q0 := H.cell 0 0 rfl rfl; have q1 := H.cell 0 1 rfl rfl
        have hi : q < 26 := lt_of_some ho
        match q, hi, ho, hG, hK, hv with
        | 0, _, ho, hG, hK, hv =>
          obtain rfl := Option.some.inj ho
          clear hv hwas
          go_simp
          exact hK _ _ (Below.refl _ _) rfl
        | 1, _, ho, hG, hK, hv =>
          obtain rfl := Option.some.inj ho
          have x29 : act.tmps[29]?.getD undef = .agg #[.slice A l.length c, .slice Ag gens.length cg] := hv 0 29 rfl rfl
          clear hv hwas
          go_simp
          refine (hwr.out w' hS).mono ?_
          rintro e w'' ⟨rfl, hb''⟩
          exact hK _ _ hb'' rfl
        | 2, _, ho, hG, hK, hv =>
          obtain rfl := Option.some.inj ho
          clear hv hwas
          go_simp
          exact hK _ _ (Below.refl _ _) rfl
        | 3, _, ho, hG, hK, hv =>
          obtain rfl := Option.some.inj ho
          have x31 : act.tmps[31]?.getD undef = .agg #[.slice A l.length c, .slice Ag gens.length cg] := hv 2 31 rfl rfl
          clear hv hwas
          go_simp
          refine (hrw.out w' hS).mono ?_
          rintro e w'' ⟨rfl, hb''⟩
          exact hK _ _ hb'' rfl
        | 4, _, ho, hG, hK, hv =>
          obtain rfl := Option.some.inj ho
          have x30 : act.tmps[30]?.getD undef = .agg #[.int .i64 0, .int .i64 f2] := hv 1 30 rfl rfl
          have x32 : act.tmps[32]?.getD undef = .agg #[.int .i64 0, .int .i64 f2] := hv 3 32 rfl rfl
          clear hv hwas
          go_simp
          exact hK _ _ (Below.refl _ _) rfl
        | 5, _, ho, hG, hK, hv =>
          obtain rfl := Option.some.inj ho
          have x33 : act.tmps[33]?.getD undef = .bool false := hv 4 33 rfl rfl
          clear hv hwas
          go_simp
          exact hK _ _ (Below.refl _ _) rfl
        | 6, _, ho, hG, hK, hv =>
          obtain rfl := Option.some.inj ho
          clear hv hwas
          go_simp
          exact hK _ _ (Below.refl _ _) rfl
        | 7, _, ho, hG, hK, hv =>
          obtain rfl := Option.some.inj ho
          have x35 : act.tmps[35]?.getD undef = .agg #[.slice A l.length c, .slice Ag gens.length cg] := hv 6 35 rfl rfl
          clear hv hwas
          go_simp
          refine (own_seen hsh.out hS).mono ?_
          rintro e w'' ⟨v, rfl, hG, hb''⟩
          exact hK _ _ hb'' hG
        | 8, _, ho, hG, hK, hv =>
          obtain rfl := Option.some.inj ho
          clear hv hwas
          go_simp
          exact hK _ _ (Below.refl _ _) rfl
        | 9, _, ho, hG, hK, hv =>
          obtain rfl := Option.some.inj ho
          have x36 := hv 7 36 rfl rfl
          simp only [if_true, if_false, Nat.reduceEqDiff] at x36
          obtain ⟨v36, x36, hv36⟩ : ∃ v, act.tmps[36]?.getD undef = v ∧ SeenT w' v (l.map tabOf) gens := ⟨_, rfl, x36⟩
          have x37 : act.tmps[37]?.getD undef = .agg #[.slice A l.length c, .slice Ag gens.length cg] := hv 8 37 rfl rfl
          clear hv hwas
          go_simp
          refine (samest_seen hv36 ⟨A, c, l, Ag, cg, rfl, rfl, hS, hsh.out⟩).mono ?_
          rintro e w'' ⟨rfl, hb''⟩
          exact hK _ _ hb'' rfl
        | 10, _, ho, hG, hK, hv =>
          obtain rfl := Option.some.inj ho
          have x38 : act.tmps[38]?.getD undef = .bool true := hv 9 38 rfl rfl
          clear hv hwas
          go_simp
          exact hK _ _ (Below.refl _ _) rfl
        | 11, _, ho, hG, hK, hv =>
          obtain rfl := Option.some.inj ho
          have x34 : act.tmps[34]?.getD undef = .bool false := hv 5 34 rfl rfl
          have x39 : act.tmps[39]?.getD undef = .bool false := hv 10 39 rfl rfl
          clear hv hwas
          go_simp
          exact hK _ _ (Below.refl _ _) rfl
        | 12, _, ho, hG, hK, hv =>
          obtain rfl := Option.some.inj ho
          have x40 : act.tmps[40]?.getD undef = .bool false := hv 11 40 rfl rfl
          clear hv hwas
          go_simp
          exact hK _ _ (Below.refl _ _) rfl
        | 13, _, ho, hG, hK, hv =>
          obtain rfl := Option.some.inj ho
          clear hv hwas
          go_simp
          exact hK _ _ (Below.refl _ _) rfl
        | 14, _, ho, hG, hK, hv =>
          obtain rfl := Option.some.inj ho
          have x42 : act.tmps[42]?.getD undef = .agg #[.slice A l.length c, .slice Ag gens.length cg] := hv 13 42 rfl rfl
          clear hv hwas
          go_simp
          refine (hrw.out w' hS).mono ?_
          rintro e w'' ⟨rfl, hb''⟩
          exact hK _ _ hb'' rfl
        | 15, _, ho, hG, hK, hv =>
          obtain rfl := Option.some.inj ho
          have x43 : act.tmps[43]?.getD undef = .agg #[.int .i64 0, .int .i64 f2] := hv 14 43 rfl rfl
          clear hv hwas
          go_simp
          exact hK _ _ (Below.refl _ _) rfl
        | 16, _, ho, hG, hK, hv =>
          obtain rfl := Option.some.inj ho
          have x44 : act.tmps[44]?.getD undef = .int .i64 0 := hv 15 44 rfl rfl
          clear hv hwas
          go_simp
          exact hK _ _ (Below.refl _ _) rfl
        | 17, _, ho, hG, hK, hv =>
          obtain rfl := Option.some.inj ho
          have x45 : act.tmps[45]?.getD undef = .bool true := hv 16 45 rfl rfl
          clear hv hwas
          go_simp
          exact hK _ _ (Below.refl _ _) rfl
        | 18, _, ho, hG, hK, hv =>
          obtain rfl := Option.some.inj ho
          clear hv hwas
          go_simp
          exact hK _ _ (Below.refl _ _) rfl
        | 19, _, ho, hG, hK, hv =>
          obtain rfl := Option.some.inj ho
          have x47 : act.tmps[47]?.getD undef = .agg #[.slice A l.length c, .slice Ag gens.length cg] := hv 18 47 rfl rfl
          clear hv hwas
          go_simp
          refine (world_seen hRh.out.1 hRh.out.2 hS).mono ?_
          rintro e w'' ⟨v, rfl, hG, hb''⟩
          exact hK _ _ hb'' hG
        | 20, _, ho, hG, hK, hv =>
          obtain rfl := Option.some.inj ho
          clear hv hwas
          go_simp
          exact hK _ _ (Below.refl _ _) rfl
        | 21, _, ho, hG, hK, hv =>
          obtain rfl := Option.some.inj ho
          have x49 : act.tmps[49]?.getD undef = .agg #[.slice A l.length c, .slice Ag gens.length cg] := hv 20 49 rfl rfl
          clear hv hwas
          go_simp
          refine (rworld_seen hRh.out.1 hRh.out.2 hS).mono ?_
          rintro e w'' ⟨A9, c9, rfl, hG⟩
          exact hK _ _ hG.bel ⟨A9, c9, Ag, cg, rfl, hG.rd 0 rfl, Rd.grow hS.gen hG.bel⟩
        | 22, _, ho, hG, hK, hv =>
          obtain rfl := Option.some.inj ho
          have x48 := hv 19 48 rfl rfl
          simp only [if_true, if_false, Nat.reduceEqDiff] at x48
          obtain ⟨v48, x48, hv48⟩ : ∃ v, act.tmps[48]?.getD undef = v ∧ SeenV w' v R gens := ⟨_, rfl, x48⟩
          have x50 := hv 21 50 rfl rfl
          simp only [if_true, if_false, Nat.reduceEqDiff] at x50
          obtain ⟨v50, x50, hv50⟩ : ∃ v, act.tmps[50]?.getD undef = v ∧ SeenV w' v R gens := ⟨_, rfl, x50⟩
          clear hv hwas
          go_simp
          refine (same_seen hl64.out.1 hl64.out.2 hv48 hv50).mono ?_
          rintro e w'' ⟨rfl, hb''⟩
          exact hK _ _ hb'' rfl
        | 23, _, ho, hG, hK, hv =>
          obtain rfl := Option.some.inj ho
          have x51 : act.tmps[51]?.getD undef = .bool true := hv 22 51 rfl rfl
          clear hv hwas
          go_simp
          exact hK _ _ (Below.refl _ _) rfl
        | 24, _, ho, hG, hK, hv =>
          obtain rfl := Option.some.inj ho
          have x46 : act.tmps[46]?.getD undef = .bool true := hv 17 46 rfl rfl
          have x52 : act.tmps[52]?.getD undef = .bool false := hv 23 52 rfl rfl
          clear hv hwas
          go_simp
          exact hK _ _ (Below.refl _ _) rfl
        | 25, _, ho, hG, hK, hv =>
          obtain rfl := Option.some.inj ho
          have x41 : act.tmps[41]?.getD undef = .bool false := hv 12 41 rfl rfl
          have x53 : act.tmps[53]?.getD undef = .bool false := hv 24 53 rfl rfl
          clear hv hwas
          go_simp
          exact hK _ _ (Below.refl _ _) rfl
    · have hf' : (f1 == 0) = false := by simpa using hf
      clear hrt hsp hpu
      refine wp_region_pred mixed (by kernel_rfl) (by kernel_rfl) (fun q => ([true, true, true, true, true, true, true, true, true, true, true, true, true, true, true, true, true, true, false, false, false, false, false, false, true, true] : List Bool).getD q true) (fun j w' v => if j = 7 then SeenT w' v (l.map tabOf) gens else v = tab [.agg #[.slice A l.length c, .slice Ag gens.length cg], .agg #[.int .i64 f1, .int .i64 f2], .agg #[.slice A l.length c, .slice Ag gens.length cg], .agg #[.int .i64 f1, .int .i64 f2], .bool false, .bool false, .agg #[.slice A l.length c, .slice Ag gens.length cg], undef, .agg #[.slice A l.length c, .slice Ag gens.length cg], .bool true, .bool false, .bool false, .bool false, .agg #[.slice A l.length c, .slice Ag gens.length cg], .agg #[.int .i64 f1, .int .i64 f2], .int .i64 f1, .bool false, .bool false, undef, undef, undef, undef, undef, undef, .bool false, .bool false] j) ?_ ?_ ?_ ?_ ?_
      · intro j w' w'' v h hb
        by_cases h7 : j = 7
        · simp only [h7, if_true, if_false, Nat.reduceEqDiff] at h ⊢
          exact SeenT.grow h hb
        rw [if_neg h7] at h ⊢
        exact h
      · intro q op ho
        have hi : q < 26 := lt_of_some ho
        match q, hi, ho with
        | 0, _, ho | 1, _, ho | 2, _, ho | 3, _, ho | 4, _, ho | 5, _, ho | 11, _, ho | 12, _, ho | 25, _, ho =>
          obtain rfl := Option.some.inj ho
          rfl
        | 6, _, ho | 7, _, ho | 8, _, ho | 9, _, ho | 10, _, ho =>
          obtain rfl := Option.some.inj ho
          intro w' v h
          have h' : v = .bool false := h
          subst h'
          rfl
        | 13, _, ho | 14, _, ho | 15, _, ho | 16, _, ho | 17, _, ho | 24, _, ho =>
          obtain rfl := Option.some.inj ho
          intro w' v h
          have h' : v = .bool false := h
          subst h'
          rfl
        | 18, _, ho | 19, _, ho | 20, _, ho | 21, _, ho | 22, _, ho | 23, _, ho =>
          obtain rfl := Option.some.inj ho
          intro w' v h
          have h' : v = .bool false := h
          subst h'
          rfl
      · intro q w' h
        by_cases hq : q < 26
        · match q, hq, h with
          | 18, _, _ | 19, _, _ | 20, _, _ | 21, _, _ | 22, _, _ | 23, _, _ => rfl
          | 0, _, h | 1, _, h | 2, _, h | 3, _, h | 4, _, h | 5, _, h | 6, _, h | 7, _, h | 8, _, h | 9, _, h | 10, _, h | 11, _, h | 12, _, h | 13, _, h | 14, _, h | 15, _, h | 16, _, h | 17, _, h | 24, _, h | 25, _, h => cases h
        · exfalso
          rw [List.getD_eq_getElem?_getD, List.getElem?_eq_none (by simp; omega)] at h
          cases h
      · intro vs w' hb hv
        have h25 : vs 25 = .bool false := hv 25 (by decide)
        rw [putAll_tab _ _ _ _ [(some 29, vs 0), (some 30, vs 1), (some 31, vs 2), (some 32, vs 3), (some 33, vs 4), (some 34, vs 5), (some 35, vs 6), (some 36, vs 7), (some 37, vs 8), (some 38, vs 9), (some 39, vs 10), (some 40, vs 11), (some 41, vs 12), (some 42, vs 13), (some 43, vs 14), (some 44, vs 15), (some 45, vs 16), (some 46, vs 17), (some 47, vs 18), (some 48, vs 19), (some 49, vs 20), (some 50, vs 21), (some 51, vs 22), (some 52, vs 23), (some 53, vs 24), (some 54, vs 25)] rfl]
        simp only [putL_eq, putT, List.set_cons_succ, List.set_cons_zero]
        rw [h25]
        clear hv h25
        go_wp2_with fail
        go_meet
        exact ⟨rfl, hb⟩
      · intro q op ho hG act w' hb hv hwas K hK
        have e6 := hwas 6 rfl
        simp at e6
        have H := hHh.out.grow hb
        have hS := hh.out.hp H
        have q0 := H.cell 0 0 rfl rfl; have q1 := H.cell 0 1 rfl rfl
        have hi : q < 26 := lt_of_some ho
        match q, hi, ho, hG, hK, hv with
        | 0, _, ho, hG, hK, hv =>
          obtain rfl := Option.some.inj ho
          clear hv hwas
          go_simp
          exact hK _ _ (Below.refl _ _) rfl
        | 1, _, ho, hG, hK, hv =>
          obtain rfl := Option.some.inj ho
          have x29 : act.tmps[29]?.getD undef = .agg #[.slice A l.length c, .slice Ag gens.length cg] := hv 0 29 rfl rfl
          clear hv hwas
          go_simp
          refine (hwr.out w' hS).mono ?_
          rintro e w'' ⟨rfl, hb''⟩
          exact hK _ _ hb'' rfl
        | 2, _, ho, hG, hK, hv =>
          obtain rfl := Option.some.inj ho
          clear hv hwas
          go_simp
          exact hK _ _ (Below.refl _ _) rfl
        | 3, _, ho, hG, hK, hv =>
          obtain rfl := Option.some.inj ho
          have x31 : act.tmps[31]?.getD undef = .agg #[.slice A l.length c, .slice Ag gens.length cg] := hv 2 31 rfl rfl
          clear hv hwas
          go_simp
          refine (hrw.out w' hS).mono ?_
          rintro e w'' ⟨rfl, hb''⟩
          exact hK _ _ hb'' rfl
        | 4, _, ho, hG, hK, hv =>
          obtain rfl := Option.some.inj ho
          have x30 : act.tmps[30]?.getD undef = .agg #[.int .i64 f1, .int .i64 f2] := hv 1 30 rfl rfl
          have x32 : act.tmps[32]?.getD undef = .agg #[.int .i64 f1, .int .i64 f2] := hv 3 32 rfl rfl
          clear hv hwas
          go_simp
          exact hK _ _ (Below.refl _ _) rfl
        | 5, _, ho, hG, hK, hv =>
          obtain rfl := Option.some.inj ho
          have x33 : act.tmps[33]?.getD undef = .bool false := hv 4 33 rfl rfl
          clear hv hwas
          go_simp
          exact hK _ _ (Below.refl _ _) rfl
        | 6, _, ho, hG, hK, hv =>
          obtain rfl := Option.some.inj ho
          clear hv hwas
          go_simp
          exact hK _ _ (Below.refl _ _) rfl
        | 7, _, ho, hG, hK, hv =>
          obtain rfl := Option.some.inj ho
          have x35 : act.tmps[35]?.getD undef = .agg #[.slice A l.length c, .slice Ag gens.length cg] := hv 6 35 rfl rfl
          clear hv hwas
          go_simp
          refine (own_seen hsh.out hS).mono ?_
          rintro e w'' ⟨v, rfl, hG, hb''⟩
          exact hK _ _ hb'' hG
        | 8, _, ho, hG, hK, hv =>
          obtain rfl := Option.some.inj ho
          clear hv hwas
          go_simp
          exact hK _ _ (Below.refl _ _) rfl
        | 9, _, ho, hG, hK, hv =>
          obtain rfl := Option.some.inj ho
          have x36 := hv 7 36 rfl rfl
          simp only [if_true, if_false, Nat.reduceEqDiff] at x36
          obtain ⟨v36, x36, hv36⟩ : ∃ v, act.tmps[36]?.getD undef = v ∧ SeenT w' v (l.map tabOf) gens := ⟨_, rfl, x36⟩
          have x37 : act.tmps[37]?.getD undef = .agg #[.slice A l.length c, .slice Ag gens.length cg] := hv 8 37 rfl rfl
          clear hv hwas
          go_simp
          refine (samest_seen hv36 ⟨A, c, l, Ag, cg, rfl, rfl, hS, hsh.out⟩).mono ?_
          rintro e w'' ⟨rfl, hb''⟩
          exact hK _ _ hb'' rfl
        | 10, _, ho, hG, hK, hv =>
          obtain rfl := Option.some.inj ho
          have x38 : act.tmps[38]?.getD undef = .bool true := hv 9 38 rfl rfl
          clear hv hwas
          go_simp
          exact hK _ _ (Below.refl _ _) rfl
        | 11, _, ho, hG, hK, hv =>
          obtain rfl := Option.some.inj ho
          have x34 : act.tmps[34]?.getD undef = .bool false := hv 5 34 rfl rfl
          have x39 : act.tmps[39]?.getD undef = .bool false := hv 10 39 rfl rfl
          clear hv hwas
          go_simp
          exact hK _ _ (Below.refl _ _) rfl
        | 12, _, ho, hG, hK, hv =>
          obtain rfl := Option.some.inj ho
          have x40 : act.tmps[40]?.getD undef = .bool false := hv 11 40 rfl rfl
          clear hv hwas
          go_simp
          exact hK _ _ (Below.refl _ _) rfl
        | 13, _, ho, hG, hK, hv =>
          obtain rfl := Option.some.inj ho
          clear hv hwas
          go_simp
          exact hK _ _ (Below.refl _ _) rfl
        | 14, _, ho, hG, hK, hv =>
          obtain rfl := Option.some.inj ho
          have x42 : act.tmps[42]?.getD undef = .agg #[.slice A l.length c, .slice Ag gens.length cg] := hv 13 42 rfl rfl
          clear hv hwas
          go_simp
          refine (hrw.out w' hS).mono ?_
          rintro e w'' ⟨rfl, hb''⟩
          exact hK _ _ hb'' rfl
        | 15, _, ho, hG, hK, hv =>
          obtain rfl := Option.some.inj ho
          have x43 : act.tmps[43]?.getD undef = .agg #[.int .i64 f1, .int .i64 f2] := hv 14 43 rfl rfl
          clear hv hwas
          go_simp
          exact hK _ _ (Below.refl _ _) rfl
        | 16, _, ho, hG, hK, hv =>
          obtain rfl := Option.some.inj ho
          have x44 : act.tmps[44]?.getD undef = .int .i64 f1 := hv 15 44 rfl rfl
          clear hv hwas
          go_simp
          exact hK _ _ (Below.refl _ _) rfl
        | 17, _, ho, hG, hK, hv =>
          obtain rfl := Option.some.inj ho
          have x45 : act.tmps[45]?.getD undef = .bool false := hv 16 45 rfl rfl
          clear hv hwas
          go_simp
          exact hK _ _ (Below.refl _ _) rfl
        | 18, _, ho, hG, hK, hv => cases hG
        | 19, _, ho, hG, hK, hv => cases hG
        | 20, _, ho, hG, hK, hv => cases hG
        | 21, _, ho, hG, hK, hv => cases hG
        | 22, _, ho, hG, hK, hv => cases hG
        | 23, _, ho, hG, hK, hv => cases hG
        | 24, _, ho, hG, hK, hv =>
          obtain rfl := Option.some.inj ho
          have x46 : act.tmps[46]?.getD undef = .bool false := hv 17 46 rfl rfl
          clear hv hwas
          go_simp
          exact hK _ _ (Below.refl _ _) rfl
        | 25, _, ho, hG, hK, hv =>
          obtain rfl := Option.some.inj ho
          have x41 : act.tmps[41]?.getD undef = .bool false := hv 12 41 rfl rfl
          have x53 : act.tmps[53]?.getD undef = .bool false := hv 24 53 rfl rfl
          clear hv hwas
          go_simp
          exact hK _ _ (Below.refl _ _) rfl
  obtain ⟨rfl, hb⟩ := hcut
  have H3 := hHh.out.grow hb
  have q0 := H3.cell 1 0 rfl rfl; have q1 := H3.cell 1 1 rfl rfl
  clear hHh hb
  have hgr : Hid ((worldErr ⟨rows, wg⟩).1 = 0 → RightW rows wg) := Lib.hid (right_iff rows wg).1
  have hof : Hid ((worldErr ⟨rows, wg⟩).1 = 0 → ofV rows wg = (tabsW rows, wg)) := Lib.hid (fun h => by unfold ofV; rw [if_neg (by simpa using h)])
  have hof' : Hid ((worldErr ⟨rows, wg⟩).1 ≠ 0 → ofV rows wg = ([], [])) := Lib.hid (fun h => by unfold ofV; rw [if_pos h])
  have hrw2 := Lib.hid (fun W hr hg => rwrong2_any rows wg Ar cr Aw cw hlr W hr hg)
  go_wp2_with fail
  refine (sof_any rows wg Ar cr Aw cw hlr hnw wc (H3.old hr) (H3.old hg)).mono ?_
  rintro e w3 ⟨v, rfl, hG⟩
  generalize worldErr ⟨rows, wg⟩ = F at *
  obtain ⟨g1, g2⟩ := F
  unfold fV
  dsimp only at hgr hof hof' hrw2 ⊢
  obtain ⟨A1, c1, l1, Ag1, cg1, rfl, hl1, hR1⟩ := hG.rd
  have hXh : Hid ((g1 = 0 → SeenT w3 (.agg #[.slice A1 l1.length c1, .slice Ag1 (ofV rows wg).2.length cg1]) (tabsW rows) wg) ∧ (g1 ≠ 0 → SeenT w3 (.agg #[.slice A1 l1.length c1, .slice Ag1 (ofV rows wg).2.length cg1]) [] [])) := Lib.hid (by
    constructor
    · intro h1
      have h2 := hG
      rw [hof.out h1] at h2 ⊢
      exact h2.seen (fun l3 h3 => right_small (hgr.out h1) h3)
    · intro h1
      have h2 := hG
      rw [hof'.out h1] at h2 ⊢
      exact h2.seen (fun l3 h3 => by
        have : l3 = [] := List.map_eq_nil_iff.1 h3
        subst this
        exact small_nil))
  have H4 := ((H3.grow hG.bel).new w3.heap.size rfl 59 [.slice A1 l1.length c1, .slice Ag1 (ofV rows wg).2.length cg1]).new (w3.heap.size + 1) (by simp) 32 [.int .i64 g1, .int .i64 g2]
  clear hG hR1 hl1 hof hof' H3 q0 q1
  generalize (ofV rows wg).2.length = mg1 at *
  have q0 := H4.cell 1 0 rfl rfl; have q1 := H4.cell 1 1 rfl rfl
  go_wp2_with fail
  have hX3 : Hid ((g1 = 0 → SeenT ((w3.alloc (.cells #[.slice A1 l1.length c1, .slice Ag1 mg1 cg1] 59)).alloc (.cells #[.int .i64 g1, .int .i64 g2] 32)) (.agg #[.slice A1 l1.length c1, .slice Ag1 mg1 cg1]) (tabsW rows) wg) ∧ (g1 ≠ 0 → SeenT ((w3.alloc (.cells #[.slice A1 l1.length c1, .slice Ag1 mg1 cg1] 59)).alloc (.cells #[.int .i64 g1, .int .i64 g2] 32)) (.agg #[.slice A1 l1.length c1, .slice Ag1 mg1 cg1]) [] [])) :=
    Lib.hid ⟨fun h => (hXh.out.1 h).grow (((Below.refl _ _).alloc (Nat.le_refl _) _).alloc (by simp) _), fun h => (hXh.out.2 h).grow (((Below.refl _ _).alloc (Nat.le_refl _) _).alloc (by simp) _)⟩
  obtain ⟨w5, hw5, H4⟩ := H4.name
  rw [hw5] at hX3 ⊢
  clear hw5 hXh
  refine (hrw2.out w5 (H4.old hr) (H4.old hg)).mono ?_
  rintro e w4 ⟨rfl, hb4⟩
  clear q0 q1 hrw2
  have H5 := (H4.grow hb4).new w4.heap.size rfl 32 [.int .i64 g1, .int .i64 g2]
  go_upto_region 5 with fail
  have hX4 : Hid ((g1 = 0 → SeenT (w4.alloc (.cells #[.int .i64 g1, .int .i64 g2] 32)) (.agg #[.slice A1 l1.length c1, .slice Ag1 mg1 cg1]) (tabsW rows) wg) ∧ (g1 ≠ 0 → SeenT (w4.alloc (.cells #[.int .i64 g1, .int .i64 g2] 32)) (.agg #[.slice A1 l1.length c1, .slice Ag1 mg1 cg1]) [] [])) :=
    Lib.hid ⟨fun h => ((hX3.out.1 h).grow hb4).grow ((Below.refl _ _).alloc (Nat.le_refl _) _), fun h => ((hX3.out.2 h).grow hb4).grow ((Below.refl _ _).alloc (Nat.le_refl _) _)⟩
  obtain ⟨w6, hw6, H5⟩ := H5.name
  rw [hw6] at hX4 ⊢
  clear hw6 hX3 hb4 H4
  have hHh := Lib.hid H5
  clear H5
  go_cut [87] (fun s wx => s = .bool false ∧ Below w6.heap.size w6 wx)
  case first =>
    clear hrt hsp hpu hwr hrw hsh hh hlr hlg
    by_cases hf : g1 = 0
    · subst hf
      have hXh := Lib.hid (hX4.out.1 rfl)
      have hRw := Lib.hid (hgr.out rfl)
      clear hX4 hgr
      refine wp_region_pred mixed (by kernel_rfl) (by kernel_rfl) (fun q => ([true, true, true, true, true, true, true, true, true, true, true, true, true, true, true, true, true, true, true, true, false, false, false, false, true, true] : List Bool).getD q true) (fun j w' v => if j = 10 then SeenT w' v (tabsW rows) wg else v = tab [.agg #[.int .i64 0, .int .i64 g2], .agg #[.int .i64 0, .int .i64 g2], .bool false, .bool false, .pointer (some ⟨w4.heap.size, 0, none⟩), .int .i64 0, .bool true, .bool true, .agg #[.slice A1 l1.length c1, .slice Ag1 mg1 cg1], .agg #[.slice Ar rows.length cr, .slice Aw wg.length cw], undef, .bool true, .bool false, .bool false, .bool false, .bool false, .pointer (some ⟨w4.heap.size, 0, none⟩), .int .i64 0, .bool false, .bool false, undef, undef, undef, undef, .bool false, .bool false] j) ?_ ?_ ?_ ?_ ?_
      · intro j w' w'' v h hb
        by_cases h10 : j = 10
        · simp only [h10, if_true, if_false, Nat.reduceEqDiff] at h ⊢
          exact SeenT.grow h hb
        rw [if_neg h10] at h ⊢
        exact h
      · intro q op ho
        have hi : q < 26 := lt_of_some ho
        match q, hi, ho with
        | 0, _, ho | 1, _, ho | 2, _, ho | 3, _, ho | 14, _, ho | 15, _, ho | 25, _, ho =>
          obtain rfl := Option.some.inj ho
          rfl
        | 4, _, ho | 5, _, ho | 6, _, ho | 7, _, ho | 13, _, ho =>
          obtain rfl := Option.some.inj ho
          intro w' v h
          have h' : v = .bool false := h
          subst h'
          rfl
        | 8, _, ho | 9, _, ho | 10, _, ho | 11, _, ho | 12, _, ho =>
          obtain rfl := Option.some.inj ho
          intro w' v h
          have h' : v = .bool true := h
          subst h'
          rfl
        | 16, _, ho | 17, _, ho | 18, _, ho | 19, _, ho | 24, _, ho =>
          obtain rfl := Option.some.inj ho
          intro w' v h
          have h' : v = .bool false := h
          subst h'
          rfl
        | 20, _, ho | 21, _, ho | 22, _, ho | 23, _, ho =>
          obtain rfl := Option.some.inj ho
          intro w' v h
          have h' : v = .bool false := h
          subst h'
          rfl
      · intro q w' h
        by_cases hq : q < 26
        · match q, hq, h with
          | 20, _, _ | 21, _, _ | 22, _, _ | 23, _, _ => rfl
          | 0, _, h | 1, _, h | 2, _, h | 3, _, h | 4, _, h | 5, _, h | 6, _, h | 7, _, h | 8, _, h | 9, _, h | 10, _, h | 11, _, h | 12, _, h | 13, _, h | 14, _, h | 15, _, h | 16, _, h | 17, _, h | 18, _, h | 19, _, h | 24, _, h | 25, _, h => cases h
        · exfalso
          rw [List.getD_eq_getElem?_getD, List.getElem?_eq_none (by simp; omega)] at h
          cases h
      · intro vs w' hb hv
        have h25 : vs 25 = .bool false := hv 25 (by decide)
        rw [putAll_tab _ _ _ _ [(some 62, vs 0), (some 63, vs 1), (some 64, vs 2), (some 65, vs 3), (some 66, vs 4), (some 67, vs 5), (some 68, vs 6), (some 69, vs 7), (some 70, vs 8), (some 71, vs 9), (some 72, vs 10), (some 73, vs 11), (some 74, vs 12), (some 75, vs 13), (some 76, vs 14), (some 77, vs 15), (some 78, vs 16), (some 79, vs 17), (some 80, vs 18), (some 81, vs 19), (some 82, vs 20), (some 83, vs 21), (some 84, vs 22), (some 85, vs 23), (some 86, vs 24), (some 87, vs 25)] rfl]
        simp only [putL_eq, putT, List.set_cons_succ, List.set_cons_zero]
        rw [h25]
        clear hv h25
        go_wp2_with fail
        go_meet
        exact ⟨rfl, hb⟩
      · intro q op ho hG act w' hb hv hwas K hK
        have e7 := hwas 7 rfl
        have e13 := hwas 13 rfl
        have e14 := hwas 14 rfl
        have e15 := hwas 15 rfl
        simp at e7 e13 e14 e15
        have H := hHh.out.grow hb
        have hX := hXh.out.grow hb
        have q0 := H.cell 1 0 rfl rfl; have q1 := H.cell 1 1 rfl rfl; have q2 := H.cell 3 0 rfl rfl; have q3 := H.cell 3 1 rfl rfl; have q4 := H.cell 4 0 rfl rfl; have q5 := H.cell 4 1 rfl rfl; have q6 := H.cell 5 0 rfl rfl; have q7 := H.cell 5 1 rfl rfl
        have hi : q < 26 := lt_of_some ho
        match q, hi, ho, hG, hK, hv with
        | 0, _, ho, hG, hK, hv =>
          obtain rfl := Option.some.inj ho
          clear hv hwas
          go_simp
          exact hK _ _ (Below.refl _ _) rfl
        | 1, _, ho, hG, hK, hv =>
          obtain rfl := Option.some.inj ho
          clear hv hwas
          go_simp
          exact hK _ _ (Below.refl _ _) rfl
        | 2, _, ho, hG, hK, hv =>
          obtain rfl := Option.some.inj ho
          have x62 : act.tmps[62]?.getD undef = .agg #[.int .i64 0, .int .i64 g2] := hv 0 62 rfl rfl
          have x63 : act.tmps[63]?.getD undef = .agg #[.int .i64 0, .int .i64 g2] := hv 1 63 rfl rfl
          clear hv hwas
          go_simp
          exact hK _ _ (Below.refl _ _) rfl
        | 3, _, ho, hG, hK, hv =>
          obtain rfl := Option.some.inj ho
          have x64 : act.tmps[64]?.getD undef = .bool false := hv 2 64 rfl rfl
          clear hv hwas
          go_simp
          exact hK _ _ (Below.refl _ _) rfl
        | 4, _, ho, hG, hK, hv =>
          obtain rfl := Option.some.inj ho
          clear hv hwas
          go_simp
          exact hK _ _ (Below.refl _ _) rfl
        | 5, _, ho, hG, hK, hv =>
          obtain rfl := Option.some.inj ho
          have x66 : act.tmps[66]?.getD undef = .pointer (some ⟨w4.heap.size, 0, none⟩) := hv 4 66 rfl rfl
          clear hv hwas
          go_simp
          exact hK _ _ (Below.refl _ _) rfl
        | 6, _, ho, hG, hK, hv =>
          obtain rfl := Option.some.inj ho
          have x67 : act.tmps[67]?.getD undef = .int .i64 0 := hv 5 67 rfl rfl
          clear hv hwas
          go_simp
          exact hK _ _ (Below.refl _ _) rfl
        | 7, _, ho, hG, hK, hv =>
          obtain rfl := Option.some.inj ho
          have x68 : act.tmps[68]?.getD undef = .bool true := hv 6 68 rfl rfl
          clear hv hwas
          go_simp
          exact hK _ _ (Below.refl _ _) rfl
        | 8, _, ho, hG, hK, hv =>
          obtain rfl := Option.some.inj ho
          clear hv hwas
          go_simp
          exact hK _ _ (Below.refl _ _) rfl
        | 9, _, ho, hG, hK, hv =>
          obtain rfl := Option.some.inj ho
          clear hv hwas
          go_simp
          exact hK _ _ (Below.refl _ _) rfl
        | 10, _, ho, hG, hK, hv =>
          obtain rfl := Option.some.inj ho
          have x71 : act.tmps[71]?.getD undef = .agg #[.slice Ar rows.length cr, .slice Aw wg.length cw] := hv 9 71 rfl rfl
          clear hv hwas
          go_simp
          refine (of_seen hRw.out (H.old hr) (H.old hg) (fun e => (hnw e).1)).mono ?_
          rintro e w'' ⟨v, rfl, hG, hb''⟩
          exact hK _ _ hb'' hG
        | 11, _, ho, hG, hK, hv =>
          obtain rfl := Option.some.inj ho
          have x70 : act.tmps[70]?.getD undef = .agg #[.slice A1 l1.length c1, .slice Ag1 mg1 cg1] := hv 8 70 rfl rfl
          have x72 := hv 10 72 rfl rfl
          simp only [if_true, if_false, Nat.reduceEqDiff] at x72
          obtain ⟨v72, x72, hv72⟩ : ∃ v, act.tmps[72]?.getD undef = v ∧ SeenT w' v (tabsW rows) wg := ⟨_, rfl, x72⟩
          clear hv hwas
          go_simp
          refine (samest_seen hX hv72).mono ?_
          rintro e w'' ⟨rfl, hb''⟩
          exact hK _ _ hb'' rfl
        | 12, _, ho, hG, hK, hv =>
          obtain rfl := Option.some.inj ho
          have x73 : act.tmps[73]?.getD undef = .bool true := hv 11 73 rfl rfl
          clear hv hwas
          go_simp
          exact hK _ _ (Below.refl _ _) rfl
        | 13, _, ho, hG, hK, hv =>
          obtain rfl := Option.some.inj ho
          have x69 : act.tmps[69]?.getD undef = .bool true := hv 7 69 rfl rfl
          have x74 : act.tmps[74]?.getD undef = .bool false := hv 12 74 rfl rfl
          clear hv hwas
          go_simp
          exact hK _ _ (Below.refl _ _) rfl
        | 14, _, ho, hG, hK, hv =>
          obtain rfl := Option.some.inj ho
          have x65 : act.tmps[65]?.getD undef = .bool false := hv 3 65 rfl rfl
          have x75 : act.tmps[75]?.getD undef = .bool false := hv 13 75 rfl rfl
          clear hv hwas
          go_simp
          exact hK _ _ (Below.refl _ _) rfl
        | 15, _, ho, hG, hK, hv =>
          obtain rfl := Option.some.inj ho
          have x76 : act.tmps[76]?.getD undef = .bool false := hv 14 76 rfl rfl
          clear hv hwas
          go_simp
          exact hK _ _ (Below.refl _ _) rfl
        | 16, _, ho, hG, hK, hv =>
          obtain rfl := Option.some.inj ho
          clear hv hwas
          go_simp
          exact hK _ _ (Below.refl _ _) rfl
        | 17, _, ho, hG, hK, hv =>
          obtain rfl := Option.some.inj ho
          have x78 : act.tmps[78]?.getD undef = .pointer (some ⟨w4.heap.size, 0, none⟩) := hv 16 78 rfl rfl
          clear hv hwas
          go_simp
          exact hK _ _ (Below.refl _ _) rfl
        | 18, _, ho, hG, hK, hv =>
          obtain rfl := Option.some.inj ho
          have x79 : act.tmps[79]?.getD undef = .int .i64 0 := hv 17 79 rfl rfl
          clear hv hwas
          go_simp
          exact hK _ _ (Below.refl _ _) rfl
        | 19, _, ho, hG, hK, hv =>
          obtain rfl := Option.some.inj ho
          have x80 : act.tmps[80]?.getD undef = .bool false := hv 18 80 rfl rfl
          clear hv hwas
          go_simp
          exact hK _ _ (Below.refl _ _) rfl
        | 20, _, ho, hG, hK, hv => cases hG
        | 21, _, ho, hG, hK, hv => cases hG
        | 22, _, ho, hG, hK, hv => cases hG
        | 23, _, ho, hG, hK, hv => cases hG
        | 24, _, ho, hG, hK, hv =>
          obtain rfl := Option.some.inj ho
          have x81 : act.tmps[81]?.getD undef = .bool false := hv 19 81 rfl rfl
          clear hv hwas
          go_simp
          exact hK _ _ (Below.refl _ _) rfl
        | 25, _, ho, hG, hK, hv =>
          obtain rfl := Option.some.inj ho
          have x77 : act.tmps[77]?.getD undef = .bool false := hv 15 77 rfl rfl
          have x86 : act.tmps[86]?.getD undef = .bool false := hv 24 86 rfl rfl
          clear hv hwas
          go_simp
          exact hK _ _ (Below.refl _ _) rfl
    · have hf' : (g1 == 0) = false := by simpa using hf
      have hf2 : (g1 != 0) = true := by simpa using hf
      have hXh := Lib.hid (hX4.out.2 hf)
      clear hX4 hgr hnw hr hg
      refine wp_region_pred mixed (by kernel_rfl) (by kernel_rfl) (fun q => ([true, true, true, true, true, true, true, true, false, false, false, false, false, true, true, true, true, true, true, true, true, true, true, true, true, true] : List Bool).getD q true) (fun j w' v => v = tab [.agg #[.int .i64 g1, .int .i64 g2], .agg #[.int .i64 g1, .int .i64 g2], .bool false, .bool false, .pointer (some ⟨w4.heap.size, 0, none⟩), .int .i64 g1, .bool false, .bool false, undef, undef, undef, undef, undef, .bool false, .bool false, .bool false, .pointer (some ⟨w4.heap.size, 0, none⟩), .int .i64 g1, .bool true, .bool true, .agg #[.slice A1 l1.length c1, .slice Ag1 mg1 cg1], .agg #[.slice none 0 0, .slice none 0 0], .bool true, .bool false, .bool false, .bool false] j) ?_ ?_ ?_ ?_ ?_
      · intro j w' w'' v h hb; exact h
      · intro q op ho
        have hi : q < 26 := lt_of_some ho
        match q, hi, ho with
        | 0, _, ho | 1, _, ho | 2, _, ho | 3, _, ho | 14, _, ho | 15, _, ho | 25, _, ho =>
          obtain rfl := Option.some.inj ho
          rfl
        | 4, _, ho | 5, _, ho | 6, _, ho | 7, _, ho | 13, _, ho =>
          obtain rfl := Option.some.inj ho
          intro w' v h
          have h' : v = .bool false := h
          subst h'
          rfl
        | 8, _, ho | 9, _, ho | 10, _, ho | 11, _, ho | 12, _, ho =>
          obtain rfl := Option.some.inj ho
          intro w' v h
          have h' : v = .bool false := h
          subst h'
          rfl
        | 16, _, ho | 17, _, ho | 18, _, ho | 19, _, ho | 24, _, ho =>
          obtain rfl := Option.some.inj ho
          intro w' v h
          have h' : v = .bool false := h
          subst h'
          rfl
        | 20, _, ho | 21, _, ho | 22, _, ho | 23, _, ho =>
          obtain rfl := Option.some.inj ho
          intro w' v h
          have h' : v = .bool true := h
          subst h'
          rfl
      · intro q w' h
        by_cases hq : q < 26
        · match q, hq, h with
          | 8, _, _ | 9, _, _ | 10, _, _ | 11, _, _ | 12, _, _ => rfl
          | 0, _, h | 1, _, h | 2, _, h | 3, _, h | 4, _, h | 5, _, h | 6, _, h | 7, _, h | 13, _, h | 14, _, h | 15, _, h | 16, _, h | 17, _, h | 18, _, h | 19, _, h | 20, _, h | 21, _, h | 22, _, h | 23, _, h | 24, _, h | 25, _, h => cases h
        · exfalso
          rw [List.getD_eq_getElem?_getD, List.getElem?_eq_none (by simp; omega)] at h
          cases h
      · intro vs w' hb hv
        have h25 : vs 25 = .bool false := hv 25 (by decide)
        rw [putAll_tab _ _ _ _ [(some 62, vs 0), (some 63, vs 1), (some 64, vs 2), (some 65, vs 3), (some 66, vs 4), (some 67, vs 5), (some 68, vs 6), (some 69, vs 7), (some 70, vs 8), (some 71, vs 9), (some 72, vs 10), (some 73, vs 11), (some 74, vs 12), (some 75, vs 13), (some 76, vs 14), (some 77, vs 15), (some 78, vs 16), (some 79, vs 17), (some 80, vs 18), (some 81, vs 19), (some 82, vs 20), (some 83, vs 21), (some 84, vs 22), (some 85, vs 23), (some 86, vs 24), (some 87, vs 25)] rfl]
        simp only [putL_eq, putT, List.set_cons_succ, List.set_cons_zero]
        rw [h25]
        clear hv h25
        go_wp2_with fail
        go_meet
        exact ⟨rfl, hb⟩
      · intro q op ho hG act w' hb hv hwas K hK
        have e13 := hwas 13 rfl
        have e14 := hwas 14 rfl
        have e15 := hwas 15 rfl
        simp at e13 e14 e15
        have H := hHh.out.grow hb
        have hX := hXh.out.grow hb
        have q0 := H.cell 1 0 rfl rfl; have q1 := H.cell 1 1 rfl rfl; have q2 := H.cell 3 0 rfl rfl; have q3 := H.cell 3 1 rfl rfl; have q4 := H.cell 4 0 rfl rfl; have q5 := H.cell 4 1 rfl rfl; have q6 := H.cell 5 0 rfl rfl; have q7 := H.cell 5 1 rfl rfl
        have hi : q < 26 := lt_of_some ho
        match q, hi, ho, hG, hK, hv with
        | 0, _, ho, hG, hK, hv =>
          obtain rfl := Option.some.inj ho
          clear hv hwas
          go_simp
          exact hK _ _ (Below.refl _ _) rfl
        | 1, _, ho, hG, hK, hv =>
          obtain rfl := Option.some.inj ho
          clear hv hwas
          go_simp
          exact hK _ _ (Below.refl _ _) rfl
        | 2, _, ho, hG, hK, hv =>
          obtain rfl := Option.some.inj ho
          have x62 : act.tmps[62]?.getD undef = .agg #[.int .i64 g1, .int .i64 g2] := hv 0 62 rfl rfl
          have x63 : act.tmps[63]?.getD undef = .agg #[.int .i64 g1, .int .i64 g2] := hv 1 63 rfl rfl
          clear hv hwas
          go_simp
          exact hK _ _ (Below.refl _ _) rfl
        | 3, _, ho, hG, hK, hv =>
          obtain rfl := Option.some.inj ho
          have x64 : act.tmps[64]?.getD undef = .bool false := hv 2 64 rfl rfl
          clear hv hwas
          go_simp
          exact hK _ _ (Below.refl _ _) rfl
        | 4, _, ho, hG, hK, hv =>
          obtain rfl := Option.some.inj ho
          clear hv hwas
          go_simp
          exact hK _ _ (Below.refl _ _) rfl
        | 5, _, ho, hG, hK, hv =>
          obtain rfl := Option.some.inj ho
          have x66 : act.tmps[66]?.getD undef = .pointer (some ⟨w4.heap.size, 0, none⟩) := hv 4 66 rfl rfl
          clear hv hwas
          go_simp
          exact hK _ _ (Below.refl _ _) rfl
        | 6, _, ho, hG, hK, hv =>
          obtain rfl := Option.some.inj ho
          have x67 : act.tmps[67]?.getD undef = .int .i64 g1 := hv 5 67 rfl rfl
          clear hv hwas
          go_simp
          exact hK _ _ (Below.refl _ _) rfl
        | 7, _, ho, hG, hK, hv =>
          obtain rfl := Option.some.inj ho
          have x68 : act.tmps[68]?.getD undef = .bool false := hv 6 68 rfl rfl
          clear hv hwas
          go_simp
          exact hK _ _ (Below.refl _ _) rfl
        | 8, _, ho, hG, hK, hv => cases hG
        | 9, _, ho, hG, hK, hv => cases hG
        | 10, _, ho, hG, hK, hv => cases hG
        | 11, _, ho, hG, hK, hv => cases hG
        | 12, _, ho, hG, hK, hv => cases hG
        | 13, _, ho, hG, hK, hv =>
          obtain rfl := Option.some.inj ho
          have x69 : act.tmps[69]?.getD undef = .bool false := hv 7 69 rfl rfl
          clear hv hwas
          go_simp
          exact hK _ _ (Below.refl _ _) rfl
        | 14, _, ho, hG, hK, hv =>
          obtain rfl := Option.some.inj ho
          have x65 : act.tmps[65]?.getD undef = .bool false := hv 3 65 rfl rfl
          have x75 : act.tmps[75]?.getD undef = .bool false := hv 13 75 rfl rfl
          clear hv hwas
          go_simp
          exact hK _ _ (Below.refl _ _) rfl
        | 15, _, ho, hG, hK, hv =>
          obtain rfl := Option.some.inj ho
          have x76 : act.tmps[76]?.getD undef = .bool false := hv 14 76 rfl rfl
          clear hv hwas
          go_simp
          exact hK _ _ (Below.refl _ _) rfl
        | 16, _, ho, hG, hK, hv =>
          obtain rfl := Option.some.inj ho
          clear hv hwas
          go_simp
          exact hK _ _ (Below.refl _ _) rfl
        | 17, _, ho, hG, hK, hv =>
          obtain rfl := Option.some.inj ho
          have x78 : act.tmps[78]?.getD undef = .pointer (some ⟨w4.heap.size, 0, none⟩) := hv 16 78 rfl rfl
          clear hv hwas
          go_simp
          exact hK _ _ (Below.refl _ _) rfl
        | 18, _, ho, hG, hK, hv =>
          obtain rfl := Option.some.inj ho
          have x79 : act.tmps[79]?.getD undef = .int .i64 g1 := hv 17 79 rfl rfl
          clear hv hwas
          go_simp
          exact hK _ _ (Below.refl _ _) rfl
        | 19, _, ho, hG, hK, hv =>
          obtain rfl := Option.some.inj ho
          have x80 : act.tmps[80]?.getD undef = .bool true := hv 18 80 rfl rfl
          clear hv hwas
          go_simp
          exact hK _ _ (Below.refl _ _) rfl
        | 20, _, ho, hG, hK, hv =>
          obtain rfl := Option.some.inj ho
          clear hv hwas
          go_simp
          exact hK _ _ (Below.refl _ _) rfl
        | 21, _, ho, hG, hK, hv =>
          obtain rfl := Option.some.inj ho
          clear hv hwas
          go_simp
          exact hK _ _ (Below.refl _ _) rfl
        | 22, _, ho, hG, hK, hv =>
          obtain rfl := Option.some.inj ho
          have x82 : act.tmps[82]?.getD undef = .agg #[.slice A1 l1.length c1, .slice Ag1 mg1 cg1] := hv 20 82 rfl rfl
          have x83 : act.tmps[83]?.getD undef = .agg #[.slice none 0 0, .slice none 0 0] := hv 21 83 rfl rfl
          clear hv hwas
          go_simp
          refine (samest_seen hX (SeenT.zero w')).mono ?_
          rintro e w'' ⟨rfl, hb''⟩
          exact hK _ _ hb'' rfl
        | 23, _, ho, hG, hK, hv =>
          obtain rfl := Option.some.inj ho
          have x84 : act.tmps[84]?.getD undef = .bool true := hv 22 84 rfl rfl
          clear hv hwas
          go_simp
          exact hK _ _ (Below.refl _ _) rfl
        | 24, _, ho, hG, hK, hv =>
          obtain rfl := Option.some.inj ho
          have x81 : act.tmps[81]?.getD undef = .bool true := hv 19 81 rfl rfl
          have x85 : act.tmps[85]?.getD undef = .bool false := hv 23 85 rfl rfl
          clear hv hwas
          go_simp
          exact hK _ _ (Below.refl _ _) rfl
        | 25, _, ho, hG, hK, hv =>
          obtain rfl := Option.some.inj ho
          have x77 : act.tmps[77]?.getD undef = .bool false := hv 15 77 rfl rfl
          have x86 : act.tmps[86]?.getD undef = .bool false := hv 24 86 rfl rfl
          clear hv hwas
          go_simp
          exact hK _ _ (Below.refl _ _) rfl
  obtain ⟨rfl, hb⟩ := hcut
  have H6 := (((hHh.out.grow hb).drop1 3).drop1 3).drop1 3
  replace H6 : Hp w wc (stA w A l.length c Ag gens.length cg Ar rows.length cr Aw wg.length cw i g) := H6
  have q0 := H6.cell 0 0 rfl rfl; have q1 := H6.cell 0 1 rfl rfl
  clear hHh hb hX4 hgr hwr
  go_wp2_with fail
  refine (hrw.out wc (hh.out.hp H6)).mono ?_
  rintro e w7 ⟨rfl, hb7⟩
  replace H6 := H6.grow hb7
  clear q0 q1 hb7
  by_cases hf : f1 = 0
  case neg =>
    have hf' : (f1 != 0) = true := by simpa using hf
    have q0 := H6.cell 0 0 rfl rfl; have q1 := H6.cell 0 1 rfl rfl
    clear hrt
    go_wp2_with fail
    refine (sspawn_any l A c gens Ag cg has n hsh.out w7 (hh.out.hp H6)).mono ?_
    rintro e w8 ⟨v, rfl, hG⟩
    rw [hsp.out hf] at hG ⊢
    dsimp only at hG ⊢
    obtain ⟨A2, c2, l2, Ag2, cg2, rfl, hl2, hR2⟩ := hG.rd
    have H8 := ((H6.grow hG.bel).new w8.heap.size rfl 59 [.slice A2 l2.length c2, .slice Ag2 0 cg2]).new (w8.heap.size + 1) (by simp) 27 [.int .i64 0, .int .i64 0]
    clear q0 q1 hG hR2 hl2 hsp
    have q0 := H8.cell 0 0 rfl rfl; have q1 := H8.cell 0 1 rfl rfl; have q2 := H8.cell 2 0 rfl rfl; have q3 := H8.cell 2 1 rfl rfl
    go_upto_region 9 with fail
    obtain ⟨w9, hw9, H8⟩ := H8.name
    rw [hw9] at q0 q1 q2 q3 ⊢
    clear hw9
    go_wp2_with fail
    refine (sput_any l A c gens Ag cg i g part n hsh.out w9 (hh.out.hp H8)).mono ?_
    rintro e w10 ⟨v, rfl, hG⟩
    rw [hpu.out hf] at hG ⊢
    dsimp only at hG ⊢
    have hX := hG.seen (fun l3 h3 => by
        have : l3 = [] := List.map_eq_nil_iff.1 h3
        subst this
        exact small_nil)
    obtain ⟨A3, c3, l3, Ag3, cg3, rfl, hl3, hR3⟩ := hG.rd
    have H10 := (H8.grow hG.bel).new w10.heap.size rfl 59 [.slice A3 l3.length c3, .slice Ag3 0 cg3]
    have hX2 : Hid (SeenT (w10.alloc (.cells #[.slice A3 l3.length c3, .slice Ag3 0 cg3] 59)) (.agg #[.slice A3 l3.length c3, .slice Ag3 0 cg3]) [] []) := Lib.hid (hX.grow ((Below.refl _ _).alloc (Nat.le_refl _) (.cells #[.slice A3 l3.length c3, .slice Ag3 0 cg3] 59)))
    clear q0 q1 q2 q3 hG hR3 hl3 hpu H8 H6 hX
    go_upto_region 10 with fail
    obtain ⟨w11, hw11, H10⟩ := H10.name
    rw [hw11] at hX2 ⊢
    clear hw11
    have q0 := H10.cell 0 0 rfl rfl; have q1 := H10.cell 0 1 rfl rfl
    go_wp2_with fail
    refine (hrw.out w11 (hh.out.hp H10)).mono ?_
    rintro e w12 ⟨rfl, hb⟩
    have hX := Lib.hid (hX2.out.grow hb)
    replace H10 := H10.grow hb
    clear q0 q1 hb hX2
    have q0 := H10.cell 5 0 rfl rfl; have q1 := H10.cell 5 1 rfl rfl
    have hHh := Lib.hid H10
    clear H10
    go_wp2_with fail
    refine (samest_seen hX.out (SeenT.zero w12)).mono ?_
    rintro e w13 ⟨rfl, hb⟩
    have hB := Lib.hid (hHh.out.grow hb).bel
    clear hb hHh hX q0 q1
    go_wp2_with fail
    go_ret
    exact ⟨rfl, hB.out⟩
  case pos =>
    subst hf
    have hRh := Lib.hid (hrt.out rfl)
    have q0 := H6.cell 0 0 rfl rfl; have q1 := H6.cell 0 1 rfl rfl
    clear hrt hsp hpu hrw
    go_wp2_with fail
    refine (rworld_seen hRh.out.1 hRh.out.2 (hh.out.hp H6)).mono ?_
    rintro e w8 ⟨Av, cv, rfl, hG⟩
    have H8 := (H6.join hG).new w8.heap.size rfl 25 [.slice Av R.length cv, .slice Ag gens.length cg]
    clear H6 hG q0 q1
    have hlrr : R.length ≤ 60 := Nat.le_trans hRh.out.1.rows_le hRh.out.1.len
    have hgs : Hid (RdG w w.heap.size Ag gens) := Lib.hid hh.out.gen
    have hng : Hid (Ag = none → cg = 0 ∧ gens = []) := Lib.hid hh.out.ng
    go_upto_region 12 with fail
    obtain ⟨w9, hw9, H9⟩ := H8.name
    rw [hw9]
    clear hw9 H8
    have H2h := Lib.hid H9
    clear H9
    go_wp2_with fail
    go_loopw [125] (fun q wr => ∃ k : Nat, k ≤ 4 ∧ q = .int .i64 k ∧ Below w9.heap.size w9 wr) (fun q _ => 4 - (intOf q).toNat)
    case atStart => exact ⟨0, by omega, rfl, Below.refl _ _⟩
    case round =>
      obtain ⟨k, hk, rfl, hbel⟩ := hrel
      by_cases hlt : k < 4
      · have i0 : (0 : Int) ≤ (k : Int) := by omega
        have i1 : (k : Int) < 4 := by omega
        have H := H2h.out.grow hbel
        have hbelh := Lib.hid hbel
        have hszr : Hid (w.heap.size ≤ wr.heap.size) := Lib.hid H.bel.size
        have hS3h := Lib.hid (hh.out.hp H)
        have H1 := ((((Hp.start wr).new wr.heap.size rfl 59 [.slice none 0 0, .slice none 0 0]).new (wr.heap.size + 1) (by simp) 25 [.slice none 0 0, .slice none 0 0]).new (wr.heap.size + 1 + 1) (by simp) 27 [.int .i64 0, .int .i64 0]).new (wr.heap.size + 1 + 1 + 1) (by simp) 27 [.int .i64 0, .int .i64 0]
        replace H1 : Hp wr _ (stX wr none 0 0 none 0 0 none 0 0 none 0 0 (0, 0)) := H1
        have H1h := Lib.hid H1
        have hB1 := H2h.out.grow (hbel.trans (H1.bel.mono hbel.size))
        have a0 := hB1.cell 0 0 rfl rfl; have a1 := hB1.cell 0 1 rfl rfl; have b0 := hB1.cell 2 0 rfl rfl; have b1 := hB1.cell 2 1 rfl rfl; have s0 := hB1.cell 4 0 rfl rfl; have s1 := hB1.cell 4 1 rfl rfl
        have l0 := H.lt 0 rfl; have l1 := H.lt 2 rfl; have l2 := H.lt 4 rfl
        clear H1 hbel H hB1
        go_upto_region 19 with fail
        go_step
        go_step
        go_step
        go_step
        go_step
        go_step
        go_step
        go_cut [27, 28] (fun s18 s19 wx => ∃ (A3 : Option Addr) (c3 : Nat) (l3 : List TabIn) (Ag3 : Option Addr) (cg3 : Nat) (Br : Option Addr) (c2 : Nat) (Bg : Option Addr) (c4 : Nat), s18 = .int .i64 (doneV R gens i g has part n k).err ∧ s19 = .int .i64 (doneV R gens i g has part n k).err ∧ l3.map tabOf = tabsW (doneV R gens i g has part n k).rows ∧
          Hp wr wx (stX wr A3 l3.length c3 Ag3 (doneV R gens i g has part n k).gens.length cg3 Br (doneV R gens i g has part n k).rows.length c2 Bg (doneV R gens i g has part n k).gens.length c4 (toldB R gens has n k) ++ (.own (.slice Ag3 (doneV R gens i g has part n k).gens.length cg3) 3 1 (doneV R gens i g has part n k).gens.length (ints (doneV R gens i g has part n k).gens) :: tabsE A3 c3 l3)) ∧
          RdR wx wx.heap.size Br (doneV R gens i g has part n k).rows ∧ RdG wx wx.heap.size Bg (doneV R gens i g has part n k).gens ∧ (Bg = none → c4 = 0))
        case first =>
          obtain rfl | rfl | rfl | rfl : k = 0 ∨ k = 1 ∨ k = 2 ∨ k = 3 := by omega
          · go_wp2_with fail
            obtain ⟨W1, hW1, H1⟩ := H1h.out.name
            have hR4 := (((hS3h.out.alloc (.cells #[.slice none 0 0, .slice none 0 0] 59)).alloc (.cells #[.slice none 0 0, .slice none 0 0] 25)).alloc (.cells #[.int .i64 0, .int .i64 0] 27)).alloc (.cells #[.int .i64 0, .int .i64 0] 27)
            rw [hW1] at hR4 ⊢
            clear hW1
            have hc := sspawn_any l A c gens Ag cg has n hsh.out W1 hR4
            rw [hRh.out.2, spawnT_right hRh.out.1] at hc
            dsimp only at hc
            have hE : Hid (doneV R gens i g has part n 0 = ⟨(spawnV R gens has n).rows, (spawnV R gens has n).gens, (spawnV R gens has n).err⟩) := Lib.hid rfl
            have hEB : Hid (toldB R gens has n 0 = ((spawnV R gens has n).i, (spawnV R gens has n).g)) := Lib.hid rfl
            have hp := Lib.hid (fun W hr' hg' => rspawn_far R gens Av cv Ag cg has n (by omega) hng.out w.heap.size W hr' hg')
            generalize spawnV R gens has n = E at *
            refine hc.mono ?_
            clear hc hR4 a0 a1 b0 b1 s0 s1
            rintro e w4 ⟨v, rfl, hG⟩
            obtain ⟨A3, c3, l3, Ag3, cg3, rfl, hl3, hH⟩ := hG
            have H2 := H1.join hH
            have q0 := H2.cell 0 0 rfl rfl; have q1 := H2.cell 0 1 rfl rfl; have y0 := H2.frozen 0 0 rfl; have y1 := H2.frozen 0 1 rfl
            have q2 := H2.cell 2 0 rfl rfl; have q3 := H2.cell 2 1 rfl rfl; have y2 := H2.frozen 2 0 rfl; have y3 := H2.frozen 2 1 rfl
            have H3 := (H2.set 0 0 (.slice A3 l3.length c3) rfl).set 0 1 (.slice Ag3 E.gens.length cg3) rfl
            replace H3 := (H3.set 2 0 (.int .i64 E.i) rfl).set 2 1 (.int .i64 E.g) rfl
            have HB := H2h.out.grow (hbelh.out.trans (H3.bel.mono hbelh.out.size))
            have a0 := HB.cell 2 0 rfl rfl; have a1 := HB.cell 2 1 rfl rfl; have b0 := HB.cell 4 0 rfl rfl; have b1 := HB.cell 4 1 rfl rfl
            have hHB := Lib.hid HB; have hH3 := Lib.hid H3
            clear H1 H2 H3 HB hH
            go_wp2_with fail
            obtain ⟨W2, hW2, H3⟩ := hH3.out.name
            have HB := hHB.out
            rw [hW2] at HB ⊢
            clear hW2 hHB hH3 q0 q1 y0 y1 a0 a1 b0 b1 q2 q3 y2 y3
            refine (hp.out W2 (HB.rd 3 rfl) (HB.old hgs.out)).mono ?_
            rintro e w5 ⟨v, rfl, hG2, hb⟩
            obtain ⟨Br, c2, Bg, c4, rfl, h1, h2, hf1, hf2, hn⟩ := hG2
            have ge1 : w.heap.size ≤ wr.heap.size + 1 := by have := hszr.out; omega
            have lt1 := H3.lt 1 rfl
            have H4 := H3.grow hb
            have q0 := H4.cell 1 0 rfl rfl; have q1 := H4.cell 1 1 rfl rfl; have y0 := H4.frozen 1 0 rfl; have y1 := H4.frozen 1 1 rfl
            have q2 := H4.cell 3 0 rfl rfl; have q3 := H4.cell 3 1 rfl rfl; have y2 := H4.frozen 3 0 rfl; have y3 := H4.frozen 3 1 rfl
            have ge3 : w.heap.size ≤ wr.heap.size + 1 + 1 + 1 := by have := hszr.out; omega
            have lt3 := H3.lt 3 rfl
            have H5 := (H4.set 1 0 (.slice Br E.rows.length c2) rfl).set 1 1 (.slice Bg E.gens.length c4) rfl
            replace H5 := (H5.set 3 0 (.int .i64 E.i) rfl).set 3 1 (.int .i64 E.g) rfl
            have h1' : Hid (RdR ((((w5.setCell ⟨wr.heap.size + 1, 0, none⟩ (.slice Br E.rows.length c2)).setCell ⟨wr.heap.size + 1, 1, none⟩ (.slice Bg E.gens.length c4)).setCell ⟨wr.heap.size + 1 + 1 + 1, 0, none⟩ (.int .i64 E.i)).setCell ⟨wr.heap.size + 1 + 1 + 1, 1, none⟩ (.int .i64 E.g)) w5.heap.size Br E.rows) := Lib.hid (rd_set (rd_set (rd_set (rd_set h1 hf1 ge1 lt1 _) hf1 ge1 lt1 _) hf1 ge3 lt3 _) hf1 ge3 lt3 _)
            have h2' : Hid (RdG ((((w5.setCell ⟨wr.heap.size + 1, 0, none⟩ (.slice Br E.rows.length c2)).setCell ⟨wr.heap.size + 1, 1, none⟩ (.slice Bg E.gens.length c4)).setCell ⟨wr.heap.size + 1 + 1 + 1, 0, none⟩ (.int .i64 E.i)).setCell ⟨wr.heap.size + 1 + 1 + 1, 1, none⟩ (.int .i64 E.g)) w5.heap.size Bg E.gens) := Lib.hid (rd_set (rd_set (rd_set (rd_set h2 hf2 ge1 lt1 _) hf2 ge1 lt1 _) hf2 ge3 lt3 _) hf2 ge3 lt3 _)
            have hsz : Hid (w5.heap.size ≤ ((((w5.setCell ⟨wr.heap.size + 1, 0, none⟩ (.slice Br E.rows.length c2)).setCell ⟨wr.heap.size + 1, 1, none⟩ (.slice Bg E.gens.length c4)).setCell ⟨wr.heap.size + 1 + 1 + 1, 0, none⟩ (.int .i64 E.i)).setCell ⟨wr.heap.size + 1 + 1 + 1, 1, none⟩ (.int .i64 E.g)).heap.size) := Lib.hid (by simp)
            have hH5 := Lib.hid H5; have hnh := Lib.hid hn
            clear h1 h2 hf1 hf2 H3 H4 H5 HB hn
            go_wp2_with fail
            go_meet
            rw [hE.out, hEB.out]
            exact ⟨A3, c3, l3, Ag3, cg3, Br, c2, Bg, c4, rfl, rfl, hl3, hH5.out, Rd.more h1'.out hsz.out, Rd.more h2'.out hsz.out, hnh.out trivial⟩
          · go_wp2_with fail
            obtain ⟨W1, hW1, H1⟩ := H1h.out.name
            have hR4 := (((hS3h.out.alloc (.cells #[.slice none 0 0, .slice none 0 0] 59)).alloc (.cells #[.slice none 0 0, .slice none 0 0] 25)).alloc (.cells #[.int .i64 0, .int .i64 0] 27)).alloc (.cells #[.int .i64 0, .int .i64 0] 27)
            rw [hW1] at hR4 ⊢
            clear hW1
            have hc := skill_any l A c gens Ag cg i g hsh.out W1 hR4
            rw [hRh.out.2, killT_right hRh.out.1] at hc
            dsimp only at hc
            have hE : Hid (doneV R gens i g has part n 1 = killV R gens i g) := Lib.hid rfl
            have hEB : Hid (toldB R gens has n 1 = (0, 0)) := Lib.hid rfl
            have hp := Lib.hid (fun W hr' hg' => rkill_far R gens Av cv Ag cg i g (by omega) w.heap.size W.heap.size W hr' hg' (Nat.le_refl _) (rd_afar hgs.out _))
            generalize killV R gens i g = E at *
            refine hc.mono ?_
            clear hc hR4 a0 a1 b0 b1 s0 s1
            rintro e w4 ⟨v, rfl, hG⟩
            obtain ⟨A3, c3, l3, Ag3, cg3, rfl, hl3, hH⟩ := hG
            have H2 := H1.join hH
            have q0 := H2.cell 0 0 rfl rfl; have q1 := H2.cell 0 1 rfl rfl; have y0 := H2.frozen 0 0 rfl; have y1 := H2.frozen 0 1 rfl
            have H3 := (H2.set 0 0 (.slice A3 l3.length c3) rfl).set 0 1 (.slice Ag3 E.gens.length cg3) rfl
            have HB := H2h.out.grow (hbelh.out.trans (H3.bel.mono hbelh.out.size))
            have a0 := HB.cell 2 0 rfl rfl; have a1 := HB.cell 2 1 rfl rfl; have b0 := HB.cell 4 0 rfl rfl; have b1 := HB.cell 4 1 rfl rfl
            have hHB := Lib.hid HB; have hH3 := Lib.hid H3
            clear H1 H2 H3 HB hH
            go_wp2_with fail
            obtain ⟨W2, hW2, H3⟩ := hH3.out.name
            have HB := hHB.out
            rw [hW2] at HB ⊢
            clear hW2 hHB hH3 q0 q1 y0 y1 a0 a1 b0 b1
            refine (hp.out W2 (HB.rd 3 rfl) (HB.old hgs.out)).mono ?_
            rintro e w5 ⟨v, rfl, hG2, hb⟩
            obtain ⟨Br, c2, Bg, c4, rfl, h1, h2, hf1, hf2, hn⟩ := hG2
            have ge1 : w.heap.size ≤ wr.heap.size + 1 := by have := hszr.out; omega
            have lt1 := H3.lt 1 rfl
            have H4 := H3.grow hb
            have q0 := H4.cell 1 0 rfl rfl; have q1 := H4.cell 1 1 rfl rfl; have y0 := H4.frozen 1 0 rfl; have y1 := H4.frozen 1 1 rfl
            have H5 := (H4.set 1 0 (.slice Br E.rows.length c2) rfl).set 1 1 (.slice Bg E.gens.length c4) rfl
            have h1' : Hid (RdR ((w5.setCell ⟨wr.heap.size + 1, 0, none⟩ (.slice Br E.rows.length c2)).setCell ⟨wr.heap.size + 1, 1, none⟩ (.slice Bg E.gens.length c4)) w5.heap.size Br E.rows) := Lib.hid (rd_set (rd_set h1 hf1 ge1 lt1 _) hf1 ge1 lt1 _)
            have h2' : Hid (RdG ((w5.setCell ⟨wr.heap.size + 1, 0, none⟩ (.slice Br E.rows.length c2)).setCell ⟨wr.heap.size + 1, 1, none⟩ (.slice Bg E.gens.length c4)) w5.heap.size Bg E.gens) := Lib.hid (rd_set (rd_set h2 hf2 ge1 lt1 _) hf2 ge1 lt1 _)
            have hsz : Hid (w5.heap.size ≤ ((w5.setCell ⟨wr.heap.size + 1, 0, none⟩ (.slice Br E.rows.length c2)).setCell ⟨wr.heap.size + 1, 1, none⟩ (.slice Bg E.gens.length c4)).heap.size) := Lib.hid (by simp)
            have hH5 := Lib.hid H5; have hnh := Lib.hid hn
            clear h1 h2 hf1 hf2 H3 H4 H5 HB hn
            go_wp2_with fail
            go_meet
            rw [hE.out, hEB.out]
            exact ⟨A3, c3, l3, Ag3, cg3, Br, c2, Bg, c4, rfl, rfl, hl3, hH5.out, Rd.more h1'.out hsz.out, Rd.more h2'.out hsz.out, hnh.out (fun e => (hng.out e).1)⟩
          · go_wp2_with fail
            obtain ⟨W1, hW1, H1⟩ := H1h.out.name
            have hR4 := (((hS3h.out.alloc (.cells #[.slice none 0 0, .slice none 0 0] 59)).alloc (.cells #[.slice none 0 0, .slice none 0 0] 25)).alloc (.cells #[.int .i64 0, .int .i64 0] 27)).alloc (.cells #[.int .i64 0, .int .i64 0] 27)
            rw [hW1] at hR4 ⊢
            clear hW1
            have hc := sput_any l A c gens Ag cg i g part n hsh.out W1 hR4
            rw [hRh.out.2, putT_right hRh.out.1] at hc
            dsimp only at hc
            have hE : Hid (doneV R gens i g has part n 2 = putV R gens i g part n) := Lib.hid rfl
            have hEB : Hid (toldB R gens has n 2 = (0, 0)) := Lib.hid rfl
            have hp := Lib.hid (fun W hr' hg' => rput_far R gens Av cv Ag cg i g part n (by omega) w.heap.size W.heap.size W hr' hg' (Nat.le_refl _) (rd_afar hgs.out _))
            generalize putV R gens i g part n = E at *
            refine hc.mono ?_
            clear hc hR4 a0 a1 b0 b1 s0 s1
            rintro e w4 ⟨v, rfl, hG⟩
            obtain ⟨A3, c3, l3, Ag3, cg3, rfl, hl3, hH⟩ := hG
            have H2 := H1.join hH
            have q0 := H2.cell 0 0 rfl rfl; have q1 := H2.cell 0 1 rfl rfl; have y0 := H2.frozen 0 0 rfl; have y1 := H2.frozen 0 1 rfl
            have H3 := (H2.set 0 0 (.slice A3 l3.length c3) rfl).set 0 1 (.slice Ag3 E.gens.length cg3) rfl
            have HB := H2h.out.grow (hbelh.out.trans (H3.bel.mono hbelh.out.size))
            have a0 := HB.cell 2 0 rfl rfl; have a1 := HB.cell 2 1 rfl rfl; have b0 := HB.cell 4 0 rfl rfl; have b1 := HB.cell 4 1 rfl rfl
            have hHB := Lib.hid HB; have hH3 := Lib.hid H3
            clear H1 H2 H3 HB hH
            go_wp2_with fail
            obtain ⟨W2, hW2, H3⟩ := hH3.out.name
            have HB := hHB.out
            rw [hW2] at HB ⊢
            clear hW2 hHB hH3 q0 q1 y0 y1 a0 a1 b0 b1
            refine (hp.out W2 (HB.rd 3 rfl) (HB.old hgs.out)).mono ?_
            rintro e w5 ⟨v, rfl, hG2, hb⟩
            obtain ⟨Br, c2, Bg, c4, rfl, h1, h2, hf1, hf2, hn⟩ := hG2
            have ge1 : w.heap.size ≤ wr.heap.size + 1 := by have := hszr.out; omega
            have lt1 := H3.lt 1 rfl
            have H4 := H3.grow hb
            have q0 := H4.cell 1 0 rfl rfl; have q1 := H4.cell 1 1 rfl rfl; have y0 := H4.frozen 1 0 rfl; have y1 := H4.frozen 1 1 rfl
            have H5 := (H4.set 1 0 (.slice Br E.rows.length c2) rfl).set 1 1 (.slice Bg E.gens.length c4) rfl
            have h1' : Hid (RdR ((w5.setCell ⟨wr.heap.size + 1, 0, none⟩ (.slice Br E.rows.length c2)).setCell ⟨wr.heap.size + 1, 1, none⟩ (.slice Bg E.gens.length c4)) w5.heap.size Br E.rows) := Lib.hid (rd_set (rd_set h1 hf1 ge1 lt1 _) hf1 ge1 lt1 _)
            have h2' : Hid (RdG ((w5.setCell ⟨wr.heap.size + 1, 0, none⟩ (.slice Br E.rows.length c2)).setCell ⟨wr.heap.size + 1, 1, none⟩ (.slice Bg E.gens.length c4)) w5.heap.size Bg E.gens) := Lib.hid (rd_set (rd_set h2 hf2 ge1 lt1 _) hf2 ge1 lt1 _)
            have hsz : Hid (w5.heap.size ≤ ((w5.setCell ⟨wr.heap.size + 1, 0, none⟩ (.slice Br E.rows.length c2)).setCell ⟨wr.heap.size + 1, 1, none⟩ (.slice Bg E.gens.length c4)).heap.size) := Lib.hid (by simp)
            have hH5 := Lib.hid H5; have hnh := Lib.hid hn
            clear h1 h2 hf1 hf2 H3 H4 H5 HB hn
            go_wp2_with fail
            go_meet
            rw [hE.out, hEB.out]
            exact ⟨A3, c3, l3, Ag3, cg3, Br, c2, Bg, c4, rfl, rfl, hl3, hH5.out, Rd.more h1'.out hsz.out, Rd.more h2'.out hsz.out, hnh.out (fun e => (hng.out e).1)⟩
          · go_wp2_with fail
            obtain ⟨W1, hW1, H1⟩ := H1h.out.name
            have hR4 := (((hS3h.out.alloc (.cells #[.slice none 0 0, .slice none 0 0] 59)).alloc (.cells #[.slice none 0 0, .slice none 0 0] 25)).alloc (.cells #[.int .i64 0, .int .i64 0] 27)).alloc (.cells #[.int .i64 0, .int .i64 0] 27)
            rw [hW1] at hR4 ⊢
            clear hW1
            have hc := sdrop_any l A c gens Ag cg i g part hsh.out W1 hR4
            rw [hRh.out.2, dropT_right hRh.out.1] at hc
            dsimp only at hc
            have hE : Hid (doneV R gens i g has part n 3 = dropV R gens i g part) := Lib.hid rfl
            have hEB : Hid (toldB R gens has n 3 = (0, 0)) := Lib.hid rfl
            have hp := Lib.hid (fun W hr' hg' => rdrop_far R gens Av cv Ag cg i g part (by omega) w.heap.size W.heap.size W hr' hg' (Nat.le_refl _) (rd_afar hgs.out _))
            generalize dropV R gens i g part = E at *
            refine hc.mono ?_
            clear hc hR4 a0 a1 b0 b1 s0 s1
            rintro e w4 ⟨v, rfl, hG⟩
            obtain ⟨A3, c3, l3, Ag3, cg3, rfl, hl3, hH⟩ := hG
            have H2 := H1.join hH
            have q0 := H2.cell 0 0 rfl rfl; have q1 := H2.cell 0 1 rfl rfl; have y0 := H2.frozen 0 0 rfl; have y1 := H2.frozen 0 1 rfl
            have H3 := (H2.set 0 0 (.slice A3 l3.length c3) rfl).set 0 1 (.slice Ag3 E.gens.length cg3) rfl
            have HB := H2h.out.grow (hbelh.out.trans (H3.bel.mono hbelh.out.size))
            have a0 := HB.cell 2 0 rfl rfl; have a1 := HB.cell 2 1 rfl rfl; have b0 := HB.cell 4 0 rfl rfl; have b1 := HB.cell 4 1 rfl rfl
            have hHB := Lib.hid HB; have hH3 := Lib.hid H3
            clear H1 H2 H3 HB hH
            go_wp2_with fail
            obtain ⟨W2, hW2, H3⟩ := hH3.out.name
            have HB := hHB.out
            rw [hW2] at HB ⊢
            clear hW2 hHB hH3 q0 q1 y0 y1 a0 a1 b0 b1
            refine (hp.out W2 (HB.rd 3 rfl) (HB.old hgs.out)).mono ?_
            rintro e w5 ⟨v, rfl, hG2, hb⟩
            obtain ⟨Br, c2, Bg, c4, rfl, h1, h2, hf1, hf2, hn⟩ := hG2
            have ge1 : w.heap.size ≤ wr.heap.size + 1 := by have := hszr.out; omega
            have lt1 := H3.lt 1 rfl
            have H4 := H3.grow hb
            have q0 := H4.cell 1 0 rfl rfl; have q1 := H4.cell 1 1 rfl rfl; have y0 := H4.frozen 1 0 rfl; have y1 := H4.frozen 1 1 rfl
            have H5 := (H4.set 1 0 (.slice Br E.rows.length c2) rfl).set 1 1 (.slice Bg E.gens.length c4) rfl
            have h1' : Hid (RdR ((w5.setCell ⟨wr.heap.size + 1, 0, none⟩ (.slice Br E.rows.length c2)).setCell ⟨wr.heap.size + 1, 1, none⟩ (.slice Bg E.gens.length c4)) w5.heap.size Br E.rows) := Lib.hid (rd_set (rd_set h1 hf1 ge1 lt1 _) hf1 ge1 lt1 _)
            have h2' : Hid (RdG ((w5.setCell ⟨wr.heap.size + 1, 0, none⟩ (.slice Br E.rows.length c2)).setCell ⟨wr.heap.size + 1, 1, none⟩ (.slice Bg E.gens.length c4)) w5.heap.size Bg E.gens) := Lib.hid (rd_set (rd_set h2 hf2 ge1 lt1 _) hf2 ge1 lt1 _)
            have hsz : Hid (w5.heap.size ≤ ((w5.setCell ⟨wr.heap.size + 1, 0, none⟩ (.slice Br E.rows.length c2)).setCell ⟨wr.heap.size + 1, 1, none⟩ (.slice Bg E.gens.length c4)).heap.size) := Lib.hid (by simp)
            have hH5 := Lib.hid H5; have hnh := Lib.hid hn
            clear h1 h2 hf1 hf2 H3 H4 H5 HB hn
            go_wp2_with fail
            go_meet
            rw [hE.out, hEB.out]
            exact ⟨A3, c3, l3, Ag3, cg3, Br, c2, Bg, c4, rfl, rfl, hl3, hH5.out, Rd.more h1'.out hsz.out, Rd.more h2'.out hsz.out, hnh.out (fun e => (hng.out e).1)⟩
        case rest =>
          obtain ⟨A3, c3, l3, Ag3, cg3, Br, c2, Bg, c4, rfl, rfl, hl3, H, hYr, hYg, hYn⟩ := hcut
          have hok := Lib.hid (@done_ok R gens i g has part n k)
          have hbad := Lib.hid (@done_bad R gens i g has part n k)
          generalize doneV R gens i g has part n k = D at *
          generalize toldB R gens has n k = B at *
          obtain ⟨er, eg, ee⟩ := D
          obtain ⟨bi, bg⟩ := B
          dsimp only at hok hbad hl3 H hYr hYg ⊢
          have hne := fun W => neBeing bi bg bi bg W
          simp only [beq_self_eq_true, Bool.and_self, Bool.not_true] at hne
          have hY : Hid (RdR wc wc.heap.size Br er ∧ RdG wc wc.heap.size Bg eg ∧ (Bg = none → c4 = 0)) := Lib.hid ⟨hYr, hYg, hYn⟩
          have hG : GotSt wr wc (.agg #[.slice A3 l3.length c3, .slice Ag3 eg.length cg3]) (tabsW er) eg := ⟨A3, c3, l3, Ag3, cg3, rfl, hl3, H.sub (List.sublist_append_right _ _)⟩
          have hHh := Lib.hid H
          clear H hl3 H1h hS3h a0 a1 b0 b1 s0 s1 l0 l1 l2 hYr hYg hYn
          go_upto_region 31 with fail
          go_cut [221] (fun s wx => s = .bool false ∧ Below wc.heap.size wc wx)
          case first =>
            by_cases hee : ee = 0
            · subst hee
              have hRe := Lib.hid (hok.out rfl).is
              have hXh := Lib.hid (hG.seen (fun l4 h4 => right_small hRe.out h4))
              clear hok hbad hG
              refine wp_region_pred mixed (by kernel_rfl) (by kernel_rfl) (fun q => ([true, true, true, true, true, true, true, true, true, true, true, true, true, true, true, true, true, true, true, true, true, true, true, false, false, false, false, true, true] : List Bool).getD q true) (fun j w' v => if j = 14 then SeenT w' v (tabsW er) eg else v = tab [.int .i64 0, .int .i64 0, .bool false, .bool false, .agg #[.int .i64 bi, .int .i64 bg], .agg #[.int .i64 bi, .int .i64 bg], .bool false, .bool false, .bool false, .int .i64 0, .bool true, .bool true, .agg #[.slice A3 l3.length c3, .slice Ag3 eg.length cg3], .agg #[.slice Br er.length c2, .slice Bg eg.length c4], undef, .bool true, .bool false, .bool false, .bool false, .bool false, .int .i64 0, .bool false, .bool false, undef, undef, undef, undef, .bool false, .bool false] j) ?_ ?_ ?_ ?_ ?_
              · intro j w' w'' v h hb
                by_cases h14 : j = 14
                · simp only [h14, if_true, if_false, Nat.reduceEqDiff] at h ⊢
                  exact SeenT.grow h hb
                rw [if_neg h14] at h ⊢
                exact h
              · intro q op ho
                have hi : q < 29 := lt_of_some ho
                match q, hi, ho with
                | 0, _, ho | 1, _, ho | 2, _, ho | 3, _, ho | 7, _, ho | 8, _, ho | 18, _, ho | 19, _, ho | 28, _, ho =>
                  obtain rfl := Option.some.inj ho
                  rfl
                | 4, _, ho | 5, _, ho | 6, _, ho =>
                  obtain rfl := Option.some.inj ho
                  intro w' v h
                  have h' : v = .bool false := h
                  subst h'
                  rfl
                | 9, _, ho | 10, _, ho | 11, _, ho | 17, _, ho =>
                  obtain rfl := Option.some.inj ho
                  intro w' v h
                  have h' : v = .bool false := h
                  subst h'
                  rfl
                | 12, _, ho | 13, _, ho | 14, _, ho | 15, _, ho | 16, _, ho =>
                  obtain rfl := Option.some.inj ho
                  intro w' v h
                  have h' : v = .bool true := h
                  subst h'
                  rfl
                | 20, _, ho | 21, _, ho | 22, _, ho | 27, _, ho =>
                  obtain rfl := Option.some.inj ho
                  intro w' v h
                  have h' : v = .bool false := h
                  subst h'
                  rfl
                | 23, _, ho | 24, _, ho | 25, _, ho | 26, _, ho =>
                  obtain rfl := Option.some.inj ho
                  intro w' v h
                  have h' : v = .bool false := h
                  subst h'
                  rfl
              · intro q w' h
                by_cases hq : q < 29
                · match q, hq, h with
                  | 23, _, _ | 24, _, _ | 25, _, _ | 26, _, _ => rfl
                  | 0, _, h | 1, _, h | 2, _, h | 3, _, h | 4, _, h | 5, _, h | 6, _, h | 7, _, h | 8, _, h | 9, _, h | 10, _, h | 11, _, h | 12, _, h | 13, _, h | 14, _, h | 15, _, h | 16, _, h | 17, _, h | 18, _, h | 19, _, h | 20, _, h | 21, _, h | 22, _, h | 27, _, h | 28, _, h => cases h
                · exfalso
                  rw [List.getD_eq_getElem?_getD, List.getElem?_eq_none (by simp; omega)] at h
                  cases h
              · intro vs w' hb hv
                have h28 : vs 28 = .bool false := hv 28 (by decide)
                rw [putAll_tab _ _ _ _ [(some 193, vs 0), (some 194, vs 1), (some 195, vs 2), (some 196, vs 3), (some 197, vs 4), (some 198, vs 5), (some 199, vs 6), (some 200, vs 7), (some 201, vs 8), (some 202, vs 9), (some 203, vs 10), (some 204, vs 11), (some 205, vs 12), (some 206, vs 13), (some 207, vs 14), (some 208, vs 15), (some 209, vs 16), (some 210, vs 17), (some 211, vs 18), (some 212, vs 19), (some 213, vs 20), (some 214, vs 21), (some 215, vs 22), (some 216, vs 23), (some 217, vs 24), (some 218, vs 25), (some 219, vs 26), (some 220, vs 27), (some 221, vs 28)] rfl]
                simp only [putL_eq, putT, List.set_cons_succ, List.set_cons_zero]
                rw [h28]
                clear hv h28
                go_wp2_with fail
                go_meet
                exact ⟨rfl, hb⟩
              · intro q op ho hG act w' hb hv hwas K hK
                have e23 := hwas 23 rfl
                have e24 := hwas 24 rfl
                have e25 := hwas 25 rfl
                have e26 := hwas 26 rfl
                have e27 := hwas 27 rfl
                have e28 := hwas 28 rfl
                simp at e23 e24 e25 e26 e27 e28
                have H := hHh.out.grow hb
                have hX := hXh.out.grow hb
                have hYr := Rd.grow hY.out.1 hb
                have hYg := Rd.grow hY.out.2.1 hb
                have q0 := H.cell 0 0 rfl rfl; have q1 := H.cell 0 1 rfl rfl; have q2 := H.cell 1 0 rfl rfl; have q3 := H.cell 1 1 rfl rfl; have q4 := H.cell 2 0 rfl rfl; have q5 := H.cell 2 1 rfl rfl; have q6 := H.cell 3 0 rfl rfl; have q7 := H.cell 3 1 rfl rfl
                have hi : q < 29 := lt_of_some ho
                match q, hi, ho, hG, hK, hv with
                | 0, _, ho, hG, hK, hv =>
                  obtain rfl := Option.some.inj ho
                  clear hv hwas
                  go_simp
                  exact hK _ _ (Below.refl _ _) rfl
                | 1, _, ho, hG, hK, hv =>
                  obtain rfl := Option.some.inj ho
                  clear hv hwas
                  go_simp
                  exact hK _ _ (Below.refl _ _) rfl
                | 2, _, ho, hG, hK, hv =>
                  obtain rfl := Option.some.inj ho
                  have x193 : act.tmps[193]?.getD undef = .int .i64 0 := hv 0 193 rfl rfl
                  have x194 : act.tmps[194]?.getD undef = .int .i64 0 := hv 1 194 rfl rfl
                  clear hv hwas
                  go_simp
                  exact hK _ _ (Below.refl _ _) rfl
                | 3, _, ho, hG, hK, hv =>
                  obtain rfl := Option.some.inj ho
                  have x195 : act.tmps[195]?.getD undef = .bool false := hv 2 195 rfl rfl
                  clear hv hwas
                  go_simp
                  exact hK _ _ (Below.refl _ _) rfl
                | 4, _, ho, hG, hK, hv =>
                  obtain rfl := Option.some.inj ho
                  clear hv hwas
                  go_simp
                  exact hK _ _ (Below.refl _ _) rfl
                | 5, _, ho, hG, hK, hv =>
                  obtain rfl := Option.some.inj ho
                  clear hv hwas
                  go_simp
                  exact hK _ _ (Below.refl _ _) rfl
                | 6, _, ho, hG, hK, hv =>
                  obtain rfl := Option.some.inj ho
                  have x197 : act.tmps[197]?.getD undef = .agg #[.int .i64 bi, .int .i64 bg] := hv 4 197 rfl rfl
                  have x198 : act.tmps[198]?.getD undef = .agg #[.int .i64 bi, .int .i64 bg] := hv 5 198 rfl rfl
                  clear hv hwas
                  go_simp
                  exact hK _ _ (Below.refl _ _) rfl
                | 7, _, ho, hG, hK, hv =>
                  obtain rfl := Option.some.inj ho
                  have x196 : act.tmps[196]?.getD undef = .bool false := hv 3 196 rfl rfl
                  have x199 : act.tmps[199]?.getD undef = .bool false := hv 6 199 rfl rfl
                  clear hv hwas
                  go_simp
                  exact hK _ _ (Below.refl _ _) rfl
                | 8, _, ho, hG, hK, hv =>
                  obtain rfl := Option.some.inj ho
                  have x200 : act.tmps[200]?.getD undef = .bool false := hv 7 200 rfl rfl
                  clear hv hwas
                  go_simp
                  exact hK _ _ (Below.refl _ _) rfl
                | 9, _, ho, hG, hK, hv =>
                  obtain rfl := Option.some.inj ho
                  clear hv hwas
                  go_simp
                  exact hK _ _ (Below.refl _ _) rfl
                | 10, _, ho, hG, hK, hv =>
                  obtain rfl := Option.some.inj ho
                  have x202 : act.tmps[202]?.getD undef = .int .i64 0 := hv 9 202 rfl rfl
                  clear hv hwas
                  go_simp
                  exact hK _ _ (Below.refl _ _) rfl
                | 11, _, ho, hG, hK, hv =>
                  obtain rfl := Option.some.inj ho
                  have x203 : act.tmps[203]?.getD undef = .bool true := hv 10 203 rfl rfl
                  clear hv hwas
                  go_simp
                  exact hK _ _ (Below.refl _ _) rfl
                | 12, _, ho, hG, hK, hv =>
                  obtain rfl := Option.some.inj ho
                  clear hv hwas
                  go_simp
                  exact hK _ _ (Below.refl _ _) rfl
                | 13, _, ho, hG, hK, hv =>
                  obtain rfl := Option.some.inj ho
                  clear hv hwas
                  go_simp
                  exact hK _ _ (Below.refl _ _) rfl
                | 14, _, ho, hG, hK, hv =>
                  obtain rfl := Option.some.inj ho
                  have x206 : act.tmps[206]?.getD undef = .agg #[.slice Br er.length c2, .slice Bg eg.length c4] := hv 13 206 rfl rfl
                  clear hv hwas
                  go_simp
                  refine (of_seen hRe.out hYr hYg hY.out.2.2).mono ?_
                  rintro e w'' ⟨v, rfl, hG, hb''⟩
                  exact hK _ _ hb'' hG
                | 15, _, ho, hG, hK, hv =>
                  obtain rfl := Option.some.inj ho
                  have x205 : act.tmps[205]?.getD undef = .agg #[.slice A3 l3.length c3, .slice Ag3 eg.length cg3] := hv 12 205 rfl rfl
                  have x207 := hv 14 207 rfl rfl
                  simp only [if_true, if_false, Nat.reduceEqDiff] at x207
                  obtain ⟨v207, x207, hv207⟩ : ∃ v, act.tmps[207]?.getD undef = v ∧ SeenT w' v (tabsW er) eg := ⟨_, rfl, x207⟩
                  clear hv hwas
                  go_simp
                  refine (samest_seen hX hv207).mono ?_
                  rintro e w'' ⟨rfl, hb''⟩
                  exact hK _ _ hb'' rfl
                | 16, _, ho, hG, hK, hv =>
                  obtain rfl := Option.some.inj ho
                  have x208 : act.tmps[208]?.getD undef = .bool true := hv 15 208 rfl rfl
                  clear hv hwas
                  go_simp
                  exact hK _ _ (Below.refl _ _) rfl
                | 17, _, ho, hG, hK, hv =>
                  obtain rfl := Option.some.inj ho
                  have x204 : act.tmps[204]?.getD undef = .bool true := hv 11 204 rfl rfl
                  have x209 : act.tmps[209]?.getD undef = .bool false := hv 16 209 rfl rfl
                  clear hv hwas
                  go_simp
                  exact hK _ _ (Below.refl _ _) rfl
                | 18, _, ho, hG, hK, hv =>
                  obtain rfl := Option.some.inj ho
                  have x201 : act.tmps[201]?.getD undef = .bool false := hv 8 201 rfl rfl
                  have x210 : act.tmps[210]?.getD undef = .bool false := hv 17 210 rfl rfl
                  clear hv hwas
                  go_simp
                  exact hK _ _ (Below.refl _ _) rfl
                | 19, _, ho, hG, hK, hv =>
                  obtain rfl := Option.some.inj ho
                  have x211 : act.tmps[211]?.getD undef = .bool false := hv 18 211 rfl rfl
                  clear hv hwas
                  go_simp
                  exact hK _ _ (Below.refl _ _) rfl
                | 20, _, ho, hG, hK, hv =>
                  obtain rfl := Option.some.inj ho
                  clear hv hwas
                  go_simp
                  exact hK _ _ (Below.refl _ _) rfl
                | 21, _, ho, hG, hK, hv =>
                  obtain rfl := Option.some.inj ho
                  have x213 : act.tmps[213]?.getD undef = .int .i64 0 := hv 20 213 rfl rfl
                  clear hv hwas
                  go_simp
                  exact hK _ _ (Below.refl _ _) rfl
                | 22, _, ho, hG, hK, hv =>
                  obtain rfl := Option.some.inj ho
                  have x214 : act.tmps[214]?.getD undef = .bool false := hv 21 214 rfl rfl
                  clear hv hwas
                  go_simp
                  exact hK _ _ (Below.refl _ _) rfl
                | 23, _, ho, hG, hK, hv => cases hG
                | 24, _, ho, hG, hK, hv => cases hG
                | 25, _, ho, hG, hK, hv => cases hG
                | 26, _, ho, hG, hK, hv => cases hG
                | 27, _, ho, hG, hK, hv =>
                  obtain rfl := Option.some.inj ho
                  have x215 : act.tmps[215]?.getD undef = .bool false := hv 22 215 rfl rfl
                  clear hv hwas
                  go_simp
                  exact hK _ _ (Below.refl _ _) rfl
                | 28, _, ho, hG, hK, hv =>
                  obtain rfl := Option.some.inj ho
                  have x212 : act.tmps[212]?.getD undef = .bool false := hv 19 212 rfl rfl
                  have x220 : act.tmps[220]?.getD undef = .bool false := hv 27 220 rfl rfl
                  clear hv hwas
                  go_simp
                  exact hK _ _ (Below.refl _ _) rfl
            · have hee' : (ee == 0) = false := by simpa using hee
              have hee2 : (ee != 0) = true := by simpa using hee
              obtain ⟨d1, d2⟩ := hbad.out hee
              have hXh : Hid (SeenT wc (.agg #[.slice A3 l3.length c3, .slice Ag3 eg.length cg3]) [] []) := Lib.hid (by
                rw [d1, d2] at hG
                rw [d2]
                exact hG.seen (fun l4 h4 => by
                  have : l4 = [] := List.map_eq_nil_iff.1 h4
                  subst this
                  exact small_nil))
              clear hok hbad hG d1 d2
              refine wp_region_pred mixed (by kernel_rfl) (by kernel_rfl) (fun q => ([true, true, true, true, true, true, true, true, true, true, true, true, false, false, false, false, false, true, true, true, true, true, true, true, true, true, true, true, true] : List Bool).getD q true) (fun j w' v => v = tab [.int .i64 ee, .int .i64 ee, .bool false, .bool false, .agg #[.int .i64 bi, .int .i64 bg], .agg #[.int .i64 bi, .int .i64 bg], .bool false, .bool false, .bool false, .int .i64 ee, .bool false, .bool false, undef, undef, undef, undef, undef, .bool false, .bool false, .bool false, .int .i64 ee, .bool true, .bool true, .agg #[.slice A3 l3.length c3, .slice Ag3 eg.length cg3], .agg #[.slice none 0 0, .slice none 0 0], .bool true, .bool false, .bool false, .bool false] j) ?_ ?_ ?_ ?_ ?_
              · intro j w' w'' v h hb; exact h
              · intro q op ho
                have hi : q < 29 := lt_of_some ho
                match q, hi, ho with
                | 0, _, ho | 1, _, ho | 2, _, ho | 3, _, ho | 7, _, ho | 8, _, ho | 18, _, ho | 19, _, ho | 28, _, ho =>
                  obtain rfl := Option.some.inj ho
                  rfl
                | 4, _, ho | 5, _, ho | 6, _, ho =>
                  obtain rfl := Option.some.inj ho
                  intro w' v h
                  have h' : v = .bool false := h
                  subst h'
                  rfl
                | 9, _, ho | 10, _, ho | 11, _, ho | 17, _, ho =>
                  obtain rfl := Option.some.inj ho
                  intro w' v h
                  have h' : v = .bool false := h
                  subst h'
                  rfl
                | 12, _, ho | 13, _, ho | 14, _, ho | 15, _, ho | 16, _, ho =>
                  obtain rfl := Option.some.inj ho
                  intro w' v h
                  have h' : v = .bool false := h
                  subst h'
                  rfl
                | 20, _, ho | 21, _, ho | 22, _, ho | 27, _, ho =>
                  obtain rfl := Option.some.inj ho
                  intro w' v h
                  have h' : v = .bool false := h
                  subst h'
                  rfl
                | 23, _, ho | 24, _, ho | 25, _, ho | 26, _, ho =>
                  obtain rfl := Option.some.inj ho
                  intro w' v h
                  have h' : v = .bool true := h
                  subst h'
                  rfl
              · intro q w' h
                by_cases hq : q < 29
                · match q, hq, h with
                  | 12, _, _ | 13, _, _ | 14, _, _ | 15, _, _ | 16, _, _ => rfl
                  | 0, _, h | 1, _, h | 2, _, h | 3, _, h | 4, _, h | 5, _, h | 6, _, h | 7, _, h | 8, _, h | 9, _, h | 10, _, h | 11, _, h | 17, _, h | 18, _, h | 19, _, h | 20, _, h | 21, _, h | 22, _, h | 23, _, h | 24, _, h | 25, _, h | 26, _, h | 27, _, h | 28, _, h => cases h
                · exfalso
                  rw [List.getD_eq_getElem?_getD, List.getElem?_eq_none (by simp; omega)] at h
                  cases h
              · intro vs w' hb hv
                have h28 : vs 28 = .bool false := hv 28 (by decide)
                rw [putAll_tab _ _ _ _ [(some 193, vs 0), (some 194, vs 1), (some 195, vs 2), (some 196, vs 3), (some 197, vs 4), (some 198, vs 5), (some 199, vs 6), (some 200, vs 7), (some 201, vs 8), (some 202, vs 9), (some 203, vs 10), (some 204, vs 11), (some 205, vs 12), (some 206, vs 13), (some 207, vs 14), (some 208, vs 15), (some 209, vs 16), (some 210, vs 17), (some 211, vs 18), (some 212, vs 19), (some 213, vs 20), (some 214, vs 21), (some 215, vs 22), (some 216, vs 23), (some 217, vs 24), (some 218, vs 25), (some 219, vs 26), (some 220, vs 27), (some 221, vs 28)] rfl]
                simp only [putL_eq, putT, List.set_cons_succ, List.set_cons_zero]
                rw [h28]
                clear hv h28
                go_wp2_with fail
                go_meet
                exact ⟨rfl, hb⟩
              · intro q op ho hG act w' hb hv hwas K hK
                have e23 := hwas 23 rfl
                have e25 := hwas 25 rfl
                have e26 := hwas 26 rfl
                have e27 := hwas 27 rfl
                have e28 := hwas 28 rfl
                simp at e23 e25 e26 e27 e28
                have H := hHh.out.grow hb
                have hX := hXh.out.grow hb
                have hYr := Rd.grow hY.out.1 hb
                have hYg := Rd.grow hY.out.2.1 hb
                have q0 := H.cell 0 0 rfl rfl; have q1 := H.cell 0 1 rfl rfl; have q2 := H.cell 1 0 rfl rfl; have q3 := H.cell 1 1 rfl rfl; have q4 := H.cell 2 0 rfl rfl; have q5 := H.cell 2 1 rfl rfl; have q6 := H.cell 3 0 rfl rfl; have q7 := H.cell 3 1 rfl rfl
                have hi : q < 29 := lt_of_some ho
                match q, hi, ho, hG, hK, hv with
                | 0, _, ho, hG, hK, hv =>
                  obtain rfl := Option.some.inj ho
                  clear hv hwas
                  go_simp
                  exact hK _ _ (Below.refl _ _) rfl
                | 1, _, ho, hG, hK, hv =>
                  obtain rfl := Option.some.inj ho
                  clear hv hwas
                  go_simp
                  exact hK _ _ (Below.refl _ _) rfl
                | 2, _, ho, hG, hK, hv =>
                  obtain rfl := Option.some.inj ho
                  have x193 : act.tmps[193]?.getD undef = .int .i64 ee := hv 0 193 rfl rfl
                  have x194 : act.tmps[194]?.getD undef = .int .i64 ee := hv 1 194 rfl rfl
                  clear hv hwas
                  go_simp
                  exact hK _ _ (Below.refl _ _) rfl
                | 3, _, ho, hG, hK, hv =>
                  obtain rfl := Option.some.inj ho
                  have x195 : act.tmps[195]?.getD undef = .bool false := hv 2 195 rfl rfl
                  clear hv hwas
                  go_simp
                  exact hK _ _ (Below.refl _ _) rfl
                | 4, _, ho, hG, hK, hv =>
                  obtain rfl := Option.some.inj ho
                  clear hv hwas
                  go_simp
                  exact hK _ _ (Below.refl _ _) rfl
                | 5, _, ho, hG, hK, hv =>
                  obtain rfl := Option.some.inj ho
                  clear hv hwas
                  go_simp
                  exact hK _ _ (Below.refl _ _) rfl
                | 6, _, ho, hG, hK, hv =>
                  obtain rfl := Option.some.inj ho
                  have x197 : act.tmps[197]?.getD undef = .agg #[.int .i64 bi, .int .i64 bg] := hv 4 197 rfl rfl
                  have x198 : act.tmps[198]?.getD undef = .agg #[.int .i64 bi, .int .i64 bg] := hv 5 198 rfl rfl
                  clear hv hwas
                  go_simp
                  exact hK _ _ (Below.refl _ _) rfl
                | 7, _, ho, hG, hK, hv =>
                  obtain rfl := Option.some.inj ho
                  have x196 : act.tmps[196]?.getD undef = .bool false := hv 3 196 rfl rfl
                  have x199 : act.tmps[199]?.getD undef = .bool false := hv 6 199 rfl rfl
                  clear hv hwas
                  go_simp
                  exact hK _ _ (Below.refl _ _) rfl
                | 8, _, ho, hG, hK, hv =>
                  obtain rfl := Option.some.inj ho
                  have x200 : act.tmps[200]?.getD undef = .bool false := hv 7 200 rfl rfl
                  clear hv hwas
                  go_simp
                  exact hK _ _ (Below.refl _ _) rfl
                | 9, _, ho, hG, hK, hv =>
                  obtain rfl := Option.some.inj ho
                  clear hv hwas
                  go_simp
                  exact hK _ _ (Below.refl _ _) rfl
                | 10, _, ho, hG, hK, hv =>
                  obtain rfl := Option.some.inj ho
                  have x202 : act.tmps[202]?.getD undef = .int .i64 ee := hv 9 202 rfl rfl
                  clear hv hwas
                  go_simp
                  exact hK _ _ (Below.refl _ _) rfl
                | 11, _, ho, hG, hK, hv =>
                  obtain rfl := Option.some.inj ho
                  have x203 : act.tmps[203]?.getD undef = .bool false := hv 10 203 rfl rfl
                  clear hv hwas
                  go_simp
                  exact hK _ _ (Below.refl _ _) rfl
                | 12, _, ho, hG, hK, hv => cases hG
                | 13, _, ho, hG, hK, hv => cases hG
                | 14, _, ho, hG, hK, hv => cases hG
                | 15, _, ho, hG, hK, hv => cases hG
                | 16, _, ho, hG, hK, hv => cases hG
                | 17, _, ho, hG, hK, hv =>
                  obtain rfl := Option.some.inj ho
                  have x204 : act.tmps[204]?.getD undef = .bool false := hv 11 204 rfl rfl
                  clear hv hwas
                  go_simp
                  exact hK _ _ (Below.refl _ _) rfl
                | 18, _, ho, hG, hK, hv =>
                  obtain rfl := Option.some.inj ho
                  have x201 : act.tmps[201]?.getD undef = .bool false := hv 8 201 rfl rfl
                  have x210 : act.tmps[210]?.getD undef = .bool false := hv 17 210 rfl rfl
                  clear hv hwas
                  go_simp
                  exact hK _ _ (Below.refl _ _) rfl
                | 19, _, ho, hG, hK, hv =>
                  obtain rfl := Option.some.inj ho
                  have x211 : act.tmps[211]?.getD undef = .bool false := hv 18 211 rfl rfl
                  clear hv hwas
                  go_simp
                  exact hK _ _ (Below.refl _ _) rfl
                | 20, _, ho, hG, hK, hv =>
                  obtain rfl := Option.some.inj ho
                  clear hv hwas
                  go_simp
                  exact hK _ _ (Below.refl _ _) rfl
                | 21, _, ho, hG, hK, hv =>
                  obtain rfl := Option.some.inj ho
                  have x213 : act.tmps[213]?.getD undef = .int .i64 ee := hv 20 213 rfl rfl
                  clear hv hwas
                  go_simp
                  exact hK _ _ (Below.refl _ _) rfl
                | 22, _, ho, hG, hK, hv =>
                  obtain rfl := Option.some.inj ho
                  have x214 : act.tmps[214]?.getD undef = .bool true := hv 21 214 rfl rfl
                  clear hv hwas
                  go_simp
                  exact hK _ _ (Below.refl _ _) rfl
                | 23, _, ho, hG, hK, hv =>
                  obtain rfl := Option.some.inj ho
                  clear hv hwas
                  go_simp
                  exact hK _ _ (Below.refl _ _) rfl
                | 24, _, ho, hG, hK, hv =>
                  obtain rfl := Option.some.inj ho
                  clear hv hwas
                  go_simp
                  exact hK _ _ (Below.refl _ _) rfl
                | 25, _, ho, hG, hK, hv =>
                  obtain rfl := Option.some.inj ho
                  have x216 : act.tmps[216]?.getD undef = .agg #[.slice A3 l3.length c3, .slice Ag3 eg.length cg3] := hv 23 216 rfl rfl
                  have x217 : act.tmps[217]?.getD undef = .agg #[.slice none 0 0, .slice none 0 0] := hv 24 217 rfl rfl
                  clear hv hwas
                  go_simp
                  refine (samest_seen hX (SeenT.zero w')).mono ?_
                  rintro e w'' ⟨rfl, hb''⟩
                  exact hK _ _ hb'' rfl
                | 26, _, ho, hG, hK, hv =>
                  obtain rfl := Option.some.inj ho
                  have x218 : act.tmps[218]?.getD undef = .bool true := hv 25 218 rfl rfl
                  clear hv hwas
                  go_simp
                  exact hK _ _ (Below.refl _ _) rfl
                | 27, _, ho, hG, hK, hv =>
                  obtain rfl := Option.some.inj ho
                  have x215 : act.tmps[215]?.getD undef = .bool true := hv 22 215 rfl rfl
                  have x219 : act.tmps[219]?.getD undef = .bool false := hv 26 219 rfl rfl
                  clear hv hwas
                  go_simp
                  exact hK _ _ (Below.refl _ _) rfl
                | 28, _, ho, hG, hK, hv =>
                  obtain rfl := Option.some.inj ho
                  have x212 : act.tmps[212]?.getD undef = .bool false := hv 19 212 rfl rfl
                  have x220 : act.tmps[220]?.getD undef = .bool false := hv 27 220 rfl rfl
                  clear hv hwas
                  go_simp
                  exact hK _ _ (Below.refl _ _) rfl
          obtain ⟨rfl, hb⟩ := hcut
          have HB := Lib.hid (hbelh.out.trans ((hHh.out.grow hb).bel.mono hbelh.out.size))
          clear hHh hb hY hG hok hbad
          go_wp2_with fail
          go_roundw
          case rel => exact ⟨k + 1, by omega, by go_num, HB.out⟩
          case measure => simp [intOf]; omega
      · obtain rfl : k = 4 := by omega
        have H := Lib.hid (H2h.out.grow hbel)
        go_wp2_with fail
        go_ret
        exact ⟨rfl, H.out.bel⟩
end Go.Proofs.Ytefdblaolmckmab
