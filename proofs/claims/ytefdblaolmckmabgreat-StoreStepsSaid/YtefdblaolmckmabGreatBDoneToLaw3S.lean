/- Which of four is done with a world. The walks of the reference's Row and Same. The walk of StoreSteps. -/
import Derived.Test.YtefdblaolmckmabGreatBSpecSToSpecU
import Derived.Test.YtefdblaolmckmabGreatBSpecOToSpecR
import Derived.Test.YtefdblaolmckmabGreatBRef2MToRunG
import Derived.Test.YtefdblaolmckmabGreatBStoMToStoQ
import Derived.Test.YtefdblaolmckmabGreatBStoBToKg
namespace Go.Proofs.YtefdblaolmckmabGreat
open Brood
set_option linter.unusedVariables false
set_option linter.unusedSimpArgs false
def doneV (rows : List BRow) (gens : List Int) (i g has part n : Int) (k : Nat) : Changed :=
  match k with
  | 0 => ⟨(spawnV rows gens has n).rows, (spawnV rows gens has n).gens, (spawnV rows gens has n).err⟩
  | 1 => killV rows gens i g
  | 2 => putV rows gens i g part n
  | _ => dropV rows gens i g part
structure DoneOk (rows : List BRow) (gens : List Int) (i g : Int) (E : Changed) : Prop where
  is : RightW E.rows E.gens
  stay : ∀ (i' g' : Int) (p : BRow), ¬ (i' = i ∧ g' = g) → rowOf i' g' rows = some p → rowOf i' g' E.rows = some p
theorem done_ok {rows : List BRow} {gens : List Int} {i g has part n : Int} (k : Nat) (h : (doneV rows gens i g has part n k).err = 0) : DoneOk rows gens i g (doneV rows gens i g has part n k) := by
  match k with
  | 0 =>
    have hS := spawn_ok (rows := rows) (gens := gens) (has := has) (n := n) h
    exact ⟨hS.is, fun i' g' p _ hp => hS.stay hp⟩
  | 1 =>
    have hK := kill_ok (rows := rows) (gens := gens) (i := i) (g := g) h
    exact ⟨hK.is, fun i' g' p hne hp => (hK.rest hne).trans hp⟩
  | 2 =>
    obtain ⟨k, r, hC⟩ := change_ok (rows := rows) (gens := gens) (i := i) (g := g) (fr := putF part n) h
    exact ⟨hC.is (putF_ok part n), fun i' g' p hne hp => (hC.rest (putF_ok part n) hne).trans hp⟩
  | k + 3 =>
    obtain ⟨k, r, hC⟩ := change_ok (rows := rows) (gens := gens) (i := i) (g := g) (fr := dropF part) h
    exact ⟨hC.is (dropF_ok part), fun i' g' p hne hp => (hC.rest (dropF_ok part) hne).trans hp⟩
end Go.Proofs.YtefdblaolmckmabGreat

namespace Go.Proofs.YtefdblaolmckmabGreat
open Go.RowKit
open Brood
set_option linter.unusedVariables false
set_option linter.unusedSimpArgs false
set_option maxRecDepth 20000 in
set_option maxHeartbeats 6400000 in
theorem rsame_any (rows : List BRow) (gens : List Int) (Ar : Option Addr) (cr : Nat) (Ag : Option Addr) (cg : Nat) (Ar' : Option Addr) (cr' : Nat) (Ag' : Option Addr) (cg' : Nat) (hlr : rows.length ≤ 9223372036854775807) (hlg : gens.length ≤ 9223372036854775807)
    (w : World) (hr : RdR w w.heap.size Ar rows) (hr' : RdR w w.heap.size Ar' rows) (hg : RdG w w.heap.size Ag gens) (hg' : RdG w w.heap.size Ag' gens) :
    Calls Tryz.prog 24 #[.agg #[.slice Ar rows.length cr, .slice Ag gens.length cg], .agg #[.slice Ar' rows.length cr', .slice Ag' gens.length cg']] w fun e w' => e = .returned (.bool true) ∧ Below w.heap.size w w' := by
  have H0 := ((Hp.start w).new w.heap.size rfl 64 [.slice Ar rows.length cr, .slice Ag gens.length cg]).new (w.heap.size + 1) (by simp) 64 [.slice Ar' rows.length cr', .slice Ag' gens.length cg']
  go_enter Tryz.func24, Tryz.ntmps24
  go_wp2_with fail
  go_loopw [26] (fun q wr => ∃ k : Nat, k ≤ rows.length ∧ q = .int .i64 k ∧ Hp w wr [.box w.heap.size 64 [.slice Ar rows.length cr, .slice Ag gens.length cg], .box (w.heap.size + 1) 64 [.slice Ar' rows.length cr', .slice Ag' gens.length cg']]) (fun q _ => rows.length - (intOf q).toNat)
  case atStart => exact ⟨0, by omega, rfl, H0⟩
  case round =>
    clear H0
    obtain ⟨k, hk, rfl, H⟩ := hrel
    by_cases hlt : k < rows.length
    · have hR1 : RdR wr w.heap.size Ar rows := Rd.under hr H.bel (Nat.le_refl _)
      have hR2 : RdR wr w.heap.size Ar' rows := Rd.under hr' H.bel (Nat.le_refl _)
      obtain ⟨b1, off, rfl, hb1, hrow⟩ := hR1.at_ hlt
      obtain ⟨b2, off2, rfl, hb2, hrow2⟩ := hR2.at_ hlt
      clear hR1 hR2
      generalize rows[k] = r at *
      have i0 : (0 : Int) ≤ (k : Int) := by omega
      have i1 : (k : Int) < (rows.length : Int) := by omega
      have e0 := H.cell 0 0 rfl rfl; have e1 := H.cell 1 0 rfl rfl
      have hq := fun W => neRow r r W
      obtain ⟨c0, c1, c2⟩ := hrow.head
      obtain ⟨d0, d1, d2⟩ := hrow2.head
      obtain ⟨idx, gen, has, vals, h8⟩ := r
      obtain ⟨a0, a1, a2, a3, a4, a5, a6, a7, rfl⟩ := vals_eight h8
      have v0 := hrow 3 (.int .i64 a0) rfl; have v1 := hrow 4 (.int .i64 a1) rfl; have v2 := hrow 5 (.int .i64 a2) rfl; have v3 := hrow 6 (.int .i64 a3) rfl; have v4 := hrow 7 (.int .i64 a4) rfl; have v5 := hrow 8 (.int .i64 a5) rfl; have v6 := hrow 9 (.int .i64 a6) rfl; have v7 := hrow 10 (.int .i64 a7) rfl
      have u0 := hrow2 3 (.int .i64 a0) rfl; have u1 := hrow2 4 (.int .i64 a1) rfl; have u2 := hrow2 5 (.int .i64 a2) rfl; have u3 := hrow2 6 (.int .i64 a3) rfl; have u4 := hrow2 7 (.int .i64 a4) rfl; have u5 := hrow2 8 (.int .i64 a5) rfl; have u6 := hrow2 9 (.int .i64 a6) rfl; have u7 := hrow2 10 (.int .i64 a7) rfl
      simp only at c0 c1 c2 d0 d1 d2
      have hrv : rowV ⟨idx, gen, has, [a0, a1, a2, a3, a4, a5, a6, a7], h8⟩ = .agg #[.int .i64 idx, .int .i64 gen, .int .i64 has, .int .i64 a0, .int .i64 a1, .int .i64 a2, .int .i64 a3, .int .i64 a4, .int .i64 a5, .int .i64 a6, .int .i64 a7] := rfl
      rw [hrv] at hq
      simp only [decide_true, Bool.not_true] at hq
      clear hrv hrow hrow2
      go_upto_region 6 with fail
      go_cut [39] (fun s39 wx => s39 = .bool false ∧ ∃ n, wx = wr.drewN n)
      case first =>
        go_quiet (fail)
        go_wp2_with fail
        go_meet
        exact ⟨rfl, _, rfl⟩
      case rest =>
        obtain ⟨rfl, n, rfl⟩ := hcut
        have H2 := H.drewN n
        go_wp2_with fail
        go_roundw
        case rel => exact ⟨k + 1, by omega, by go_num, H2⟩
        case measure => simp [intOf]; omega
    · obtain rfl : k = rows.length := by omega
      have e0 := H.cell 0 1 rfl rfl; have e1 := H.cell 1 1 rfl rfl
      clear hr hr'
      go_wp2_with fail
      go_loopw [44] (fun q wx => ∃ k : Nat, k ≤ gens.length ∧ q = .int .i64 k ∧ Hp w wx [.box w.heap.size 64 [.slice Ar rows.length cr, .slice Ag gens.length cg], .box (w.heap.size + 1) 64 [.slice Ar' rows.length cr', .slice Ag' gens.length cg']]) (fun q _ => gens.length - (intOf q).toNat)
      case atStart => exact ⟨0, by omega, rfl, H⟩
      case round =>
        clear H e0 e1
        obtain ⟨k, hk, rfl, H⟩ := hrel
        by_cases hlt : k < gens.length
        · have hR1 : RdG wr w.heap.size Ag gens := Rd.under hg H.bel (Nat.le_refl _)
          have hR2 : RdG wr w.heap.size Ag' gens := Rd.under hg' H.bel (Nat.le_refl _)
          obtain ⟨b1, off, rfl, hb1, c0⟩ := hR1.at_ hlt
          obtain ⟨b2, off2, rfl, hb2, d0⟩ := hR2.at_ hlt
          clear hR1 hR2 hg hg'
          generalize gens[k] = r at *
          have i0 : (0 : Int) ≤ (k : Int) := by omega
          have i1 : (k : Int) < (gens.length : Int) := by omega
          have e0 := H.cell 0 1 rfl rfl; have e1 := H.cell 1 1 rfl rfl
          go_upto_region 12 with fail
          go_cut [57] (fun s57 wx => s57 = .bool false ∧ ∃ n, wx = wr.drewN n)
          case first =>
            go_quiet (fail)
            go_wp2_with fail
            go_meet
            exact ⟨rfl, _, rfl⟩
          case rest =>
            obtain ⟨rfl, n, rfl⟩ := hcut
            have H2 := H.drewN n
            go_wp2_with fail
            go_roundw
            case rel => exact ⟨k + 1, by omega, by go_num, H2⟩
            case measure => simp [intOf]; omega
        · obtain rfl : k = gens.length := by omega
          go_wp2_with fail
          go_ret
          exact ⟨rfl, H.bel⟩
end Go.Proofs.YtefdblaolmckmabGreat

namespace Go.Proofs.YtefdblaolmckmabGreat
open Go.RowKit
open Brood
set_option linter.unusedVariables false
set_option linter.unusedSimpArgs false
def doneB (rows : List BRow) (gens : List Int) (has n : Int) (k : Nat) : Int × Int := match k with
  | 0 => ((spawnV rows gens has n).i, (spawnV rows gens has n).g)
  | _ => (0, 0)
def ssE (w w2 : World) (Ar : Option Addr) (n cr : Nat) (Ag : Option Addr) (m cg : Nat) (i g : Int) (A : Option Addr) (ln c : Nat) (Ag2 : Option Addr) (cg2 : Nat) (f2 : Int) : List Ent :=
  [.box w.heap.size 64 [.slice Ar n cr, .slice Ag m cg], .box (w.heap.size + 1) 24 [.int .i64 i, .int .i64 g], .box w2.heap.size 40 [.slice A ln c, .slice Ag2 m cg2], .box (w2.heap.size + 1) 48 [.int .i64 0, .int .i64 f2]]
def ssB (wr : World) (A3 : Option Addr) (c3 : Nat) (l3 : List TabIn) (Ag3 : Option Addr) (cg3 : Nat) (D : Changed) (Br : Option Addr) (c2 : Nat) (Bg : Option Addr) (c4 : Nat) (b : Int × Int) : List Ent :=
  ([.box wr.heap.size 40 [.slice A3 l3.length c3, .slice Ag3 D.gens.length cg3], .box (wr.heap.size + 1) 64 [.slice Br D.rows.length c2, .slice Bg D.gens.length c4], .box (wr.heap.size + 1 + 1) 24 [.int .i64 b.1, .int .i64 b.2], .box (wr.heap.size + 1 + 1 + 1) 24 [.int .i64 b.1, .int .i64 b.2]] ++ (.own (.slice Ag3 D.gens.length cg3) 3 1 D.gens.length (ints D.gens) :: tabsE A3 c3 l3)) ++
    [.own (.slice Br D.rows.length c2) 114 11 D.rows.length (D.rows.flatMap rowCells), .own (.slice Bg D.gens.length c4) 3 1 D.gens.length (ints D.gens)]
theorem ssB_rd {wr wx : World} {A3 : Option Addr} {c3 : Nat} {l3 : List TabIn} {Ag3 : Option Addr} {cg3 : Nat} {D : Changed} {Br : Option Addr} {c2 : Nat} {Bg : Option Addr} {c4 : Nat} {b : Int × Int} (H : Hp wr wx (ssB wr A3 c3 l3 Ag3 cg3 D Br c2 Bg c4 b)) :
    RdSt wx wx.heap.size ⟨A3, c3, l3, Ag3, cg3, D.gens⟩ ∧ RdR wx wx.heap.size Br D.rows ∧ RdG wx wx.heap.size Bg D.gens := by
  have hin : ∀ p ∈ tabsE A3 c3 l3, p ∈ ssB wr A3 c3 l3 Ag3 cg3 D Br c2 Bg c4 b := fun p hp => by
    unfold ssB
    exact List.mem_append_left _ (List.mem_append_right _ (List.mem_cons_of_mem _ hp))
  obtain ⟨h1, h2⟩ := H.rdT hin
  have ho : wx.ownsRow wr.heap.size 3 1 (.slice Ag3 D.gens.length cg3) D.gens.length (ints D.gens) := H.all (.own (.slice Ag3 D.gens.length cg3) 3 1 D.gens.length (ints D.gens)) (by
    unfold ssB
    exact List.mem_append_left _ (List.mem_append_right _ (List.mem_cons_self ..)))
  have hr : wx.ownsRow wr.heap.size 114 11 (.slice Br D.rows.length c2) D.rows.length (D.rows.flatMap rowCells) := H.all (.own (.slice Br D.rows.length c2) 114 11 D.rows.length (D.rows.flatMap rowCells)) (by
    unfold ssB
    exact List.mem_append_right _ (by simp))
  have hg : wx.ownsRow wr.heap.size 3 1 (.slice Bg D.gens.length c4) D.gens.length (ints D.gens) := H.all (.own (.slice Bg D.gens.length c4) 3 1 D.gens.length (ints D.gens)) (by
    unfold ssB
    exact List.mem_append_right _ (by simp))
  exact ⟨⟨h1, Rd.of_own ho, h2, fun e => by
    have := holds_nil ho e
    exact ⟨this.1, List.eq_nil_of_length_eq_zero this.2⟩⟩, Rd.of_own hr, Rd.of_own hg⟩
set_option maxRecDepth 20000 in
set_option maxHeartbeats 12800000 in
theorem storeSteps_any (rows : List BRow) (gens : List Int) (Ar : Option Addr) (cr : Nat) (Ag : Option Addr) (cg : Nat) (i g has part n : Int) (hlr : rows.length ≤ 9223372036854775807) (hlg : gens.length ≤ 9223372036854775807) (hnr : Ar = none → cr = 0 ∧ rows = []) (hng : Ag = none → cg = 0 ∧ gens = [])
    (w : World) (hr : RdR w w.heap.size Ar rows) (hg : RdG w w.heap.size Ag gens) :
    Calls Tryz.prog 5 #[.agg #[.slice Ar rows.length cr, .slice Ag gens.length cg], .agg #[.int .i64 i, .int .i64 g], .int .i64 has, .int .i64 part, .int .i64 n] w fun e w' => e = .returned (.bool true) ∧ Below w.heap.size w w' := by
  have H0 := ((Hp.start w).new w.heap.size rfl 64 [.slice Ar rows.length cr, .slice Ag gens.length cg]).new (w.heap.size + 1) (by simp) 24 [.int .i64 i, .int .i64 g]
  replace H0 : Hp w _ [.box w.heap.size 64 [.slice Ar rows.length cr, .slice Ag gens.length cg], .box (w.heap.size + 1) 24 [.int .i64 i, .int .i64 g]] := H0
  go_enter Tryz.func5, Tryz.ntmps5
  go_wp2_with fail
  obtain ⟨w0, hw0, H0⟩ := H0.name
  rw [hw0]; clear hw0
  refine (alive3_any w0).mono ?_
  rintro e w1 ⟨rfl, hb⟩
  replace H0 := H0.grow hb
  clear hb
  have a0 := H0.cell 0 0 rfl rfl; have a1 := H0.cell 0 1 rfl rfl
  go_wp2_with fail
  refine (sof_any rows gens Ar cr Ag cg hlr hng w1 (H0.old hr) (H0.old hg)).mono ?_
  rintro e w2 ⟨v, rfl, hG⟩
  have H1 := H0.grow hG.bel
  obtain ⟨A, c, l, Ag2, cg2, rfl, hl, hR⟩ := hG.rd
  have hrt : Hid ((worldErr ⟨rows, gens⟩).1 = 0 → RightW rows gens) := Lib.hid (right_iff rows gens).1
  have hof : Hid (ofV rows gens = if (worldErr ⟨rows, gens⟩).1 ≠ 0 then ([], []) else (tabsW rows, gens)) := Lib.hid rfl
  generalize worldErr ⟨rows, gens⟩ = F at *
  obtain ⟨f1, f2⟩ := F
  clear hG H0 a0 a1
  unfold fV
  dsimp only at hrt hof ⊢
  by_cases hf : f1 = 0
  case neg =>
    have hf' : (f1 != 0) = true := by simpa using hf
    have H2 := (H1.new w2.heap.size rfl 40 [.slice A l.length c, .slice Ag2 (ofV rows gens).2.length cg2]).new (w2.heap.size + 1) (by simp) 48 [.int .i64 f1, .int .i64 f2]
    have H2h := Lib.hid H2
    clear H1 hR hl hof hrt H2 hf
    generalize (ofV rows gens).2 = gs at *
    go_wp2_with fail
    go_ret
    exact ⟨rfl, H2h.out.bel⟩
  subst hf
  have hRw := hrt.out rfl
  rw [show ofV rows gens = (tabsW rows, gens) by rw [hof.out, if_neg (by simp)]] at hl hR ⊢
  dsimp only at hl hR ⊢
  have hlr60 : rows.length ≤ 60 := Nat.le_trans hRw.rows_le hRw.len
  have hlg60 : gens.length ≤ 60 := hRw.len
  have hsm := Lib.hid (right_small hRw hl)
  have H2 := (H1.new w2.heap.size rfl 40 [.slice A l.length c, .slice Ag2 gens.length cg2]).new (w2.heap.size + 1) (by simp) 48 [.int .i64 0, .int .i64 f2]
  have hR2 := Lib.hid ((hR.alloc (.cells #[.slice A l.length c, .slice Ag2 gens.length cg2] 40)).alloc (.cells #[.int .i64 0, .int .i64 f2] 48))
  have hRwh := Lib.hid hRw; have hlh := Lib.hid hl
  clear hof hrt H1 hR hRw hl
  have l0 := H2.lt 0 rfl
  have hfl := fun a b W => fld_err3 a b W
  have H2h := Lib.hid H2
  clear H2
  go_upto_region 4 with fail
  obtain ⟨w3, hw3, H2⟩ := H2h.out.name
  rw [hw3] at hR2 ⊢
  clear hw3 l0 H2h
  replace H2 : Hp w w3 (ssE w w2 Ar rows.length cr Ag gens.length cg i g A l.length c Ag2 cg2 f2) := H2
  have ff := H2.cell 3 0 rfl rfl
  have H2h := Lib.hid H2
  clear H2
  go_wp2_with fail
  go_loopw [30] (fun q wr => ∃ k : Nat, k ≤ 4 ∧ q = .int .i64 k ∧ Below w3.heap.size w3 wr) (fun q _ => 4 - (intOf q).toNat)
  case atStart => exact ⟨0, by omega, rfl, Below.refl _ _⟩
  case round =>
    clear ff
    obtain ⟨k, hk, rfl, hbel⟩ := hrel
    by_cases hlt : k < 4
    · have i0 : (0 : Int) ≤ (k : Int) := by omega
      have i1 : (k : Int) < 4 := by omega
      have H := H2h.out.grow hbel
      have hbelh := Lib.hid hbel
      have H1 := ((((Hp.start wr).new wr.heap.size rfl 40 [.slice none 0 0, .slice none 0 0]).new (wr.heap.size + 1) (by simp) 64 [.slice none 0 0, .slice none 0 0]).new (wr.heap.size + 1 + 1) (by simp) 24 [.int .i64 0, .int .i64 0]).new (wr.heap.size + 1 + 1 + 1) (by simp) 24 [.int .i64 0, .int .i64 0]
      replace H1 : Hp wr _ [.box wr.heap.size 40 [.slice none 0 0, .slice none 0 0], .box (wr.heap.size + 1) 64 [.slice none 0 0, .slice none 0 0], .box (wr.heap.size + 1 + 1) 24 [.int .i64 0, .int .i64 0], .box (wr.heap.size + 1 + 1 + 1) 24 [.int .i64 0, .int .i64 0]] := H1
      have H1h := Lib.hid H1
      have hR3h := Lib.hid (hR2.out.grow hbel)
      have hB1 := H2h.out.grow (hbel.trans (H1.bel.mono hbel.size))
      have a0 := hB1.cell 0 0 rfl rfl; have a1 := hB1.cell 0 1 rfl rfl; have b0 := hB1.cell 1 0 rfl rfl; have b1 := hB1.cell 1 1 rfl rfl; have s0 := hB1.cell 2 0 rfl rfl; have s1 := hB1.cell 2 1 rfl rfl
      have l0 := H.lt 0 rfl; have l1 := H.lt 1 rfl; have l2 := H.lt 2 rfl
      clear H1 hbel H hB1
      go_upto_region 12 with fail
      go_step
      go_step
      go_step
      go_step
      go_step
      go_step
      go_step
      go_step
      go_step
      go_step
      go_step
      go_cut [18, 19] (fun s18 s19 wx => ∃ (A3 : Option Addr) (c3 : Nat) (l3 : List TabIn) (Ag3 : Option Addr) (cg3 : Nat) (Br : Option Addr) (c2 : Nat) (Bg : Option Addr) (c4 : Nat), s18 = .int .i64 (doneV rows gens i g has part n k).err ∧ s19 = .int .i64 (doneV rows gens i g has part n k).err ∧ l3.map tabOf = tabsW (doneV rows gens i g has part n k).rows ∧
        Hp wr wx (ssB wr A3 c3 l3 Ag3 cg3 (doneV rows gens i g has part n k) Br c2 Bg c4 (doneB rows gens has n k)))
      case first =>
        obtain rfl | rfl | rfl | rfl : k = 0 ∨ k = 1 ∨ k = 2 ∨ k = 3 := by omega
        · go_wp2_with fail
          obtain ⟨W1, hW1, H1⟩ := H1h.out.name
          have hR4 := (((hR3h.out.alloc (.cells #[.slice none 0 0, .slice none 0 0] 40)).alloc (.cells #[.slice none 0 0, .slice none 0 0] 64)).alloc (.cells #[.int .i64 0, .int .i64 0] 24)).alloc (.cells #[.int .i64 0, .int .i64 0] 24)
          rw [hW1] at hR4 ⊢
          clear hW1
          have hc := sspawn_any l A c gens Ag2 cg2 has n hsm.out W1 hR4
          rw [hlh.out, spawnT_right hRwh.out] at hc
          dsimp only at hc
          have hE : Hid (doneV rows gens i g has part n 0 = ⟨(spawnV rows gens has n).rows, (spawnV rows gens has n).gens, (spawnV rows gens has n).err⟩) := Lib.hid rfl
          have hEB : Hid (doneB rows gens has n 0 = ((spawnV rows gens has n).i, (spawnV rows gens has n).g)) := Lib.hid rfl
          have hp := Lib.hid (fun W hr' hg' => spawn_any rows gens Ar cr Ag cg has n hlr hlg hnr hng W hr' hg')
          generalize spawnV rows gens has n = E at *
          refine hc.mono ?_
          clear hc hR4 a0 a1 b0 b1 s0 s1
          rintro e w4 ⟨v, rfl, hG⟩
          obtain ⟨A3, c3, l3, Ag3, cg3, rfl, hl3, hH⟩ := hG
          have H2 := H1.join hH
          have q0 := H2.cell 0 0 rfl rfl; have q1 := H2.cell 0 1 rfl rfl; have y0 := H2.frozen 0 0 rfl; have y1 := H2.frozen 0 1 rfl
          have q2 := H2.cell 2 0 rfl rfl; have q3 := H2.cell 2 1 rfl rfl; have y2 := H2.frozen 2 0 rfl; have y3 := H2.frozen 2 1 rfl
          have H3 := (H2.set 0 0 (.slice A3 l3.length c3) rfl).set 0 1 (.slice Ag3 E.gens.length cg3) rfl
          replace H3 := (H3.set 2 0 (.int .i64 E.i) rfl).set 2 1 (.int .i64 E.g) rfl
          have HB := H2h.out.grow (hbelh.out.trans (H3.bel.mono hbelh.out.size))
          have a0 := HB.cell 0 0 rfl rfl; have a1 := HB.cell 0 1 rfl rfl; have b0 := HB.cell 1 0 rfl rfl; have b1 := HB.cell 1 1 rfl rfl
          have hHB := Lib.hid HB; have hH3 := Lib.hid H3
          clear H1 H2 H3 HB hH
          go_wp2_with fail
          obtain ⟨W2, hW2, H3⟩ := hH3.out.name
          have HB := hHB.out
          rw [hW2] at HB ⊢
          clear hW2 hHB hH3 q0 q1 y0 y1 a0 a1 b0 b1
          refine (hp.out W2 (HB.old hr) (HB.old hg)).mono ?_
          rintro e w5 ⟨v, rfl, hG2, hb⟩
          obtain ⟨Br, c2, Bg, c4, rfl, H4⟩ := hG2.got' H3 hb
          have q0 := H4.cell 1 0 rfl rfl; have q1 := H4.cell 1 1 rfl rfl; have y0 := H4.frozen 1 0 rfl; have y1 := H4.frozen 1 1 rfl
          have q2 := H4.cell 3 0 rfl rfl; have q3 := H4.cell 3 1 rfl rfl; have y2 := H4.frozen 3 0 rfl; have y3 := H4.frozen 3 1 rfl
          have H5 := (H4.set 1 0 (.slice Br E.rows.length c2) rfl).set 1 1 (.slice Bg E.gens.length c4) rfl
          replace H5 := (H5.set 3 0 (.int .i64 E.i) rfl).set 3 1 (.int .i64 E.g) rfl
          have hH5 := Lib.hid H5
          clear hG2 hb H3 H4 H5 HB
          go_wp2_with fail
          go_meet
          rw [hE.out, hEB.out]
          exact ⟨A3, c3, l3, Ag3, cg3, Br, c2, Bg, c4, rfl, rfl, hl3, hH5.out⟩
        · go_wp2_with fail
          obtain ⟨W1, hW1, H1⟩ := H1h.out.name
          have hR4 := (((hR3h.out.alloc (.cells #[.slice none 0 0, .slice none 0 0] 40)).alloc (.cells #[.slice none 0 0, .slice none 0 0] 64)).alloc (.cells #[.int .i64 0, .int .i64 0] 24)).alloc (.cells #[.int .i64 0, .int .i64 0] 24)
          rw [hW1] at hR4 ⊢
          clear hW1
          have hc := skill_any l A c gens Ag2 cg2 i g hsm.out W1 hR4
          rw [hlh.out, killT_right hRwh.out] at hc
          dsimp only at hc
          have hE : Hid (doneV rows gens i g has part n 1 = killV rows gens i g) := Lib.hid rfl
          have hEB : Hid (doneB rows gens has n 1 = (0, 0)) := Lib.hid rfl
          have hp := Lib.hid (fun W hr' hg' => kill_any rows gens Ar cr Ag cg i g hlr hlg hnr hng W hr' hg')
          generalize killV rows gens i g = E at *
          refine hc.mono ?_
          clear hc hR4 a0 a1 b0 b1 s0 s1
          rintro e w4 ⟨v, rfl, hG⟩
          obtain ⟨A3, c3, l3, Ag3, cg3, rfl, hl3, hH⟩ := hG
          have H2 := H1.join hH
          have q0 := H2.cell 0 0 rfl rfl; have q1 := H2.cell 0 1 rfl rfl; have y0 := H2.frozen 0 0 rfl; have y1 := H2.frozen 0 1 rfl
          have H3 := (H2.set 0 0 (.slice A3 l3.length c3) rfl).set 0 1 (.slice Ag3 E.gens.length cg3) rfl
          have HB := H2h.out.grow (hbelh.out.trans (H3.bel.mono hbelh.out.size))
          have a0 := HB.cell 0 0 rfl rfl; have a1 := HB.cell 0 1 rfl rfl; have b0 := HB.cell 1 0 rfl rfl; have b1 := HB.cell 1 1 rfl rfl
          have hHB := Lib.hid HB; have hH3 := Lib.hid H3
          clear H1 H2 H3 HB hH
          go_wp2_with fail
          obtain ⟨W2, hW2, H3⟩ := hH3.out.name
          have HB := hHB.out
          rw [hW2] at HB ⊢
          clear hW2 hHB hH3 q0 q1 y0 y1 a0 a1 b0 b1
          refine (hp.out W2 (HB.old hr) (HB.old hg)).mono ?_
          rintro e w5 ⟨v, rfl, hG2, hb⟩
          obtain ⟨Br, c2, Bg, c4, rfl, H4⟩ := hG2.got' H3 hb
          have q0 := H4.cell 1 0 rfl rfl; have q1 := H4.cell 1 1 rfl rfl; have y0 := H4.frozen 1 0 rfl; have y1 := H4.frozen 1 1 rfl
          have H5 := (H4.set 1 0 (.slice Br E.rows.length c2) rfl).set 1 1 (.slice Bg E.gens.length c4) rfl
          have hH5 := Lib.hid H5
          clear hG2 hb H3 H4 H5 HB
          go_wp2_with fail
          go_meet
          rw [hE.out, hEB.out]
          exact ⟨A3, c3, l3, Ag3, cg3, Br, c2, Bg, c4, rfl, rfl, hl3, hH5.out⟩
        · go_wp2_with fail
          obtain ⟨W1, hW1, H1⟩ := H1h.out.name
          have hR4 := (((hR3h.out.alloc (.cells #[.slice none 0 0, .slice none 0 0] 40)).alloc (.cells #[.slice none 0 0, .slice none 0 0] 64)).alloc (.cells #[.int .i64 0, .int .i64 0] 24)).alloc (.cells #[.int .i64 0, .int .i64 0] 24)
          rw [hW1] at hR4 ⊢
          clear hW1
          have hc := sput_any l A c gens Ag2 cg2 i g part n hsm.out W1 hR4
          rw [hlh.out, putT_right hRwh.out] at hc
          dsimp only at hc
          have hE : Hid (doneV rows gens i g has part n 2 = putV rows gens i g part n) := Lib.hid rfl
          have hEB : Hid (doneB rows gens has n 2 = (0, 0)) := Lib.hid rfl
          have hp := Lib.hid (fun W hr' hg' => put_any rows gens Ar cr Ag cg i g part n hlr hlg hnr hng W hr' hg')
          generalize putV rows gens i g part n = E at *
          refine hc.mono ?_
          clear hc hR4 a0 a1 b0 b1 s0 s1
          rintro e w4 ⟨v, rfl, hG⟩
          obtain ⟨A3, c3, l3, Ag3, cg3, rfl, hl3, hH⟩ := hG
          have H2 := H1.join hH
          have q0 := H2.cell 0 0 rfl rfl; have q1 := H2.cell 0 1 rfl rfl; have y0 := H2.frozen 0 0 rfl; have y1 := H2.frozen 0 1 rfl
          have H3 := (H2.set 0 0 (.slice A3 l3.length c3) rfl).set 0 1 (.slice Ag3 E.gens.length cg3) rfl
          have HB := H2h.out.grow (hbelh.out.trans (H3.bel.mono hbelh.out.size))
          have a0 := HB.cell 0 0 rfl rfl; have a1 := HB.cell 0 1 rfl rfl; have b0 := HB.cell 1 0 rfl rfl; have b1 := HB.cell 1 1 rfl rfl
          have hHB := Lib.hid HB; have hH3 := Lib.hid H3
          clear H1 H2 H3 HB hH
          go_wp2_with fail
          obtain ⟨W2, hW2, H3⟩ := hH3.out.name
          have HB := hHB.out
          rw [hW2] at HB ⊢
          clear hW2 hHB hH3 q0 q1 y0 y1 a0 a1 b0 b1
          refine (hp.out W2 (HB.old hr) (HB.old hg)).mono ?_
          rintro e w5 ⟨v, rfl, hG2, hb⟩
          obtain ⟨Br, c2, Bg, c4, rfl, H4⟩ := hG2.got' H3 hb
          have q0 := H4.cell 1 0 rfl rfl; have q1 := H4.cell 1 1 rfl rfl; have y0 := H4.frozen 1 0 rfl; have y1 := H4.frozen 1 1 rfl
          have H5 := (H4.set 1 0 (.slice Br E.rows.length c2) rfl).set 1 1 (.slice Bg E.gens.length c4) rfl
          have hH5 := Lib.hid H5
          clear hG2 hb H3 H4 H5 HB
          go_wp2_with fail
          go_meet
          rw [hE.out, hEB.out]
          exact ⟨A3, c3, l3, Ag3, cg3, Br, c2, Bg, c4, rfl, rfl, hl3, hH5.out⟩
        · go_wp2_with fail
          obtain ⟨W1, hW1, H1⟩ := H1h.out.name
          have hR4 := (((hR3h.out.alloc (.cells #[.slice none 0 0, .slice none 0 0] 40)).alloc (.cells #[.slice none 0 0, .slice none 0 0] 64)).alloc (.cells #[.int .i64 0, .int .i64 0] 24)).alloc (.cells #[.int .i64 0, .int .i64 0] 24)
          rw [hW1] at hR4 ⊢
          clear hW1
          have hc := sdrop_any l A c gens Ag2 cg2 i g part hsm.out W1 hR4
          rw [hlh.out, dropT_right hRwh.out] at hc
          dsimp only at hc
          have hE : Hid (doneV rows gens i g has part n 3 = dropV rows gens i g part) := Lib.hid rfl
          have hEB : Hid (doneB rows gens has n 3 = (0, 0)) := Lib.hid rfl
          have hp := Lib.hid (fun W hr' hg' => drop_any rows gens Ar cr Ag cg i g part hlr hlg hnr hng W hr' hg')
          generalize dropV rows gens i g part = E at *
          refine hc.mono ?_
          clear hc hR4 a0 a1 b0 b1 s0 s1
          rintro e w4 ⟨v, rfl, hG⟩
          obtain ⟨A3, c3, l3, Ag3, cg3, rfl, hl3, hH⟩ := hG
          have H2 := H1.join hH
          have q0 := H2.cell 0 0 rfl rfl; have q1 := H2.cell 0 1 rfl rfl; have y0 := H2.frozen 0 0 rfl; have y1 := H2.frozen 0 1 rfl
          have H3 := (H2.set 0 0 (.slice A3 l3.length c3) rfl).set 0 1 (.slice Ag3 E.gens.length cg3) rfl
          have HB := H2h.out.grow (hbelh.out.trans (H3.bel.mono hbelh.out.size))
          have a0 := HB.cell 0 0 rfl rfl; have a1 := HB.cell 0 1 rfl rfl; have b0 := HB.cell 1 0 rfl rfl; have b1 := HB.cell 1 1 rfl rfl
          have hHB := Lib.hid HB; have hH3 := Lib.hid H3
          clear H1 H2 H3 HB hH
          go_wp2_with fail
          obtain ⟨W2, hW2, H3⟩ := hH3.out.name
          have HB := hHB.out
          rw [hW2] at HB ⊢
          clear hW2 hHB hH3 q0 q1 y0 y1 a0 a1 b0 b1
          refine (hp.out W2 (HB.old hr) (HB.old hg)).mono ?_
          rintro e w5 ⟨v, rfl, hG2, hb⟩
          obtain ⟨Br, c2, Bg, c4, rfl, H4⟩ := hG2.got' H3 hb
          have q0 := H4.cell 1 0 rfl rfl; have q1 := H4.cell 1 1 rfl rfl; have y0 := H4.frozen 1 0 rfl; have y1 := H4.frozen 1 1 rfl
          have H5 := (H4.set 1 0 (.slice Br E.rows.length c2) rfl).set 1 1 (.slice Bg E.gens.length c4) rfl
          have hH5 := Lib.hid H5
          clear hG2 hb H3 H4 H5 HB
          go_wp2_with fail
          go_meet
          rw [hE.out, hEB.out]
          exact ⟨A3, c3, l3, Ag3, cg3, Br, c2, Bg, c4, rfl, rfl, hl3, hH5.out⟩
      case rest =>
        obtain ⟨A3, c3, l3, Ag3, cg3, Br, c2, Bg, c4, rfl, rfl, hl3, H⟩ := hcut
        have hok := Lib.hid (@done_ok rows gens i g has part n k)
        generalize doneV rows gens i g has part n k = D at *
        generalize doneB rows gens has n k = B at *
        obtain ⟨er, eg, ee⟩ := D
        obtain ⟨bi, bg⟩ := B
        dsimp only at hok hl3 ⊢
        have hl3h := Lib.hid hl3
        have hne := fun W => neBeing bi bg bi bg W
        simp only [beq_self_eq_true, Bool.and_self, Bool.not_true] at hne
        have hHh := Lib.hid H
        clear H hl3 H1h hR3h a0 a1 b0 b1 s0 s1 l0 l1 l2
        by_cases hee : ee = 0
        · subst hee
          have hRx : RightW er eg := (hok.out rfl).is
          have hsm3 := Lib.hid (right_small hRx hl3h.out)
          have hlens := right_len hRx
          have hleg : eg.length ≤ 60 := hRx.len
          have hler : er.length ≤ 60 := Nat.le_trans hRx.rows_le hRx.len
          have hll := fit_len (G := ofG er) hl3h.out
          have hRxh := Lib.hid hRx
          have hwr := Lib.hid (fun W (hR : RdSt W W.heap.size ⟨A3, c3, l3, Ag3, cg3, eg⟩) => swrong_any l3 A3 c3 eg Ag3 cg3 hsm3.out W hR.tabs hR.gen hR.ng)
          rw [hl3h.out, hRx.store] at hwr
          have hwld := Lib.hid (fun W (hR : RdSt W W.heap.size ⟨A3, c3, l3, Ag3, cg3, eg⟩) => world_any l3 A3 c3 eg Ag3 cg3 (ofG er) hl3h.out hRxh.out.rep.clean (by omega) (by omega) (by omega) W hR.tabs hR.gen hR.ng)
          clear hok hRx hlens hll
          go_upto_region 25 with fail
          refine wp_region_pred mixed (by kernel_rfl) (by kernel_rfl) (fun _ => true) (fun j w' v => if j = 18 then (∃ A c A' c', v = .agg #[.slice A er.length c, .slice A' eg.length c'] ∧ RdR w' w'.heap.size A er ∧ RdG w' w'.heap.size A' eg) else v = tab [.int .i64 0, .int .i64 0, .bool false, .bool false, .agg #[.int .i64 bi, .int .i64 bg], .agg #[.int .i64 bi, .int .i64 bg], .bool false, .bool false, .bool false, .int .i64 0, .bool true, .bool true, .agg #[.slice A3 l3.length c3, .slice Ag3 eg.length cg3], .agg #[.int .i64 0, .int .i64 0], .int .i64 0, .bool false, .bool false, .agg #[.slice A3 l3.length c3, .slice Ag3 eg.length cg3], undef, .agg #[.slice Br er.length c2, .slice Bg eg.length c4], .bool true, .bool false, .bool false, .bool false, .bool false] j) ?_ ?_ ?_ ?_ ?_
          · intro j w' w'' v h hb
            by_cases h18 : j = 18
            · simp only [h18, if_true, if_false, Nat.reduceEqDiff] at h ⊢
              obtain ⟨A, c, A', c', h1, h2, h3⟩ := h
              exact ⟨A, c, A', c', h1, Rd.grow h2 hb, Rd.grow h3 hb⟩
            rw [if_neg h18] at h ⊢
            exact h
          · intro q op ho
            have hi : q < 25 := lt_of_some ho
            match q, hi, ho with
            | 0, _, ho | 1, _, ho | 2, _, ho | 3, _, ho | 7, _, ho | 8, _, ho | 24, _, ho =>
              obtain rfl := Option.some.inj ho
              rfl
            | 4, _, ho | 5, _, ho | 6, _, ho =>
              obtain rfl := Option.some.inj ho
              intro w' v h
              have h' : v = .bool false := h
              subst h'
              rfl
            | 9, _, ho | 10, _, ho | 11, _, ho | 23, _, ho =>
              obtain rfl := Option.some.inj ho
              intro w' v h
              have h' : v = .bool false := h
              subst h'
              rfl
            | 12, _, ho | 13, _, ho | 14, _, ho | 15, _, ho | 16, _, ho | 22, _, ho =>
              obtain rfl := Option.some.inj ho
              intro w' v h
              have h' : v = .bool true := h
              subst h'
              rfl
            | 17, _, ho | 18, _, ho | 19, _, ho | 20, _, ho | 21, _, ho =>
              obtain rfl := Option.some.inj ho
              intro w' v h
              have h' : v = .bool false := h
              subst h'
              rfl
          · intro q w' h; cases h
          · intro vs w' hb hv
            have h24 : vs 24 = .bool false := hv 24 (by decide)
            rw [putAll_tab _ _ _ _ [(some 98, vs 0), (some 99, vs 1), (some 100, vs 2), (some 101, vs 3), (some 102, vs 4), (some 103, vs 5), (some 104, vs 6), (some 105, vs 7), (some 106, vs 8), (some 107, vs 9), (some 108, vs 10), (some 109, vs 11), (some 110, vs 12), (some 111, vs 13), (some 112, vs 14), (some 113, vs 15), (some 114, vs 16), (some 115, vs 17), (some 116, vs 18), (some 117, vs 19), (some 118, vs 20), (some 119, vs 21), (some 120, vs 22), (some 121, vs 23), (some 122, vs 24)] rfl]
            simp only [putL_eq, putT, List.set_cons_succ, List.set_cons_zero]
            rw [h24]
            have HB := Lib.hid (hbelh.out.trans ((hHh.out.grow hb).bel.mono hbelh.out.size))
            clear hv hb h24
            go_wp2_with fail
            go_roundw
            case rel => exact ⟨k + 1, by omega, by go_num, HB.out⟩
            case measure => simp [intOf]; omega
          · intro q op ho hG act w' hb hv hwas K hK
            have e14 := hwas 14 rfl
            have e15 := hwas 15 rfl
            have e16 := hwas 16 rfl
            have e17 := hwas 17 rfl
            have e18 := hwas 18 rfl
            have e19 := hwas 19 rfl
            simp at e14 e15 e16 e17 e18 e19
            have H := hHh.out.grow hb
            obtain ⟨hRs, hRr, hRg⟩ := ssB_rd H
            have q0 := H.cell 0 0 rfl rfl; have q1 := H.cell 0 1 rfl rfl; have p0 := H.cell 1 0 rfl rfl; have p1 := H.cell 1 1 rfl rfl; have d0 := H.cell 2 0 rfl rfl; have d1 := H.cell 2 1 rfl rfl; have e0' := H.cell 3 0 rfl rfl; have e1' := H.cell 3 1 rfl rfl
            have hi : q < 25 := lt_of_some ho
            match q, hi, ho, hG, hK, hv with
            | 0, _, ho, hG, hK, hv =>
              obtain rfl := Option.some.inj ho
              clear hv hwas
              go_simp
              exact hK _ _ (Below.refl _ _) rfl
            | 1, _, ho, hG, hK, hv =>
              obtain rfl := Option.some.inj ho
              clear hv hwas
              go_simp
              exact hK _ _ (Below.refl _ _) rfl
            | 2, _, ho, hG, hK, hv =>
              obtain rfl := Option.some.inj ho
              have x98 : act.tmps[98]?.getD undef = .int .i64 0 := hv 0 98 rfl rfl
              have x99 : act.tmps[99]?.getD undef = .int .i64 0 := hv 1 99 rfl rfl
              clear hv hwas
              go_simp
              exact hK _ _ (Below.refl _ _) rfl
            | 3, _, ho, hG, hK, hv =>
              obtain rfl := Option.some.inj ho
              have x100 : act.tmps[100]?.getD undef = .bool false := hv 2 100 rfl rfl
              clear hv hwas
              go_simp
              exact hK _ _ (Below.refl _ _) rfl
            | 4, _, ho, hG, hK, hv =>
              obtain rfl := Option.some.inj ho
              clear hv hwas
              go_simp
              exact hK _ _ (Below.refl _ _) rfl
            | 5, _, ho, hG, hK, hv =>
              obtain rfl := Option.some.inj ho
              clear hv hwas
              go_simp
              exact hK _ _ (Below.refl _ _) rfl
            | 6, _, ho, hG, hK, hv =>
              obtain rfl := Option.some.inj ho
              have x102 : act.tmps[102]?.getD undef = .agg #[.int .i64 bi, .int .i64 bg] := hv 4 102 rfl rfl
              have x103 : act.tmps[103]?.getD undef = .agg #[.int .i64 bi, .int .i64 bg] := hv 5 103 rfl rfl
              clear hv hwas
              go_simp
              exact hK _ _ (Below.refl _ _) rfl
            | 7, _, ho, hG, hK, hv =>
              obtain rfl := Option.some.inj ho
              have x101 : act.tmps[101]?.getD undef = .bool false := hv 3 101 rfl rfl
              have x104 : act.tmps[104]?.getD undef = .bool false := hv 6 104 rfl rfl
              clear hv hwas
              go_simp
              exact hK _ _ (Below.refl _ _) rfl
            | 8, _, ho, hG, hK, hv =>
              obtain rfl := Option.some.inj ho
              have x105 : act.tmps[105]?.getD undef = .bool false := hv 7 105 rfl rfl
              clear hv hwas
              go_simp
              exact hK _ _ (Below.refl _ _) rfl
            | 9, _, ho, hG, hK, hv =>
              obtain rfl := Option.some.inj ho
              clear hv hwas
              go_simp
              exact hK _ _ (Below.refl _ _) rfl
            | 10, _, ho, hG, hK, hv =>
              obtain rfl := Option.some.inj ho
              have x107 : act.tmps[107]?.getD undef = .int .i64 0 := hv 9 107 rfl rfl
              clear hv hwas
              go_simp
              exact hK _ _ (Below.refl _ _) rfl
            | 11, _, ho, hG, hK, hv =>
              obtain rfl := Option.some.inj ho
              have x108 : act.tmps[108]?.getD undef = .bool true := hv 10 108 rfl rfl
              clear hv hwas
              go_simp
              exact hK _ _ (Below.refl _ _) rfl
            | 12, _, ho, hG, hK, hv =>
              obtain rfl := Option.some.inj ho
              clear hv hwas
              go_simp
              exact hK _ _ (Below.refl _ _) rfl
            | 13, _, ho, hG, hK, hv =>
              obtain rfl := Option.some.inj ho
              have x110 : act.tmps[110]?.getD undef = .agg #[.slice A3 l3.length c3, .slice Ag3 eg.length cg3] := hv 12 110 rfl rfl
              clear hv hwas
              go_simp
              refine (hwr.out w' hRs).mono ?_
              rintro e w'' ⟨rfl, hb''⟩
              exact hK _ _ hb'' rfl
            | 14, _, ho, hG, hK, hv =>
              obtain rfl := Option.some.inj ho
              have x111 : act.tmps[111]?.getD undef = .agg #[.int .i64 0, .int .i64 0] := hv 13 111 rfl rfl
              clear hv hwas
              go_simp
              exact hK _ _ (Below.refl _ _) rfl
            | 15, _, ho, hG, hK, hv =>
              obtain rfl := Option.some.inj ho
              have x112 : act.tmps[112]?.getD undef = .int .i64 0 := hv 14 112 rfl rfl
              clear hv hwas
              go_simp
              exact hK _ _ (Below.refl _ _) rfl
            | 16, _, ho, hG, hK, hv =>
              obtain rfl := Option.some.inj ho
              have x113 : act.tmps[113]?.getD undef = .bool false := hv 15 113 rfl rfl
              clear hv hwas
              go_simp
              exact hK _ _ (Below.refl _ _) rfl
            | 17, _, ho, hG, hK, hv =>
              obtain rfl := Option.some.inj ho
              clear hv hwas
              go_simp
              exact hK _ _ (Below.refl _ _) rfl
            | 18, _, ho, hG, hK, hv =>
              obtain rfl := Option.some.inj ho
              have x115 : act.tmps[115]?.getD undef = .agg #[.slice A3 l3.length c3, .slice Ag3 eg.length cg3] := hv 17 115 rfl rfl
              clear hv hwas
              go_simp
              refine (hwld.out w' hRs).mono ?_
              rintro e w'' ⟨v, rfl, hG, hb''⟩
              rw [hRxh.out.rep.sorted] at hG
              obtain ⟨vr, vg, rfl, hO⟩ := hG
              obtain ⟨Ar3, cr3, rfl, _, _⟩ := own_shape hO.rows_
              obtain ⟨Ag4, cg4, rfl, _, _⟩ := own_shape hO.gens_
              exact hK _ _ hb'' ⟨Ar3, cr3, Ag4, cg4, rfl, Rd.of_own hO.rows_, Rd.of_own hO.gens_⟩
            | 19, _, ho, hG, hK, hv =>
              obtain rfl := Option.some.inj ho
              clear hv hwas
              go_simp
              exact hK _ _ (Below.refl _ _) rfl
            | 20, _, ho, hG, hK, hv =>
              obtain rfl := Option.some.inj ho
              have x116 := hv 18 116 rfl rfl
              simp only [if_true, if_false, Nat.reduceEqDiff] at x116
              obtain ⟨Aw, cw, Aw', cw', x116, hAw, hAw'⟩ := x116
              have x117 : act.tmps[117]?.getD undef = .agg #[.slice Br er.length c2, .slice Bg eg.length c4] := hv 19 117 rfl rfl
              clear hv hwas
              go_simp
              refine (rsame_any er eg Aw cw Aw' cw' Br c2 Bg c4 (by omega) (by omega) w' hAw hRr hAw' hRg).mono ?_
              rintro e w'' ⟨rfl, hb''⟩
              exact hK _ _ hb'' rfl
            | 21, _, ho, hG, hK, hv =>
              obtain rfl := Option.some.inj ho
              have x118 : act.tmps[118]?.getD undef = .bool true := hv 20 118 rfl rfl
              clear hv hwas
              go_simp
              exact hK _ _ (Below.refl _ _) rfl
            | 22, _, ho, hG, hK, hv =>
              obtain rfl := Option.some.inj ho
              have x114 : act.tmps[114]?.getD undef = .bool false := hv 16 114 rfl rfl
              have x119 : act.tmps[119]?.getD undef = .bool false := hv 21 119 rfl rfl
              clear hv hwas
              go_simp
              exact hK _ _ (Below.refl _ _) rfl
            | 23, _, ho, hG, hK, hv =>
              obtain rfl := Option.some.inj ho
              have x109 : act.tmps[109]?.getD undef = .bool true := hv 11 109 rfl rfl
              have x120 : act.tmps[120]?.getD undef = .bool false := hv 22 120 rfl rfl
              clear hv hwas
              go_simp
              exact hK _ _ (Below.refl _ _) rfl
            | 24, _, ho, hG, hK, hv =>
              obtain rfl := Option.some.inj ho
              have x106 : act.tmps[106]?.getD undef = .bool false := hv 8 106 rfl rfl
              have x121 : act.tmps[121]?.getD undef = .bool false := hv 23 121 rfl rfl
              clear hv hwas
              go_simp
              exact hK _ _ (Below.refl _ _) rfl
        · have hee' : (ee == 0) = false := by simpa using hee
          clear hok
          go_upto_region 25 with fail
          refine wp_region_pred mixed (by kernel_rfl) (by kernel_rfl) (fun q => ([true, true, true, true, true, true, true, true, true, true, true, true, false, false, false, false, false, false, false, false, false, false, false, true, true] : List Bool).getD q true) (fun j w' v => v = tab [.int .i64 ee, .int .i64 ee, .bool false, .bool false, .agg #[.int .i64 bi, .int .i64 bg], .agg #[.int .i64 bi, .int .i64 bg], .bool false, .bool false, .bool false, .int .i64 ee, .bool false, .bool false, undef, undef, undef, undef, undef, undef, undef, undef, undef, undef, undef, .bool false, .bool false] j) ?_ ?_ ?_ ?_ ?_
          · intro j w' w'' v h hb; exact h
          · intro q op ho
            have hi : q < 25 := lt_of_some ho
            match q, hi, ho with
            | 0, _, ho | 1, _, ho | 2, _, ho | 3, _, ho | 7, _, ho | 8, _, ho | 24, _, ho =>
              obtain rfl := Option.some.inj ho
              rfl
            | 4, _, ho | 5, _, ho | 6, _, ho =>
              obtain rfl := Option.some.inj ho
              intro w' v h
              have h' : v = .bool false := h
              subst h'
              rfl
            | 9, _, ho | 10, _, ho | 11, _, ho | 23, _, ho =>
              obtain rfl := Option.some.inj ho
              intro w' v h
              have h' : v = .bool false := h
              subst h'
              rfl
            | 12, _, ho | 13, _, ho | 14, _, ho | 15, _, ho | 16, _, ho | 22, _, ho =>
              obtain rfl := Option.some.inj ho
              intro w' v h
              have h' : v = .bool false := h
              subst h'
              rfl
            | 17, _, ho | 18, _, ho | 19, _, ho | 20, _, ho | 21, _, ho =>
              obtain rfl := Option.some.inj ho
              intro w' v h
              have h' : v = undef := h
              subst h'
              rfl
          · intro q w' h
            by_cases hq : q < 25
            · match q, hq, h with
              | 12, _, _ | 13, _, _ | 14, _, _ | 15, _, _ | 16, _, _ | 17, _, _ | 18, _, _ | 19, _, _ | 20, _, _ | 21, _, _ | 22, _, _ => rfl
              | 0, _, h | 1, _, h | 2, _, h | 3, _, h | 4, _, h | 5, _, h | 6, _, h | 7, _, h | 8, _, h | 9, _, h | 10, _, h | 11, _, h | 23, _, h | 24, _, h => cases h
            · exfalso
              rw [List.getD_eq_getElem?_getD, List.getElem?_eq_none (by simp; omega)] at h
              cases h
          · intro vs w' hb hv
            have h24 : vs 24 = .bool false := hv 24 (by decide)
            rw [putAll_tab _ _ _ _ [(some 98, vs 0), (some 99, vs 1), (some 100, vs 2), (some 101, vs 3), (some 102, vs 4), (some 103, vs 5), (some 104, vs 6), (some 105, vs 7), (some 106, vs 8), (some 107, vs 9), (some 108, vs 10), (some 109, vs 11), (some 110, vs 12), (some 111, vs 13), (some 112, vs 14), (some 113, vs 15), (some 114, vs 16), (some 115, vs 17), (some 116, vs 18), (some 117, vs 19), (some 118, vs 20), (some 119, vs 21), (some 120, vs 22), (some 121, vs 23), (some 122, vs 24)] rfl]
            simp only [putL_eq, putT, List.set_cons_succ, List.set_cons_zero]
            rw [h24]
            have HB := Lib.hid (hbelh.out.trans ((hHh.out.grow hb).bel.mono hbelh.out.size))
            clear hv hb h24
            go_wp2_with fail
            go_roundw
            case rel => exact ⟨k + 1, by omega, by go_num, HB.out⟩
            case measure => simp [intOf]; omega
          · intro q op ho hG act w' hb hv hwas K hK
            have e16 := hwas 16 rfl
            have e17 := hwas 17 rfl
            have e18 := hwas 18 rfl
            have e19 := hwas 19 rfl
            simp at e16 e17 e18 e19
            have H := hHh.out.grow hb
            obtain ⟨hRs, hRr, hRg⟩ := ssB_rd H
            have q0 := H.cell 0 0 rfl rfl; have q1 := H.cell 0 1 rfl rfl; have p0 := H.cell 1 0 rfl rfl; have p1 := H.cell 1 1 rfl rfl; have d0 := H.cell 2 0 rfl rfl; have d1 := H.cell 2 1 rfl rfl; have e0' := H.cell 3 0 rfl rfl; have e1' := H.cell 3 1 rfl rfl
            have hi : q < 25 := lt_of_some ho
            match q, hi, ho, hG, hK, hv with
            | 0, _, ho, hG, hK, hv =>
              obtain rfl := Option.some.inj ho
              clear hv hwas
              go_simp
              exact hK _ _ (Below.refl _ _) rfl
            | 1, _, ho, hG, hK, hv =>
              obtain rfl := Option.some.inj ho
              clear hv hwas
              go_simp
              exact hK _ _ (Below.refl _ _) rfl
            | 2, _, ho, hG, hK, hv =>
              obtain rfl := Option.some.inj ho
              have x98 : act.tmps[98]?.getD undef = .int .i64 ee := hv 0 98 rfl rfl
              have x99 : act.tmps[99]?.getD undef = .int .i64 ee := hv 1 99 rfl rfl
              clear hv hwas
              go_simp
              exact hK _ _ (Below.refl _ _) rfl
            | 3, _, ho, hG, hK, hv =>
              obtain rfl := Option.some.inj ho
              have x100 : act.tmps[100]?.getD undef = .bool false := hv 2 100 rfl rfl
              clear hv hwas
              go_simp
              exact hK _ _ (Below.refl _ _) rfl
            | 4, _, ho, hG, hK, hv =>
              obtain rfl := Option.some.inj ho
              clear hv hwas
              go_simp
              exact hK _ _ (Below.refl _ _) rfl
            | 5, _, ho, hG, hK, hv =>
              obtain rfl := Option.some.inj ho
              clear hv hwas
              go_simp
              exact hK _ _ (Below.refl _ _) rfl
            | 6, _, ho, hG, hK, hv =>
              obtain rfl := Option.some.inj ho
              have x102 : act.tmps[102]?.getD undef = .agg #[.int .i64 bi, .int .i64 bg] := hv 4 102 rfl rfl
              have x103 : act.tmps[103]?.getD undef = .agg #[.int .i64 bi, .int .i64 bg] := hv 5 103 rfl rfl
              clear hv hwas
              go_simp
              exact hK _ _ (Below.refl _ _) rfl
            | 7, _, ho, hG, hK, hv =>
              obtain rfl := Option.some.inj ho
              have x101 : act.tmps[101]?.getD undef = .bool false := hv 3 101 rfl rfl
              have x104 : act.tmps[104]?.getD undef = .bool false := hv 6 104 rfl rfl
              clear hv hwas
              go_simp
              exact hK _ _ (Below.refl _ _) rfl
            | 8, _, ho, hG, hK, hv =>
              obtain rfl := Option.some.inj ho
              have x105 : act.tmps[105]?.getD undef = .bool false := hv 7 105 rfl rfl
              clear hv hwas
              go_simp
              exact hK _ _ (Below.refl _ _) rfl
            | 9, _, ho, hG, hK, hv =>
              obtain rfl := Option.some.inj ho
              clear hv hwas
              go_simp
              exact hK _ _ (Below.refl _ _) rfl
            | 10, _, ho, hG, hK, hv =>
              obtain rfl := Option.some.inj ho
              have x107 : act.tmps[107]?.getD undef = .int .i64 ee := hv 9 107 rfl rfl
              clear hv hwas
              go_simp
              exact hK _ _ (Below.refl _ _) rfl
            | 11, _, ho, hG, hK, hv =>
              obtain rfl := Option.some.inj ho
              have x108 : act.tmps[108]?.getD undef = .bool false := hv 10 108 rfl rfl
              clear hv hwas
              go_simp
              exact hK _ _ (Below.refl _ _) rfl
            | 12, _, ho, hG, hK, hv => cases hG
            | 13, _, ho, hG, hK, hv => cases hG
            | 14, _, ho, hG, hK, hv => cases hG
            | 15, _, ho, hG, hK, hv => cases hG
            | 16, _, ho, hG, hK, hv => cases hG
            | 17, _, ho, hG, hK, hv => cases hG
            | 18, _, ho, hG, hK, hv => cases hG
            | 19, _, ho, hG, hK, hv => cases hG
            | 20, _, ho, hG, hK, hv => cases hG
            | 21, _, ho, hG, hK, hv => cases hG
            | 22, _, ho, hG, hK, hv => cases hG
            | 23, _, ho, hG, hK, hv =>
              obtain rfl := Option.some.inj ho
              have x109 : act.tmps[109]?.getD undef = .bool false := hv 11 109 rfl rfl
              clear hv hwas
              go_simp
              exact hK _ _ (Below.refl _ _) rfl
            | 24, _, ho, hG, hK, hv =>
              obtain rfl := Option.some.inj ho
              have x106 : act.tmps[106]?.getD undef = .bool false := hv 8 106 rfl rfl
              have x121 : act.tmps[121]?.getD undef = .bool false := hv 23 121 rfl rfl
              clear hv hwas
              go_simp
              exact hK _ _ (Below.refl _ _) rfl
    · obtain rfl : k = 4 := by omega
      have H := Lib.hid (H2h.out.grow hbel)
      go_wp2_with fail
      go_ret
      exact ⟨rfl, H.out.bel⟩
end Go.Proofs.YtefdblaolmckmabGreat
