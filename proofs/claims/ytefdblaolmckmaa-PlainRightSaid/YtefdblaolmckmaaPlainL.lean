/- The walk of plain.Spawn: the roads that end in an error. -/
import Derived.Test.YtefdblaolmckmaaSpecQ
import Derived.Test.YtefdblaolmckmaaHp
import Derived.Test.YtefdblaolmckmaaPartsL
import Derived.Deep.RegionHeld3
namespace Go.Proofs.Ytefdblaolmckmaa
open Go.RowKit
open Brood
set_option linter.unusedVariables false
set_option linter.unusedSimpArgs false

/-- What a world that came back is: nothing, or of the call's own. -/
def GotW (w : World) (base : Nat) (v : Value) (rows : List BRow) (gens : List Int) : Prop := ∃ vr vg, v = .agg #[vr, vg] ∧ OwnW w base vr vg rows gens
theorem GotW.zero (w : World) (base : Nat) : GotW w base (.agg #[.slice none 0 0, .slice none 0 0]) [] [] := ⟨_, _, rfl, own_nil _ _ _ _, own_nil _ _ _ _⟩

/-- What Spawn holds on to: its results' places, the new being, the copied rows and gens. -/
def spE (b1 b3 : Nat) (i g : Int) (vr vg : Value) (rows : List BRow) (gens : List Int) : List Ent :=
  [.box b1 66 [.slice none 0 0, .slice none 0 0], .box (b1 + 1) 68 [.int .i64 0, .int .i64 0], .box b3 68 [.int .i64 i, .int .i64 g],
    .own vr 82 11 rows.length (rows.flatMap rowCells), .own vg 3 1 gens.length (ints gens)]

set_option maxRecDepth 20000 in
set_option maxHeartbeats 6400000 in
theorem spawn_any (rows : List BRow) (gens : List Int) (Ar : Option Addr) (cr : Nat) (Ag : Option Addr) (cg : Nat) (has n : Int) (hlr : rows.length ≤ 9223372036854775807) (hlg : gens.length ≤ 9223372036854775807) (hnr : Ar = none → cr = 0 ∧ rows = []) (hng : Ag = none → cg = 0 ∧ gens = [])
    (w : World) (hr : RdR w w.heap.size Ar rows) (hg : RdG w w.heap.size Ag gens) :
    Calls Try.prog 51 #[.agg #[.slice Ar rows.length cr, .slice Ag gens.length cg], .int .i64 has, .int .i64 n] w fun e w' =>
      ∃ v, e = .returned (.tuple #[v, .agg #[.int .i64 (spawnV rows gens has n).i, .int .i64 (spawnV rows gens has n).g], .int .i64 (spawnV rows gens has n).err]) ∧
        GotW w' w.heap.size v (spawnV rows gens has n).rows (spawnV rows gens has n).gens ∧ Below w.heap.size w w' := by
  have hsp : Hid (spawnV rows gens has n = if (worldErr ⟨rows, gens⟩).1 ≠ 0 then ⟨[], [], 0, 0, (worldErr ⟨rows, gens⟩).1⟩
      else if isSet has = false ∨ isVal n = false then ⟨[], [], 0, 0, 3⟩
      else if (nextV rows gens).2.2 ≠ 0 then ⟨[], [], 0, 0, (nextV rows gens).2.2⟩
      else ⟨insRow rows (posOf (nextV rows gens).1 rows) (newRow (nextV rows gens).1 (nextV rows gens).2.1 has n), gensPut gens (nextV rows gens).1 (nextV rows gens).2.1, (nextV rows gens).1, (nextV rows gens).2.1, 0⟩) := Lib.hid rfl
  generalize spawnV rows gens has n = E at *
  have H0 := (((Hp.start w).new w.heap.size rfl 66 [.slice Ar rows.length cr, .slice Ag gens.length cg]).new (w.heap.size + 1) (by simp) 66 [.slice none 0 0, .slice none 0 0]).new (w.heap.size + 1 + 1) (by simp) 68 [.int .i64 0, .int .i64 0]
  go_enter Try.func51, Try.ntmps51
  go_wp2_with fail
  obtain ⟨w0, hw0, H0⟩ := H0.name
  rw [hw0]; clear hw0
  refine (pwrong_any rows gens Ar cr Ag cg hlr w0 (H0.old hr) (H0.old hg)).mono ?_
  rintro e w1 ⟨rfl, hb1⟩
  replace H0 := H0.grow hb1
  clear hb1
  have hrt : Hid ((worldErr ⟨rows, gens⟩).1 = 0 → RightW rows gens) := Lib.hid (right_iff rows gens).1
  generalize worldErr ⟨rows, gens⟩ = F at *
  obtain ⟨f1, f2⟩ := F
  have H2 := H0.new _ rfl 43 [.int .i64 f1, .int .i64 f2]
  clear H0
  simp only at hsp hrt ⊢
  by_cases hf : f1 = 0
  case neg =>
    have hf' : (f1 != 0) = true := by simpa using hf
    have hE : Hid (E = ⟨[], [], 0, 0, f1⟩) := Lib.hid (by rw [hsp.out, if_pos hf])
    clear hsp hrt
    go_wp2_with fail
    obtain ⟨w2, hw2, H2⟩ := H2.name
    rw [hw2]; clear hw2
    have n13 := H2.ne 1 3 rfl rfl (by omega); have n23 := H2.ne 2 3 rfl rfl (by omega); have n31 := n13.symm; have n32 := n23.symm
    have q0 := H2.cell 1 0 rfl rfl; have q1 := H2.cell 1 1 rfl rfl; have q2 := H2.cell 2 0 rfl rfl; have q3 := H2.cell 2 1 rfl rfl
    have y0 := H2.frozen 1 0 rfl; have y1 := H2.frozen 1 1 rfl; have y2 := H2.frozen 2 0 rfl; have y3 := H2.frozen 2 1 rfl
    have c0 := H2.cell 3 0 rfl rfl
    go_region_held3 (fun w' => w'.cell? ⟨w1.heap.size, 0, none⟩ = some (.int .i64 f1)) (go_keep) (fail)
    have H4 := ((((H2.set 1 0 (.slice none 0 0) rfl).set 1 1 (.slice none 0 0) rfl).set 2 0 (.int .i64 0) rfl).set 2 1 (.int .i64 0) rfl).drew
    have p0 := H4.cell 1 0 rfl rfl; have p1 := H4.cell 1 1 rfl rfl; have p2 := H4.cell 2 0 rfl rfl; have p3 := H4.cell 2 1 rfl rfl
    go_wp2_with fail
    refine bodyPost_ret (v := .tuple #[.agg #[.slice none 0 0, .slice none 0 0], .agg #[.int .i64 0, .int .i64 0], .int .i64 f1]) (by simp [results, Try.results51, go_sem, p0, p1, p2, p3]) rfl ⟨_, by rw [hE.out], by rw [hE.out]; exact GotW.zero _ _, H4.bel⟩
  case pos =>
    subst hf
    have hrw := hrt.out rfl
    replace hlg : gens.length ≤ 1000000 := by have := hrw.len; omega
    replace hlr : rows.length ≤ 1000000 := by have := hrw.rows_le; have := hrw.len; omega
    have hsp2 : Hid (E = if isSet has = false ∨ isVal n = false then ⟨[], [], 0, 0, 3⟩
      else if (nextV rows gens).2.2 ≠ 0 then ⟨[], [], 0, 0, (nextV rows gens).2.2⟩
      else ⟨insRow rows (posOf (nextV rows gens).1 rows) (newRow (nextV rows gens).1 (nextV rows gens).2.1 has n), gensPut gens (nextV rows gens).1 (nextV rows gens).2.1, (nextV rows gens).1, (nextV rows gens).2.1, 0⟩) := Lib.hid (by rw [hsp.out, if_neg (by simp)])
    clear hsp hrt
    go_wp2_with fail
    obtain ⟨w2, hw2, H2⟩ := H2.name
    rw [hw2]; clear hw2
    have q0 := H2.cell 1 0 rfl rfl; have q1 := H2.cell 1 1 rfl rfl; have q2 := H2.cell 2 0 rfl rfl; have q3 := H2.cell 2 1 rfl rfl
    have y0 := H2.frozen 1 0 rfl; have y1 := H2.frozen 1 1 rfl; have y2 := H2.frozen 2 0 rfl; have y3 := H2.frozen 2 1 rfl
    have x0 := H2.cell 0 0 rfl rfl; have x1 := H2.cell 0 1 rfl rfl
    have H4 := (((H2.set 1 0 (.slice none 0 0) rfl).set 1 1 (.slice none 0 0) rfl).set 2 0 (.int .i64 0) rfl).set 2 1 (.int .i64 0) rfl
    have p0 := H4.cell 1 0 rfl rfl; have p1 := H4.cell 1 1 rfl rfl; have p2 := H4.cell 2 0 rfl rfl; have p3 := H4.cell 2 1 rfl rfl
    by_cases hs : isSet has = false ∨ isVal n = false
    · have hE : Hid (E = ⟨[], [], 0, 0, 3⟩) := Lib.hid (by rw [hsp2.out, if_pos hs])
      clear hsp2
      cases hs1 : isSet has with
      | false =>
        have hcall := set_any has w2
        rw [hs1] at hcall
        refine hcall.mono ?_
        rintro e w3 ⟨rfl, rfl⟩
        clear hs hcall
        go_wp2_with fail
        refine bodyPost_ret (v := .tuple #[.agg #[.slice none 0 0, .slice none 0 0], .agg #[.int .i64 0, .int .i64 0], .int .i64 3]) (by simp [results, Try.results51, go_sem, p0, p1, p2, p3]) rfl ⟨_, by rw [hE.out], by rw [hE.out]; exact GotW.zero _ _, H4.bel⟩
      | true =>
        have hs2 : isVal n = false := by rcases hs with h | h; (rw [hs1] at h; cases h); exact h
        have hcall := set_any has w2
        rw [hs1] at hcall
        refine hcall.mono ?_
        rintro e w3 ⟨rfl, rfl⟩
        clear hs hcall
        go_wp2_with fail
        have hcall := value_any n w2
        rw [hs2] at hcall
        refine hcall.mono ?_
        rintro e w3 ⟨rfl, rfl⟩
        clear hcall
        go_wp2_with fail
        refine bodyPost_ret (v := .tuple #[.agg #[.slice none 0 0, .slice none 0 0], .agg #[.int .i64 0, .int .i64 0], .int .i64 3]) (by simp [results, Try.results51, go_sem, p0, p1, p2, p3]) rfl ⟨_, by rw [hE.out], by rw [hE.out]; exact GotW.zero _ _, H4.bel⟩
    · have hs1 : isSet has = true := by cases h : isSet has <;> simp_all
      have hs2 : isVal n = true := by cases h : isVal n <;> simp_all
      have hsp3 : Hid (E = if (nextV rows gens).2.2 ≠ 0 then ⟨[], [], 0, 0, (nextV rows gens).2.2⟩
        else ⟨insRow rows (posOf (nextV rows gens).1 rows) (newRow (nextV rows gens).1 (nextV rows gens).2.1 has n), gensPut gens (nextV rows gens).1 (nextV rows gens).2.1, (nextV rows gens).1, (nextV rows gens).2.1, 0⟩) := Lib.hid (by rw [hsp2.out, if_neg hs])
      clear hsp2 hs H4 p0 p1 p2 p3
      have hcall := set_any has w2
      rw [hs1] at hcall
      refine hcall.mono ?_
      rintro e w3 ⟨rfl, rfl⟩
      clear hcall
      go_wp2_with fail
      have hcall := value_any n w2
      rw [hs2] at hcall
      refine hcall.mono ?_
      rintro e w3 ⟨rfl, rfl⟩
      clear hcall
      go_wp2_with fail
      have hnok := Lib.hid (@nextV_ok rows gens)
      refine (next_any rows gens Ar cr Ag cg hlr hlg hrw.wfr (fun n hn => by have := (hrw.gen n hn).1; omega) w2 (H2.old hr) (H2.old hg)).mono ?_
      generalize nextV rows gens = X at *
      obtain ⟨i, g, er⟩ := X
      rintro e w3 ⟨rfl, hb3⟩
      replace H2 := H2.grow hb3
      clear hb3
      simp only at hsp3 hnok ⊢
      have H3 := H2.new _ rfl 68 [.int .i64 i, .int .i64 g]
      by_cases her : er = 0
      case neg =>
        have her' : (er != 0) = true := by simpa using her
        have hE : Hid (E = ⟨[], [], 0, 0, er⟩) := Lib.hid (by rw [hsp3.out, if_pos her])
        clear hsp3 hnok q0 q1 q2 q3 y0 y1 y2 y3 x0 x1
        have q0 := H2.cell 1 0 rfl rfl; have q1 := H2.cell 1 1 rfl rfl; have q2 := H2.cell 2 0 rfl rfl; have q3 := H2.cell 2 1 rfl rfl
        have y0 := H2.frozen 1 0 rfl; have y1 := H2.frozen 1 1 rfl; have y2 := H2.frozen 2 0 rfl; have y3 := H2.frozen 2 1 rfl
        have l1 := H2.lt 1 rfl; have l2 := H2.lt 2 rfl
        have H4 := ((((H2.set 1 0 (.slice none 0 0) rfl).set 1 1 (.slice none 0 0) rfl).set 2 0 (.int .i64 0) rfl).set 2 1 (.int .i64 0) rfl).new w3.heap.size (by simp) 68 [.int .i64 i, .int .i64 g]
        have p0 := H4.cell 1 0 rfl rfl; have p1 := H4.cell 1 1 rfl rfl; have p2 := H4.cell 2 0 rfl rfl; have p3 := H4.cell 2 1 rfl rfl
        go_wp2_with fail
        refine bodyPost_ret (v := .tuple #[.agg #[.slice none 0 0, .slice none 0 0], .agg #[.int .i64 0, .int .i64 0], .int .i64 er]) (by simp [results, Try.results51, go_sem, p0, p1, p2, p3]) rfl ⟨_, by rw [hE.out], by rw [hE.out]; exact GotW.zero _ _, H4.bel⟩
      case pos =>
        subst her
        have hE : Hid (E = ⟨insRow rows (posOf i rows) (newRow i g has n), gensPut gens i g, i, g, 0⟩) := Lib.hid (by rw [hsp3.out, if_neg (by simp)])
        clear hsp3 q0 q1 q2 q3 y0 y1 y2 y3 x0 x1
        have hnok2 := Lib.hid (hnok.out rfl)
        clear hnok
        have x0 := H2.cell 0 0 rfl rfl; have x1 := H2.cell 0 1 rfl rfl
        have l1 := H2.lt 0 rfl
        go_wp2_with fail
        clear H2 x0 x1 l1
        obtain ⟨w4, hw4, H3⟩ := H3.name
        rw [hw4]; clear hw4
        refine (own_any rows gens Ar cr Ag cg hlr hlg hnr hng w4 (H3.old hr) (H3.old hg)).mono ?_
        rintro e w5 ⟨vr, vg, rfl, hO, hb5⟩
        have H5 : Hp w w5 (spE (w.heap.size + 1) w3.heap.size i g vr vg rows gens) := ((H3.got2 hb5 hO.rows_ hO.gens_ (by decide)).drop1 3).drop1 0
        obtain ⟨Ar2, cr2, rfl, _, _⟩ := own_shape hO.rows_
        obtain ⟨Ag2, cg2, rfl, hgc, hgm⟩ := own_shape hO.gens_
        have hgrow := hb5.size
        have hgx : w.heap.size + 1 < w5.heap.size ∧ w3.heap.size < w5.heap.size := ⟨H5.lt 0 rfl, H5.lt 2 rfl⟩
        clear H3 hO hb5 hgrow
        have x0 := H5.cell 2 0 rfl rfl
        obtain ⟨gx1, gx2⟩ := hgx
        go_upto_if 54 with fail
        have H6 := H5.new w5.heap.size rfl 66 [.slice Ar2 rows.length cr2, .slice Ag2 gens.length cg2]
        clear H5
        obtain ⟨G1, hG1⟩ : ∃ G1 : List Int, Hid (G1 = if i = (gens.length : Int) then gens ++ [0] else gens) := ⟨_, Lib.hid rfl⟩
        go_cut [] (fun wx => ∃ Ag3 cg3, G1.length ≤ cg3 ∧ cg3 ≤ maxLen ∧ Hp w wx (spE (w.heap.size + 1) w3.heap.size i g (.slice Ar2 rows.length cr2) (.slice Ag3 G1.length cg3) rows G1 ++ [.box w5.heap.size 66 [.slice Ar2 rows.length cr2, .slice Ag3 G1.length cg3]]))
        case first =>
          clear hnok2
          by_cases hi : i = (gens.length : Int)
          · have hi' : (i == (gens.length : Int)) = true := by simpa using hi
            have hGv : Hid (G1 = gens ++ [0]) := Lib.hid (by rw [hG1.out, if_pos hi])
            clear hi hG1
            obtain ⟨i0', hi0, hz0a, hz0b, hz0c⟩ := info_parts infoInt
            have H7 := H6.new (w5.heap.size + 1) (by simp) 3 [.int .i64 0]
            go_wp2_with (at_builtin; refine wpList_append_own_at _ rfl _ _ 32 rfl w.heap.size 3 i0' (.int .i64 0) 1 8 Try.underlying32 hi0 hz0a hz0b hz0c rfl (by decide) _ _ _ rfl (H7.owns 4 rfl) ⟨w5.heap.size + 1, 0, none⟩ 1 1 [.int .i64 0] rfl rfl ?c1 ?c2 ?c3 ?c4 ?c5 ?_; rotate_left 5; intro v' w7 hown7 hgrow7 _ hat7; have H8 := H7.app 4 rfl hgrow7 hown7 (hat7.imp id (fun e g hg => by rw [e] at hg; injection hg with hg; omega)); have z0 := H8.cell 5 0 rfl rfl; have z1 := H8.cell 5 1 rfl rfl; have z2 := H8.frozen 5 1 rfl; have z3 := H8.frozen 5 0 rfl; obtain ⟨A3, c3, rfl, hs1, hs2⟩ := own_shape hown7)
            case c1 => exact news_blk (H7.blk 6 rfl)
            case c2 => simp [Value.oneCell']
            case c3 => unfold maxLen; omega
            case c4 => omega
            case c5 => exact H7.bel.size
            go_meet
            have hl : G1.length = gens.length + 1 := by rw [hGv.out]; simp
            have hi : ints G1 = ints gens ++ [.int .i64 0] := by rw [hGv.out, ints_snoc]
            refine ⟨A3, c3, by omega, hs2, ?_⟩
            rw [hl]
            unfold spE
            rw [hl, hi]
            exact (H8.set 5 1 (.slice A3 (gens.length + 1) c3) rfl).drop1 6
          · have hi' : (i == (gens.length : Int)) = false := by simpa using hi
            have hGv : Hid (G1 = gens) := Lib.hid (by rw [hG1.out, if_neg hi])
            go_wp2_with fail
            go_meet
            rw [hGv.out]
            exact ⟨Ag2, cg2, hgc, hgm, H6⟩
        case rest =>
          clear H6 x0 gx1 gx2 hgc hgm
          obtain ⟨Ag3, cg3, hgc, hgm, H6⟩ := hcut
          obtain ⟨ix, rfl, hix⟩ : ∃ ix : Nat, i = (ix : Int) ∧ ix < G1.length := by
            rw [hG1.out]
            rcases hnok2.out with ⟨k, hk, rfl, _⟩ | ⟨rfl, _⟩
            · exact ⟨k, rfl, by rw [if_neg (by omega)]; exact hk⟩
            · exact ⟨_, rfl, by rw [if_pos rfl]; simp⟩
          clear hnok2
          obtain ⟨gb, rfl⟩ := own_some (H6.owns 4 rfl) (by omega)
          have hgput : Hid (gensPut gens (ix : Int) g = G1.set ix g) := Lib.hid (by rw [hG1.out]; simp [gensPut])
          have hse : Hid ((ints G1).set ix (.int .i64 g) = ints (G1.set ix g)) := Lib.hid (by simp [ints, List.map_set])
          have z0 := H6.cell 2 0 rfl rfl; have z1 := H6.cell 2 1 rfl rfl; have z2 := H6.cell 5 1 rfl rfl; have z3 := H6.cell 5 0 rfl rfl
          have z4 := H6.ownCell 4 ix rfl (ints_get hix); have z5 := H6.ownFrozen 4 ix rfl
          have i0 : (0 : Int) ≤ (ix : Int) := by omega
          have i1 : (ix : Int) < (G1.length : Int) := by omega
          have n0 := (H6.apart (i := 4) (j := 2) rfl rfl (by omega) (g := gb) rfl)
          have n1 := (H6.apart (i := 4) (j := 5) rfl rfl (by omega) (g := gb) rfl)
          have n0' : ¬ (w3.heap.size = gb) := fun e => n0 (by rw [← e]; rfl)
          have n0'' : ¬ (gb = w3.heap.size) := fun e => n0 (by rw [e]; rfl)
          clear n0 n1
          have H7 := H6.put 4 ix (.int .i64 g) rfl
          rw [hse.out, show G1.length = (G1.set ix g).length by simp] at H7
          have H8 := H7.new wc.heap.size (by simp) 82 (rowL ix g has zeros8)
          clear H7
          rw [show G1.length = (G1.set ix g).length by simp] at z2
          rw [show G1.length = (G1.set ix g).length by simp] at i1
          rw [← hgput.out] at *
          go_wp2_with fail
          clear z0 z1 z2 z3 z4 z5 n0' n0'' H6 hse i1 hgput hG1
          obtain ⟨w8, hw8, H8⟩ := H8.name
          have hsz : Hid (wc.heap.size + 1 = w8.heap.size) := Lib.hid (by rw [← hw8]; simp)
          have hw8' := hw8
          rw [show rowL ix g has zeros8 = [.int .i64 ix, .int .i64 g, .int .i64 has, .int .i64 0, .int .i64 0, .int .i64 0, .int .i64 0, .int .i64 0, .int .i64 0, .int .i64 0, .int .i64 0] from rfl] at hw8'
          rw [hw8']; clear hw8 hw8'
          refine (list_any has hs1 w8).mono ?_
          rintro e w9 ⟨vl, rfl, hol, hb9⟩
          obtain ⟨Al, cl, rfl, hlc, hlm⟩ := own_shape hol
          have H9 := H8.got hb9 hol
          clear H8 hol hb9
          obtain ⟨b6, hb6⟩ : ∃ b6, b6 = wc.heap.size := ⟨_, rfl⟩
          rw [← hb6] at H9 ⊢
          have hgl := Lib.hid (show (gensPut gens (ix : Int) g).length = (gensPut gens (ix : Int) g).length from rfl)
          generalize gensPut gens (ix : Int) g = G2 at *
          clear hb6 hsz
          have hl8 := listS_len has
          go_wp2_with fail
          go_loopw [73] (fun i wr => ∃ j : Nat, j ≤ (listS has).length ∧ i = .int .i64 j ∧ Hp w wr (spE (w.heap.size + 1) w3.heap.size ix g (.slice Ar2 rows.length cr2) (.slice (some ⟨gb, 0, none⟩) G2.length cg3) rows G2 ++ [.box w5.heap.size 66 [.slice Ar2 rows.length cr2, .slice (some ⟨gb, 0, none⟩) G2.length cg3]] ++ [.box b6 82 (rowL ix g has (valsTo has n j))] ++ [.own (.slice Al (listS has).length cl) 3 1 (listS has).length (ints (listS has))])) (fun i _ => (listS has).length - (intOf i).toNat)
          case atStart => exact ⟨0, by omega, rfl, H9⟩
          case round =>
            clear H9
            obtain ⟨j, hj, rfl, H9⟩ := hrel
            by_cases hlt : j < (listS has).length
            · obtain ⟨kg, rfl⟩ := own_some (H9.owns 7 rfl) (by omega)
              have z4 := H9.ownCell 7 j rfl (ints_get hlt)
              obtain ⟨k0, k8⟩ := listS_range (listS has)[j] (List.getElem_mem hlt)
              have hvs := Lib.hid (valsTo_succ n hlt)
              obtain ⟨q, hq⟩ := nat_of k0
              rw [hq] at z4 hvs k0 k8
              clear hq
              have hv8 := valsTo_len has n j
              have hrs := Lib.hid (rowL_set ix g has (valsTo has n j) q n)
              rw [Int.toNat_natCast] at hvs
              obtain ⟨a0, a1, a2, a3, a4, a5, a6, a7, hva⟩ := vals_eight hv8
              have i0 : (0 : Int) ≤ (j : Int) := by omega
              have i1 : (j : Int) < ((listS has).length : Int) := by omega
              have hzq : ∃ u, wr.cell? ⟨b6, 3 + q, none⟩ = some u := by
                obtain ⟨u, hu⟩ : ∃ u, (rowL ix g has (valsTo has n j))[3 + q]? = some u := ⟨_, List.getElem?_eq_getElem (by simp [rowL, ints, hv8]; omega)⟩
                exact ⟨u, H9.cell 6 (3 + q) rfl hu⟩
              obtain ⟨u, hu⟩ := hzq
              have z6 := H9.frozen 6 (3 + q) rfl
              have H10 := H9.set 6 (3 + q) (.int .i64 n) rfl
              rw [hrs.out, ← hvs.out] at H10
              clear H9 hva hv8 hrs hvs
              have H11 := Lib.hid H10
              clear H10
              go_wp2_with fail
              go_roundw
              case rel => exact ⟨j + 1, by omega, by go_num, H11.out⟩
              case measure => simp [intOf]; omega
            · obtain rfl : j = (listS has).length := by omega
              replace H9 := H9.drop1 7
              have hrc := newRow_cells ix g has n
              rw [hrc] at H9
              obtain ⟨R, hR⟩ : ∃ R : BRow, R = newRow ix g has n := ⟨_, rfl⟩
              rw [show (⟨ix, g, has, valsTo has n (listS has).length, valsTo_len _ _ _⟩ : BRow) = R from hR.symm] at H9
              rw [← hR] at hE
              clear hrc
              have z0 := H9.cell 5 0 rfl rfl; have z1 := H9.cell 2 0 rfl rfl
              go_wp2_with fail
              clear z0 z1
              refine (search_any rows Ar2 cr2 ix hlr hrw.rise wr (H9.rd 3 rfl)).mono ?_
              rintro e w10 ⟨fb, rfl, hb10⟩
              have hpl := posOf_le ix rows
              generalize posOf (ix : Int) rows = pp at *
              replace H9 := H9.grow hb10
              clear hb10
              have z0 := H9.cell 5 0 rfl rfl; have y0 := H9.frozen 5 0 rfl
              obtain ⟨ridx, rgen, rhas, rvals, rh8⟩ := R
              obtain ⟨a0, a1, a2, a3, a4, a5, a6, a7, rfl⟩ := vals_eight rh8
              have c0 := H9.cell 6 0 rfl rfl; have c1 := H9.cell 6 1 rfl rfl; have c2 := H9.cell 6 2 rfl rfl; have c3 := H9.cell 6 3 rfl rfl; have c4 := H9.cell 6 4 rfl rfl; have c5 := H9.cell 6 5 rfl rfl; have c6 := H9.cell 6 6 rfl rfl; have c7 := H9.cell 6 7 rfl rfl; have c8 := H9.cell 6 8 rfl rfl; have c9 := H9.cell 6 9 rfl rfl; have c10 := H9.cell 6 10 rfl rfl
              go_wp2_with fail
              clear z0 y0 c0 c1 c2 c3 c4 c5 c6 c7 c8 c9 c10
              replace H9 := (H9.drop1 6).new w10.heap.size rfl 82 [.int .i64 ridx, .int .i64 rgen, .int .i64 rhas, .int .i64 a0, .int .i64 a1, .int .i64 a2, .int .i64 a3, .int .i64 a4, .int .i64 a5, .int .i64 a6, .int .i64 a7]
              obtain ⟨w11, hw11, H9⟩ := H9.name
              rw [hw11]; clear hw11
              refine (insert_any rows ⟨ridx, rgen, rhas, [a0, a1, a2, a3, a4, a5, a6, a7], rh8⟩ pp hpl hlr _ w.heap.size w10.heap.size w11 H9.bel.size (fun e => (H9.apart (i := 3) (j := 6) rfl rfl (by omega) e) rfl) (H9.owns 3 rfl) (H9.blk 6 rfl)).mono ?_
              rintro e w12 ⟨v3, rfl, hown12, hgrow12, hat12⟩
              have H12 := (H9.step (p' := .own v3 82 11 (rows.length + 1) _) 3 rfl hgrow12 hown12 hat12).drop1 6
              obtain ⟨A3, c3, rfl, hs1, hs2⟩ := own_shape hown12
              clear H9 hown12 hgrow12 hat12
              have z0 := H12.cell 5 0 rfl rfl; have y0 := H12.frozen 5 0 rfl
              have H13 := H12.set 5 0 (.slice A3 (rows.length + 1) c3) rfl
              clear H12
              go_upto_region 21 with fail
              obtain ⟨w13, hw13, H13⟩ := H13.name
              rw [hw13]; clear hw13 z0 y0
              have n02 := H13.ne 0 2 rfl rfl (by omega); have n05 := H13.ne 0 5 rfl rfl (by omega); have n12 := H13.ne 1 2 rfl rfl (by omega); have n15 := H13.ne 1 5 rfl rfl (by omega)
              have n20 := n02.symm; have n50 := n05.symm; have n21 := n12.symm; have n51 := n15.symm
              have q0 := H13.cell 0 0 rfl rfl; have q1 := H13.cell 0 1 rfl rfl; have q2 := H13.cell 1 0 rfl rfl; have q3 := H13.cell 1 1 rfl rfl
              have y0 := H13.frozen 0 0 rfl; have y1 := H13.frozen 0 1 rfl; have y2 := H13.frozen 1 0 rfl; have y3 := H13.frozen 1 1 rfl
              have x0 := H13.cell 5 0 rfl rfl; have x1 := H13.cell 5 1 rfl rfl; have x2 := H13.cell 2 0 rfl rfl; have x3 := H13.cell 2 1 rfl rfl
              go_region_held3 (fun w' => w'.cell? ⟨w5.heap.size, 0, none⟩ = some (.slice A3 (rows.length + 1) c3) ∧ w'.cell? ⟨w5.heap.size, 1, none⟩ = some (.slice (some ⟨gb, 0, none⟩) G2.length cg3) ∧ w'.cell? ⟨w3.heap.size, 0, none⟩ = some (.int .i64 ix) ∧ w'.cell? ⟨w3.heap.size, 1, none⟩ = some (.int .i64 g)) (go_keep) (fail)
              have H14 := ((((H13.set 0 0 (.slice A3 (rows.length + 1) c3) rfl).set 0 1 (.slice (some ⟨gb, 0, none⟩) G2.length cg3) rfl).set 1 0 (.int .i64 ix) rfl).set 1 1 (.int .i64 g) rfl).drew
              have p0 := H14.cell 0 0 rfl rfl; have p1 := H14.cell 0 1 rfl rfl; have p2 := H14.cell 1 0 rfl rfl; have p3 := H14.cell 1 1 rfl rfl
              go_wp2_with fail
              refine bodyPost_ret (v := .tuple #[.agg #[.slice A3 (rows.length + 1) c3, .slice (some ⟨gb, 0, none⟩) G2.length cg3], .agg #[.int .i64 ix, .int .i64 g], .int .i64 0]) (by simp [results, Try.results51, go_sem, p0, p1, p2, p3]) rfl ⟨_, by rw [hE.out], ?_, H14.bel⟩
              rw [hE.out]
              refine ⟨_, _, rfl, ?_, H14.owns 4 rfl⟩
              have hil := insRow_length hpl ⟨ridx, rgen, rhas, [a0, a1, a2, a3, a4, a5, a6, a7], rh8⟩
              have ho := H14.owns 3 rfl
              simp only
              rw [hil]
              exact ho
end Go.Proofs.Ytefdblaolmckmaa
