/- The walk of alive of chapter 2. -/
import Derived.Test.YtefdblaolmckmaaSpecS
namespace Go.Proofs.Ytefdblaolmckmaa
open Go.RowKit
open Brood
set_option linter.unusedVariables false
set_option linter.unusedSimpArgs false

/-- A world that a callee made: among what the call has. -/
theorem GotW.got {w0 w w' : World} {E : List Ent} (h : Hp w0 w E) (hb : Below w.heap.size w w') {v : Value} {rows : List BRow} {gens : List Int} (hG : GotW w' w.heap.size v rows gens) :
    ∃ Ar cr Ag cg, v = .agg #[.slice Ar rows.length cr, .slice Ag gens.length cg] ∧ (Ar = none → cr = 0 ∧ rows = []) ∧ (Ag = none → cg = 0 ∧ gens = []) ∧
      Hp w0 w' (E ++ [.own (.slice Ar rows.length cr) 82 11 rows.length (rows.flatMap rowCells), .own (.slice Ag gens.length cg) 3 1 gens.length (ints gens)]) := by
  obtain ⟨Ar, cr, Ag, cg, h1⟩ := hG.open_
  obtain ⟨vr, vg, rfl, hO⟩ := hG
  have hv := h1.val
  injection hv with hv
  injection hv with hv
  injection hv with e1 e2
  injection e2 with e2
  subst e1 e2
  exact ⟨Ar, cr, Ag, cg, rfl, h1.nr, h1.ng, h.got2 hb hO.rows_ hO.gens_ (by decide)⟩
theorem RightW.lens {rows : List BRow} {gens : List Int} (h : RightW rows gens) : rows.length ≤ 60 ∧ gens.length ≤ 60 := by
  have := h.rows_le; have := h.len; omega

theorem fld_err (a b : Int) (W : World) : (Instr.field 43 (.agg #[.int .i64 a, .int .i64 b]) 0).run Try.prog W = .ok (.int .i64 a) W := by kernel_rfl

theorem alive2_facts : ∃ xr xg kr kg zr zg, spawnV [] [] 5 7 = ⟨xr, xg, 0, 1, 0⟩ ∧ worldErr ⟨xr, xg⟩ = (0, 0) ∧ getP 0 1 xr 2 = (7, true) ∧ killV xr xg 0 1 = ⟨kr, kg, 0⟩ ∧ spawnV kr kg 0 0 = ⟨zr, zg, 0, 2, 0⟩ :=
  ⟨(spawnV [] [] 5 7).rows, (spawnV [] [] 5 7).gens, (killV (spawnV [] [] 5 7).rows (spawnV [] [] 5 7).gens 0 1).rows, (killV (spawnV [] [] 5 7).rows (spawnV [] [] 5 7).gens 0 1).gens,
    (spawnV (killV (spawnV [] [] 5 7).rows (spawnV [] [] 5 7).gens 0 1).rows (killV (spawnV [] [] 5 7).rows (spawnV [] [] 5 7).gens 0 1).gens 0 0).rows, (spawnV (killV (spawnV [] [] 5 7).rows (spawnV [] [] 5 7).gens 0 1).rows (killV (spawnV [] [] 5 7).rows (spawnV [] [] 5 7).gens 0 1).gens 0 0).gens,
    by kernel_rfl, by kernel_rfl, by kernel_rfl, by kernel_rfl, by kernel_rfl⟩

set_option maxRecDepth 20000 in
set_option maxHeartbeats 6400000 in
theorem alive2_any (w : World) : Calls Try.prog 50 #[] w fun e w' => e = .returned (.bool true) ∧ Below w.heap.size w w' := by
  obtain ⟨xr, xg, kr, kg, zr, zg, hX, hwX, hgX, hK, hZ⟩ := alive2_facts
  have hwx : RightW xr xg := (right_iff xr xg).1 (by rw [hwX])
  have hK2 := kill_ok (rows := xr) (gens := xg) (i := 0) (g := 1) (by rw [hK])
  have hwk : RightW kr kg := by have := hK2.is; rw [hK] at this; exact this
  have lx := hwx.lens; have lk := hwk.lens
  replace hX := Lib.hid hX; replace hwX := Lib.hid hwX; replace hgX := Lib.hid hgX; replace hK := Lib.hid hK; replace hZ := Lib.hid hZ
  have hsx := Lib.hid hwx.set_
  have H0 := Hp.start w
  go_enter Try.func50, Try.ntmps50
  go_wp2_with fail
  refine (spawn_any [] [] none 0 none 0 5 7 (by simp) (by simp) (fun _ => ⟨rfl, rfl⟩) (fun _ => ⟨rfl, rfl⟩) w Rd.nil_ Rd.nil_).mono ?_
  rintro e w1 ⟨v, rfl, hG, hb⟩
  rw [hX.out] at hG ⊢
  dsimp only at hG ⊢
  obtain ⟨Ar, cr, Ag, cg, rfl, nr, ng, H1⟩ := hG.got H0 hb
  clear hG hb H0
  have H2 := (H1.new w1.heap.size rfl 66 [.slice Ar xr.length cr, .slice Ag xg.length cg]).new (w1.heap.size + 1) (by simp) 68 [.int .i64 0, .int .i64 1]
  clear H1
  go_wp2_with fail
  obtain ⟨w2, hw2, H2⟩ := H2.name
  rw [hw2]; clear hw2
  refine (get_any xr xg Ar cr Ag cg (by omega) hsx.out 0 1 2 w2 (H2.rd 0 rfl)).mono ?_
  rintro e w3 ⟨rfl, hb⟩
  rw [hgX.out]
  dsimp only
  have H3 := H2.grow hb
  clear H2 hb
  have a0 := H3.cell 2 0 rfl rfl; have a1 := H3.cell 2 1 rfl rfl; have b0 := H3.cell 3 0 rfl rfl; have b1 := H3.cell 3 1 rfl rfl
  go_wp2_with fail
  refine (kill_any xr xg Ar cr Ag cg 0 1 (by omega) (by omega) nr ng w3 (H3.rd 0 rfl) (H3.rd 1 rfl)).mono ?_
  rintro e w4 ⟨v, rfl, hG, hb⟩
  rw [hK.out] at hG ⊢
  dsimp only at hG ⊢
  obtain ⟨Br, kr', Bg, kg', rfl, nr2, ng2, H4⟩ := hG.got H3 hb
  clear hG hb H3 a0 a1 b0 b1
  have H5 := H4.new w4.heap.size rfl 66 [.slice Br kr.length kr', .slice Bg kg.length kg']
  clear H4
  go_wp2_with fail
  obtain ⟨w5, hw5, H5⟩ := H5.name
  rw [hw5]; clear hw5
  refine (spawn_any kr kg Br kr' Bg kg' 0 0 (by omega) (by omega) nr2 ng2 w5 (H5.rd 4 rfl) (H5.rd 5 rfl)).mono ?_
  rintro e w6 ⟨v, rfl, hG, hb⟩
  rw [hZ.out] at hG ⊢
  dsimp only at hG ⊢
  obtain ⟨Cr, c3, Cg, c4, rfl, nr3, ng3, H6⟩ := hG.got H5 hb
  clear hG hb H5
  have H7 := (H6.new w6.heap.size rfl 66 [.slice Cr zr.length c3, .slice Cg zg.length c4]).new (w6.heap.size + 1) (by simp) 68 [.int .i64 0, .int .i64 2]
  have a0 := H6.cell 2 0 rfl rfl; have a1 := H6.cell 2 1 rfl rfl; have b0 := H6.cell 3 0 rfl rfl; have b1 := H6.cell 3 1 rfl rfl
  have hne : w1.heap.size < w6.heap.size ∧ w1.heap.size + 1 < w6.heap.size := ⟨H6.lt 2 rfl, H6.lt 3 rfl⟩
  clear H6
  go_wp2_with fail
  obtain ⟨w7, hw7, H7⟩ := H7.name
  rw [hw7]; clear hw7
  refine (pwrong_any xr xg Ar cr Ag cg (by omega) w7 (H7.rd 0 rfl) (H7.rd 1 rfl)).mono ?_
  rintro e w8 ⟨rfl, hb⟩
  rw [hwX.out]
  have H8 := H7.grow hb
  have hfld := fun a b W => fld_err a b W
  go_wp2_with fail
  go_ret
  exact ⟨rfl, H8.bel⟩
end Go.Proofs.Ytefdblaolmckmaa
