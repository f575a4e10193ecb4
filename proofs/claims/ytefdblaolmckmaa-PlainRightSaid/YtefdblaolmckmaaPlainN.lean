/- The walk of plain.change. -/
import Derived.Test.YtefdblaolmckmaaPlainM
namespace Go.Proofs.Ytefdblaolmckmaa
open Go.RowKit
open Brood
set_option linter.unusedVariables false
set_option linter.unusedSimpArgs false

/-- What a closure does with any row of the call's own. -/
def RowFn (w0 : World) (F : FuncId) (caps : Array Value) (fr : BRow → BRow × Int) : Prop :=
  ∀ (w : World) (g o : Nat) (cur : Array Value) (r : BRow), Below w0.heap.size w0 w → w0.heap.size ≤ g → Blk w g 82 cur → RowIn cur o r → isSet r.has = true →
    Calls Try.prog F (#[.pointer (some ⟨g, o, none⟩)] ++ caps) w fun e w' => e = .returned (.int .i64 (fr r).2) ∧ w.grownBy w' (some g) ∧ Blk w' g 82 (patch cur o (rowCells (fr r).1))
structure Changed where
  rows : List BRow
  gens : List Int
  err : Int
def changeV (rows : List BRow) (gens : List Int) (i g : Int) (fr : BRow → BRow × Int) : Changed :=
  if (worldErr ⟨rows, gens⟩).1 ≠ 0 then ⟨[], [], (worldErr ⟨rows, gens⟩).1⟩
  else match findR i g rows with
    | none => ⟨[], [], 5⟩
    | some k => match rows[k]? with
      | none => ⟨[], [], 5⟩
      | some r => if (fr r).2 ≠ 0 then ⟨[], [], (fr r).2⟩ else ⟨rows.set k (fr r).1, gens, 0⟩
theorem flat_set {rows : List BRow} {k : Nat} (hk : k < rows.length) (r : BRow) {cur : Array Value} {m : Nat} (hm : m = rows.length * 11) (h : cur.toList.take m = rows.flatMap rowCells) (hs : m ≤ cur.size) :
    (patch cur (k * 11) (rowCells r)).toList.take m = (rows.set k r).flatMap rowCells := by
  apply List.ext_getElem?
  intro j
  rw [List.getElem?_take]
  have hl2 : ((rows.set k r).flatMap rowCells).length = m := by rw [rows_length, List.length_set]; omega
  split
  · rename_i hj
    rw [Array.getElem?_toList]
    have hd : j = j / 11 * 11 + j % 11 := by omega
    have hq : j / 11 < rows.length := by omega
    have hg : ((rows.set k r).flatMap rowCells)[j]? = (rowCells ((rows.set k r)[j / 11]'(by rw [List.length_set]; exact hq)))[j % 11]? := by
      have := flat_get rowCells_length (rows.set k r) (j / 11) (by rw [List.length_set]; exact hq) (j % 11) (by omega)
      rw [← hd] at this
      exact this
    rw [hg]
    by_cases hkq : j / 11 = k
    · subst hkq
      rw [List.getElem_set_self]
      have := patch_in (rowCells r) cur (j / 11 * 11) (j % 11) (by rw [rowCells_length]; omega) (by rw [rowCells_length]; omega)
      rw [← hd] at this
      exact this
    · rw [List.getElem_set_ne (by omega), patch_out _ _ _ _ (by rw [rowCells_length]; omega)]
      have h2 : (cur.toList.take m)[j]? = (rows.flatMap rowCells)[j]? := by rw [h]
      rw [List.getElem?_take, if_pos hj, Array.getElem?_toList] at h2
      rw [h2]
      have := flat_get rowCells_length rows (j / 11) hq (j % 11) (by omega)
      rw [← hd] at this
      exact this
  · rw [List.getElem?_eq_none (by omega)]

theorem row_in {rows : List BRow} {k : Nat} (hk : k < rows.length) {cur : Array Value} {m : Nat} (hm : m = rows.length * 11) (h : cur.toList.take m = rows.flatMap rowCells) : RowIn cur (k * 11) rows[k] := by
  intro j u hu
  have hj : j < 11 := by
    have := (List.getElem?_eq_some_iff.1 hu).1
    rwa [rowCells_length] at this
  have h1 := flat_get rowCells_length rows k hk j hj
  rw [hu, ← h, List.getElem?_take, if_pos (by omega), Array.getElem?_toList] at h1
  exact h1
theorem enter_test (args : Array Value) (W : World) : (callFunc 73 args).run Try.prog W = .ok (.enter 73 args) W := by
  kernel_rfl
set_option maxRecDepth 20000 in
set_option maxHeartbeats 6400000 in
theorem change_any (rows : List BRow) (gens : List Int) (Ar : Option Addr) (cr : Nat) (Ag : Option Addr) (cg : Nat) (i g : Int) (b : Nat) (F : FuncId) (caps : Array Value) (fr : BRow → BRow × Int) (hlr : rows.length ≤ 9223372036854775807) (hlg : gens.length ≤ 9223372036854775807) (hnr : Ar = none → cr = 0 ∧ rows = []) (hng : Ag = none → cg = 0 ∧ gens = [])
    (w : World) (hr : RdR w w.heap.size Ar rows) (hg : RdG w w.heap.size Ag gens) (HW : Blk w b 66 #[.slice Ar rows.length cr, .slice Ag gens.length cg]) (hF : RowFn w F caps fr) (hen : ∀ (args : Array Value) (W : World), (callFunc F args).run Try.prog W = .ok (.enter F args) W) :
    Calls Try.prog 72 #[.pointer (some ⟨b, 0, none⟩), .agg #[.int .i64 i, .int .i64 g], .func (.func F) #[] caps] w fun e w' =>
      ∃ v, e = .returned (.tuple #[v, .int .i64 (changeV rows gens i g fr).err]) ∧
        GotW w' w.heap.size v (changeV rows gens i g fr).rows (changeV rows gens i g fr).gens ∧ Below w.heap.size w w' := by
  have hch : Hid (changeV rows gens i g fr = if (worldErr ⟨rows, gens⟩).1 ≠ 0 then ⟨[], [], (worldErr ⟨rows, gens⟩).1⟩
    else match findR i g rows with
    | none => ⟨[], [], 5⟩
    | some k => match rows[k]? with
      | none => ⟨[], [], 5⟩
      | some r => if (fr r).2 ≠ 0 then ⟨[], [], (fr r).2⟩ else ⟨rows.set k (fr r).1, gens, 0⟩) := Lib.hid rfl
  generalize changeV rows gens i g fr = E at *
  have hFh := Lib.hid hF
  clear hF
  have hwlt := HW.lt
  have H0 := ((Hp.start w).new w.heap.size rfl 68 [.int .i64 i, .int .i64 g]).new (w.heap.size + 1) (by simp) 66 [.slice none 0 0, .slice none 0 0]
  have a0 := HW.cell 0; have a1 := HW.cell 1
  simp at a0 a1
  go_enter Try.func72, Try.ntmps72
  go_wp2_with fail
  clear a0 a1
  obtain ⟨w0, hw0, H0⟩ := H0.name
  rw [hw0]; clear hw0
  refine (pwrong_any rows gens Ar cr Ag cg hlr w0 (H0.old hr) (H0.old hg)).mono ?_
  rintro e w1 ⟨rfl, hb1⟩
  replace H0 := H0.grow hb1
  clear hb1
  have hrt : Hid ((worldErr ⟨rows, gens⟩).1 = 0 → RightW rows gens) := Lib.hid (right_iff rows gens).1
  generalize worldErr ⟨rows, gens⟩ = F' at *
  obtain ⟨f1, f2⟩ := F'
  have H2 := H0.new _ rfl 43 [.int .i64 f1, .int .i64 f2]
  clear H0
  simp only at hch hrt ⊢
  by_cases hf : f1 = 0
  case neg =>
    have hf' : (f1 != 0) = true := by simpa using hf
    have hE : Hid (E = ⟨[], [], f1⟩) := Lib.hid (by rw [hch.out, if_pos hf])
    clear hch hrt
    go_wp2_with fail
    obtain ⟨w2, hw2, H2⟩ := H2.name
    rw [hw2]; clear hw2
    have n13 := H2.ne 1 2 rfl rfl (by omega); have n31 := n13.symm
    have q0 := H2.cell 1 0 rfl rfl; have q1 := H2.cell 1 1 rfl rfl
    have y0 := H2.frozen 1 0 rfl; have y1 := H2.frozen 1 1 rfl
    have c0 := H2.cell 2 0 rfl rfl
    go_region_held3 (fun w' => w'.cell? ⟨w1.heap.size, 0, none⟩ = some (.int .i64 f1)) (go_keep) (fail)
    have H4 := ((H2.set 1 0 (.slice none 0 0) rfl).set 1 1 (.slice none 0 0) rfl).drew
    have p0 := H4.cell 1 0 rfl rfl; have p1 := H4.cell 1 1 rfl rfl
    go_wp2_with fail
    refine bodyPost_ret (v := .tuple #[.agg #[.slice none 0 0, .slice none 0 0], .int .i64 f1]) (by simp [results, Try.results72, go_sem, p0, p1]) rfl ⟨_, by rw [hE.out], by rw [hE.out]; exact GotW.zero _ _, H4.bel⟩
  case pos =>
    subst hf
    have hrw := hrt.out rfl
    replace hlg : gens.length ≤ 1000000 := by have := hrw.len; omega
    replace hlr : rows.length ≤ 1000000 := by have := hrw.rows_le; have := hrw.len; omega
    have hch2 : Hid (E = match findR i g rows with
      | none => ⟨[], [], 5⟩
      | some k => match rows[k]? with
        | none => ⟨[], [], 5⟩
        | some r => if (fr r).2 ≠ 0 then ⟨[], [], (fr r).2⟩ else ⟨rows.set k (fr r).1, gens, 0⟩) := Lib.hid (by rw [hch.out, if_neg (by simp)])
    clear hch hrt
    have x0 := H2.cell 0 0 rfl rfl; have x1 := H2.cell 0 1 rfl rfl
    go_wp2_with fail
    clear x0 x1
    obtain ⟨w2, hw2, H2⟩ := H2.name
    rw [hw2]; clear hw2
    refine (find_any rows Ar cr (.slice Ag gens.length cg) hlr i g b w2 (H2.old hr) (HW.below H2.bel hwlt)).mono ?_
    rintro e w3 ⟨rfl, hb3⟩
    replace H2 := H2.grow hb3
    clear hb3
    have q0 := H2.cell 1 0 rfl rfl; have q1 := H2.cell 1 1 rfl rfl
    have y0 := H2.frozen 1 0 rfl; have y1 := H2.frozen 1 1 rfl
    cases hfk : findR i g rows with
    | none =>
      have h1 : findI i g rows = -1 := by unfold findI; rw [hfk]
      have hE : Hid (E = ⟨[], [], 5⟩) := Lib.hid (by rw [hch2.out, hfk])
      rw [h1]
      clear hch2 hfk
      have H4 := (H2.set 1 0 (.slice none 0 0) rfl).set 1 1 (.slice none 0 0) rfl
      have p0 := H4.cell 1 0 rfl rfl; have p1 := H4.cell 1 1 rfl rfl
      go_wp2_with fail
      refine bodyPost_ret (v := .tuple #[.agg #[.slice none 0 0, .slice none 0 0], .int .i64 5]) (by simp [results, Try.results72, go_sem, p0, p1]) rfl ⟨_, by rw [hE.out], by rw [hE.out]; exact GotW.zero _ _, H4.bel⟩
    | some k =>
      have hk := findR_lt hfk
      have h1 : findI i g rows = (k : Int) := by unfold findI; rw [hfk]
      have hch3 : Hid (E = if (fr rows[k]).2 ≠ 0 then ⟨[], [], (fr rows[k]).2⟩ else ⟨rows.set k (fr rows[k]).1, gens, 0⟩) := Lib.hid (by rw [hch2.out, hfk]; simp only [List.getElem?_eq_getElem hk])
      rw [h1]
      clear hch2 hfk
      have hsr := hrw.set_ rows[k] (List.getElem_mem hk)
      have HW3 := HW.below H2.bel hwlt
      have b0 := HW3.cell 0; have b1 := HW3.cell 1
      simp at b0 b1
      have kn : ¬ ((k : Int) < 0) := by omega
      clear q0 q1 y0 y1
      go_wp2_with fail
      clear b0 b1 HW3
      refine (own_any rows gens Ar cr Ag cg hlr hlg hnr hng w3 (H2.old hr) (H2.old hg)).mono ?_
      rintro e w5 ⟨vr, vg, rfl, hO, hb5⟩
      have H5 := ((H2.got2 hb5 hO.rows_ hO.gens_ (by decide)).drop1 2).drop1 0
      obtain ⟨Ar2, cr2, rfl, hr1, hr2⟩ := own_shape hO.rows_
      obtain ⟨Ag2, cg2, rfl, hgc, hgm⟩ := own_shape hO.gens_
      obtain ⟨gb, rfl⟩ := own_some hO.rows_ (by omega)
      replace H5 := H5.new w5.heap.size rfl 66 [.slice (some ⟨gb, 0, none⟩) rows.length cr2, .slice Ag2 gens.length cg2]
      clear H2 hO hb5
      have i0 : (0 : Int) ≤ (k : Int) := by omega
      have i1 : (k : Int) < (rows.length : Int) := by omega
      go_wp2_with fail
      obtain ⟨w6, hw6, H5⟩ := H5.name
      rw [hw6]; clear hw6
      obtain ⟨cur, hblk, hgb, hnc, hcm, hsz, htk⟩ := own_blk (H5.owns 1 rfl)
      refine (hFh.out w6 gb (k * 11) cur rows[k] H5.bel hgb hblk (row_in hk rfl htk) hsr).mono ?_
      generalize hR : fr rows[k] = R at *
      obtain ⟨r', er⟩ := R
      rintro e w7 ⟨rfl, hg7, hb7⟩
      have ho7 : w7.ownsRow w.heap.size 82 11 (.slice (some ⟨gb, 0, none⟩) rows.length cr2) rows.length ((rows.set k r').flatMap rowCells) :=
        own_of_blk hb7 hgb hnc hcm (by rw [patch_size]; exact hsz) (flat_set hk r' rfl htk (by omega))
      have H7 := H5.step (p' := .own _ _ _ _ _) 1 rfl hg7 ho7 (fun q hq => .inl hq)
      clear H5 hblk htk hsz hg7 hb7 ho7 hsr hR
      have q0 := H7.cell 0 0 rfl rfl; have q1 := H7.cell 0 1 rfl rfl
      have y0 := H7.frozen 0 0 rfl; have y1 := H7.frozen 0 1 rfl
      have x0 := H7.cell 3 0 rfl rfl; have x1 := H7.cell 3 1 rfl rfl
      simp only at hch3 ⊢
      by_cases her : er = 0
      · subst her
        have hE : Hid (E = ⟨rows.set k r', gens, 0⟩) := Lib.hid (by rw [hch3.out, if_neg (by simp)])
        clear hch3
        have H8 := (H7.set 0 0 (.slice (some ⟨gb, 0, none⟩) rows.length cr2) rfl).set 0 1 (.slice Ag2 gens.length cg2) rfl
        have p0 := H8.cell 0 0 rfl rfl; have p1 := H8.cell 0 1 rfl rfl
        go_wp2_with fail
        refine bodyPost_ret (v := .tuple #[.agg #[.slice (some ⟨gb, 0, none⟩) rows.length cr2, .slice Ag2 gens.length cg2], .int .i64 0]) (by simp [results, Try.results72, go_sem, p0, p1]) rfl ⟨_, by rw [hE.out], ?_, H8.bel⟩
        rw [hE.out]
        have ho := H8.owns 1 rfl
        exact ⟨_, _, rfl, by simp only [List.length_set]; exact ho, H8.owns 2 rfl⟩
      · have her' : (er != 0) = true := by simpa using her
        have hE : Hid (E = ⟨[], [], er⟩) := Lib.hid (by rw [hch3.out, if_pos her])
        clear hch3
        have H8 := (H7.set 0 0 (.slice none 0 0) rfl).set 0 1 (.slice none 0 0) rfl
        have p0 := H8.cell 0 0 rfl rfl; have p1 := H8.cell 0 1 rfl rfl
        go_wp2_with fail
        refine bodyPost_ret (v := .tuple #[.agg #[.slice none 0 0, .slice none 0 0], .int .i64 er]) (by simp [results, Try.results72, go_sem, p0, p1]) rfl ⟨_, by rw [hE.out], by rw [hE.out]; exact GotW.zero _ _, H8.bel⟩
end Go.Proofs.Ytefdblaolmckmaa
