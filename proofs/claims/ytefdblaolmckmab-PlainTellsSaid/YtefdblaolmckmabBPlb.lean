/- The walk of plain.change. The walks of slices.IndexFunc and DeleteFunc at rows, whatever the predicate. The walk of slices.DeleteFunc at rows. The walks of plain.Put, Drop and Kill. -/
import Derived.Test.YtefdblaolmckmabBPla
namespace Go.Proofs.Ytefdblaolmckmab
open Go.RowKit
open Brood
set_option linter.unusedVariables false
set_option linter.unusedSimpArgs false

/-- What a closure does with any row of the call's own. -/
def RowFn (w0 : World) (F : FuncId) (caps : Array Value) (fr : BRow → BRow × Int) : Prop :=
  ∀ (w : World) (g o : Nat) (cur : Array Value) (r : BRow), Below w0.heap.size w0 w → w0.heap.size ≤ g → Blk w g 51 cur → RowIn cur o r → isSet r.has = true →
    Calls Try.prog F (#[.pointer (some ⟨g, o, none⟩)] ++ caps) w fun e w' => e = .returned (.int .i64 (fr r).2) ∧ w.grownBy w' (some g) ∧ Blk w' g 51 (patch cur o (rowCells (fr r).1))
theorem enter_test (args : Array Value) (W : World) : (callFunc 69 args).run Try.prog W = .ok (.enter 69 args) W := by
  kernel_rfl
set_option maxRecDepth 20000 in
set_option maxHeartbeats 6400000 in
theorem change_any (rows : List BRow) (gens : List Int) (Ar : Option Addr) (cr : Nat) (Ag : Option Addr) (cg : Nat) (i g : Int) (b : Nat) (F : FuncId) (caps : Array Value) (fr : BRow → BRow × Int) (hlr : rows.length ≤ 9223372036854775807) (hlg : gens.length ≤ 9223372036854775807) (hnr : Ar = none → cr = 0 ∧ rows = []) (hng : Ag = none → cg = 0 ∧ gens = [])
    (w : World) (hr : RdR w w.heap.size Ar rows) (hg : RdG w w.heap.size Ag gens) (HW : Blk w b 25 #[.slice Ar rows.length cr, .slice Ag gens.length cg]) (hF : RowFn w F caps fr) (hen : ∀ (args : Array Value) (W : World), (callFunc F args).run Try.prog W = .ok (.enter F args) W) :
    Calls Try.prog 68 #[.pointer (some ⟨b, 0, none⟩), .agg #[.int .i64 i, .int .i64 g], .func (.func F) #[] caps] w fun e w' =>
      ∃ v, e = .returned (.tuple #[v, .int .i64 (changeV rows gens i g fr).err]) ∧
        GotW w' w.heap.size v (changeV rows gens i g fr).rows (changeV rows gens i g fr).gens ∧ Below w.heap.size w w' := by
  have hch : Hid (changeV rows gens i g fr = if (worldErr ⟨rows, gens⟩).1 ≠ 0 then ⟨[], [], (worldErr ⟨rows, gens⟩).1⟩
    else match findR i g rows with
    | none => ⟨[], [], 5⟩
    | some k => match rows[k]? with
      | none => ⟨[], [], 5⟩
      | some r => if (fr r).2 ≠ 0 then ⟨[], [], (fr r).2⟩ else ⟨rows.set k (fr r).1, gens, 0⟩) := Lib.hid rfl
  generalize changeV rows gens i g fr = E at *
  have hFh := Lib.hid hF
  clear hF
  have hwlt := HW.lt
  have H0 := ((Hp.start w).new w.heap.size rfl 27 [.int .i64 i, .int .i64 g]).new (w.heap.size + 1) (by simp) 25 [.slice none 0 0, .slice none 0 0]
  have a0 := HW.cell 0; have a1 := HW.cell 1
  simp at a0 a1
  go_enter Try.func68, Try.ntmps68
  go_wp2_with fail
  clear a0 a1
  obtain ⟨w0, hw0, H0⟩ := H0.name
  rw [hw0]; clear hw0
  refine (pwrong_any rows gens Ar cr Ag cg hlr w0 (H0.old hr) (H0.old hg)).mono ?_
  rintro e w1 ⟨rfl, hb1⟩
  replace H0 := H0.grow hb1
  clear hb1
  have hrt : Hid ((worldErr ⟨rows, gens⟩).1 = 0 → RightW rows gens) := Lib.hid (right_iff rows gens).1
  generalize worldErr ⟨rows, gens⟩ = F' at *
  obtain ⟨f1, f2⟩ := F'
  have H2 := H0.new _ rfl 32 [.int .i64 f1, .int .i64 f2]
  clear H0
  simp only at hch hrt ⊢
  by_cases hf : f1 = 0
  case neg =>
    have hf' : (f1 != 0) = true := by simpa using hf
    have hE : Hid (E = ⟨[], [], f1⟩) := Lib.hid (by rw [hch.out, if_pos hf])
    clear hch hrt
    go_wp2_with fail
    obtain ⟨w2, hw2, H2⟩ := H2.name
    rw [hw2]; clear hw2
    have n13 := H2.ne 1 2 rfl rfl (by omega); have n31 := n13.symm
    have q0 := H2.cell 1 0 rfl rfl; have q1 := H2.cell 1 1 rfl rfl
    have y0 := H2.frozen 1 0 rfl; have y1 := H2.frozen 1 1 rfl
    have c0 := H2.cell 2 0 rfl rfl
    go_region_held3 (fun w' => w'.cell? ⟨w1.heap.size, 0, none⟩ = some (.int .i64 f1)) (go_keep) (fail)
    have H4 := ((H2.set 1 0 (.slice none 0 0) rfl).set 1 1 (.slice none 0 0) rfl).drew
    have p0 := H4.cell 1 0 rfl rfl; have p1 := H4.cell 1 1 rfl rfl
    go_wp2_with fail
    refine bodyPost_ret (v := .tuple #[.agg #[.slice none 0 0, .slice none 0 0], .int .i64 f1]) (by simp [results, Try.results68, go_sem, p0, p1]) rfl ⟨_, by rw [hE.out], by rw [hE.out]; exact GotW.zero _ _, H4.bel⟩
  case pos =>
    subst hf
    have hrw := hrt.out rfl
    replace hlg : gens.length ≤ 1000000 := by have := hrw.len; omega
    replace hlr : rows.length ≤ 1000000 := by have := hrw.rows_le; have := hrw.len; omega
    have hch2 : Hid (E = match findR i g rows with
      | none => ⟨[], [], 5⟩
      | some k => match rows[k]? with
        | none => ⟨[], [], 5⟩
        | some r => if (fr r).2 ≠ 0 then ⟨[], [], (fr r).2⟩ else ⟨rows.set k (fr r).1, gens, 0⟩) := Lib.hid (by rw [hch.out, if_neg (by simp)])
    clear hch hrt
    have x0 := H2.cell 0 0 rfl rfl; have x1 := H2.cell 0 1 rfl rfl
    go_wp2_with fail
    clear x0 x1
    obtain ⟨w2, hw2, H2⟩ := H2.name
    rw [hw2]; clear hw2
    refine (find_any rows Ar cr (.slice Ag gens.length cg) hlr i g b w2 (H2.old hr) (HW.below H2.bel hwlt)).mono ?_
    rintro e w3 ⟨rfl, hb3⟩
    replace H2 := H2.grow hb3
    clear hb3
    have q0 := H2.cell 1 0 rfl rfl; have q1 := H2.cell 1 1 rfl rfl
    have y0 := H2.frozen 1 0 rfl; have y1 := H2.frozen 1 1 rfl
    cases hfk : findR i g rows with
    | none =>
      have h1 : findI i g rows = -1 := by unfold findI; rw [hfk]
      have hE : Hid (E = ⟨[], [], 5⟩) := Lib.hid (by rw [hch2.out, hfk])
      rw [h1]
      clear hch2 hfk
      have H4 := (H2.set 1 0 (.slice none 0 0) rfl).set 1 1 (.slice none 0 0) rfl
      have p0 := H4.cell 1 0 rfl rfl; have p1 := H4.cell 1 1 rfl rfl
      go_wp2_with fail
      refine bodyPost_ret (v := .tuple #[.agg #[.slice none 0 0, .slice none 0 0], .int .i64 5]) (by simp [results, Try.results68, go_sem, p0, p1]) rfl ⟨_, by rw [hE.out], by rw [hE.out]; exact GotW.zero _ _, H4.bel⟩
    | some k =>
      have hk := findR_lt hfk
      have h1 : findI i g rows = (k : Int) := by unfold findI; rw [hfk]
      have hch3 : Hid (E = if (fr rows[k]).2 ≠ 0 then ⟨[], [], (fr rows[k]).2⟩ else ⟨rows.set k (fr rows[k]).1, gens, 0⟩) := Lib.hid (by rw [hch2.out, hfk]; simp only [List.getElem?_eq_getElem hk])
      rw [h1]
      clear hch2 hfk
      have hsr := hrw.set_ rows[k] (List.getElem_mem hk)
      have HW3 := HW.below H2.bel hwlt
      have b0 := HW3.cell 0; have b1 := HW3.cell 1
      simp at b0 b1
      have kn : ¬ ((k : Int) < 0) := by omega
      clear q0 q1 y0 y1
      go_wp2_with fail
      clear b0 b1 HW3
      refine (own_any rows gens Ar cr Ag cg (by omega) (by omega) hnr hng w3 (H2.old hr) (H2.old hg)).mono ?_
      rintro e w5 ⟨vr, vg, rfl, hO, hb5⟩
      have H5 := ((H2.got2 hb5 hO.rows_ hO.gens_ (by decide)).drop1 2).drop1 0
      obtain ⟨Ar2, cr2, rfl, hr1, hr2⟩ := own_shape hO.rows_
      obtain ⟨Ag2, cg2, rfl, hgc, hgm⟩ := own_shape hO.gens_
      obtain ⟨gb, rfl⟩ := own_some hO.rows_ (by omega)
      replace H5 := H5.new w5.heap.size rfl 25 [.slice (some ⟨gb, 0, none⟩) rows.length cr2, .slice Ag2 gens.length cg2]
      clear H2 hO hb5
      have i0 : (0 : Int) ≤ (k : Int) := by omega
      have i1 : (k : Int) < (rows.length : Int) := by omega
      go_wp2_with fail
      obtain ⟨w6, hw6, H5⟩ := H5.name
      rw [hw6]; clear hw6
      obtain ⟨cur, hblk, hgb, hnc, hcm, hsz, htk⟩ := own_blk (H5.owns 1 rfl)
      refine (hFh.out w6 gb (k * 11) cur rows[k] H5.bel hgb hblk (row_in hk rfl htk) hsr).mono ?_
      generalize hR : fr rows[k] = R at *
      obtain ⟨r', er⟩ := R
      rintro e w7 ⟨rfl, hg7, hb7⟩
      have ho7 : w7.ownsRow w.heap.size 51 11 (.slice (some ⟨gb, 0, none⟩) rows.length cr2) rows.length ((rows.set k r').flatMap rowCells) :=
        own_of_blk hb7 hgb hnc hcm (by rw [patch_size]; exact hsz) (flat_set hk r' rfl htk (by omega))
      have H7 := H5.step (p' := .own _ _ _ _ _) 1 rfl hg7 ho7 (fun q hq => .inl hq)
      clear H5 hblk htk hsz hg7 hb7 ho7 hsr hR
      have q0 := H7.cell 0 0 rfl rfl; have q1 := H7.cell 0 1 rfl rfl
      have y0 := H7.frozen 0 0 rfl; have y1 := H7.frozen 0 1 rfl
      have x0 := H7.cell 3 0 rfl rfl; have x1 := H7.cell 3 1 rfl rfl
      simp only at hch3 ⊢
      by_cases her : er = 0
      · subst her
        have hE : Hid (E = ⟨rows.set k r', gens, 0⟩) := Lib.hid (by rw [hch3.out, if_neg (by simp)])
        clear hch3
        have H8 := (H7.set 0 0 (.slice (some ⟨gb, 0, none⟩) rows.length cr2) rfl).set 0 1 (.slice Ag2 gens.length cg2) rfl
        have p0 := H8.cell 0 0 rfl rfl; have p1 := H8.cell 0 1 rfl rfl
        go_wp2_with fail
        refine bodyPost_ret (v := .tuple #[.agg #[.slice (some ⟨gb, 0, none⟩) rows.length cr2, .slice Ag2 gens.length cg2], .int .i64 0]) (by simp [results, Try.results68, go_sem, p0, p1]) rfl ⟨_, by rw [hE.out], ?_, H8.bel⟩
        rw [hE.out]
        have ho := H8.owns 1 rfl
        exact ⟨_, _, rfl, by simp only [List.length_set]; exact ho, H8.owns 2 rfl⟩
      · have her' : (er != 0) = true := by simpa using her
        have hE : Hid (E = ⟨[], [], er⟩) := Lib.hid (by rw [hch3.out, if_pos her])
        clear hch3
        have H8 := (H7.set 0 0 (.slice none 0 0) rfl).set 0 1 (.slice none 0 0) rfl
        have p0 := H8.cell 0 0 rfl rfl; have p1 := H8.cell 0 1 rfl rfl
        go_wp2_with fail
        refine bodyPost_ret (v := .tuple #[.agg #[.slice none 0 0, .slice none 0 0], .int .i64 er]) (by simp [results, Try.results68, go_sem, p0, p1]) rfl ⟨_, by rw [hE.out], by rw [hE.out]; exact GotW.zero _ _, H8.bel⟩
end Go.Proofs.Ytefdblaolmckmab

namespace Go.Proofs.Ytefdblaolmckmab
open Go.RowKit
open Brood
set_option linter.unusedVariables false
set_option linter.unusedSimpArgs false

/-- What a predicate on rows answers, in every world that has turned in block g at most. -/
def RowPred (w0 : World) (g : Option Nat) (F : FuncId) (caps : Array Value) (p : BRow → Bool) : Prop :=
  ∀ (w : World) (r : BRow), w0.grownBy w g → Calls Try.prog F (#[rowV r] ++ caps) w fun e w' => e = .returned (.bool (p r)) ∧ Below w.heap.size w w'
set_option maxRecDepth 20000 in
set_option maxHeartbeats 3200000 in
theorem indexRows_any (rows : List BRow) (A : Option Addr) (c : Nat) (hlen : rows.length ≤ 1000000) (F : FuncId) (caps : Array Value) (p : BRow → Bool) (w : World) (g : Option Nat) (hR : RdR w w.heap.size A rows) (hP : RowPred w g F caps p) (hen : ∀ (args : Array Value) (W : World), (callFunc F args).run Try.prog W = .ok (.enter F args) W) :
    Calls Try.prog 102 #[.slice A rows.length c, .func (.func F) #[] caps] w fun e w' => e = .returned (.int .i64 (findPI p rows)) ∧ Below w.heap.size w w' := by
  have hPh := Lib.hid hP
  clear hP
  go_enter Try.func102, Try.ntmps102
  go_wp2_with fail
  go_loopw [8] (fun q wr => ∃ k : Nat, k ≤ rows.length ∧ q = .int .i64 k ∧ Hid (findP p rows = (findP p (rows.drop k)).map (· + k)) ∧ Below w.heap.size w wr) (fun q _ => rows.length - (intOf q).toNat)
  case atStart => exact ⟨0, by omega, rfl, Lib.hid (by simp), Below.refl _ _⟩
  case round =>
    obtain ⟨k, hk, rfl, hfr, hbel⟩ := hrel
    by_cases hlt : k < rows.length
    · have hR1 : RdR wr w.heap.size A rows := Rd.under hR hbel (Nat.le_refl _)
      obtain ⟨b1, off, rfl, hb1, hrow⟩ := hR1.at_ hlt
      have hst := Lib.hid (@findP_drop p rows k hlt)
      have hcall := hPh.out wr rows[k] (grown_then (grown_refl w g) hbel)
      generalize rows[k] = r at *
      have i0 : (0 : Int) ≤ (k : Int) := by omega
      have i1 : (k : Int) < (rows.length : Int) := by omega
      obtain ⟨c0, c1, c2⟩ := hrow.head
      generalize p r = B at *
      obtain ⟨idx, gen, has, vals, h8⟩ := r
      obtain ⟨a0, a1, a2, a3, a4, a5, a6, a7, rfl⟩ := vals_eight h8
      have v0 := hrow 3 (.int .i64 a0) rfl; have v1 := hrow 4 (.int .i64 a1) rfl; have v2 := hrow 5 (.int .i64 a2) rfl; have v3 := hrow 6 (.int .i64 a3) rfl; have v4 := hrow 7 (.int .i64 a4) rfl; have v5 := hrow 8 (.int .i64 a5) rfl; have v6 := hrow 9 (.int .i64 a6) rfl; have v7 := hrow 10 (.int .i64 a7) rfl
      simp only at c0 c1 c2
      have hrv : rowV ⟨idx, gen, has, [a0, a1, a2, a3, a4, a5, a6, a7], h8⟩ = .agg #[.int .i64 idx, .int .i64 gen, .int .i64 has, .int .i64 a0, .int .i64 a1, .int .i64 a2, .int .i64 a3, .int .i64 a4, .int .i64 a5, .int .i64 a6, .int .i64 a7] := rfl
      rw [hrv] at hcall
      have hcallh := Lib.hid hcall
      clear hcall hrv hrow
      go_wp2_with fail
      refine hcallh.out.mono ?_
      rintro e w1 ⟨rfl, hb2⟩
      cases B
      case true =>
        have hf : Hid (findPI p rows = (k : Int)) := Lib.hid (by unfold findPI; rw [hfr.out, hst.out, if_pos rfl])
        go_wp2_with fail
        go_ret
        exact ⟨ret_int hf.out.symm, grow_below hbel hb2⟩
      case false =>
        have hf : Hid (findP p rows = (findP p (rows.drop (k + 1))).map (· + (k + 1))) := Lib.hid (by rw [hfr.out, hst.out, if_neg (by decide)])
        go_wp2_with fail
        go_roundw
        case rel => exact ⟨k + 1, by omega, by go_num, hf, grow_below hbel hb2⟩
        case measure => simp [intOf]; omega
    · obtain rfl : k = rows.length := by omega
      have hf : Hid (findPI p rows = -1) := Lib.hid (by unfold findPI; rw [hfr.out, List.drop_length]; rfl)
      go_wp2_with fail
      go_ret
      exact ⟨ret_int hf.out.symm, hbel⟩
end Go.Proofs.Ytefdblaolmckmab

namespace Go.Proofs.Ytefdblaolmckmab
open Go.RowKit
open Brood
set_option linter.unusedVariables false
set_option linter.unusedSimpArgs false

theorem zeroRow (w : World) : (zeroValue 51).run Try.prog w = .ok (.agg #[.int .i64 0, .int .i64 0, .int .i64 0, .int .i64 0, .int .i64 0, .int .i64 0, .int .i64 0, .int .i64 0, .int .i64 0, .int .i64 0, .int .i64 0]) w := by kernel_rfl
set_option maxRecDepth 20000 in
set_option maxHeartbeats 6400000 in
theorem delrows_any (rows : List BRow) (hlen : rows.length ≤ 1000000) (F : FuncId) (caps : Array Value) (p : BRow → Bool) (v : Value) (base : Nat) (w : World) (hown : w.ownsRow base 51 11 v rows.length (rows.flatMap rowCells))
    (hP : RowPred w v.ownBlock F caps p) (hen : ∀ (args : Array Value) (W : World), (callFunc F args).run Try.prog W = .ok (.enter F args) W) :
    Calls Try.prog 70 #[v, .func (.func F) #[] caps] w fun e w' => ∃ v', e = .returned v' ∧ w'.ownsRow base 51 11 v' (keepR p rows).length ((keepR p rows).flatMap rowCells) ∧ w.grownBy w' v.ownBlock ∧ ∀ q, v'.ownBlock = some q → v.ownBlock = some q ∨ w.heap.size ≤ q := by
  obtain ⟨A, c, rfl, hnc, hcm⟩ := own_shape hown
  have hcx : c ≤ 9223372036854775807 := by unfold maxLen at hcm; omega
  have hR : RdR w w.heap.size A rows := Rd.of_own hown
  have hix := Lib.hid (indexRows_any rows A c hlen F caps p w _ hR hP hen)
  go_enter Try.func70, Try.ntmps70
  go_wp2_with fail
  refine hix.out.mono ?_
  rintro e w1 ⟨rfl, hb1⟩
  have hPh := Lib.hid hP
  clear hix hP
  cases hf : findP p rows with
  | none =>
    have h1 : findPI p rows = -1 := by unfold findPI; rw [hf]
    have hk := Lib.hid (keepR_all (findP_none hf))
    rw [h1]
    have ho := own_below hown hb1
    have hg := grown_then (grown_refl w (Value.slice A rows.length c).ownBlock) hb1
    clear hf h1 hR hown
    go_wp2_with fail
    go_ret
    exact ⟨_, rfl, by rw [hk.out]; exact ho, hg, fun q hq => .inl hq⟩
  | some k =>
    obtain ⟨hk, hk1, hk2⟩ := findP_some hf
    have h1 : findPI p rows = (k : Int) := by unfold findPI; rw [hf]
    rw [h1]
    obtain ⟨g, rfl⟩ := own_some hown (by omega)
    have hS := DelSt.first hk hk1 hk2
    have ho := own_below hown hb1
    have hg := grown_then (grown_refl w (some g)) hb1
    have hglt := (hown.lt g rfl).2
    clear hf h1 hR hown hb1 hk1 hk2
    have hkn : ((k : Int) == -1) = false := by simp
    have hkm : ¬ ((k : Int) = -1) := by omega
    go_wp2_with fail
    go_loopw [5, 6] (fun s5 s6 wr => ∃ (i j : Nat) (cur : List BRow), s5 = .int .i64 i ∧ s6 = .int .i64 j ∧ Hid (DelSt p rows cur i j) ∧ w.grownBy wr (some g) ∧ wr.ownsRow base 51 11 (.slice (some ⟨g, 0, none⟩) rows.length c) rows.length (cur.flatMap rowCells)) (fun _ s6 _ => rows.length - (intOf s6).toNat)
    case atStart => exact ⟨k, k + 1, rows, rfl, by go_num, Lib.hid hS, hg, ho⟩
    case round =>
      clear hS hg ho hkn hkm
      obtain ⟨i, j, cur, rfl, rfl, hS, hg, ho⟩ := hrel
      have hgr : g < wr.heap.size := by have := hg.size; omega
      by_cases hj : j < rows.length
      · have hat := hS.out.at_ hj
        have hcl := hS.out.len
        have hij := hS.out.lt
        have hRc : RdR wr wr.heap.size (some ⟨g, 0, none⟩) cur := by unfold RdR; rw [hcl]; exact Rd.of_own ho
        obtain ⟨b1, off, he, hb1, hrow⟩ := hRc.at_ (k := j) (by omega)
        injection he with he
        injection he with he1 he2
        subst he1 he2
        rw [hat, Nat.zero_add] at hrow
        have hskip := Lib.hid (fun h => hS.out.skip_ hj h)
        have hkeep := Lib.hid (fun h => hS.out.keep hj h)
        obtain ⟨r, hr⟩ : ∃ r, r = rows[j] := ⟨_, rfl⟩
        rw [← hr] at hskip hkeep hrow
        clear hat hr
        obtain ⟨arr, hblk, hgb, hnc', _, hsz, htk⟩ := own_blk ho
        have i0 : (0 : Int) ≤ (j : Int) := by omega
        have i1 : (j : Int) < (rows.length : Int) := by omega
        have i2 : (0 : Int) ≤ (i : Int) := by omega
        have i3 : (i : Int) < (rows.length : Int) := by omega
        have hcall := hPh.out (wr.alloc (.cells (rowCells r).toArray 51)) r (grown_then hg ((Below.refl _ _).alloc (Nat.le_refl _) _))
        have htkh := Lib.hid htk
        have hpat := Lib.hid (flat_set (rows := cur) (k := i) (by omega) r (cur := arr) (m := rows.length * 11) (by rw [hcl]) htk (by omega))
        have hpsz := patch_size (rowCells r) arr (i * 11)
        clear hRc htk
        generalize p r = B at *
        obtain ⟨idx, gen, has, vals, h8⟩ := r
        obtain ⟨a0, a1, a2, a3, a4, a5, a6, a7, rfl⟩ := vals_eight h8
        obtain ⟨c0, c1, c2⟩ := hrow.head
        have v0 := hrow 3 (.int .i64 a0) rfl; have v1 := hrow 4 (.int .i64 a1) rfl; have v2 := hrow 5 (.int .i64 a2) rfl; have v3 := hrow 6 (.int .i64 a3) rfl; have v4 := hrow 7 (.int .i64 a4) rfl; have v5 := hrow 8 (.int .i64 a5) rfl; have v6 := hrow 9 (.int .i64 a6) rfl; have v7 := hrow 10 (.int .i64 a7) rfl
        simp only at c0 c1 c2
        have hrv : rowV ⟨idx, gen, has, [a0, a1, a2, a3, a4, a5, a6, a7], h8⟩ = .agg #[.int .i64 idx, .int .i64 gen, .int .i64 has, .int .i64 a0, .int .i64 a1, .int .i64 a2, .int .i64 a3, .int .i64 a4, .int .i64 a5, .int .i64 a6, .int .i64 a7] := rfl
        have hrw2 : (rowCells ⟨idx, gen, has, [a0, a1, a2, a3, a4, a5, a6, a7], h8⟩).toArray = #[.int .i64 idx, .int .i64 gen, .int .i64 has, .int .i64 a0, .int .i64 a1, .int .i64 a2, .int .i64 a3, .int .i64 a4, .int .i64 a5, .int .i64 a6, .int .i64 a7] := rfl
        rw [hrv, hrw2] at hcall
        have hcallh := Lib.hid hcall
        have hblkh := Lib.hid hblk
        clear hcall hrv hrw2 hrow hblk
        go_wp2_with fail
        refine hcallh.out.mono ?_
        rintro e w2 ⟨rfl, hb2⟩
        have hslt : (wr.alloc (.cells #[.int .i64 idx, .int .i64 gen, .int .i64 has, .int .i64 a0, .int .i64 a1, .int .i64 a2, .int .i64 a3, .int .i64 a4, .int .i64 a5, .int .i64 a6, .int .i64 a7] 51)).heap.size = wr.heap.size + 1 := by simp
        have hblk2 : Blk w2 g 51 arr := (hblkh.out.alloc _).below hb2 (by rw [hslt]; omega)
        have hbox2 : Blk w2 wr.heap.size 51 #[.int .i64 idx, .int .i64 gen, .int .i64 has, .int .i64 a0, .int .i64 a1, .int .i64 a2, .int .i64 a3, .int .i64 a4, .int .i64 a5, .int .i64 a6, .int .i64 a7] := (Blk.new wr _ _).below hb2 (by rw [hslt]; omega)
        have hg2 : w.grownBy w2 (some g) := grown_then (grown_then hg ((Below.refl _ _).alloc (Nat.le_refl _) _)) hb2
        clear hb2 hslt hg hcallh hblkh v0 v1 v2 v3 v4 v5 v6 v7 c0 c1 c2 ho
        cases B with
        | true =>
          have hS2 := Lib.hid (hskip.out rfl)
          have ho2 : w2.ownsRow base 51 11 (.slice (some ⟨g, 0, none⟩) rows.length c) rows.length (cur.flatMap rowCells) := own_of_blk hblk2 hgb hnc' hcm hsz htkh.out
          have ho3 := Lib.hid ho2
          clear ho2 hskip hkeep htkh hpat hblk2 hbox2
          go_wp2_with fail
          go_roundw
          case rel => exact ⟨i, j + 1, cur, rfl, by go_num, hS2, hg2, ho3.out⟩
          case measure => simp [intOf]; omega
        | false =>
          have hS2 := Lib.hid (hkeep.out rfl)
          have hfz : ∀ q, w2.frozen? ⟨g, q, none⟩ = false := hblk2.frozen
          have hcs : ∀ q, q < 11 → ∃ u, w2.cell? ⟨g, i * 11 + q, none⟩ = some u := fun q hq => ⟨_, (hblk2.cell (i * 11 + q)).trans (Array.getElem?_eq_getElem (by omega))⟩
          obtain ⟨u0, k0⟩ := hcs 0 (by omega); obtain ⟨u1, k1⟩ := hcs 1 (by omega); obtain ⟨u2, k2⟩ := hcs 2 (by omega); obtain ⟨u3, k3⟩ := hcs 3 (by omega); obtain ⟨u4, k4⟩ := hcs 4 (by omega); obtain ⟨u5, k5⟩ := hcs 5 (by omega); obtain ⟨u6, k6⟩ := hcs 6 (by omega); obtain ⟨u7, k7⟩ := hcs 7 (by omega); obtain ⟨u8, k8⟩ := hcs 8 (by omega); obtain ⟨u9, k9⟩ := hcs 9 (by omega); obtain ⟨u10, k10⟩ := hcs 10 (by omega)
          simp only [Nat.add_zero] at k0
          have z0 := hfz (i * 11); have z1 := hfz (i * 11 + 1); have z2 := hfz (i * 11 + 2); have z3 := hfz (i * 11 + 3); have z4 := hfz (i * 11 + 4); have z5 := hfz (i * 11 + 5); have z6 := hfz (i * 11 + 6); have z7 := hfz (i * 11 + 7); have z8 := hfz (i * 11 + 8); have z9 := hfz (i * 11 + 9); have z10 := hfz (i * 11 + 10)
          clear hcs hfz

          have c0 := hbox2.cell 0; have c1 := hbox2.cell 1; have c2 := hbox2.cell 2; have c3 := hbox2.cell 3; have c4 := hbox2.cell 4; have c5 := hbox2.cell 5; have c6 := hbox2.cell 6; have c7 := hbox2.cell 7; have c8 := hbox2.cell 8; have c9 := hbox2.cell 9; have c10 := hbox2.cell 10
          simp at c0 c1 c2 c3 c4 c5 c6 c7 c8 c9 c10
          have hB2 := Lib.hid (Blk.sets (rowCells ⟨idx, gen, has, [a0, a1, a2, a3, a4, a5, a6, a7], h8⟩) (i * 11) hblk2)
          have hG2 := Lib.hid (grown_sets g (rowCells ⟨idx, gen, has, [a0, a1, a2, a3, a4, a5, a6, a7], h8⟩) w2 (i * 11))
          have hw3 := Lib.hid (show w2.setCells g (i * 11) (rowCells ⟨idx, gen, has, [a0, a1, a2, a3, a4, a5, a6, a7], h8⟩) = ((((((((((w2.setCell ⟨g, i * 11, none⟩ (.int .i64 idx)).setCell ⟨g, i * 11 + 1, none⟩ (.int .i64 gen)).setCell ⟨g, i * 11 + 2, none⟩ (.int .i64 has)).setCell ⟨g, i * 11 + 3, none⟩ (.int .i64 a0)).setCell ⟨g, i * 11 + 4, none⟩ (.int .i64 a1)).setCell ⟨g, i * 11 + 5, none⟩ (.int .i64 a2)).setCell ⟨g, i * 11 + 6, none⟩ (.int .i64 a3)).setCell ⟨g, i * 11 + 7, none⟩ (.int .i64 a4)).setCell ⟨g, i * 11 + 8, none⟩ (.int .i64 a5)).setCell ⟨g, i * 11 + 9, none⟩ (.int .i64 a6)).setCell ⟨g, i * 11 + 10, none⟩ (.int .i64 a7) from rfl)
          clear hskip hkeep hblk2 hbox2
          go_wp2_with fail
          go_roundw
          case rel =>
            rw [← hw3.out]
            refine ⟨i + 1, j + 1, _, by go_num, by go_num, hS2, grown_grown hg2 hG2.out, ?_⟩
            exact own_of_blk hB2.out hgb hnc' hcm (by rw [patch_size]; exact hsz) hpat.out
          case measure => simp [intOf]; omega
      · obtain rfl : j = rows.length := by have := hS.out.le; omega
        have hin := hS.out.lt
        have hhead := hS.out.head
        rw [List.take_length] at hhead
        have hkl : (keepR p rows).length = i := by rw [← hhead, List.length_take, hS.out.len]; omega
        obtain ⟨arr, hblk, hgb, hnc', _, hsz, htk⟩ := own_blk ho
        have hzl : (Builtin.zeroCells (Value.agg #[.int .i64 0, .int .i64 0, .int .i64 0, .int .i64 0, .int .i64 0, .int .i64 0, .int .i64 0, .int .i64 0, .int .i64 0, .int .i64 0, .int .i64 0]).cells (rows.length - i)).toList.length = (rows.length - i) * 11 := by rw [Array.length_toList, size_zeroCells]; rfl
        have hcl := fun ty => run_clear_sz (P := Try.prog) wr 22 51 ty _ 11 g (i * 11) (rows.length - i) (c - i) Try.underlying22 zeroRow rfl (zeroCells_one (by decide)) (by omega)
          (fun q hq => by rw [hblk.cell, Array.getElem?_eq_getElem (by omega)]; rfl) (fun q _ => hblk.frozen _)
        generalize (Builtin.zeroCells (Value.agg #[.int .i64 0, .int .i64 0, .int .i64 0, .int .i64 0, .int .i64 0, .int .i64 0, .int .i64 0, .int .i64 0, .int .i64 0, .int .i64 0, .int .i64 0]).cells (rows.length - i)).toList = zs at hcl hzl
        have hB3 := Lib.hid (Blk.sets zs (i * 11) hblk)
        have hG3 := Lib.hid (grown_grown hg (grown_sets g zs wr (i * 11)))
        have htk2 : (patch arr (i * 11) zs).toList.take (i * 11) = (keepR p rows).flatMap rowCells := by
          rw [← hhead, rows_take, ← htk]
          apply List.ext_getElem?
          intro q
          rw [List.getElem?_take, List.getElem?_take, List.getElem?_take]
          split
          · rename_i hq
            rw [if_pos (by omega), Array.getElem?_toList, Array.getElem?_toList, patch_out _ _ _ _ (.inl hq)]
          · rfl
        have htk3 := Lib.hid htk2
        have b1 : ¬ (c = i) := by omega
        have b2 : (0 : Int) ≤ (i : Int) := by omega
        have b3 : (i : Int) ≤ (rows.length : Int) := by omega
        have b4 : (i : Int) ≤ (c : Int) := by omega
        have hclh := Lib.hid hcl
        have hszh := Lib.hid hsz
        have hklh := Lib.hid hkl
        clear htk2 htk hhead hblk hg ho hsz hzl hS hkl
        go_wp2_with (simp only [hcl])
        go_ret
        rw [hklh.out]
        exact ⟨_, rfl, own_of_blk hB3.out hgb (by omega) hcm (by rw [patch_size]; exact hszh.out) htk3.out, hG3.out, fun q hq => .inl hq⟩
end Go.Proofs.Ytefdblaolmckmab

namespace Go.Proofs.Ytefdblaolmckmab
open Go.RowKit
open Brood
set_option linter.unusedVariables false
set_option linter.unusedSimpArgs false

theorem enter_put (args : Array Value) (W : World) : (callFunc 72 args).run Try.prog W = .ok (.enter 72 args) W := by kernel_rfl
theorem enter_drop (args : Array Value) (W : World) : (callFunc 76 args).run Try.prog W = .ok (.enter 76 args) W := by kernel_rfl
theorem enter_kill1 (args : Array Value) (W : World) : (callFunc 69 args).run Try.prog W = .ok (.enter 69 args) W := by kernel_rfl
theorem enter_kill2 (args : Array Value) (W : World) : (callFunc 71 args).run Try.prog W = .ok (.enter 71 args) W := by kernel_rfl
set_option maxRecDepth 20000 in
set_option maxHeartbeats 3200000 in
theorem put_any (rows : List BRow) (gens : List Int) (Ar : Option Addr) (cr : Nat) (Ag : Option Addr) (cg : Nat) (i g part n : Int) (hlr : rows.length ≤ 9223372036854775807) (hlg : gens.length ≤ 9223372036854775807) (hnr : Ar = none → cr = 0 ∧ rows = []) (hng : Ag = none → cg = 0 ∧ gens = [])
    (w : World) (hr : RdR w w.heap.size Ar rows) (hg : RdG w w.heap.size Ag gens) :
    Calls Try.prog 21 #[.agg #[.slice Ar rows.length cr, .slice Ag gens.length cg], .agg #[.int .i64 i, .int .i64 g], .int .i64 part, .int .i64 n] w fun e w' =>
      ∃ v, e = .returned (.tuple #[v, .int .i64 (putV rows gens i g part n).err]) ∧ GotW w' w.heap.size v (putV rows gens i g part n).rows (putV rows gens i g part n).gens ∧ Below w.heap.size w w' := by
  have H0 := ((((Hp.start w).new w.heap.size rfl 25 [.slice Ar rows.length cr, .slice Ag gens.length cg]).new (w.heap.size + 1) (by simp) 27 [.int .i64 i, .int .i64 g]).new (w.heap.size + 1 + 1) (by simp) 3 [.int .i64 part]).new (w.heap.size + 1 + 1 + 1) (by simp) 3 [.int .i64 n]
  replace H0 := H0.new (w.heap.size + 1 + 1 + 1 + 1) (by simp) 25 [.slice none 0 0, .slice none 0 0]
  have hmf : ∀ (fn : Fn) (first cap : Array Value) (w : World), (Instr.makeFunc fn first cap).run Try.prog w = .ok (.func fn first cap) w := fun _ _ _ _ => rfl
  have hpv : Hid (putV rows gens i g part n = changeV rows gens i g (putF part n)) := Lib.hid rfl
  generalize putV rows gens i g part n = E at *
  go_enter Try.func21, Try.ntmps21
  go_wp2_with fail
  obtain ⟨w0, hw0, H0⟩ := H0.name
  rw [hw0]; clear hw0
  refine (change_any rows gens Ar cr Ag cg i g w.heap.size 72 #[.pointer (some ⟨w.heap.size + 1 + 1, 0, none⟩), .pointer (some ⟨w.heap.size + 1 + 1 + 1, 0, none⟩)] (putF part n) hlr hlg hnr hng w0 (H0.old hr) (H0.old hg) (H0.blk 0 rfl) ?hF enter_put).mono ?_
  case hF =>
    intro W b o cur r hbW hb hblk hrow hset
    have l2 := H0.lt 2 rfl; have l3 := H0.lt 3 rfl
    exact putF_any r hset part n b o (w.heap.size + 1 + 1) (w.heap.size + 1 + 1 + 1) W ((H0.blk 2 rfl).below hbW l2) ((H0.blk 3 rfl).below hbW l3) (by omega) (by omega) cur hblk hrow
  rintro e w1 ⟨v, rfl, hG, hb⟩
  rw [← hpv.out] at hG ⊢
  obtain ⟨vr, vg, rfl, hO⟩ := hG
  have H1 := H0.got2 hb hO.rows_ hO.gens_ (by decide)
  obtain ⟨Ar2, cr2, hvr, _, _⟩ := own_shape hO.rows_
  obtain ⟨Ag2, cg2, hvg, _, _⟩ := own_shape hO.gens_
  rw [hvr, hvg] at H1
  rw [hvr, hvg]
  clear H0 hO hb hvr hvg
  have q0 := H1.cell 4 0 rfl rfl; have q1 := H1.cell 4 1 rfl rfl; have y0 := H1.frozen 4 0 rfl; have y1 := H1.frozen 4 1 rfl
  have H2 := (H1.set 4 0 (.slice Ar2 E.rows.length cr2) rfl).set 4 1 (.slice Ag2 E.gens.length cg2) rfl
  have p0 := H2.cell 4 0 rfl rfl; have p1 := H2.cell 4 1 rfl rfl
  go_wp2_with fail
  refine bodyPost_ret (v := .tuple #[.agg #[.slice Ar2 E.rows.length cr2, .slice Ag2 E.gens.length cg2], .int .i64 E.err]) (by simp [results, Try.results21, go_sem, p0, p1]) rfl ⟨_, rfl, ⟨_, _, rfl, H2.owns 5 rfl, H2.owns 6 rfl⟩, H2.bel⟩
set_option maxRecDepth 20000 in
set_option maxHeartbeats 3200000 in
theorem drop_any (rows : List BRow) (gens : List Int) (Ar : Option Addr) (cr : Nat) (Ag : Option Addr) (cg : Nat) (i g part : Int) (hlr : rows.length ≤ 9223372036854775807) (hlg : gens.length ≤ 9223372036854775807) (hnr : Ar = none → cr = 0 ∧ rows = []) (hng : Ag = none → cg = 0 ∧ gens = [])
    (w : World) (hr : RdR w w.heap.size Ar rows) (hg : RdG w w.heap.size Ag gens) :
    Calls Try.prog 23 #[.agg #[.slice Ar rows.length cr, .slice Ag gens.length cg], .agg #[.int .i64 i, .int .i64 g], .int .i64 part] w fun e w' =>
      ∃ v, e = .returned (.tuple #[v, .int .i64 (dropV rows gens i g part).err]) ∧ GotW w' w.heap.size v (dropV rows gens i g part).rows (dropV rows gens i g part).gens ∧ Below w.heap.size w w' := by
  have H0 := (((Hp.start w).new w.heap.size rfl 25 [.slice Ar rows.length cr, .slice Ag gens.length cg]).new (w.heap.size + 1) (by simp) 27 [.int .i64 i, .int .i64 g]).new (w.heap.size + 1 + 1) (by simp) 3 [.int .i64 part]
  replace H0 := H0.new (w.heap.size + 1 + 1 + 1) (by simp) 25 [.slice none 0 0, .slice none 0 0]
  have hmf : ∀ (fn : Fn) (first cap : Array Value) (w : World), (Instr.makeFunc fn first cap).run Try.prog w = .ok (.func fn first cap) w := fun _ _ _ _ => rfl
  have hpv : Hid (dropV rows gens i g part = changeV rows gens i g (dropF part)) := Lib.hid rfl
  generalize dropV rows gens i g part = E at *
  go_enter Try.func23, Try.ntmps23
  go_wp2_with fail
  obtain ⟨w0, hw0, H0⟩ := H0.name
  rw [hw0]; clear hw0
  refine (change_any rows gens Ar cr Ag cg i g w.heap.size 76 #[.pointer (some ⟨w.heap.size + 1 + 1, 0, none⟩)] (dropF part) hlr hlg hnr hng w0 (H0.old hr) (H0.old hg) (H0.blk 0 rfl) ?hF enter_drop).mono ?_
  case hF =>
    intro W b o cur r hbW hb hblk hrow hset
    have l2 := H0.lt 2 rfl
    exact dropF_any r hset part b o (w.heap.size + 1 + 1) W ((H0.blk 2 rfl).below hbW l2) (by omega) cur hblk hrow
  rintro e w1 ⟨v, rfl, hG, hb⟩
  rw [← hpv.out] at hG ⊢
  obtain ⟨vr, vg, rfl, hO⟩ := hG
  have H1 := H0.got2 hb hO.rows_ hO.gens_ (by decide)
  obtain ⟨Ar2, cr2, hvr, _, _⟩ := own_shape hO.rows_
  obtain ⟨Ag2, cg2, hvg, _, _⟩ := own_shape hO.gens_
  rw [hvr, hvg] at H1
  rw [hvr, hvg]
  clear H0 hO hb hvr hvg
  have q0 := H1.cell 3 0 rfl rfl; have q1 := H1.cell 3 1 rfl rfl; have y0 := H1.frozen 3 0 rfl; have y1 := H1.frozen 3 1 rfl
  have H2 := (H1.set 3 0 (.slice Ar2 E.rows.length cr2) rfl).set 3 1 (.slice Ag2 E.gens.length cg2) rfl
  have p0 := H2.cell 3 0 rfl rfl; have p1 := H2.cell 3 1 rfl rfl
  go_wp2_with fail
  refine bodyPost_ret (v := .tuple #[.agg #[.slice Ar2 E.rows.length cr2, .slice Ag2 E.gens.length cg2], .int .i64 E.err]) (by simp [results, Try.results23, go_sem, p0, p1]) rfl ⟨_, rfl, ⟨_, _, rfl, H2.owns 4 rfl, H2.owns 5 rfl⟩, H2.bel⟩
set_option maxRecDepth 20000 in
set_option maxHeartbeats 1600000 in
theorem isB2_any (r : BRow) (i g : Int) (b : Nat) (w : World) (h : Blk w b 27 #[.int .i64 i, .int .i64 g]) :
    Calls Try.prog 71 #[rowV r, .pointer (some ⟨b, 0, none⟩)] w fun e w' => e = .returned (.bool (isB i g r)) ∧ Below w.heap.size w w' := by
  have hib : Hid (isB i g r = (r.idx == i && r.gen == g)) := Lib.hid rfl
  generalize isB i g r = B at *
  obtain ⟨idx, gen, has, vals, h8⟩ := r
  obtain ⟨a0, a1, a2, a3, a4, a5, a6, a7, rfl⟩ := vals_eight h8
  simp only at hib
  have b0 := h.cell 0; have b1 := h.cell 1
  have hlt := h.lt
  simp at b0 b1
  have hrv : rowV ⟨idx, gen, has, [a0, a1, a2, a3, a4, a5, a6, a7], h8⟩ = .agg #[.int .i64 idx, .int .i64 gen, .int .i64 has, .int .i64 a0, .int .i64 a1, .int .i64 a2, .int .i64 a3, .int .i64 a4, .int .i64 a5, .int .i64 a6, .int .i64 a7] := rfl
  rw [hrv]
  go_enter Try.func71, Try.ntmps71
  go_wp2_with fail
  all_goals (go_ret; exact ⟨ret_bool (by rw [hib.out]; simp [*]), (Below.refl _ _).alloc (Nat.le_refl _) _⟩)
set_option maxRecDepth 20000 in
set_option maxHeartbeats 6400000 in
theorem kill_any (rows : List BRow) (gens : List Int) (Ar : Option Addr) (cr : Nat) (Ag : Option Addr) (cg : Nat) (i g : Int) (hlr : rows.length ≤ 9223372036854775807) (hlg : gens.length ≤ 9223372036854775807) (hnr : Ar = none → cr = 0 ∧ rows = []) (hng : Ag = none → cg = 0 ∧ gens = [])
    (w : World) (hr : RdR w w.heap.size Ar rows) (hg : RdG w w.heap.size Ag gens) :
    Calls Try.prog 19 #[.agg #[.slice Ar rows.length cr, .slice Ag gens.length cg], .agg #[.int .i64 i, .int .i64 g]] w fun e w' =>
      ∃ v, e = .returned (.tuple #[v, .int .i64 (killV rows gens i g).err]) ∧ GotW w' w.heap.size v (killV rows gens i g).rows (killV rows gens i g).gens ∧ Below w.heap.size w w' := by
  have H0 := ((Hp.start w).new w.heap.size rfl 25 [.slice Ar rows.length cr, .slice Ag gens.length cg]).new (w.heap.size + 1) (by simp) 27 [.int .i64 i, .int .i64 g]
  replace H0 := H0.new (w.heap.size + 1 + 1) (by simp) 25 [.slice none 0 0, .slice none 0 0]
  have hmf : ∀ (fn : Fn) (first cap : Array Value) (w : World), (Instr.makeFunc fn first cap).run Try.prog w = .ok (.func fn first cap) w := fun _ _ _ _ => rfl
  have hpv : Hid (killV rows gens i g = if (changeV rows gens i g keepF).err = 0 then ⟨keepR (isB i g) (changeV rows gens i g keepF).rows, (changeV rows gens i g keepF).gens, 0⟩ else changeV rows gens i g keepF) := Lib.hid rfl
  have hcl : Hid ((changeV rows gens i g keepF).err = 0 → (changeV rows gens i g keepF).rows.length ≤ 1000000) := Lib.hid (by
    intro _
    unfold changeV
    split
    · simp
    · rename_i hwe
      have hrw := (right_iff rows gens).1 (by simpa using hwe)
      have := hrw.rows_le; have := hrw.len
      split
      · simp
      · split
        · simp
        · split
          · simp
          · simp; omega)
  generalize killV rows gens i g = K at *
  go_enter Try.func19, Try.ntmps19
  go_wp2_with fail
  obtain ⟨w0, hw0, H0⟩ := H0.name
  rw [hw0]; clear hw0
  refine (change_any rows gens Ar cr Ag cg i g w.heap.size 69 #[] keepF hlr hlg hnr hng w0 (H0.old hr) (H0.old hg) (H0.blk 0 rfl) ?hF enter_kill1).mono ?_
  case hF =>
    intro W b o cur r hbW hb hblk hrow hset
    refine (keepF_any _ W).mono ?_
    rintro e W' ⟨rfl, rfl⟩
    exact ⟨rfl, grown_refl _ _, by rw [show (keepF r).1 = r from rfl, patch_same hrow]; exact hblk⟩
  rintro e w1 ⟨v, rfl, hG, hb⟩
  generalize changeV rows gens i g keepF = E at *
  obtain ⟨er, eg, ee⟩ := E
  obtain ⟨vr, vg, rfl, hO⟩ := hG
  dsimp only at hcl hpv hO ⊢
  have H1 := H0.got2 hb hO.rows_ hO.gens_ (by decide)
  obtain ⟨Ar2, cr2, hvr, _, _⟩ := own_shape hO.rows_
  obtain ⟨Ag2, cg2, hvg, _, _⟩ := own_shape hO.gens_
  skip
  subst hvr hvg
  clear H0 hO hb
  have l1 := H1.lt 1 rfl; have l2 := H1.lt 2 rfl
  replace H1 := H1.new w1.heap.size rfl 25 [.slice Ar2 er.length cr2, .slice Ag2 eg.length cg2]
  by_cases hee : ee = 0
  · subst hee
    have hK : Hid (K = ⟨keepR (isB i g) er, eg, 0⟩) := Lib.hid (by rw [hpv.out, if_pos rfl])
    have hel := hcl.out rfl
    clear hpv hcl
    go_wp2_with fail
    obtain ⟨w2, hw2, H1⟩ := H1.name
    rw [hw2]; clear hw2
    refine (delrows_any er hel 71 #[.pointer (some ⟨w.heap.size + 1, 0, none⟩)] (isB i g) _ w.heap.size w2 (H1.owns 3 rfl) ?hP enter_kill2).mono ?_
    case hP =>
      intro W r hgW
      have hap := H1.apart (i := 1) (j := 3) rfl rfl (by omega) (g := w.heap.size + 1) rfl
      exact isB2_any r i g (w.heap.size + 1) W ((H1.blk 1 rfl).grown hgW (fun e => hap e.symm))
    rintro e w3 ⟨v3, rfl, hown3, hgrow3, hat3⟩
    have H3 := H1.step (p' := .own v3 51 11 (keepR (isB i g) er).length _) 3 rfl hgrow3 hown3 hat3
    obtain ⟨A3, c3, hv3, _, _⟩ := own_shape hown3
    subst hv3
    clear H1 hown3 hgrow3 hat3
    have q0 := H3.cell 2 0 rfl rfl; have q1 := H3.cell 2 1 rfl rfl; have y0 := H3.frozen 2 0 rfl; have y1 := H3.frozen 2 1 rfl
    have x0 := H3.cell 5 0 rfl rfl; have x1 := H3.cell 5 1 rfl rfl; have z0 := H3.frozen 5 0 rfl
    have n1 := H3.ne 2 5 rfl rfl (by omega); have n2 := n1.symm
    generalize keepR (isB i g) er = kr at *
    have H4 := ((H3.set 5 0 (.slice A3 kr.length c3) rfl).set 2 0 (.slice A3 kr.length c3) rfl).set 2 1 (.slice Ag2 eg.length cg2) rfl
    have p0 := H4.cell 2 0 rfl rfl; have p1 := H4.cell 2 1 rfl rfl
    go_wp2_with fail
    refine bodyPost_ret (v := .tuple #[.agg #[.slice A3 kr.length c3, .slice Ag2 eg.length cg2], .int .i64 0]) (by simp [results, Try.results19, go_sem, p0, p1]) rfl ⟨_, by rw [hK.out], by rw [hK.out]; exact ⟨_, _, rfl, H4.owns 3 rfl, H4.owns 4 rfl⟩, H4.bel⟩
  · have hee' : (ee == 0) = false := by simpa using hee
    have hK : Hid (K = ⟨er, eg, ee⟩) := Lib.hid (by rw [hpv.out, if_neg hee])
    clear hpv hcl
    have H1' := H1.drop1 5
    go_upto_region 4 with fail
    obtain ⟨w2, hw2, H3⟩ := H1.name
    rw [hw2]; clear hw2
    have q0 := H3.cell 2 0 rfl rfl; have q1 := H3.cell 2 1 rfl rfl; have y0 := H3.frozen 2 0 rfl; have y1 := H3.frozen 2 1 rfl
    have x0 := H3.cell 5 0 rfl rfl; have x1 := H3.cell 5 1 rfl rfl
    have H4 := (H3.set 2 0 (.slice Ar2 er.length cr2) rfl).set 2 1 (.slice Ag2 eg.length cg2) rfl
    have p0 := H4.cell 2 0 rfl rfl; have p1 := H4.cell 2 1 rfl rfl
    go_wp2_with fail
    refine bodyPost_ret (v := .tuple #[.agg #[.slice Ar2 er.length cr2, .slice Ag2 eg.length cg2], .int .i64 ee]) (by simp [results, Try.results19, go_sem, p0, p1]) rfl ⟨_, by rw [hK.out], by rw [hK.out]; exact ⟨_, _, rfl, H4.owns 3 rfl, H4.owns 4 rfl⟩, H4.bel⟩
end Go.Proofs.Ytefdblaolmckmab
