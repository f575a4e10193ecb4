/- The walks of the reference's Row and Same. The walk of RunNobody. -/
import Derived.BigQuiet
import Derived.Test.YtefdblaolmckmabBSpecOToSpecR
import Derived.Test.YtefdblaolmckmabBSpecZAToRef3S
namespace Go.Proofs.Ytefdblaolmckmab
open Go.RowKit
open Brood
set_option linter.unusedVariables false
set_option linter.unusedSimpArgs false
def RowAns (w : World) (v : Value) (o : Option BRow) : Prop :=
  match o with
  | none => v = .pointer none
  | some r => ∃ b o, v = .pointer (some ⟨b, o, none⟩) ∧ b < w.heap.size ∧ RowAt w b o r
theorem rowPtr_ans {w : World} {B : Nat} {A : Option Addr} {rows : List BRow} (hr : RdR w B A rows) (hB : B ≤ w.heap.size) (i g : Int) : RowAns w (rowPtr A i g rows) (rowOf i g rows) := by
  rw [findR_rowOf]
  unfold rowPtr
  cases h : findR i g rows with
  | none => exact rfl
  | some k =>
    have hk := findR_lt h
    obtain ⟨b, off, rfl, hb, hrow⟩ := hr.at_ hk
    simp only [Option.bind_some, List.getElem?_eq_getElem hk]
    exact ⟨b, off + k * 11, by simp [ptrAt], by omega, hrow⟩
set_option maxRecDepth 20000 in
set_option maxHeartbeats 3200000 in
theorem rrow_at (rows : List BRow) (gens : List Int) (Ar : Option Addr) (cr : Nat) (Ag : Option Addr) (cg : Nat) (i g : Int) (hlr : rows.length ≤ 9223372036854775807) (w : World) (hr : RdR w w.heap.size Ar rows) :
    Calls Try.prog 26 #[.agg #[.slice Ar rows.length cr, .slice Ag gens.length cg], .agg #[.int .i64 i, .int .i64 g]] w fun e w' => e = .returned (rowPtr Ar i g rows) ∧ Below w.heap.size w w' := by
  have hE : Hid (rowPtr Ar i g rows = ptrAt Ar (findR i g (rows.drop 0)) 0) := Lib.hid rfl
  generalize rowPtr Ar i g rows = E at *
  have H0 := ((Hp.start w).new w.heap.size rfl 25 [.slice Ar rows.length cr, .slice Ag gens.length cg]).new (w.heap.size + 1) (by simp) 27 [.int .i64 i, .int .i64 g]
  go_enter Try.func26, Try.ntmps26
  go_wp2_with fail
  go_loopw [9] (fun q wr => ∃ k : Nat, k ≤ rows.length ∧ q = .int .i64 k ∧ Hid (E = ptrAt Ar (findR i g (rows.drop k)) k) ∧ Hp w wr [.box w.heap.size 25 [.slice Ar rows.length cr, .slice Ag gens.length cg], .box (w.heap.size + 1) 27 [.int .i64 i, .int .i64 g]]) (fun q _ => rows.length - (intOf q).toNat)
  case atStart => exact ⟨0, by omega, rfl, hE, H0⟩
  case round =>
    clear H0 hE
    obtain ⟨k, hk, rfl, hE, H⟩ := hrel
    by_cases hlt : k < rows.length
    · have hR1 : RdR wr w.heap.size Ar rows := Rd.under hr H.bel (Nat.le_refl _)
      obtain ⟨b1, off, rfl, hb1, hrow⟩ := hR1.at_ hlt
      have hst := Lib.hid (@ptr_drop (some ⟨b1, off, none⟩) i g rows k hlt)
      generalize rows[k] = r at *
      have i0 : (0 : Int) ≤ (k : Int) := by omega
      have i1 : (k : Int) < (rows.length : Int) := by omega
      obtain ⟨c0, c1, c2⟩ := hrow.head
      have e0 := H.cell 0 0 rfl rfl; have e1 := H.cell 1 0 rfl rfl; have e2 := H.cell 1 1 rfl rfl
      have hq : ∀ W, (binOp .eql 27 (.agg #[.int .i64 r.idx, .int .i64 r.gen]) (.agg #[.int .i64 i, .int .i64 g])).run Try.prog W = .ok (.bool (isB i g r)) W := fun W => eqBeing _ _ _ _ W
      go_upto_region 4 with fail
      go_cut [19] (fun s19 wx => s19 = .bool (isB i g r) ∧ ∃ n, wx = wr.drewN n)
      case first =>
        go_quiet (fail)
        go_wp2_with fail
        go_meet
        exact ⟨rfl, _, rfl⟩
      case rest =>
        obtain ⟨rfl, n, rfl⟩ := hcut
        have H2 := H.drewN n
        have e0 := H2.cell 0 0 rfl rfl
        cases hB : isB i g r
        · rw [hB] at hst
          go_wp2_with fail
          go_roundw
          case rel => exact ⟨k + 1, by omega, by go_num, Lib.hid (by rw [hE.out, hst.out]; simp), H2⟩
          case measure => simp [intOf]; omega
        · rw [hB] at hst
          go_wp2_with fail
          go_ret
          refine ⟨?_, H2.bel⟩
          rw [hE.out, hst.out]
          rfl
    · obtain rfl : k = rows.length := by omega
      go_wp2_with fail
      go_ret
      refine ⟨?_, H.bel⟩
      rw [hE.out, List.drop_length]
      rfl
set_option maxRecDepth 20000 in
set_option maxHeartbeats 6400000 in
theorem rsame_any (rows : List BRow) (gens : List Int) (Ar : Option Addr) (cr : Nat) (Ag : Option Addr) (cg : Nat) (Ar' : Option Addr) (cr' : Nat) (Ag' : Option Addr) (cg' : Nat) (hlr : rows.length ≤ 9223372036854775807) (hlg : gens.length ≤ 9223372036854775807)
    (w : World) (hr : RdR w w.heap.size Ar rows) (hr' : RdR w w.heap.size Ar' rows) (hg : RdG w w.heap.size Ag gens) (hg' : RdG w w.heap.size Ag' gens) :
    Calls Try.prog 13 #[.agg #[.slice Ar rows.length cr, .slice Ag gens.length cg], .agg #[.slice Ar' rows.length cr', .slice Ag' gens.length cg']] w fun e w' => e = .returned (.bool true) ∧ Below w.heap.size w w' := by
  have H0 := ((Hp.start w).new w.heap.size rfl 25 [.slice Ar rows.length cr, .slice Ag gens.length cg]).new (w.heap.size + 1) (by simp) 25 [.slice Ar' rows.length cr', .slice Ag' gens.length cg']
  go_enter Try.func13, Try.ntmps13
  go_wp2_with fail
  go_loopw [26] (fun q wr => ∃ k : Nat, k ≤ rows.length ∧ q = .int .i64 k ∧ Hp w wr [.box w.heap.size 25 [.slice Ar rows.length cr, .slice Ag gens.length cg], .box (w.heap.size + 1) 25 [.slice Ar' rows.length cr', .slice Ag' gens.length cg']]) (fun q _ => rows.length - (intOf q).toNat)
  case atStart => exact ⟨0, by omega, rfl, H0⟩
  case round =>
    clear H0
    obtain ⟨k, hk, rfl, H⟩ := hrel
    by_cases hlt : k < rows.length
    · have hR1 : RdR wr w.heap.size Ar rows := Rd.under hr H.bel (Nat.le_refl _)
      have hR2 : RdR wr w.heap.size Ar' rows := Rd.under hr' H.bel (Nat.le_refl _)
      obtain ⟨b1, off, rfl, hb1, hrow⟩ := hR1.at_ hlt
      obtain ⟨b2, off2, rfl, hb2, hrow2⟩ := hR2.at_ hlt
      clear hR1 hR2
      generalize rows[k] = r at *
      have i0 : (0 : Int) ≤ (k : Int) := by omega
      have i1 : (k : Int) < (rows.length : Int) := by omega
      have e0 := H.cell 0 0 rfl rfl; have e1 := H.cell 1 0 rfl rfl
      have hq := fun W => neRow r r W
      obtain ⟨c0, c1, c2⟩ := hrow.head
      obtain ⟨d0, d1, d2⟩ := hrow2.head
      obtain ⟨idx, gen, has, vals, h8⟩ := r
      obtain ⟨a0, a1, a2, a3, a4, a5, a6, a7, rfl⟩ := vals_eight h8
      have v0 := hrow 3 (.int .i64 a0) rfl; have v1 := hrow 4 (.int .i64 a1) rfl; have v2 := hrow 5 (.int .i64 a2) rfl; have v3 := hrow 6 (.int .i64 a3) rfl; have v4 := hrow 7 (.int .i64 a4) rfl; have v5 := hrow 8 (.int .i64 a5) rfl; have v6 := hrow 9 (.int .i64 a6) rfl; have v7 := hrow 10 (.int .i64 a7) rfl
      have u0 := hrow2 3 (.int .i64 a0) rfl; have u1 := hrow2 4 (.int .i64 a1) rfl; have u2 := hrow2 5 (.int .i64 a2) rfl; have u3 := hrow2 6 (.int .i64 a3) rfl; have u4 := hrow2 7 (.int .i64 a4) rfl; have u5 := hrow2 8 (.int .i64 a5) rfl; have u6 := hrow2 9 (.int .i64 a6) rfl; have u7 := hrow2 10 (.int .i64 a7) rfl
      simp only at c0 c1 c2 d0 d1 d2
      have hrv : rowV ⟨idx, gen, has, [a0, a1, a2, a3, a4, a5, a6, a7], h8⟩ = .agg #[.int .i64 idx, .int .i64 gen, .int .i64 has, .int .i64 a0, .int .i64 a1, .int .i64 a2, .int .i64 a3, .int .i64 a4, .int .i64 a5, .int .i64 a6, .int .i64 a7] := rfl
      rw [hrv] at hq
      simp only [decide_true, Bool.not_true] at hq
      clear hrv hrow hrow2
      go_upto_region 6 with fail
      go_cut [39] (fun s39 wx => s39 = .bool false ∧ ∃ n, wx = wr.drewN n)
      case first =>
        go_quiet (fail)
        go_wp2_with fail
        go_meet
        exact ⟨rfl, _, rfl⟩
      case rest =>
        obtain ⟨rfl, n, rfl⟩ := hcut
        have H2 := H.drewN n
        go_wp2_with fail
        go_roundw
        case rel => exact ⟨k + 1, by omega, by go_num, H2⟩
        case measure => simp [intOf]; omega
    · obtain rfl : k = rows.length := by omega
      have e0 := H.cell 0 1 rfl rfl; have e1 := H.cell 1 1 rfl rfl
      clear hr hr'
      go_wp2_with fail
      go_loopw [44] (fun q wx => ∃ k : Nat, k ≤ gens.length ∧ q = .int .i64 k ∧ Hp w wx [.box w.heap.size 25 [.slice Ar rows.length cr, .slice Ag gens.length cg], .box (w.heap.size + 1) 25 [.slice Ar' rows.length cr', .slice Ag' gens.length cg']]) (fun q _ => gens.length - (intOf q).toNat)
      case atStart => exact ⟨0, by omega, rfl, H⟩
      case round =>
        clear H e0 e1
        obtain ⟨k, hk, rfl, H⟩ := hrel
        by_cases hlt : k < gens.length
        · have hR1 : RdG wr w.heap.size Ag gens := Rd.under hg H.bel (Nat.le_refl _)
          have hR2 : RdG wr w.heap.size Ag' gens := Rd.under hg' H.bel (Nat.le_refl _)
          obtain ⟨b1, off, rfl, hb1, c0⟩ := hR1.at_ hlt
          obtain ⟨b2, off2, rfl, hb2, d0⟩ := hR2.at_ hlt
          clear hR1 hR2 hg hg'
          generalize gens[k] = r at *
          have i0 : (0 : Int) ≤ (k : Int) := by omega
          have i1 : (k : Int) < (gens.length : Int) := by omega
          have e0 := H.cell 0 1 rfl rfl; have e1 := H.cell 1 1 rfl rfl
          go_upto_region 12 with fail
          go_cut [57] (fun s57 wx => s57 = .bool false ∧ ∃ n, wx = wr.drewN n)
          case first =>
            go_quiet (fail)
            go_wp2_with fail
            go_meet
            exact ⟨rfl, _, rfl⟩
          case rest =>
            obtain ⟨rfl, n, rfl⟩ := hcut
            have H2 := H.drewN n
            go_wp2_with fail
            go_roundw
            case rel => exact ⟨k + 1, by omega, by go_num, H2⟩
            case measure => simp [intOf]; omega
        · obtain rfl : k = gens.length := by omega
          go_wp2_with fail
          go_ret
          exact ⟨rfl, H.bel⟩
end Go.Proofs.Ytefdblaolmckmab

namespace Go.Proofs.Ytefdblaolmckmab
open Go.RowKit
open Brood
set_option linter.unusedVariables false
set_option linter.unusedSimpArgs false
theorem ofV_small {rows : List BRow} {gens : List Int} {l : List TabIn} (hl : l.map tabOf = (ofV rows gens).1) : StSmall l (ofV rows gens).2 := by
  unfold ofV at hl ⊢
  by_cases h : (worldErr ⟨rows, gens⟩).1 = 0
  · rw [if_neg (by simpa using h)] at hl ⊢
    exact right_small ((right_iff rows gens).1 h) hl
  · rw [if_pos h] at hl ⊢
    have : l = [] := by simpa using hl
    subst this
    exact ⟨by simp, by simp, by simp, by simp⟩
def inB (i g : Int) (bs : List BRow) : Bool := bs.any fun b => b.idx == i && b.gen == g
theorem inB_take {i g : Int} {bs : List BRow} {k : Nat} (hk : k < bs.length) : inB i g (bs.take (k + 1)) = (inB i g (bs.take k) || (bs[k].idx == i && bs[k].gen == g)) := by
  unfold inB
  rw [List.take_add_one, List.getElem?_eq_getElem hk, Option.toList_some, List.any_append]
  simp
theorem inB_asked {all non : Int} {W : BWorld} (hw : RightB W) {q : BRow} (hq : q ∈ W.rows) : inB q.idx q.gen (matchV all non W.rows) = meetsB all non q.has := by
  rw [← asked_any hw hq]
  unfold inB
  congr 1
  funext b
  unfold isB
  rw [Bool.eq_iff_iff]
  simp only [Bool.and_eq_true, beq_iff_eq]
  constructor <;> rintro ⟨h1, h2⟩ <;> exact ⟨h1.symm, h2.symm⟩
def nobE (b2 b4 b6 : Nat) (A : Option Addr) (n c : Nat) (Ag : Option Addr) (m cg : Nat) (A3 : Option Addr) (n3 c3 : Nat) (Ag3 : Option Addr) (cg3 : Nat) (Av : Option Addr) (vr : List BRow) (cv : Nat) (Agv : Option Addr) (vg : List Int) (cgv : Nat) (Am : Option Addr) (bs : List BRow) (cm : Nat) : List Ent :=
  [.box b2 59 [.slice A n c, .slice Ag m cg], .box b4 59 [.slice A3 n3 c3, .slice Ag3 vg.length cg3], .own (.slice Av vr.length cv) 51 11 vr.length (vr.flatMap rowCells), .own (.slice Agv vg.length cgv) 3 1 vg.length (ints vg), .box b6 25 [.slice Av vr.length cv, .slice Agv vg.length cgv], .own (.slice Am bs.length cm) 27 2 bs.length (bs.flatMap beCells)]
set_option maxRecDepth 20000 in
set_option maxHeartbeats 12800000 in
theorem runNobody_any (rows : List BRow) (gens : List Int) (Ar : Option Addr) (cr : Nat) (Ag : Option Addr) (cg : Nat) (s : BSys) (sA : Option Addr) (sc : Nat) (hlr : rows.length ≤ 9223372036854775807) (hlg : gens.length ≤ 9223372036854775807) (hnr : Ar = none → cr = 0 ∧ rows = []) (hng : Ag = none → cg = 0 ∧ gens = [])
    (w : World) (hr : RdR w w.heap.size Ar rows) (hg : RdG w w.heap.size Ag gens) (hs : RdA w sA s.acts) :
    Calls Try.prog 7 #[.agg #[.slice Ar rows.length cr, .slice Ag gens.length cg], .agg #[.int .i64 s.mod, .int .i64 s.all, .int .i64 s.non, .slice sA s.acts.length sc]] w fun e w' => e = .returned (.bool true) ∧ Below w.heap.size w w' := by
  have H0 := ((Hp.start w).new w.heap.size rfl 25 [.slice Ar rows.length cr, .slice Ag gens.length cg]).new (w.heap.size + 1) (by simp) 85 [.int .i64 s.mod, .int .i64 s.all, .int .i64 s.non, .slice sA s.acts.length sc]
  replace H0 : Hp w _ [.box w.heap.size 25 [.slice Ar rows.length cr, .slice Ag gens.length cg], .box (w.heap.size + 1) 85 [.int .i64 s.mod, .int .i64 s.all, .int .i64 s.non, .slice sA s.acts.length sc]] := H0
  have hsh := Lib.hid hs
  clear hs
  go_enter Try.func7, Try.ntmps7
  go_wp2_with fail
  obtain ⟨w0, hw0, H0⟩ := H0.name
  rw [hw0]; clear hw0
  refine (alive5_any w0).mono ?_
  rintro e w1 ⟨rfl, hb⟩
  replace H0 := H0.grow hb
  clear hb
  have a0 := H0.cell 0 0 rfl rfl; have a1 := H0.cell 0 1 rfl rfl
  go_wp2_with fail
  refine (sof_any rows gens Ar cr Ag cg hlr hng w1 (H0.old hr) (H0.old hg)).mono ?_
  rintro e w2 ⟨v, rfl, hG⟩
  have H1 := H0.grow hG.bel
  obtain ⟨A, c, l, Ag2, cg2, rfl, hl, hR⟩ := hG.rd
  have hsm := Lib.hid (ofV_small hl)
  clear hG H0 a0 a1
  have hrt : Hid ((worldErr ⟨rows, gens⟩).1 = 0 → RightW rows gens) := Lib.hid (right_iff rows gens).1
  have hof : Hid (ofV rows gens = if (worldErr ⟨rows, gens⟩).1 ≠ 0 then ([], []) else (tabsW rows, gens)) := Lib.hid rfl
  generalize worldErr ⟨rows, gens⟩ = F at *
  obtain ⟨f1, f2⟩ := F
  generalize ofV rows gens = O at *
  obtain ⟨oT, oG⟩ := O
  unfold fV
  dsimp only at hl hR hsm hrt hof ⊢
  have H2 := (H1.new w2.heap.size rfl 59 [.slice A l.length c, .slice Ag2 oG.length cg2]).new (w2.heap.size + 1) (by simp) 32 [.int .i64 f1, .int .i64 f2]
  have hR2 := Lib.hid ((hR.alloc (.cells #[.slice A l.length c, .slice Ag2 oG.length cg2] 59)).alloc (.cells #[.int .i64 f1, .int .i64 f2] 32))
  have hlh := Lib.hid hl
  have l0 := H1.lt 0 rfl
  clear H1 hR hl
  go_upto_region 4 with fail
  obtain ⟨w3, hw3, H2⟩ := H2.name
  rw [hw3] at hR2 ⊢
  clear hw3 l0
  replace H2 : Hp w w3 [.box w.heap.size 25 [.slice Ar rows.length cr, .slice Ag gens.length cg], .box (w.heap.size + 1) 85 [.int .i64 s.mod, .int .i64 s.all, .int .i64 s.non, .slice sA s.acts.length sc], .box w2.heap.size 59 [.slice A l.length c, .slice Ag2 oG.length cg2], .box (w2.heap.size + 1) 32 [.int .i64 f1, .int .i64 f2]] := H2
  have u0 := H2.cell 1 0 rfl rfl; have u1 := H2.cell 1 1 rfl rfl; have u2 := H2.cell 1 2 rfl rfl; have u3 := H2.cell 1 3 rfl rfl; have x0 := H2.cell 2 0 rfl rfl; have x1 := H2.cell 2 1 rfl rfl
  have hrun := Lib.hid (srun_any l A c oG Ag2 cg2 hsm.out s sA sc w3 (RdA.grow hsh.out H2.bel) hR2.out)
  go_wp2_with fail
  refine hrun.out.mono ?_
  clear hrun u0 u1 u2 u3 x0 x1
  rintro e w4 ⟨v, rfl, hG⟩
  have H3 := H2.grow hG.bel
  have hR3 := hR2.out.grow hG.bel
  rw [hlh.out] at hG ⊢
  have hX : Hid (f1 = 0 → runT oT oG s = ⟨tabsW (runM ⟨rows, gens⟩ s).rows, (runM ⟨rows, gens⟩ s).gens, (runM ⟨rows, gens⟩ s).err⟩) := Lib.hid (fun h => by
    have h1 := hof.out
    rw [if_neg (by simpa using h)] at h1
    injection h1 with h1 h2
    rw [h1, h2]
    exact runT_right (hrt.out h) s)
  generalize runT oT oG s = X at *
  obtain ⟨xT, xG, xe⟩ := X
  dsimp only at hG hX ⊢
  obtain ⟨A3, c3, l3, Ag3, cg3, rfl, hl3, hR4⟩ := hG.rd
  have hl3h := Lib.hid hl3
  clear hG H2 hR2 hl3
  have H4 := H3.new w4.heap.size rfl 59 [.slice A3 l3.length c3, .slice Ag3 xG.length cg3]
  have hR5 := Lib.hid (hR3.alloc (.cells #[.slice A3 l3.length c3, .slice Ag3 xG.length cg3] 59))
  have hR6 := Lib.hid (hR4.alloc (.cells #[.slice A3 l3.length c3, .slice Ag3 xG.length cg3] 59))
  have l0 := H3.lt 3 rfl
  clear hR3 hR4 H3
  go_upto_region 5 with fail
  obtain ⟨w5, hw5, H4⟩ := H4.name
  rw [hw5] at hR5 hR6 ⊢
  clear hw5 l0
  replace H4 : Hp w w5 [.box w.heap.size 25 [.slice Ar rows.length cr, .slice Ag gens.length cg], .box (w.heap.size + 1) 85 [.int .i64 s.mod, .int .i64 s.all, .int .i64 s.non, .slice sA s.acts.length sc], .box w2.heap.size 59 [.slice A l.length c, .slice Ag2 oG.length cg2], .box (w2.heap.size + 1) 32 [.int .i64 f1, .int .i64 f2], .box w4.heap.size 59 [.slice A3 l3.length c3, .slice Ag3 xG.length cg3]] := H4
  have ff := H4.cell 3 0 rfl rfl
  by_cases hf : f1 = 0
  case neg =>
    have hf' : (f1 != 0) = true := by simpa using hf
    have H4h := Lib.hid H4
    clear hf H4
    go_wp2_with fail
    go_ret
    exact ⟨rfl, H4h.out.bel⟩
  subst hf
  by_cases he : xe = 0
  case neg =>
    have he' : (xe != 0) = true := by simpa using he
    have H4h := Lib.hid H4
    clear he H4
    go_wp2_with fail
    go_ret
    exact ⟨rfl, H4h.out.bel⟩
  subst he
  have hRw := hrt.out rfl
  have hO : oT = tabsW rows ∧ oG = gens := by
    have h1 := hof.out
    rw [if_neg (by simp)] at h1
    exact ⟨congrArg Prod.fst h1, congrArg Prod.snd h1⟩
  obtain ⟨rfl, rfl⟩ := hO
  have hXX := hX.out rfl
  have hxe : (runM ⟨rows, oG⟩ s).err = 0 := by
    have := congrArg ChangedT.err hXX
    exact this.symm
  have hV := Lib.hid (runM_right hxe hRw)
  have hso := sysOk_of (runM_ok hxe).1
  have hall : isSet s.all = true := hso.all
  have hnon : isSet s.non = true := hso.non
  have hnob := Lib.hid (fun (r : BRow) (hr : r ∈ rows) (hm : meetsB s.all s.non r.has = false) => run_nobody (W := ⟨rows, oG⟩) hRw hxe hr hm)
  have hnon0 := Lib.hid (fun (hn : matchV s.all s.non rows = []) => run_none (W := ⟨rows, oG⟩) (x := s) hxe hn)
  have hin := Lib.hid (fun (r : BRow) (hr : r ∈ rows) => inB_asked (all := s.all) (non := s.non) (W := ⟨rows, oG⟩) hRw hr)
  generalize runM ⟨rows, oG⟩ s = V at *
  obtain ⟨vr, vg, ve⟩ := V
  obtain ⟨rfl, rfl, rfl⟩ : xT = tabsW vr ∧ xG = vg ∧ 0 = ve := by injection hXX with h1 h2 h3; exact ⟨h1, h2, h3⟩
  have hlr60 : rows.length ≤ 60 := Nat.le_trans hRw.rows_le hRw.len
  have hRwh := Lib.hid hRw
  dsimp only [bw] at hV hnon0
  have hVw : RightW vr xG := hV.out
  have hlens := right_len hVw
  have hlg3 : xG.length ≤ 60 := hVw.len
  have hlv : vr.length ≤ 60 := Nat.le_trans hVw.rows_le hVw.len
  have hlenV := Lib.hid (fit_len (G := ofG vr) hl3h.out)
  clear hX hXX hxe hso hRw hof hrt hV
  have x0 := H4.cell 4 0 rfl rfl; have x1 := H4.cell 4 1 rfl rfl
  have hlensh := Lib.hid hlens; have hVh := Lib.hid hVw
  clear hlens hVw H0 H2
  go_wp2_with fail
  clear x0 x1 ff
  refine (world_any l3 A3 c3 xG Ag3 cg3 (ofG vr) hl3h.out hVh.out.rep.clean (by have := hlenV.out; have := hlensh.out.1; omega) (by have := hlensh.out.2.2; omega) (by omega) w5 hR6.out.tabs hR6.out.gen hR6.out.ng).mono ?_
  rintro e w6 ⟨v, rfl, hG, hb6⟩
  rw [hVh.out.rep.sorted] at hG
  have hR7 := Lib.hid (hR5.out.grow hb6)
  have hR8 := Lib.hid (hR6.out.grow hb6)
  obtain ⟨Av, cv, Agv, cgv, rfl, H5⟩ := hG.got' H4 hb6
  clear hG hb6 hR5 hR6 H4
  have H6 := H5.new w6.heap.size rfl 25 [.slice Av vr.length cv, .slice Agv xG.length cgv]
  have hR9 := Lib.hid (hR7.out.alloc (.cells #[.slice Av vr.length cv, .slice Agv xG.length cgv] 25))
  have hR10 := Lib.hid (hR8.out.alloc (.cells #[.slice Av vr.length cv, .slice Agv xG.length cgv] 25))
  have l0 := H5.lt 4 rfl
  clear H5 hR7 hR8
  go_upto_region 8 with fail
  obtain ⟨w7, hw7, H6⟩ := H6.name
  rw [hw7] at hR9 hR10 ⊢
  clear hw7 l0
  have x0 := H6.cell 2 0 rfl rfl; have x1 := H6.cell 2 1 rfl rfl; have u1 := H6.cell 1 1 rfl rfl; have u2 := H6.cell 1 2 rfl rfl
  go_wp2_with fail
  clear x0 x1 u1 u2
  refine (smatch_any l A c oG Ag2 cg2 rows hRwh.out hlh.out s.all s.non hall hnon w7 hR9.out).mono ?_
  rintro e w8 ⟨⟨Am, cm, rfl, hom⟩, hb8⟩
  have hbl : (matchV s.all s.non rows).length ≤ 60 := Nat.le_trans (List.length_filter_le _ _) hlr60
  have hbe : Hid (matchV s.all s.non rows = [] ∨ 0 < (matchV s.all s.non rows).length) := Lib.hid (by
    cases matchV s.all s.non rows with
    | nil => exact .inl rfl
    | cons a l => exact .inr (by simp))
  have hR11 := Lib.hid (hR9.out.grow hb8)
  have hR12 := Lib.hid (hR10.out.grow hb8)
  have H7 := H6.got hb8 hom
  generalize matchV s.all s.non rows = bs at *
  clear hom hb8 H6 hR9 hR10
  have x0 := H7.cell 0 0 rfl rfl
  have H7h := Lib.hid H7
  clear H7
  go_wp2_with fail
  have H8 : Hp w w8 (nobE w2.heap.size w4.heap.size w6.heap.size A l.length c Ag2 oG.length cg2 A3 l3.length c3 Ag3 cg3 Av vr cv Agv xG cgv Am bs cm) := ((H7h.out.drop1 3).drop1 1).drop1 0
  have H8h := Lib.hid H8
  clear H7h H8 x0
  go_loopw [46] (fun q wr => ∃ k : Nat, k ≤ rows.length ∧ q = .int .i64 k ∧ Hp w wr (nobE w2.heap.size w4.heap.size w6.heap.size A l.length c Ag2 oG.length cg2 A3 l3.length c3 Ag3 cg3 Av vr cv Agv xG cgv Am bs cm) ∧ Below w8.heap.size w8 wr) (fun q _ => rows.length - (intOf q).toNat)
  case atStart => exact ⟨0, by omega, rfl, H8h.out, Below.refl _ _⟩
  case round =>
    obtain ⟨k, hk, rfl, H, hB⟩ := hrel
    have hBh := Lib.hid hB
    clear hB
    by_cases hlt : k < rows.length
    · have hR1 : RdR wr w.heap.size Ar rows := Rd.under hr H.bel (Nat.le_refl _)
      obtain ⟨b1, off, rfl, hb1, hrow⟩ := hR1.at_ hlt
      have hmem := List.getElem_mem hlt
      have hinr := Lib.hid (hin.out _ hmem); have hnobr := Lib.hid (hnob.out _ hmem)
      generalize rows[k] = r at *
      obtain ⟨c0, c1, c2'⟩ := hrow.head
      obtain ⟨idx, gen, has', vals, h8⟩ := r
      obtain ⟨z0, z1, z2, z3, z4, z5, z6, z7, rfl⟩ := vals_eight h8
      have v0 := hrow 3 (.int .i64 z0) rfl; have v1 := hrow 4 (.int .i64 z1) rfl; have v2 := hrow 5 (.int .i64 z2) rfl; have v3 := hrow 6 (.int .i64 z3) rfl; have v4 := hrow 7 (.int .i64 z4) rfl; have v5 := hrow 8 (.int .i64 z5) rfl; have v6 := hrow 9 (.int .i64 z6) rfl; have v7 := hrow 10 (.int .i64 z7) rfl
      simp only at c0 c1 c2'
      dsimp only at hinr hnobr
      have H1 := Lib.hid (H.new wr.heap.size rfl 51 (rowCells ⟨idx, gen, has', [z0, z1, z2, z3, z4, z5, z6, z7], h8⟩))
      have i0 : (0 : Int) ≤ (k : Int) := by omega
      have i1 : (k : Int) < (rows.length : Int) := by omega
      clear hrow hmem hR1 H
      go_wp2_with fail
      obtain ⟨b12, hb12⟩ : ∃ b12, b12 = wr.heap.size := ⟨_, rfl⟩
      rw [← hb12] at H1 ⊢
      clear hb12 c0 c1 c2' v0 v1 v2 v3 v4 v5 v6 v7 i0 i1 hb1
      go_loopw [13, 52] (fun s13 q wx => ∃ j : Nat, j ≤ bs.length ∧ q = .int .i64 j ∧ s13 = .bool (inB idx gen (bs.take j)) ∧ Hp w wx (nobE w2.heap.size w4.heap.size w6.heap.size A l.length c Ag2 oG.length cg2 A3 l3.length c3 Ag3 cg3 Av vr cv Agv xG cgv Am bs cm ++ [.box b12 51 (rowCells ⟨idx, gen, has', [z0, z1, z2, z3, z4, z5, z6, z7], h8⟩)]) ∧ Below w8.heap.size w8 wx) (fun _ q _ => bs.length - (intOf q).toNat)
      case atStart => exact ⟨0, by omega, rfl, rfl, H1.out, hBh.out.alloc hBh.out.size _⟩
      case round =>
        clear H1 hBh
        obtain ⟨j, hj, rfl, rfl, H, hB⟩ := hrel
        have hBh := Lib.hid hB
        clear hB
        have r0 := H.cell 6 0 rfl rfl; have r1 := H.cell 6 1 rfl rfl
        by_cases hlj : j < bs.length
        · obtain ⟨b2, o2, rfl, hb2, e0, e1⟩ := RdB.at_ (w := wr) (H.rd 5 rfl) hlj
          have htk := Lib.hid (@inB_take idx gen bs j hlj)
          generalize bs[j] = B at *
          obtain ⟨bi, bg, bh, bv, b8⟩ := B
          dsimp only at e0 e1 htk
          have heq : ∀ W, (binOp .eql 27 (.agg #[.int .i64 bi, .int .i64 bg]) (.agg #[.int .i64 idx, .int .i64 gen])).run Try.prog W = .ok (.bool (bi == idx && bg == gen)) W := fun W => eqBeing _ _ _ _ W
          generalize (bi == idx && bg == gen) = D at *
          generalize inB idx gen (bs.take j) = C at *
          have H2 := Lib.hid (H.alloc (.cells #[.int .i64 bi, .int .i64 bg] 27))
          have i0 : (0 : Int) ≤ (j : Int) := by omega
          have i1 : (j : Int) < (bs.length : Int) := by omega
          have lt := H.lt 6 rfl
          clear H
          cases C with
          | true =>
            go_wp2_with fail
            go_roundw
            case rel => exact ⟨j + 1, by omega, by go_num, by rw [htk.out]; rfl, H2.out, hBh.out.alloc hBh.out.size _⟩
            case measure => simp [intOf]; omega
          | false =>
            go_wp2_with fail
            go_roundw
            case rel => exact ⟨j + 1, by omega, by go_num, by rw [htk.out, Bool.false_or], H2.out, hBh.out.alloc hBh.out.size _⟩
            case measure => simp [intOf]; omega
        · obtain rfl : j = bs.length := by omega
          have x0 := H.cell 4 0 rfl rfl; have x1 := H.cell 4 1 rfl rfl
          have hrr := Lib.hid (rrow_at vr xG Av cv Agv cgv idx gen (by omega) wr (H.rd 2 rfl))
          have hQ0 := Lib.hid (fun W (hW : Hp w W (nobE w2.heap.size w4.heap.size w6.heap.size A l.length c Ag2 oG.length cg2 A3 l3.length c3 Ag3 cg3 Av vr cv Agv xG cgv Am bs cm ++ [.box b12 51 (rowCells ⟨idx, gen, has', [z0, z1, z2, z3, z4, z5, z6, z7], h8⟩)])) => rowPtr_ans (hW.rd 2 rfl) (Nat.le_refl _) idx gen)
          rw [List.take_length, hinr.out]
          have Hh := Lib.hid H
          clear H hinr
          generalize rowPtr Av idx gen vr = P at *
          go_wp2_with fail
          refine hrr.out.mono ?_
          rintro e wx ⟨rfl, hbx⟩
          have H := Hh.out.grow hbx
          have hB2 := Lib.hid (hBh.out.trans (hbx.mono hBh.out.size))
          have hQ := hQ0.out wx H
          clear hbx Hh hQ0 hrr x0 x1 r0 r1 hBh
          go_upto_region 19 with fail
          have e0 := H.cell 6 0 rfl rfl; have e1 := H.cell 6 1 rfl rfl; have e2 := H.cell 6 2 rfl rfl
          have u0 := H.cell 6 3 rfl rfl; have u1 := H.cell 6 4 rfl rfl; have u2 := H.cell 6 5 rfl rfl; have u3 := H.cell 6 6 rfl rfl; have u4 := H.cell 6 7 rfl rfl; have u5 := H.cell 6 8 rfl rfl; have u6 := H.cell 6 9 rfl rfl; have u7 := H.cell 6 10 rfl rfl
          have hHd := Lib.hid (fun nd => (H.drewN nd).drop1 6); have hBd := Lib.hid (fun nd => below_drewN hB2.out nd)
          clear H hB2
          cases hm : meetsB s.all s.non has' with
          | true =>
            clear hQ hnobr hm
            go_quiet (fail)
            go_wp2_with fail
            go_roundw
            case rel => exact ⟨k + 1, by omega, by go_num, hHd.out _, hBd.out _⟩
            case measure => simp [intOf]; omega
          | false =>
            rw [hnobr.out hm] at hQ
            obtain ⟨qb, qo, rfl, hqb, hrow2⟩ := hQ
            have hq := fun W => neRow ⟨idx, gen, has', [z0, z1, z2, z3, z4, z5, z6, z7], h8⟩ ⟨idx, gen, has', [z0, z1, z2, z3, z4, z5, z6, z7], h8⟩ W
            obtain ⟨d0, d1, d2⟩ := hrow2.head
            have y0 := hrow2 3 (.int .i64 z0) rfl; have y1 := hrow2 4 (.int .i64 z1) rfl; have y2 := hrow2 5 (.int .i64 z2) rfl; have y3 := hrow2 6 (.int .i64 z3) rfl; have y4 := hrow2 7 (.int .i64 z4) rfl; have y5 := hrow2 8 (.int .i64 z5) rfl; have y6 := hrow2 9 (.int .i64 z6) rfl; have y7 := hrow2 10 (.int .i64 z7) rfl
            simp only at d0 d1 d2
            have hrv : rowV ⟨idx, gen, has', [z0, z1, z2, z3, z4, z5, z6, z7], h8⟩ = .agg #[.int .i64 idx, .int .i64 gen, .int .i64 has', .int .i64 z0, .int .i64 z1, .int .i64 z2, .int .i64 z3, .int .i64 z4, .int .i64 z5, .int .i64 z6, .int .i64 z7] := rfl
            rw [hrv] at hq
            simp only [decide_true, Bool.not_true] at hq
            clear hrv hrow2 hnobr hm
            go_quiet (fail)
            go_wp2_with fail
            go_roundw
            case rel => exact ⟨k + 1, by omega, by go_num, hHd.out _, hBd.out _⟩
            case measure => simp [intOf]; omega
    · obtain rfl : k = rows.length := by omega
      have hRa := Lib.hid (hR11.out.grow hBh.out); have hRb := Lib.hid (hR12.out.grow hBh.out)
      have x0 := H.cell 0 0 rfl rfl; have x1 := H.cell 0 1 rfl rfl; have x2 := H.cell 1 0 rfl rfl; have x3 := H.cell 1 1 rfl rfl
      have Hh := Lib.hid H
      clear H hBh hR11 hR12 H8h
      rcases hbe.out with hb0 | hb0
      · have hsame := hnon0.out hb0
        obtain ⟨rfl, rfl⟩ : vr = rows ∧ xG = oG := by injection hsame with h1 h2; exact ⟨h1, h2⟩
        subst hb0
        have hgt : decide ((0 : Int) < ((([] : List BRow).length : Nat) : Int)) = false := rfl
        clear hsame hnon0 hbe hin hnob
        go_wp2_with fail
        refine (rsamest_any l l3 xG A c Ag2 cg2 A3 c3 Ag3 cg3 hsm.out (hl3h.out.trans hlh.out.symm) wr hRa.out hRb.out).mono ?_
        rintro e wy ⟨rfl, hby⟩
        have H2 := Lib.hid (Hh.out.grow hby)
        clear hby Hh x0 x1 x2 x3 hRa hRb
        go_wp2_with fail
        go_ret
        exact ⟨rfl, H2.out.bel⟩
      · have hgt : decide ((0 : Int) < (bs.length : Int)) = true := by simp; omega
        clear hnon0 hbe hin hnob
        go_wp2_with fail
        go_ret
        exact ⟨rfl, Hh.out.bel⟩
end Go.Proofs.Ytefdblaolmckmab
