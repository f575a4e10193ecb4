/- The walks of the reference's Row and Same. -/
import Derived.Test.YtefdblaolmckmaaWin
namespace Go.Proofs.Ytefdblaolmckmaa
open Go.RowKit
open Brood
set_option linter.unusedVariables false
set_option linter.unusedSimpArgs false

/-- Where the row of a being stands, if it does. -/
def RowAns (w : World) (v : Value) (o : Option BRow) : Prop :=
  match o with
  | none => v = .pointer none
  | some r => ∃ b o, v = .pointer (some ⟨b, o, none⟩) ∧ b < w.heap.size ∧ RowAt w b o r
def rowOf (i g : Int) (rows : List BRow) : Option BRow := rows.find? (isB i g)
theorem rowOf_drop {i g : Int} {rows : List BRow} {k : Nat} (h : k < rows.length) : rowOf i g (rows.drop k) = if isB i g rows[k] then some rows[k] else rowOf i g (rows.drop (k + 1)) := by
  rw [drop_cons h]
  unfold rowOf
  rw [List.find?_cons]
  cases isB i g rows[k] <;> rfl

/-- The address of a being's row. -/
def ptrAt (A : Option Addr) (o : Option Nat) (k : Nat) : Value :=
  match o with
  | none => .pointer none
  | some j => .pointer (A.map fun a => ⟨a.block, a.off + (k + j) * 11, none⟩)
def rowPtr (A : Option Addr) (i g : Int) (rows : List BRow) : Value := ptrAt A (findR i g rows) 0
theorem ptr_drop {A : Option Addr} {i g : Int} {rows : List BRow} {k : Nat} (h : k < rows.length) : ptrAt A (findR i g (rows.drop k)) k = if isB i g rows[k] then ptrAt A (some 0) k else ptrAt A (findR i g (rows.drop (k + 1))) (k + 1) := by
  rw [drop_cons h, findR]
  split
  · rfl
  · cases findR i g (rows.drop (k + 1)) with
    | none => rfl
    | some j => show ptrAt A (some (j + 1)) k = _
                simp only [ptrAt]
                rw [show k + (j + 1) = k + 1 + j by omega]
theorem findR_rowOf {i g : Int} : ∀ {rows : List BRow}, rowOf i g rows = (findR i g rows).bind fun k => rows[k]?
  | [] => rfl
  | r :: l => by
    unfold rowOf
    rw [List.find?_cons, findR]
    cases h : isB i g r
    · simp only
      rw [if_neg (by simp)]
      have := findR_rowOf (i := i) (g := g) (rows := l)
      unfold rowOf at this
      rw [this]
      cases findR i g l <;> rfl
    · simp
theorem rowPtr_ans {w : World} {B : Nat} {A : Option Addr} {rows : List BRow} (hr : RdR w B A rows) (hB : B ≤ w.heap.size) (i g : Int) : RowAns w (rowPtr A i g rows) (rowOf i g rows) := by
  rw [findR_rowOf]
  unfold rowPtr
  cases h : findR i g rows with
  | none => exact rfl
  | some k =>
    have hk := findR_lt h
    obtain ⟨b, off, rfl, hb, hrow⟩ := hr.at_ hk
    simp only [Option.bind_some, List.getElem?_eq_getElem hk]
    exact ⟨b, off + k * 11, by simp [ptrAt], by omega, hrow⟩

set_option maxRecDepth 20000 in
set_option maxHeartbeats 3200000 in
theorem rrow_at (rows : List BRow) (gens : List Int) (Ar : Option Addr) (cr : Nat) (Ag : Option Addr) (cg : Nat) (i g : Int) (hlr : rows.length ≤ 9223372036854775807) (w : World) (hr : RdR w w.heap.size Ar rows) :
    Calls Try.prog 52 #[.agg #[.slice Ar rows.length cr, .slice Ag gens.length cg], .agg #[.int .i64 i, .int .i64 g]] w fun e w' => e = .returned (rowPtr Ar i g rows) ∧ Below w.heap.size w w' := by
  have hE : Hid (rowPtr Ar i g rows = ptrAt Ar (findR i g (rows.drop 0)) 0) := Lib.hid rfl
  generalize rowPtr Ar i g rows = E at *
  have H0 := ((Hp.start w).new w.heap.size rfl 66 [.slice Ar rows.length cr, .slice Ag gens.length cg]).new (w.heap.size + 1) (by simp) 68 [.int .i64 i, .int .i64 g]
  go_enter Try.func52, Try.ntmps52
  go_wp2_with fail
  go_loopw [9] (fun q wr => ∃ k : Nat, k ≤ rows.length ∧ q = .int .i64 k ∧ Hid (E = ptrAt Ar (findR i g (rows.drop k)) k) ∧ Hp w wr [.box w.heap.size 66 [.slice Ar rows.length cr, .slice Ag gens.length cg], .box (w.heap.size + 1) 68 [.int .i64 i, .int .i64 g]]) (fun q _ => rows.length - (intOf q).toNat)
  case atStart => exact ⟨0, by omega, rfl, hE, H0⟩
  case round =>
    clear H0 hE
    obtain ⟨k, hk, rfl, hE, H⟩ := hrel
    by_cases hlt : k < rows.length
    · have hR1 : RdR wr w.heap.size Ar rows := Rd.under hr H.bel (Nat.le_refl _)
      obtain ⟨b1, off, rfl, hb1, hrow⟩ := hR1.at_ hlt
      have hst := Lib.hid (@ptr_drop (some ⟨b1, off, none⟩) i g rows k hlt)
      generalize rows[k] = r at *
      have i0 : (0 : Int) ≤ (k : Int) := by omega
      have i1 : (k : Int) < (rows.length : Int) := by omega
      obtain ⟨c0, c1, c2⟩ := hrow.head
      have e0 := H.cell 0 0 rfl rfl; have e1 := H.cell 1 0 rfl rfl; have e2 := H.cell 1 1 rfl rfl
      have hq : ∀ W, (binOp .eql 68 (.agg #[.int .i64 r.idx, .int .i64 r.gen]) (.agg #[.int .i64 i, .int .i64 g])).run Try.prog W = .ok (.bool (isB i g r)) W := fun W => eqBeing _ _ _ _ W
      go_upto_region 4 with fail
      go_cut [19] (fun s19 wx => s19 = .bool (isB i g r) ∧ ∃ n, wx = wr.drewN n)
      case first =>
        go_quiet (fail)
        go_wp2_with fail
        go_meet
        exact ⟨rfl, _, rfl⟩
      case rest =>
        obtain ⟨rfl, n, rfl⟩ := hcut
        have H2 := H.drewN n
        have e0 := H2.cell 0 0 rfl rfl
        cases hB : isB i g r
        · rw [hB] at hst
          go_wp2_with fail
          go_roundw
          case rel => exact ⟨k + 1, by omega, by go_num, Lib.hid (by rw [hE.out, hst.out]; simp), H2⟩
          case measure => simp [intOf]; omega
        · rw [hB] at hst
          go_wp2_with fail
          go_ret
          refine ⟨?_, H2.bel⟩
          rw [hE.out, hst.out]
          rfl
    · obtain rfl : k = rows.length := by omega
      go_wp2_with fail
      go_ret
      refine ⟨?_, H.bel⟩
      rw [hE.out, List.drop_length]
      rfl

theorem rrow_any (rows : List BRow) (gens : List Int) (Ar : Option Addr) (cr : Nat) (Ag : Option Addr) (cg : Nat) (i g : Int) (hlr : rows.length ≤ 9223372036854775807) (w : World) (hr : RdR w w.heap.size Ar rows) :
    Calls Try.prog 52 #[.agg #[.slice Ar rows.length cr, .slice Ag gens.length cg], .agg #[.int .i64 i, .int .i64 g]] w fun e w' => (∃ v, e = .returned v ∧ RowAns w v (rowOf i g rows)) ∧ Below w.heap.size w w' := by
  refine (rrow_at rows gens Ar cr Ag cg i g hlr w hr).mono ?_
  rintro e w' ⟨rfl, hb⟩
  exact ⟨⟨_, rfl, rowPtr_ans hr (Nat.le_refl _) i g⟩, hb⟩

set_option maxRecDepth 20000 in
set_option maxHeartbeats 6400000 in
theorem rsame_any (rows : List BRow) (gens : List Int) (Ar : Option Addr) (cr : Nat) (Ag : Option Addr) (cg : Nat) (Ar' : Option Addr) (cr' : Nat) (Ag' : Option Addr) (cg' : Nat) (hlr : rows.length ≤ 9223372036854775807) (hlg : gens.length ≤ 9223372036854775807)
    (w : World) (hr : RdR w w.heap.size Ar rows) (hr' : RdR w w.heap.size Ar' rows) (hg : RdG w w.heap.size Ag gens) (hg' : RdG w w.heap.size Ag' gens) :
    Calls Try.prog 57 #[.agg #[.slice Ar rows.length cr, .slice Ag gens.length cg], .agg #[.slice Ar' rows.length cr', .slice Ag' gens.length cg']] w fun e w' => e = .returned (.bool true) ∧ Below w.heap.size w w' := by
  have H0 := ((Hp.start w).new w.heap.size rfl 66 [.slice Ar rows.length cr, .slice Ag gens.length cg]).new (w.heap.size + 1) (by simp) 66 [.slice Ar' rows.length cr', .slice Ag' gens.length cg']
  go_enter Try.func57, Try.ntmps57
  go_wp2_with fail
  go_loopw [26] (fun q wr => ∃ k : Nat, k ≤ rows.length ∧ q = .int .i64 k ∧ Hp w wr [.box w.heap.size 66 [.slice Ar rows.length cr, .slice Ag gens.length cg], .box (w.heap.size + 1) 66 [.slice Ar' rows.length cr', .slice Ag' gens.length cg']]) (fun q _ => rows.length - (intOf q).toNat)
  case atStart => exact ⟨0, by omega, rfl, H0⟩
  case round =>
    clear H0
    obtain ⟨k, hk, rfl, H⟩ := hrel
    by_cases hlt : k < rows.length
    · have hR1 : RdR wr w.heap.size Ar rows := Rd.under hr H.bel (Nat.le_refl _)
      have hR2 : RdR wr w.heap.size Ar' rows := Rd.under hr' H.bel (Nat.le_refl _)
      obtain ⟨b1, off, rfl, hb1, hrow⟩ := hR1.at_ hlt
      obtain ⟨b2, off2, rfl, hb2, hrow2⟩ := hR2.at_ hlt
      clear hR1 hR2
      generalize rows[k] = r at *
      have i0 : (0 : Int) ≤ (k : Int) := by omega
      have i1 : (k : Int) < (rows.length : Int) := by omega
      have e0 := H.cell 0 0 rfl rfl; have e1 := H.cell 1 0 rfl rfl
      have hq := fun W => neRow r r W
      obtain ⟨c0, c1, c2⟩ := hrow.head
      obtain ⟨d0, d1, d2⟩ := hrow2.head
      obtain ⟨idx, gen, has, vals, h8⟩ := r
      obtain ⟨a0, a1, a2, a3, a4, a5, a6, a7, rfl⟩ := vals_eight h8
      have v0 := hrow 3 (.int .i64 a0) rfl; have v1 := hrow 4 (.int .i64 a1) rfl; have v2 := hrow 5 (.int .i64 a2) rfl; have v3 := hrow 6 (.int .i64 a3) rfl; have v4 := hrow 7 (.int .i64 a4) rfl; have v5 := hrow 8 (.int .i64 a5) rfl; have v6 := hrow 9 (.int .i64 a6) rfl; have v7 := hrow 10 (.int .i64 a7) rfl
      have u0 := hrow2 3 (.int .i64 a0) rfl; have u1 := hrow2 4 (.int .i64 a1) rfl; have u2 := hrow2 5 (.int .i64 a2) rfl; have u3 := hrow2 6 (.int .i64 a3) rfl; have u4 := hrow2 7 (.int .i64 a4) rfl; have u5 := hrow2 8 (.int .i64 a5) rfl; have u6 := hrow2 9 (.int .i64 a6) rfl; have u7 := hrow2 10 (.int .i64 a7) rfl
      simp only at c0 c1 c2 d0 d1 d2
      have hrv : rowV ⟨idx, gen, has, [a0, a1, a2, a3, a4, a5, a6, a7], h8⟩ = .agg #[.int .i64 idx, .int .i64 gen, .int .i64 has, .int .i64 a0, .int .i64 a1, .int .i64 a2, .int .i64 a3, .int .i64 a4, .int .i64 a5, .int .i64 a6, .int .i64 a7] := rfl
      rw [hrv] at hq
      simp only [decide_true, Bool.not_true] at hq
      clear hrv hrow hrow2
      go_upto_region 6 with fail
      go_cut [39] (fun s39 wx => s39 = .bool false ∧ ∃ n, wx = wr.drewN n)
      case first =>
        go_quiet (fail)
        go_wp2_with fail
        go_meet
        exact ⟨rfl, _, rfl⟩
      case rest =>
        obtain ⟨rfl, n, rfl⟩ := hcut
        have H2 := H.drewN n
        go_wp2_with fail
        go_roundw
        case rel => exact ⟨k + 1, by omega, by go_num, H2⟩
        case measure => simp [intOf]; omega
    · obtain rfl : k = rows.length := by omega
      have e0 := H.cell 0 1 rfl rfl; have e1 := H.cell 1 1 rfl rfl
      clear hr hr'
      go_wp2_with fail
      go_loopw [44] (fun q wx => ∃ k : Nat, k ≤ gens.length ∧ q = .int .i64 k ∧ Hp w wx [.box w.heap.size 66 [.slice Ar rows.length cr, .slice Ag gens.length cg], .box (w.heap.size + 1) 66 [.slice Ar' rows.length cr', .slice Ag' gens.length cg']]) (fun q _ => gens.length - (intOf q).toNat)
      case atStart => exact ⟨0, by omega, rfl, H⟩
      case round =>
        clear H e0 e1
        obtain ⟨k, hk, rfl, H⟩ := hrel
        by_cases hlt : k < gens.length
        · have hR1 : RdG wr w.heap.size Ag gens := Rd.under hg H.bel (Nat.le_refl _)
          have hR2 : RdG wr w.heap.size Ag' gens := Rd.under hg' H.bel (Nat.le_refl _)
          obtain ⟨b1, off, rfl, hb1, c0⟩ := hR1.at_ hlt
          obtain ⟨b2, off2, rfl, hb2, d0⟩ := hR2.at_ hlt
          clear hR1 hR2 hg hg'
          generalize gens[k] = r at *
          have i0 : (0 : Int) ≤ (k : Int) := by omega
          have i1 : (k : Int) < (gens.length : Int) := by omega
          have e0 := H.cell 0 1 rfl rfl; have e1 := H.cell 1 1 rfl rfl
          go_upto_region 12 with fail
          go_cut [57] (fun s57 wx => s57 = .bool false ∧ ∃ n, wx = wr.drewN n)
          case first =>
            go_quiet (fail)
            go_wp2_with fail
            go_meet
            exact ⟨rfl, _, rfl⟩
          case rest =>
            obtain ⟨rfl, n, rfl⟩ := hcut
            have H2 := H.drewN n
            go_wp2_with fail
            go_roundw
            case rel => exact ⟨k + 1, by omega, by go_num, H2⟩
            case measure => simp [intOf]; omega
        · obtain rfl : k = gens.length := by omega
          go_wp2_with fail
          go_ret
          exact ⟨rfl, H.bel⟩
end Go.Proofs.Ytefdblaolmckmaa
