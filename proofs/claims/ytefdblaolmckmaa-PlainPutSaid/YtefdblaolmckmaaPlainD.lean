/- The walks of plain.find and Get. -/
import Derived.Test.YtefdblaolmckmaaPlainC
namespace Go.Proofs.Ytefdblaolmckmaa
open Go.RowKit
open Brood
set_option linter.unusedVariables false
set_option linter.unusedSimpArgs false

def isB (i g : Int) (r : BRow) : Bool := r.idx == i && r.gen == g
def findR (i g : Int) : List BRow → Option Nat
  | [] => none
  | r :: l => if isB i g r then some 0 else (findR i g l).map (· + 1)
def findI (i g : Int) (rows : List BRow) : Int := match findR i g rows with | some k => (k : Int) | none => -1
def rowV (r : BRow) : Value := .agg (rowCells r).toArray

set_option maxRecDepth 20000 in
set_option maxHeartbeats 1600000 in
theorem isB_any (r : BRow) (i g : Int) (b : Nat) (w : World) (h : Blk w b 68 #[.int .i64 i, .int .i64 g]) :
    Calls Try.prog 91 #[rowV r, .pointer (some ⟨b, 0, none⟩)] w fun e w' => e = .returned (.bool (isB i g r)) ∧ Below w.heap.size w w' := by
  have hib : Hid (isB i g r = (r.idx == i && r.gen == g)) := Lib.hid rfl
  generalize isB i g r = B at *
  obtain ⟨idx, gen, has, vals, h8⟩ := r
  obtain ⟨a0, a1, a2, a3, a4, a5, a6, a7, rfl⟩ := vals_eight h8
  simp only at hib
  have b0 := h.cell 0; have b1 := h.cell 1
  have hlt := h.lt
  simp at b0 b1
  have hrv : rowV ⟨idx, gen, has, [a0, a1, a2, a3, a4, a5, a6, a7], h8⟩ = .agg #[.int .i64 idx, .int .i64 gen, .int .i64 has, .int .i64 a0, .int .i64 a1, .int .i64 a2, .int .i64 a3, .int .i64 a4, .int .i64 a5, .int .i64 a6, .int .i64 a7] := rfl
  rw [hrv]
  go_enter Try.func91, Try.ntmps91
  go_wp2_with fail
  all_goals (go_ret; exact ⟨ret_bool (by rw [hib.out]; simp [*]), (Below.refl _ _).alloc (Nat.le_refl _) _⟩)
theorem findR_drop {i g : Int} {rows : List BRow} {k : Nat} (h : k < rows.length) : (findR i g (rows.drop k)).map (· + k) = if isB i g rows[k] then some k else (findR i g (rows.drop (k + 1))).map (· + (k + 1)) := by
  rw [drop_cons h, findR]
  split
  · simp
  · rw [Option.map_map]
    congr 1
    funext x
    simp only [Function.comp_apply]
    omega

set_option maxRecDepth 20000 in
set_option maxHeartbeats 3200000 in
theorem frow_any (rows : List BRow) (A : Option Addr) (c : Nat) (hlen : rows.length ≤ 1000000) (i g : Int) (b : Nat) (w : World) (hR : RdR w w.heap.size A rows) (h : Blk w b 68 #[.int .i64 i, .int .i64 g]) :
    Calls Try.prog 90 #[.slice A rows.length c, .func (.func 91) #[] #[.pointer (some ⟨b, 0, none⟩)]] w fun e w' => e = .returned (.int .i64 (findI i g rows)) ∧ Below w.heap.size w w' := by
  go_enter Try.func90, Try.ntmps90
  go_wp2_with fail
  go_loopw [8] (fun q wr => ∃ k : Nat, k ≤ rows.length ∧ q = .int .i64 k ∧ Hid (findR i g rows = (findR i g (rows.drop k)).map (· + k)) ∧ Below w.heap.size w wr) (fun q _ => rows.length - (intOf q).toNat)
  case atStart => exact ⟨0, by omega, rfl, Lib.hid (by simp), Below.refl _ _⟩
  case round =>
    obtain ⟨k, hk, rfl, hfr, hbel⟩ := hrel
    by_cases hlt : k < rows.length
    · have hR1 : RdR wr w.heap.size A rows := Rd.under hR hbel (Nat.le_refl _)
      obtain ⟨b1, off, rfl, hb1, hrow⟩ := hR1.at_ hlt
      have hst := Lib.hid (@findR_drop i g rows k hlt)
      have hB := h.below hbel h.lt
      have hcall := isB_any rows[k] i g b wr hB
      generalize rows[k] = r at *
      have i0 : (0 : Int) ≤ (k : Int) := by omega
      have i1 : (k : Int) < (rows.length : Int) := by omega
      obtain ⟨c0, c1, c2⟩ := hrow.head
      generalize isB i g r = B at *
      obtain ⟨idx, gen, has, vals, h8⟩ := r
      obtain ⟨a0, a1, a2, a3, a4, a5, a6, a7, rfl⟩ := vals_eight h8
      have v0 := hrow 3 (.int .i64 a0) rfl; have v1 := hrow 4 (.int .i64 a1) rfl; have v2 := hrow 5 (.int .i64 a2) rfl; have v3 := hrow 6 (.int .i64 a3) rfl; have v4 := hrow 7 (.int .i64 a4) rfl; have v5 := hrow 8 (.int .i64 a5) rfl; have v6 := hrow 9 (.int .i64 a6) rfl; have v7 := hrow 10 (.int .i64 a7) rfl
      simp only at c0 c1 c2
      have hrv : rowV ⟨idx, gen, has, [a0, a1, a2, a3, a4, a5, a6, a7], h8⟩ = .agg #[.int .i64 idx, .int .i64 gen, .int .i64 has, .int .i64 a0, .int .i64 a1, .int .i64 a2, .int .i64 a3, .int .i64 a4, .int .i64 a5, .int .i64 a6, .int .i64 a7] := rfl
      rw [hrv] at hcall
      have hcallh := Lib.hid hcall
      clear hcall hrv hrow
      go_wp2_with fail
      refine hcallh.out.mono ?_
      rintro e w1 ⟨rfl, hb2⟩
      cases B
      case true =>
        have hf : Hid (findI i g rows = (k : Int)) := Lib.hid (by unfold findI; rw [hfr.out, hst.out, if_pos rfl])
        go_wp2_with fail
        go_ret
        exact ⟨ret_int hf.out.symm, grow_below hbel hb2⟩
      case false =>
        have hf : Hid (findR i g rows = (findR i g (rows.drop (k + 1))).map (· + (k + 1))) := Lib.hid (by rw [hfr.out, hst.out, if_neg (by decide)])
        go_wp2_with fail
        go_roundw
        case rel => exact ⟨k + 1, by omega, by go_num, hf, grow_below hbel hb2⟩
        case measure => simp [intOf]; omega
    · obtain rfl : k = rows.length := by omega
      have hf : Hid (findI i g rows = -1) := Lib.hid (by unfold findI; rw [hfr.out, List.drop_length]; rfl)
      go_wp2_with fail
      go_ret
      exact ⟨ret_int hf.out.symm, hbel⟩

set_option maxRecDepth 20000 in
set_option maxHeartbeats 1600000 in
theorem find_any (rows : List BRow) (A : Option Addr) (c : Nat) (v2 : Value) (hlen : rows.length ≤ 1000000) (i g : Int) (b : Nat) (w : World) (hR : RdR w w.heap.size A rows) (h : Blk w b 66 #[.slice A rows.length c, v2]) :
    Calls Try.prog 80 #[.pointer (some ⟨b, 0, none⟩), .agg #[.int .i64 i, .int .i64 g]] w fun e w' => e = .returned (.int .i64 (findI i g rows)) ∧ Below w.heap.size w w' := by
  have hmf : ∀ (fn : Fn) (first cap : Array Value) (w : World), (Instr.makeFunc fn first cap).run Try.prog w = .ok (.func fn first cap) w := fun _ _ _ _ => rfl
  have k0 := h.cell 0
  have hlt := h.lt
  simp at k0
  have hf := Lib.hid (frow_any rows A c hlen i g w.heap.size (w.alloc (.cells #[.int .i64 i, .int .i64 g] 68)) (Rd.alloc_ hR _) (Blk.new _ _ _))
  go_enter Try.func80, Try.ntmps80
  go_wp2_with fail
  refine hf.out.mono ?_
  rintro e w1 ⟨rfl, hb1⟩
  go_wp2_with fail
  go_ret
  exact ⟨rfl, grow_below ((Below.refl _ _).alloc (Nat.le_refl _) _) hb1⟩
end Go.Proofs.Ytefdblaolmckmaa
