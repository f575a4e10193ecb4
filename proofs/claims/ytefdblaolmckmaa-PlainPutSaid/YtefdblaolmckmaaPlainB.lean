/- The walk of plain.row. -/
import Derived.Test.YtefdblaolmckmaaPlainA
namespace Go.Proofs.Ytefdblaolmckmaa
open Go.RowKit
open Brood
set_option linter.unusedVariables false
set_option linter.unusedSimpArgs false

def valsV (vs : List Int) : Value := .agg (ints vs).toArray
theorem vals_eight {vs : List Int} (h : vs.length = 8) : ∃ a0 a1 a2 a3 a4 a5 a6 a7, vs = [a0, a1, a2, a3, a4, a5, a6, a7] := by
  match vs, h with
  | [a0, a1, a2, a3, a4, a5, a6, a7], _ => exact ⟨_, _, _, _, _, _, _, _, rfl⟩
section
variable (a0 a1 a2 a3 a4 a5 a6 a7 : Int) (w : World)
theorem vals_at0 : (Instr.index 80 (.agg #[.int .i64 a0, .int .i64 a1, .int .i64 a2, .int .i64 a3, .int .i64 a4, .int .i64 a5, .int .i64 a6, .int .i64 a7]) (.int .i64 ((0 : Nat) : Int))).run Try.prog w = .ok (.int .i64 a0) w := by kernel_rfl
theorem vals_at1 : (Instr.index 80 (.agg #[.int .i64 a0, .int .i64 a1, .int .i64 a2, .int .i64 a3, .int .i64 a4, .int .i64 a5, .int .i64 a6, .int .i64 a7]) (.int .i64 ((1 : Nat) : Int))).run Try.prog w = .ok (.int .i64 a1) w := by kernel_rfl
theorem vals_at2 : (Instr.index 80 (.agg #[.int .i64 a0, .int .i64 a1, .int .i64 a2, .int .i64 a3, .int .i64 a4, .int .i64 a5, .int .i64 a6, .int .i64 a7]) (.int .i64 ((2 : Nat) : Int))).run Try.prog w = .ok (.int .i64 a2) w := by kernel_rfl
theorem vals_at3 : (Instr.index 80 (.agg #[.int .i64 a0, .int .i64 a1, .int .i64 a2, .int .i64 a3, .int .i64 a4, .int .i64 a5, .int .i64 a6, .int .i64 a7]) (.int .i64 ((3 : Nat) : Int))).run Try.prog w = .ok (.int .i64 a3) w := by kernel_rfl
theorem vals_at4 : (Instr.index 80 (.agg #[.int .i64 a0, .int .i64 a1, .int .i64 a2, .int .i64 a3, .int .i64 a4, .int .i64 a5, .int .i64 a6, .int .i64 a7]) (.int .i64 ((4 : Nat) : Int))).run Try.prog w = .ok (.int .i64 a4) w := by kernel_rfl
theorem vals_at5 : (Instr.index 80 (.agg #[.int .i64 a0, .int .i64 a1, .int .i64 a2, .int .i64 a3, .int .i64 a4, .int .i64 a5, .int .i64 a6, .int .i64 a7]) (.int .i64 ((5 : Nat) : Int))).run Try.prog w = .ok (.int .i64 a5) w := by kernel_rfl
theorem vals_at6 : (Instr.index 80 (.agg #[.int .i64 a0, .int .i64 a1, .int .i64 a2, .int .i64 a3, .int .i64 a4, .int .i64 a5, .int .i64 a6, .int .i64 a7]) (.int .i64 ((6 : Nat) : Int))).run Try.prog w = .ok (.int .i64 a6) w := by kernel_rfl
theorem vals_at7 : (Instr.index 80 (.agg #[.int .i64 a0, .int .i64 a1, .int .i64 a2, .int .i64 a3, .int .i64 a4, .int .i64 a5, .int .i64 a6, .int .i64 a7]) (.int .i64 ((7 : Nat) : Int))).run Try.prog w = .ok (.int .i64 a7) w := by kernel_rfl
end
theorem vals_at {vs : List Int} (h : vs.length = 8) {k : Nat} (hk : k < 8) (w : World) : (Instr.index 80 (valsV vs) (.int .i64 (k : Int))).run Try.prog w = .ok (.int .i64 (vs[k]'(by rw [h]; exact hk))) w := by
  obtain ⟨a0, a1, a2, a3, a4, a5, a6, a7, rfl⟩ := vals_eight h
  match k, hk with
  | 0, _ => exact vals_at0 a0 a1 a2 a3 a4 a5 a6 a7 w
  | 1, _ => exact vals_at1 a0 a1 a2 a3 a4 a5 a6 a7 w
  | 2, _ => exact vals_at2 a0 a1 a2 a3 a4 a5 a6 a7 w
  | 3, _ => exact vals_at3 a0 a1 a2 a3 a4 a5 a6 a7 w
  | 4, _ => exact vals_at4 a0 a1 a2 a3 a4 a5 a6 a7 w
  | 5, _ => exact vals_at5 a0 a1 a2 a3 a4 a5 a6 a7 w
  | 6, _ => exact vals_at6 a0 a1 a2 a3 a4 a5 a6 a7 w
  | 7, _ => exact vals_at7 a0 a1 a2 a3 a4 a5 a6 a7 w

set_option maxRecDepth 20000 in
set_option maxHeartbeats 3200000 in
theorem row_any (r : BRow) (b o : Nat) (w : World) (hb : b < w.heap.size) (h : RowAt w b o r) :
    Calls Try.prog 77 #[.pointer (some ⟨b, o, none⟩)] w fun e w' => e = .returned (.int .i64 (rowErr r)) ∧ w = w' := by
  obtain ⟨c0, c1, c2⟩ := h.head
  generalize hE : rowErr r = E
  obtain ⟨idx, gen, has, vals, h8⟩ := r
  simp only at c0 c1 c2
  obtain ⟨a0, a1, a2, a3, a4, a5, a6, a7, rfl⟩ := vals_eight h8
  have v0 := h.val (k := 0) (by omega); have v1 := h.val (k := 1) (by omega); have v2 := h.val (k := 2) (by omega); have v3 := h.val (k := 3) (by omega); have v4 := h.val (k := 4) (by omega); have v5 := h.val (k := 5) (by omega); have v6 := h.val (k := 6) (by omega); have v7 := h.val (k := 7) (by omega)
  simp at v0 v1 v2 v3 v4 v5 v6 v7
  simp only [Nat.add_assoc, Nat.reduceAdd] at v0 v1 v2 v3 v4 v5 v6 v7
  clear h
  have hv : ∀ (k : Nat) (hk : k < 8) (W : World), (Instr.index 80 (.agg #[.int .i64 a0, .int .i64 a1, .int .i64 a2, .int .i64 a3, .int .i64 a4, .int .i64 a5, .int .i64 a6, .int .i64 a7]) (.int .i64 (k : Int))).run Try.prog W = .ok (.int .i64 ([a0, a1, a2, a3, a4, a5, a6, a7][k]'hk)) W :=
    fun k hk W => vals_at (vs := [a0, a1, a2, a3, a4, a5, a6, a7]) rfl hk W
  have hvv := Lib.hid hv
  clear hv
  cases hs : isSet has
  case false =>
    have hsh := set_any has w
    rw [hs] at hsh
    have hshh := Lib.hid hsh
    clear hsh
    go_enter Try.func77, Try.ntmps77
    go_wp2_with fail
    refine hshh.out.mono ?_
    rintro e w1 ⟨rfl, rfl⟩
    go_wp2_with fail
    go_ret
    exact ⟨ret_int (by rw [← hE]; simp [rowErr, hs]), rfl⟩
  case true =>
    have hsh := set_any has w
    rw [hs] at hsh
    have hshh := Lib.hid hsh
    have hre : Hid (E = if valsBad has 0 [a0, a1, a2, a3, a4, a5, a6, a7] then 3 else 0) := Lib.hid (by
      rw [← hE]
      unfold rowErr
      rw [hs, Bool.true_and]
      cases valsBad has 0 [a0, a1, a2, a3, a4, a5, a6, a7] <;> rfl)
    clear hsh hE
    go_enter Try.func77, Try.ntmps77
    go_wp2_with fail
    refine hshh.out.mono ?_
    rintro e w1 ⟨rfl, rfl⟩
    go_wp2_with fail
    clear v0 v1 v2 v3 v4 v5 v6 v7
    have hL : ([a0, a1, a2, a3, a4, a5, a6, a7] : List Int).length = 8 := rfl
    have hst := Lib.hid (fun k hk => @valsBad_drop has [a0, a1, a2, a3, a4, a5, a6, a7] k hk)
    obtain ⟨L, hLe⟩ : ∃ L : List Int, L = [a0, a1, a2, a3, a4, a5, a6, a7] := ⟨_, rfl⟩
    have hvv2 : Hid (∀ (k : Nat) (hk : k < L.length) (W : World), (Instr.index 80 (.agg #[.int .i64 a0, .int .i64 a1, .int .i64 a2, .int .i64 a3, .int .i64 a4, .int .i64 a5, .int .i64 a6, .int .i64 a7]) (.int .i64 (k : Int))).run Try.prog W = .ok (.int .i64 (L[k]'hk)) W) := by subst hLe; exact hvv
    rw [← hLe] at hre hst hL
    clear hvv hLe hshh
    go_loopw [15] (fun i wr => ∃ k : Nat, k ≤ 8 ∧ i = .int .i64 k ∧ Hid (valsBad has 0 L = valsBad has k (L.drop k)) ∧ w = wr) (fun i _ => 8 - (intOf i).toNat)
    case atStart => exact ⟨0, by omega, rfl, Lib.hid (by simp), rfl⟩
    case round =>
      obtain ⟨k, hk, rfl, heq, rfl⟩ := hrel
      by_cases hlt : k < 8
      · have hkL : k < L.length := by omega
        have hix := hvv2.out k hkL
        have hst2 := hst.out k hkL
        generalize L[k] = z at *
        have hst3 := Lib.hid hst2
        clear hst2
        have hvb : Hid (valBad has k z = (!isVal z || (decide (z ≠ 0) && !hasB has (k : Int)))) := Lib.hid rfl
        have cv := value_any z w
        have ch := has_any has (k : Int) hs w
        cases q1 : isVal z
        case false =>
          rw [q1] at cv
          have cvh := Lib.hid cv
          clear cv ch
          have hf : Hid (valsBad has 0 L = true) := Lib.hid (by rw [heq.out, hst3.out, hvb.out, q1]; rfl)
          go_wp2_with fail
          refine cvh.out.mono ?_
          rintro e w1 ⟨rfl, rfl⟩
          go_wp2_with fail
          go_ret
          exact ⟨ret_int (by rw [hre.out, hf.out]; rfl), rfl⟩
        case true =>
          rw [q1] at cv
          have cvh := Lib.hid cv
          by_cases q2 : z = 0
          · subst q2
            clear cv ch
            have hf : Hid (valsBad has 0 L = valsBad has (k + 1) (L.drop (k + 1))) := Lib.hid (by rw [heq.out, hst3.out, hvb.out, q1]; rfl)
            go_wp2_with fail
            refine cvh.out.mono ?_
            rintro e w1 ⟨rfl, rfl⟩
            go_wp2_with fail
            go_roundw
            case rel => exact ⟨k + 1, by omega, by go_num, hf, trivial⟩
            case measure => simp [intOf]; omega
          · have q2' : (z != 0) = true := by simpa using q2
            cases q3 : hasB has (k : Int)
            case false =>
              rw [q3] at ch
              have chh := Lib.hid ch
              clear cv ch
              have hf : Hid (valsBad has 0 L = true) := Lib.hid (by rw [heq.out, hst3.out, hvb.out, q1, q3]; simp [q2])
              go_wp2_with fail
              refine cvh.out.mono ?_
              rintro e w1 ⟨rfl, rfl⟩
              go_wp2_with fail
              refine chh.out.mono ?_
              rintro e w1 ⟨rfl, rfl⟩
              go_wp2_with fail
              go_ret
              exact ⟨ret_int (by rw [hre.out, hf.out]; rfl), rfl⟩
            case true =>
              rw [q3] at ch
              have chh := Lib.hid ch
              clear cv ch
              have hf : Hid (valsBad has 0 L = valsBad has (k + 1) (L.drop (k + 1))) := Lib.hid (by rw [heq.out, hst3.out, hvb.out, q1, q3]; simp)
              go_wp2_with fail
              refine cvh.out.mono ?_
              rintro e w1 ⟨rfl, rfl⟩
              go_wp2_with fail
              refine chh.out.mono ?_
              rintro e w1 ⟨rfl, rfl⟩
              go_wp2_with fail
              go_roundw
              case rel => exact ⟨k + 1, by omega, by go_num, hf, trivial⟩
              case measure => simp [intOf]; omega
      · obtain rfl : k = 8 := by omega
        have hf : Hid (valsBad has 0 L = false) := Lib.hid (by rw [heq.out, List.drop_eq_nil_of_le (by omega)]; rfl)
        go_wp2_with fail
        go_ret
        exact ⟨ret_int (by rw [hre.out, hf.out]; rfl), rfl⟩
end Go.Proofs.Ytefdblaolmckmaa
