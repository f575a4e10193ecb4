/- The walks of slices.IndexFunc and DeleteFunc at rows, whatever the predicate. -/
import Derived.Test.YtefdblaolmckmaaPlainN
namespace Go.Proofs.Ytefdblaolmckmaa
open Go.RowKit
open Brood
set_option linter.unusedVariables false
set_option linter.unusedSimpArgs false

/-- What a predicate on rows answers, in every world that has turned in block g at most. -/
def RowPred (w0 : World) (g : Option Nat) (F : FuncId) (caps : Array Value) (p : BRow → Bool) : Prop :=
  ∀ (w : World) (r : BRow), w0.grownBy w g → Calls Try.prog F (#[rowV r] ++ caps) w fun e w' => e = .returned (.bool (p r)) ∧ Below w.heap.size w w'
def findP (p : BRow → Bool) : List BRow → Option Nat
  | [] => none
  | r :: l => if p r then some 0 else (findP p l).map (· + 1)
def findPI (p : BRow → Bool) (rows : List BRow) : Int := match findP p rows with | some k => (k : Int) | none => -1
theorem findP_drop {p : BRow → Bool} {rows : List BRow} {k : Nat} (h : k < rows.length) : (findP p (rows.drop k)).map (· + k) = if p rows[k] then some k else (findP p (rows.drop (k + 1))).map (· + (k + 1)) := by
  rw [drop_cons h, findP]
  split
  · simp
  · rw [Option.map_map]
    congr 1
    funext x
    simp only [Function.comp_apply]
    omega
theorem grown_then {w w1 w2 : World} {g : Option Nat} (h : w.grownBy w1 g) (h2 : Below w1.heap.size w1 w2) : w.grownBy w2 g :=
  ⟨h2.os.trans h.os, h2.tape.trans h.tape, h2.output.trans h.output, Nat.le_trans h.size h2.size, fun k hk hne => (h2.block k (Nat.lt_of_lt_of_le hk h.size)).trans (h.block k hk hne)⟩
theorem grown_grown {w w1 w2 : World} {g : Option Nat} (h : w.grownBy w1 g) (h2 : w1.grownBy w2 g) : w.grownBy w2 g :=
  ⟨h2.os.trans h.os, h2.tape.trans h.tape, h2.output.trans h.output, Nat.le_trans h.size h2.size, fun k hk hne => (h2.block k (Nat.lt_of_lt_of_le hk h.size) hne).trans (h.block k hk hne)⟩

set_option maxRecDepth 20000 in
set_option maxHeartbeats 3200000 in
theorem indexRows_any (rows : List BRow) (A : Option Addr) (c : Nat) (hlen : rows.length ≤ 1000000) (F : FuncId) (caps : Array Value) (p : BRow → Bool) (w : World) (g : Option Nat) (hR : RdR w w.heap.size A rows) (hP : RowPred w g F caps p) (hen : ∀ (args : Array Value) (W : World), (callFunc F args).run Try.prog W = .ok (.enter F args) W) :
    Calls Try.prog 90 #[.slice A rows.length c, .func (.func F) #[] caps] w fun e w' => e = .returned (.int .i64 (findPI p rows)) ∧ Below w.heap.size w w' := by
  have hPh := Lib.hid hP
  clear hP
  go_enter Try.func90, Try.ntmps90
  go_wp2_with fail
  go_loopw [8] (fun q wr => ∃ k : Nat, k ≤ rows.length ∧ q = .int .i64 k ∧ Hid (findP p rows = (findP p (rows.drop k)).map (· + k)) ∧ Below w.heap.size w wr) (fun q _ => rows.length - (intOf q).toNat)
  case atStart => exact ⟨0, by omega, rfl, Lib.hid (by simp), Below.refl _ _⟩
  case round =>
    obtain ⟨k, hk, rfl, hfr, hbel⟩ := hrel
    by_cases hlt : k < rows.length
    · have hR1 : RdR wr w.heap.size A rows := Rd.under hR hbel (Nat.le_refl _)
      obtain ⟨b1, off, rfl, hb1, hrow⟩ := hR1.at_ hlt
      have hst := Lib.hid (@findP_drop p rows k hlt)
      have hcall := hPh.out wr rows[k] (grown_then (grown_refl w g) hbel)
      generalize rows[k] = r at *
      have i0 : (0 : Int) ≤ (k : Int) := by omega
      have i1 : (k : Int) < (rows.length : Int) := by omega
      obtain ⟨c0, c1, c2⟩ := hrow.head
      generalize p r = B at *
      obtain ⟨idx, gen, has, vals, h8⟩ := r
      obtain ⟨a0, a1, a2, a3, a4, a5, a6, a7, rfl⟩ := vals_eight h8
      have v0 := hrow 3 (.int .i64 a0) rfl; have v1 := hrow 4 (.int .i64 a1) rfl; have v2 := hrow 5 (.int .i64 a2) rfl; have v3 := hrow 6 (.int .i64 a3) rfl; have v4 := hrow 7 (.int .i64 a4) rfl; have v5 := hrow 8 (.int .i64 a5) rfl; have v6 := hrow 9 (.int .i64 a6) rfl; have v7 := hrow 10 (.int .i64 a7) rfl
      simp only at c0 c1 c2
      have hrv : rowV ⟨idx, gen, has, [a0, a1, a2, a3, a4, a5, a6, a7], h8⟩ = .agg #[.int .i64 idx, .int .i64 gen, .int .i64 has, .int .i64 a0, .int .i64 a1, .int .i64 a2, .int .i64 a3, .int .i64 a4, .int .i64 a5, .int .i64 a6, .int .i64 a7] := rfl
      rw [hrv] at hcall
      have hcallh := Lib.hid hcall
      clear hcall hrv hrow
      go_wp2_with fail
      refine hcallh.out.mono ?_
      rintro e w1 ⟨rfl, hb2⟩
      cases B
      case true =>
        have hf : Hid (findPI p rows = (k : Int)) := Lib.hid (by unfold findPI; rw [hfr.out, hst.out, if_pos rfl])
        go_wp2_with fail
        go_ret
        exact ⟨ret_int hf.out.symm, grow_below hbel hb2⟩
      case false =>
        have hf : Hid (findP p rows = (findP p (rows.drop (k + 1))).map (· + (k + 1))) := Lib.hid (by rw [hfr.out, hst.out, if_neg (by decide)])
        go_wp2_with fail
        go_roundw
        case rel => exact ⟨k + 1, by omega, by go_num, hf, grow_below hbel hb2⟩
        case measure => simp [intOf]; omega
    · obtain rfl : k = rows.length := by omega
      have hf : Hid (findPI p rows = -1) := Lib.hid (by unfold findPI; rw [hfr.out, List.drop_length]; rfl)
      go_wp2_with fail
      go_ret
      exact ⟨ret_int hf.out.symm, hbel⟩

theorem findP_some {p : BRow → Bool} : ∀ {rows : List BRow} {k : Nat}, findP p rows = some k → ∃ hk : k < rows.length, p rows[k] = true ∧ ∀ j (hj : j < k), p (rows[j]'(by omega)) = false
  | [], k, h => by simp [findP] at h
  | r :: l, k, h => by
    rw [findP] at h
    split at h
    · rename_i hr
      obtain rfl := Option.some.inj h
      exact ⟨by simp, hr, fun j hj => absurd hj (by omega)⟩
    · rename_i hr
      cases h' : findP p l with
      | none => rw [h'] at h; cases h
      | some q =>
        rw [h'] at h
        obtain rfl : q + 1 = k := Option.some.inj h
        obtain ⟨hq, h1, h2⟩ := findP_some h'
        refine ⟨by simpa using hq, by simpa using h1, fun j hj => ?_⟩
        cases j with
        | zero => simpa using hr
        | succ j => simpa using h2 j (by omega)
theorem findP_none {p : BRow → Bool} : ∀ {rows : List BRow}, findP p rows = none → ∀ r ∈ rows, p r = false
  | [], _ => by simp
  | r :: l, h => by
    rw [findP] at h
    split at h
    · cases h
    · rename_i hr
      have h' : findP p l = none := by
        cases h' : findP p l with
        | none => rfl
        | some q => rw [h'] at h; cases h
      intro x hx
      rcases List.mem_cons.1 hx with rfl | hx
      · simpa using hr
      · exact findP_none h' x hx
end Go.Proofs.Ytefdblaolmckmaa
