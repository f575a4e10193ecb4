/- The walk of parts.List. -/
import Derived.Test.YtefdblaolmckmaaPartsW
namespace Go.Proofs.Ytefdblaolmckmaa
open Go.RowKit
open Brood
set_option linter.unusedVariables false
set_option linter.unusedSimpArgs false

def upS (s : Int) (k : Nat) : List Int := (listN s.toNat k).map fun (k : Nat) => (k : Int)
theorem upS_zero (s : Int) : upS s 0 = [] := rfl
theorem upS_eight (s : Int) : upS s 8 = listS s := rfl
theorem upS_yes {s : Int} {k : Nat} (hk : k < 8) (h : hasB s k = true) : upS s (k + 1) = upS s k ++ [(k : Int)] := by
  have h' : s.toNat.testBit k = true := by
    have hk' : (k : Int) < 8 := by omega
    simpa [hasB, isPart, hk'] using h
  simp [upS, listN, List.range_succ, List.filter_append, h']
theorem upS_no {s : Int} {k : Nat} (hk : k < 8) (h : hasB s k = false) : upS s (k + 1) = upS s k := by
  have h' : s.toNat.testBit k = false := by
    have hk' : (k : Int) < 8 := by omega
    simpa [hasB, isPart, hk'] using h
  simp [upS, listN, List.range_succ, List.filter_append, h']
theorem upS_le (s : Int) (k : Nat) : (upS s k).length ≤ k := by
  have := List.length_filter_le (fun j => s.toNat.testBit j) (List.range k)
  simpa [upS, listN] using this

set_option maxRecDepth 20000 in
set_option maxHeartbeats 800000 in
theorem list_any (s : Int) (hs : isSet s = true) (w : World) :
    Calls Try.prog 27 #[.int .i64 s] w fun e w' => ∃ v, e = .returned v ∧ w'.ownsRow w.heap.size 3 1 v (listS s).length (ints (listS s)) ∧ Below w.heap.size w w' := by
  obtain ⟨i0, hi, hz0, hz1, hz2⟩ := info_parts infoInt
  go_enter Try.func27, Try.ntmps27
  go_wp2_with fail
  go_loopw [3, 5] (fun v i wr => ∃ k : Nat, k ≤ 8 ∧ i = .int .i64 k ∧ wr.ownsRow w.heap.size 3 1 v (upS s k).length (ints (upS s k)) ∧ Below w.heap.size w wr) (fun _ i _ => 8 - (intOf i).toNat)
  case atStart => exact ⟨0, by omega, rfl, own_nil _ _ _ _, Below.refl _ _⟩
  case round =>
    obtain ⟨k, hk, rfl, hown, hbel⟩ := hrel
    by_cases hlt : k < 8
    · cases hh : hasB s k with
      | true =>
        have hup := Lib.hid (upS_yes hlt hh)
        have hle := upS_le s k
        have hsz := hbel.size
        go_wp2_with (first
          | (go_at_call 29; refine (has_any s k hs _).mono ?_; rintro e w' ⟨rfl, rfl⟩)
          | (at_builtin; refine wpList_append_own _ rfl _ _ 32 rfl w.heap.size 3 i0 (.int .i64 0) 1 8 Try.underlying32 hi hz0 hz1 hz2 rfl (by decide) _ _ _ rfl (hown.alloc _) ⟨wr.heap.size, 0, none⟩ 1 1 [.int .i64 (k : Int)] rfl rfl ?c1 ?c2 ?c3 ?c4 ?c5 ?_; rotate_left 5; intro v' w1 hown' hgrow _))
        case c1 => exact cell_one_new _ _ _
        case c2 => intro u hu; simp at hu; subst hu; rfl
        case c3 => unfold maxLen; omega
        case c4 => omega
        case c5 => simp; omega
        go_roundw
        case rel =>
          refine ⟨k + 1, by omega, by go_num, ?_, ?_⟩
          · rw [hup.out, List.length_append, ← ints_snoc]; exact hown'
          · exact (hbel.alloc hsz _).grown hgrow (by simp; omega) (own_block hown)
        case measure => simp [intOf]; omega
      | false =>
        have hup := Lib.hid (upS_no hlt hh)
        go_wp2_with (first
          | (go_at_call 29; refine (has_any s k hs _).mono ?_; rintro e w' ⟨rfl, rfl⟩))
        go_roundw
        case rel => exact ⟨k + 1, by omega, by go_num, by rw [hup.out]; exact hown, hbel⟩
        case measure => simp [intOf]; omega
    · obtain rfl : k = 8 := by omega
      go_wp2_with fail
      go_ret
      exact ⟨_, rfl, hown, hbel⟩
end Go.Proofs.Ytefdblaolmckmaa
