/- The walk of the law PartsMore: it returns true, whatever comes in. -/
import Derived.Test.YtefdblaolmckmaaPartsL
namespace Go.Proofs.Ytefdblaolmckmaa
open Go.RowKit
open Brood

set_option maxRecDepth 20000 in
set_option maxHeartbeats 800000 in
theorem alive1_any (w : World) :
    Calls Try.prog 15 #[] w fun e w' => e = .returned (.bool true) ∧ Below w.heap.size w w' := by
  have e1 : isSet 255 = true := by decide
  have e2 : isSet 256 = false := by decide
  have e3 : hasB 5 2 = true := by decide
  have e4 : withS 1 3 = 9 := by decide
  have e5 : withoutS 9 3 = 1 := by decide
  have e6 : countS 11 = 3 := by decide
  have e7 : (listS 11).length = 3 := by decide
  have e8 : clip (-2000000) = -1000000 := by decide
  go_enter Try.func15, Try.ntmps15
  go_wp2_with (first
    | (go_at_call 16; refine (set_any _ _).mono ?_; rintro e w' ⟨rfl, rfl⟩)
    | (go_at_call 29; refine (has_any _ _ (by decide) _).mono ?_; rintro e w' ⟨rfl, rfl⟩)
    | (go_at_call 18; refine (with_any _ _ (by decide) _).mono ?_; rintro e w' ⟨rfl, rfl⟩)
    | (go_at_call 19; refine (without_any _ _ (by decide) _).mono ?_; rintro e w' ⟨rfl, rfl⟩)
    | (go_at_call 32; refine (count_any _ (by decide) _).mono ?_; rintro e w' ⟨rfl, rfl⟩)
    | (go_at_call 24; refine (clip_any _ _).mono ?_; rintro e w' ⟨rfl, rfl⟩)
    | (go_at_call 27; refine (list_any 11 (by decide) _).mono ?_; rintro e w' ⟨v, rfl, hown, hb⟩; obtain ⟨A, c, rfl, _, _⟩ := own_shape hown))
  go_ret
  exact ⟨rfl, hb⟩

theorem set_zero : isSet 0 = true := by decide
set_option maxRecDepth 20000 in
set_option maxHeartbeats 1600000 in
theorem partsMore_walk (a n h k : Int) (w : World) :
    Calls Try.prog 3 #[.int .i64 a, .int .i64 n, .int .i64 h, .int .i64 k] w fun e w' => e = .returned (.bool true) ∧ Below w.heap.size w w' := by
  by_cases hs : isSet a = true ∧ isSet n = true ∧ isSet h = true
  · obtain ⟨ha, hn, hh⟩ := hs
    have hw := with_set (k := k) hh
    have hwo := without_set (k := k) hh
    have m1 := more_with (k := k) ha hh
    have m2 := more_without (k := k) hn hh
    have m3 := Lib.hid (meets_both a n h)
    cases q1 : meetsB a 0 h <;> cases q2 : meetsB 0 n h
    all_goals (
      first | (have q3 := m1 q1; clear m1) | clear m1
      first | (have q4 := m2 q2; clear m2) | clear m2
      have q5 : meetsB a n h = (meetsB a 0 h && meetsB 0 n h) := m3.out
      rw [q1, q2] at q5
      go_enter Try.func3, Try.ntmps3
      go_wp2_with (first
        | (go_at_call 15; refine (alive1_any _).mono ?_; rintro e w1 ⟨rfl, hb1⟩)
        | (go_at_call 16; refine (set_any _ _).mono ?_; rintro e w' ⟨rfl, rfl⟩)
        | (go_at_call 18; refine (with_any _ _ hh _).mono ?_; rintro e w' ⟨rfl, rfl⟩)
        | (go_at_call 19; refine (without_any _ _ hh _).mono ?_; rintro e w' ⟨rfl, rfl⟩)
        | (go_at_call 17; refine (meets_any _ _ _ (by first | exact ha | exact set_zero) (by first | exact hn | exact set_zero) (by first | exact hh | exact hw | exact hwo) _).mono ?_; rintro e w1 ⟨rfl, hb2⟩; replace hb1 := grow_below hb1 hb2; clear hb2)))
    all_goals go_ret
    all_goals exact ⟨rfl, hb1⟩
  · cases q1 : isSet a <;> cases q2 : isSet n <;> cases q3 : isSet h
    all_goals first | (exfalso; exact hs ⟨q1, q2, q3⟩) | skip
    all_goals clear hs
    all_goals (
      go_enter Try.func3, Try.ntmps3
      go_wp2_with (first
        | (go_at_call 15; refine (alive1_any _).mono ?_; rintro e w1 ⟨rfl, hb1⟩)
        | (go_at_call 16; refine (set_any _ _).mono ?_; rintro e w' ⟨rfl, rfl⟩)))
    all_goals go_ret
    all_goals exact ⟨rfl, hb1⟩
end Go.Proofs.Ytefdblaolmckmaa
