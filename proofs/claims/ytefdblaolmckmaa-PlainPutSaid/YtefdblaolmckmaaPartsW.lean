/- The walks of package parts: what each function returns. -/
import Derived.Test.YtefdblaolmckmaaMem
import Derived.Test.YtefdblaolmckmaaSpecA
namespace Go.Proofs.Ytefdblaolmckmaa
open Go.RowKit
open Brood
set_option linter.unusedVariables false
set_option linter.unusedSimpArgs false

set_option maxHeartbeats 400000 in
theorem set_any (n : Int) (w : World) :
    Calls Try.prog 16 #[.int .i64 n] w fun e w' => e = .returned (.bool (isSet n)) ∧ w = w' := by
  go_enter Try.func16, Try.ntmps16
  go_wp2
  all_goals go_ret
  all_goals exact ⟨ret_bool (by simp [isSet]; omega), rfl⟩
set_option maxHeartbeats 400000 in
theorem part_any (n : Int) (w : World) :
    Calls Try.prog 21 #[.int .i64 n] w fun e w' => e = .returned (.bool (isPart n)) ∧ w = w' := by
  go_enter Try.func21, Try.ntmps21
  go_wp2
  all_goals go_ret
  all_goals exact ⟨ret_bool (by simp [isPart]; omega), rfl⟩
set_option maxHeartbeats 400000 in
theorem value_any (n : Int) (w : World) :
    Calls Try.prog 22 #[.int .i64 n] w fun e w' => e = .returned (.bool (isVal n)) ∧ w = w' := by
  go_enter Try.func22, Try.ntmps22
  go_wp2
  all_goals go_ret
  all_goals exact ⟨ret_bool (by simp [isVal]; omega), rfl⟩
theorem bits_has : ∀ s, s < 256 → ∀ k, k < 8 → (bits .and .i64 (((s : Nat) : Int) / 2 ^ k) 1 == 1) = s.testBit k := by decide +kernel
theorem bits_with : ∀ s, s < 256 → ∀ k, k < 8 → bits .or .i64 ((s : Nat) : Int) (wrap64 (2 ^ k)) = ((s ||| 2 ^ k : Nat) : Int) := by decide +kernel
theorem bits_without : ∀ s, s < 256 → ∀ k, k < 8 → bits .andNot .i64 ((s : Nat) : Int) (wrap64 (2 ^ k)) = if s.testBit k then ((s : Nat) : Int) - ((2 ^ k : Nat) : Int) else s := by decide +kernel
theorem bits_hasB {s k : Int} (hs : 0 ≤ s ∧ s ≤ 255) (h0 : 0 ≤ k) (h1 : k < 8) : (bits .and .i64 (s / 2 ^ k.toNat) 1 == 1) = hasB s k := by
  obtain ⟨s, rfl⟩ := nat_of hs.1
  obtain ⟨k, rfl⟩ := nat_of h0
  rw [Int.toNat_natCast, bits_has s (by omega) k (by omega)]
  simp [hasB, isPart, h0, h1]
theorem bits_withS {s k : Int} (hs : 0 ≤ s ∧ s ≤ 255) (h0 : 0 ≤ k) (h1 : k < 8) : bits .or .i64 s (wrap64 (2 ^ k.toNat)) = withS s k := by
  obtain ⟨s, rfl⟩ := nat_of hs.1
  obtain ⟨k, rfl⟩ := nat_of h0
  rw [Int.toNat_natCast, bits_with s (by omega) k (by omega)]
  simp [withS, isPart, h0, h1]
theorem bits_withoutS {s k : Int} (hs : 0 ≤ s ∧ s ≤ 255) (h0 : 0 ≤ k) (h1 : k < 8) : bits .andNot .i64 s (wrap64 (2 ^ k.toNat)) = withoutS s k := by
  obtain ⟨s, rfl⟩ := nat_of hs.1
  obtain ⟨k, rfl⟩ := nat_of h0
  rw [Int.toNat_natCast, bits_without s (by omega) k (by omega)]
  simp [withoutS, hasB, isPart, h0, h1]
theorem withS_out {s k : Int} (h : isPart k = false) : withS s k = s := by simp [withS, h]
theorem withoutS_out {s k : Int} (h : isPart k = false) : withoutS s k = s := by simp [withoutS, hasB, h]

set_option maxHeartbeats 400000 in
theorem clip_any (n : Int) (w : World) :
    Calls Try.prog 24 #[.int .i64 n] w fun e w' => e = .returned (.int .i64 (clip n)) ∧ w = w' := by
  go_enter Try.func24, Try.ntmps24
  go_wp2
  all_goals go_ret
  all_goals exact ⟨ret_int (by simp only [clip]; (repeat' split) <;> simp_all <;> omega), rfl⟩
set_option maxHeartbeats 400000 in
theorem has_any (s k : Int) (hs : isSet s = true) (w : World) :
    Calls Try.prog 29 #[.int .i64 s, .int .i64 k] w fun e w' => e = .returned (.bool (hasB s k)) ∧ w = w' := by
  have hs' := isSet_iff.1 hs
  clear hs
  by_cases hk : isPart k = true
  · have hk' := isPart_iff.1 hk
    go_enter Try.func29, Try.ntmps29
    go_wp2_with (go_at_call 21; refine (part_any _ _).mono ?_; rintro e w' ⟨rfl, rfl⟩)
    go_ret
    exact ⟨ret_bool (bits_hasB hs' hk'.1 hk'.2), rfl⟩
  · have hk' : isPart k = false := by simpa using hk
    go_enter Try.func29, Try.ntmps29
    go_wp2_with (go_at_call 21; refine (part_any _ _).mono ?_; rintro e w' ⟨rfl, rfl⟩)
    go_ret
    exact ⟨ret_bool (by simp [hasB, hk']), rfl⟩
set_option maxHeartbeats 400000 in
theorem with_any (s k : Int) (hs : isSet s = true) (w : World) :
    Calls Try.prog 18 #[.int .i64 s, .int .i64 k] w fun e w' => e = .returned (.int .i64 (withS s k)) ∧ w = w' := by
  have hs' := isSet_iff.1 hs
  clear hs
  by_cases hk : isPart k = true
  · have hk' := isPart_iff.1 hk
    go_enter Try.func18, Try.ntmps18
    go_wp2_with (go_at_call 21; refine (part_any _ _).mono ?_; rintro e w' ⟨rfl, rfl⟩)
    go_ret
    exact ⟨ret_int (bits_withS hs' hk'.1 hk'.2), rfl⟩
  · have hk' : isPart k = false := by simpa using hk
    go_enter Try.func18, Try.ntmps18
    go_wp2_with (go_at_call 21; refine (part_any _ _).mono ?_; rintro e w' ⟨rfl, rfl⟩)
    go_ret
    exact ⟨ret_int (withS_out hk').symm, rfl⟩
set_option maxHeartbeats 400000 in
theorem without_any (s k : Int) (hs : isSet s = true) (w : World) :
    Calls Try.prog 19 #[.int .i64 s, .int .i64 k] w fun e w' => e = .returned (.int .i64 (withoutS s k)) ∧ w = w' := by
  have hs' := isSet_iff.1 hs
  clear hs
  by_cases hk : isPart k = true
  · have hk' := isPart_iff.1 hk
    go_enter Try.func19, Try.ntmps19
    go_wp2_with (go_at_call 21; refine (part_any _ _).mono ?_; rintro e w' ⟨rfl, rfl⟩)
    go_ret
    exact ⟨ret_int (bits_withoutS hs' hk'.1 hk'.2), rfl⟩
  · have hk' : isPart k = false := by simpa using hk
    go_enter Try.func19, Try.ntmps19
    go_wp2_with (go_at_call 21; refine (part_any _ _).mono ?_; rintro e w' ⟨rfl, rfl⟩)
    go_ret
    exact ⟨ret_int (withoutS_out hk').symm, rfl⟩
theorem bits_255 : ∀ s, s < 256 → IntKind.u64.wrap (bits .and .i64 ((s : Nat) : Int) 255) = ((s : Nat) : Int) := by decide +kernel
set_option maxHeartbeats 400000 in
theorem ones_any (m : Nat) (hm : m < 256) (w : World) :
    Calls Try.prog 82 #[.int .u64 (m : Int)] w fun e w' => e = .returned (.int .i64 (countS m)) ∧ w = w' := by
  go_enter Try.func82, Try.ntmps82
  go_wp2
  all_goals go_ret
  all_goals refine ⟨ret_int ?_, rfl⟩
  all_goals (revert hm; revert m; decide +kernel)
set_option maxHeartbeats 400000 in
theorem ones_all (m : Nat) (hm : m < 256) (w : World) :
    Calls Try.prog 59 #[.int .u64 (m : Int)] w fun e w' => e = .returned (.int .i64 (countS m)) ∧ w = w' := by
  go_enter Try.func59, Try.ntmps59
  go_wp2_with (go_at_call 82; refine (ones_any m hm _).mono ?_; rintro e w' ⟨rfl, rfl⟩)
  all_goals go_ret
  all_goals exact ⟨rfl, rfl⟩
set_option maxHeartbeats 400000 in
theorem count_any (s : Int) (hs : isSet s = true) (w : World) :
    Calls Try.prog 32 #[.int .i64 s] w fun e w' => e = .returned (.int .i64 (countS s)) ∧ w = w' := by
  have hs' := isSet_iff.1 hs
  clear hs
  obtain ⟨m, rfl⟩ := nat_of hs'.1
  have hm : m < 256 := by omega
  have hb := Lib.hid (bits_255 m hm)
  go_enter Try.func32, Try.ntmps32
  go_wp2_with fail
  rw [hb.out]
  refine (ones_all m hm _).mono ?_
  rintro e w' ⟨rfl, rfl⟩
  go_wp2_with fail
  all_goals go_ret
  all_goals exact ⟨rfl, rfl⟩
theorem i64_and_nat (a b : Nat) (ha : a < 9223372036854775808) (hb : b < 9223372036854775808) : bits .and .i64 (a : Int) (b : Int) = ((a &&& b : Nat) : Int) := by
  have ofInt_i64 : ∀ (a : Nat), a < 9223372036854775808 → (BitVec.ofInt 64 (a : Int)).toNat = a := by
    intro a ha
    rw [BitVec.ofInt_natCast, BitVec.toNat_ofNat]; exact Nat.mod_eq_of_lt (by omega)
  have hx : a &&& b < 2 ^ 63 := Nat.and_lt_two_pow _ (by omega)
  show IntKind.i64.wrap ((BitVec.ofInt 64 (a : Int) &&& BitVec.ofInt 64 (b : Int)).toNat : Int) = _
  rw [BitVec.toNat_and, ofInt_i64 a ha, ofInt_i64 b hb, IntKind.wrap_i64]
  omega
theorem bits_and_set {a b : Int} (ha : 0 ≤ a ∧ a ≤ 255) (hb : 0 ≤ b ∧ b ≤ 255) : bits .and .i64 a b = ((a.toNat &&& b.toNat : Nat) : Int) := by
  obtain ⟨a, rfl⟩ := nat_of ha.1
  obtain ⟨b, rfl⟩ := nat_of hb.1
  rw [i64_and_nat a b (by omega) (by omega)]
  simp
theorem meets_t {a n h : Int} (ha : 0 ≤ a ∧ a ≤ 255) (hn : 0 ≤ n ∧ n ≤ 255) (hh : 0 ≤ h ∧ h ≤ 255) (e : bits .and .i64 h a = a) : (bits .and .i64 h n == 0) = meetsB a n h := by
  rw [bits_and_set hh ha] at e
  rw [bits_and_set hh hn]
  have e' : h.toNat &&& a.toNat = a.toNat := by omega
  rw [Bool.eq_iff_iff]
  simp [meetsB, e']
theorem meets_f {a n h : Int} (ha : 0 ≤ a ∧ a ≤ 255) (hh : 0 ≤ h ∧ h ≤ 255) (e : ¬ bits .and .i64 h a = a) : false = meetsB a n h := by
  rw [bits_and_set hh ha] at e
  have e' : ¬ h.toNat &&& a.toNat = a.toNat := by omega
  simp [meetsB, e']
set_option maxHeartbeats 400000 in
theorem meets_any (a n h : Int) (ha : isSet a = true) (hn : isSet n = true) (hh : isSet h = true) (w : World) :
    Calls Try.prog 17 #[.agg #[.int .i64 a, .int .i64 n], .int .i64 h] w fun e w' => e = .returned (.bool (meetsB a n h)) ∧ Below w.heap.size w w' := by
  have ha' := isSet_iff.1 ha
  have hn' := isSet_iff.1 hn
  have hh' := isSet_iff.1 hh
  clear ha hn hh
  go_enter Try.func17, Try.ntmps17
  go_wp2
  all_goals go_ret
  · exact ⟨ret_bool (meets_t ha' hn' hh' (by assumption)), (Below.refl _ _).alloc (Nat.le_refl _) _⟩
  · exact ⟨ret_bool (meets_f ha' hh' (by assumption)), (Below.refl _ _).alloc (Nat.le_refl _) _⟩
end Go.Proofs.Ytefdblaolmckmaa
