/- The walks of the stable sort at []api.Being. The walks of the reference's small functions (chapter 1). -/
import Derived.Test.YtefdblaolmckmabSSortYB
import Derived.Test.YtefdblaolmckmabSBRowToInv
namespace Go.Proofs.Ytefdblaolmckmab
open Go.RowKit
open Brood
set_option linter.unusedVariables false
set_option linter.unusedSimpArgs false
end Go.Proofs.Ytefdblaolmckmab

namespace Go.Proofs.Ytefdblaolmckmab
open Go.RowKit
open Brood
set_option linter.unusedVariables false
set_option linter.unusedSimpArgs false
set_option maxHeartbeats 400000 in
theorem rset_any (n : Int) (w : World) :
    Calls Try.prog 28 #[.int .i64 n] w fun e w' => e = .returned (.bool (isSet n)) ∧ w = w' := by
  go_enter Try.func28, Try.ntmps28
  go_wp2
  all_goals go_ret
  all_goals exact ⟨ret_bool (by simp [isSet]; omega), rfl⟩
set_option maxHeartbeats 400000 in
theorem rvalue_any (n : Int) (w : World) :
    Calls Try.prog 51 #[.int .i64 n] w fun e w' => e = .returned (.bool (isVal n)) ∧ w = w' := by
  go_enter Try.func51, Try.ntmps51
  go_wp2
  all_goals go_ret
  all_goals exact ⟨ret_bool (by simp [isVal]; omega), rfl⟩
def arr (s : Nat) (k : Nat) : Array Value := ((List.range 8).map fun j => Value.bool (decide (j < k) && s.testBit j)).toArray
theorem arr_zero (s : Nat) : arr s 0 = #[.bool false, .bool false, .bool false, .bool false, .bool false, .bool false, .bool false, .bool false] := by
  simp [arr, List.range_succ]
theorem arr_get (s k : Nat) {j : Nat} (hj : j < 8) : (arr s k)[j]? = some (.bool (decide (j < k) && s.testBit j)) := by
  simp [arr, hj]
theorem arr_set (s : Nat) {k : Nat} (hk : k < 8) : (arr s k).setIfInBounds k (.bool (s.testBit k)) = arr s (k + 1) := by
  apply Array.ext_getElem?
  intro i
  rw [Array.getElem?_setIfInBounds]
  by_cases hi : i < 8
  · rw [arr_get s k hi, arr_get s (k + 1) hi]
    by_cases he : k = i
    · subst he; simp [arr, hk]
    · rw [if_neg he]
      have : (i < k) ↔ (i < k + 1) := by omega
      simp [this]
  · have h1 : (arr s k)[i]? = none := by simp [arr]; omega
    have h2 : (arr s (k + 1))[i]? = none := by simp [arr]; omega
    rw [h1, h2]
    rw [if_neg (by omega)]
def bitsV (s : Nat) : Value := .agg #[.bool (tb s 0), .bool (tb s 1), .bool (tb s 2), .bool (tb s 3), .bool (tb s 4), .bool (tb s 5), .bool (tb s 6), .bool (tb s 7)]
theorem odd_bit (m k q : Nat) (h : q = m / 2 ^ k) : (((q : Int) % 2) == 1) = m.testBit k := by
  subst h
  rw [Nat.testBit_eq_decide_div_mod_eq, Bool.eq_iff_iff]
  simp only [beq_iff_eq, decide_eq_true_eq]
  generalize m / 2 ^ k = q
  omega
theorem half (m k q : Nat) (h : q = m / 2 ^ k) : q / 2 = m / 2 ^ (k + 1) := by
  rw [Nat.pow_succ, ← Nat.div_div_eq_div_mul, h]
set_option maxRecDepth 20000 in
set_option maxHeartbeats 800000 in
theorem rbits_any (m : Nat) (hm : m < 256) (w : World) :
    Calls Try.prog 66 #[.int .i64 (m : Int)] w fun e w' => e = .returned (bitsV m) ∧ Below w.heap.size w w' := by
  go_enter Try.func66, Try.ntmps66
  go_wp2_with fail
  go_loopw [0, 5] (fun n i wr => ∃ k q : Nat, k ≤ 8 ∧ i = .int .i64 k ∧ n = .int .i64 (q : Int) ∧ q < 256 ∧ Hid (q = m / 2 ^ k) ∧ Blk wr (w.heap.size + 1) 107 (arr m k) ∧ Below w.heap.size w wr ∧ w.heap.size + 1 < wr.heap.size ∧ Blk wr w.heap.size 107 (arr m 0)) (fun _ i _ => 8 - (intOf i).toNat)
  case atStart =>
    refine ⟨0, m, by omega, rfl, rfl, hm, Lib.hid (by simp), ?_, ((Below.refl _ _).alloc (Nat.le_refl _) _).alloc (by simp) _, by simp, ?_⟩
    · rw [arr_zero]; have := Blk.new (w.alloc (.cells #[.bool false, .bool false, .bool false, .bool false, .bool false, .bool false, .bool false, .bool false] 107)) 107 #[.bool false, .bool false, .bool false, .bool false, .bool false, .bool false, .bool false, .bool false]; simpa using this
    · rw [arr_zero]; exact (Blk.new _ _ _).alloc _
  case round =>
    obtain ⟨k, q, hk, rfl, rfl, hq8, hq, hB, hbel, hsz, hR⟩ := hrel
    by_cases hlt : k < 8
    · have hset := Lib.hid (arr_set m hlt)
      have hodd := Lib.hid (odd_bit m k q hq.out)
      have hhalf := Lib.hid (half m k q hq.out)
      have hc := hB.cell k
      rw [arr_get m k hlt] at hc
      have hfz := hB.frozen k
      go_wp2_with fail
      go_roundw
      case rel =>
        refine ⟨k + 1, q / 2, by omega, by go_num, by go_num, by omega, Lib.hid hhalf.out, ?_, hbel.setCell (by simp) _, by simpa using hsz, ?_⟩
        · have := hB.set_ k (.bool (((q : Int) % 2) == 1))
          rw [hodd.out, hset.out] at this
          rw [hodd.out]; exact this
        · exact hR.far (by simp) _
      case measure => simp [intOf]; omega
    · obtain rfl : k = 8 := by omega
      have cc : ∀ j, j < 8 → wr.cell? ⟨w.heap.size + 1, j, none⟩ = some (.bool (tb m j)) := by
        intro j hj
        rw [hB.cell j, arr_get m 8 hj]; simp [hj, tb]
      have rr : ∀ j, j < 8 → wr.cell? ⟨w.heap.size, j, none⟩ = some (.bool false) := by
        intro j hj
        rw [hR.cell j, arr_get m 0 hj]; simp
      have c0 := cc 0 (by omega); have c1 := cc 1 (by omega); have c2 := cc 2 (by omega); have c3 := cc 3 (by omega); have c4 := cc 4 (by omega); have c5 := cc 5 (by omega); have c6 := cc 6 (by omega); have c7 := cc 7 (by omega)
      have r0 := rr 0 (by omega); have r1 := rr 1 (by omega); have r2 := rr 2 (by omega); have r3 := rr 3 (by omega); have r4 := rr 4 (by omega); have r5 := rr 5 (by omega); have r6 := rr 6 (by omega); have r7 := rr 7 (by omega)
      have f0 := hR.frozen 0; have f1 := hR.frozen 1; have f2 := hR.frozen 2; have f3 := hR.frozen 3; have f4 := hR.frozen 4; have f5 := hR.frozen 5; have f6 := hR.frozen 6; have f7 := hR.frozen 7
      clear cc rr
      go_wp2_with fail
      refine bodyPost_ret (v := bitsV m) (by simp [results, Try.results66, go_sem, bitsV, r0, r1, r2, r3, r4, r5, r6, r7]) rfl ⟨rfl, ?_⟩
      exact (((((((hbel.setCell (by simp) _).setCell (by simp) _).setCell (by simp) _).setCell (by simp) _).setCell (by simp) _).setCell (by simp) _).setCell (by simp) _).setCell (by simp) _
def arr8 (b : Nat → Bool) : Array Value := #[.bool (b 0), .bool (b 1), .bool (b 2), .bool (b 3), .bool (b 4), .bool (b 5), .bool (b 6), .bool (b 7)]
theorem arr8_get (b : Nat → Bool) {k : Nat} (hk : k < 8) : (arr8 b)[k]? = some (.bool (b k)) := by
  match k, hk with
  | 0, _ | 1, _ | 2, _ | 3, _ | 4, _ | 5, _ | 6, _ | 7, _ => rfl
theorem numUp_bd (b : Nat → Bool) : ∀ i, i ≤ 8 → numUp b i < 2 ^ i := by
  intro i
  induction i with
  | zero => intro _; simp [numUp]
  | succ i ih =>
    intro h
    have := ih (by omega)
    have e : 2 ^ (i + 1) = 2 * 2 ^ i := by rw [Nat.pow_succ]; omega
    simp only [numUp]
    split <;> omega
set_option maxRecDepth 20000 in
set_option maxHeartbeats 800000 in
theorem rnum_any (b : Nat → Bool) (w : World) :
    Calls Try.prog 75 #[.agg (arr8 b)] w fun e w' => e = .returned (.int .i64 (numB b : Nat)) ∧ Below w.heap.size w w' := by
  have hB : ∀ k, k < 8 → (w.alloc (.cells (arr8 b) 107)).cell? ⟨w.heap.size, k, none⟩ = some (.bool (b k)) := by
    intro k hk
    rw [(Blk.new w 107 (arr8 b)).cell k, arr8_get b hk]
  have hsz : (arr8 b).size = 8 := rfl
  go_enter Try.func75, Try.ntmps75
  go_wp2_with fail
  go_loop [3, 4] (fun n i => ∃ k q : Nat, k ≤ 8 ∧ i = .int .i64 (7 - (k : Int)) ∧ n = .int .i64 (q : Int) ∧ q < 256 ∧ Hid (q = numUp b k)) (fun _ i => (intOf i + 1).toNat)
  case atStart => exact ⟨0, 0, by omega, by simp, rfl, by omega, Lib.hid rfl⟩
  case round =>
    obtain ⟨k, q, hk, rfl, rfl, hq8, hq⟩ := hrel
    by_cases hlt : k < 8
    · have hbd := numUp_bd b (k + 1) hlt
      have hbd0 := numUp_bd b k hk
      have hpw : 2 ^ (k + 1) ≤ 2 ^ 8 := Nat.pow_le_pow_right (by omega) (by omega)
      have hpw0 : 2 ^ k ≤ 2 ^ 7 := Nat.pow_le_pow_right (by omega) (by omega)
      have hq7 : q < 128 := by rw [hq.out]; omega
      clear hbd hbd0 hpw hpw0
      have hcell := hB (7 - k) (by omega)
      have hix : (7 - (k : Int)).toNat = 7 - k := by omega
      clear hB
      cases hb : b (7 - k) with
      | true =>
        have hst : Hid (2 * q + 1 = numUp b (k + 1)) := Lib.hid (by simp only [numUp, hb]; rw [← hq.out]; simp)
        rw [hb] at hcell
        have hb' := Lib.hid hb
        clear hb
        go_wp2_with fail
        go_round
        case rel => exact ⟨k + 1, 2 * q + 1, by omega, by go_num, by go_num, by omega, hst⟩
        case measure => simp [intOf]; omega
      | false =>
        have hst : Hid (2 * q = numUp b (k + 1)) := Lib.hid (by simp only [numUp, hb]; rw [← hq.out]; simp)
        rw [hb] at hcell
        have hb' := Lib.hid hb
        clear hb
        go_wp2_with fail
        go_round
        case rel => exact ⟨k + 1, 2 * q, by omega, by go_num, by go_num, by omega, hst⟩
        case measure => simp [intOf]; omega
    · obtain rfl : k = 8 := by omega
      go_wp2_with fail
      go_ret
      exact ⟨ret_int (by rw [hq.out]; rfl), (Below.refl _ _).alloc (Nat.le_refl _) _⟩
theorem bits_at0 (m : Nat) (w : World) : (Instr.index 107 (bitsV m) (.int .i64 ((0 : Nat) : Int))).run Try.prog w = .ok (.bool (tb m 0)) w := by kernel_rfl
theorem bits_at1 (m : Nat) (w : World) : (Instr.index 107 (bitsV m) (.int .i64 ((1 : Nat) : Int))).run Try.prog w = .ok (.bool (tb m 1)) w := by kernel_rfl
theorem bits_at2 (m : Nat) (w : World) : (Instr.index 107 (bitsV m) (.int .i64 ((2 : Nat) : Int))).run Try.prog w = .ok (.bool (tb m 2)) w := by kernel_rfl
theorem bits_at3 (m : Nat) (w : World) : (Instr.index 107 (bitsV m) (.int .i64 ((3 : Nat) : Int))).run Try.prog w = .ok (.bool (tb m 3)) w := by kernel_rfl
theorem bits_at4 (m : Nat) (w : World) : (Instr.index 107 (bitsV m) (.int .i64 ((4 : Nat) : Int))).run Try.prog w = .ok (.bool (tb m 4)) w := by kernel_rfl
theorem bits_at5 (m : Nat) (w : World) : (Instr.index 107 (bitsV m) (.int .i64 ((5 : Nat) : Int))).run Try.prog w = .ok (.bool (tb m 5)) w := by kernel_rfl
theorem bits_at6 (m : Nat) (w : World) : (Instr.index 107 (bitsV m) (.int .i64 ((6 : Nat) : Int))).run Try.prog w = .ok (.bool (tb m 6)) w := by kernel_rfl
theorem bits_at7 (m : Nat) (w : World) : (Instr.index 107 (bitsV m) (.int .i64 ((7 : Nat) : Int))).run Try.prog w = .ok (.bool (tb m 7)) w := by kernel_rfl
theorem bits_at (m : Nat) {k : Nat} (hk : k < 8) (w : World) : (Instr.index 107 (bitsV m) (.int .i64 (k : Int))).run Try.prog w = .ok (.bool (tb m k)) w := by
  have h : k = 0 ∨ k = 1 ∨ k = 2 ∨ k = 3 ∨ k = 4 ∨ k = 5 ∨ k = 6 ∨ k = 7 := by omega
  rcases h with rfl | rfl | rfl | rfl | rfl | rfl | rfl | rfl
  · exact bits_at0 m w
  · exact bits_at1 m w
  · exact bits_at2 m w
  · exact bits_at3 m w
  · exact bits_at4 m w
  · exact bits_at5 m w
  · exact bits_at6 m w
  · exact bits_at7 m w
set_option maxRecDepth 20000 in
set_option maxHeartbeats 800000 in
theorem rlist_any (m : Nat) (hm : m < 256) (w : World) :
    Calls Try.prog 87 #[.int .i64 (m : Int)] w fun e w' => ∃ v, e = .returned v ∧ w'.ownsRow w.heap.size 3 1 v (listS (m : Int)).length (ints (listS (m : Int))) ∧ Below w.heap.size w w' := by
  obtain ⟨i0, hi, hz0, hz1, hz2⟩ := info_parts infoInt
  go_enter Try.func87, Try.ntmps87
  go_wp2_with (go_at_call 66; refine (rbits_any m hm _).mono ?_; rintro e w1 ⟨rfl, hb1⟩)
  go_loopw [3, 8] (fun v i wr => ∃ k : Nat, k ≤ 8 ∧ i = .int .i64 k ∧ wr.ownsRow w.heap.size 3 1 v (upS m k).length (ints (upS m k)) ∧ Below w.heap.size w wr) (fun _ i _ => 8 - (intOf i).toNat)
  case atStart => exact ⟨0, by omega, rfl, own_nil _ _ _ _, hb1⟩
  case round =>
    obtain ⟨k, hk, rfl, hown, hbel⟩ := hrel
    by_cases hlt : k < 8
    · have hix := bits_at m hlt
      cases hh : hasB m k with
      | true =>
        have hup := Lib.hid (upS_yes hlt hh)
        have hle := upS_le m k
        have hsz := hbel.size
        have ht : tb m k = true := by
          have hk' : (k : Int) < 8 := by omega
          simpa [hasB, isPart, hk', tb] using hh
        have hh' := Lib.hid hh
        clear hh
        rw [ht] at hix
        have ht' := Lib.hid ht
        clear ht
        go_wp2_with (first
          | (at_builtin; refine wpList_append_own _ rfl _ _ 23 rfl w.heap.size 3 i0 (.int .i64 0) 1 8 Try.underlying23 hi hz0 hz1 hz2 rfl (by decide) _ _ _ rfl (hown.alloc _) ⟨wr.heap.size, 0, none⟩ 1 1 [.int .i64 (k : Int)] rfl rfl ?c1 ?c2 ?c3 ?c4 ?c5 ?_; rotate_left 5; intro v' w1 hown' hgrow _))
        case c1 => exact cell_one_new _ _ _
        case c2 => intro u hu; simp at hu; subst hu; rfl
        case c3 => unfold maxLen; omega
        case c4 => omega
        case c5 => simp; omega
        go_roundw
        case rel =>
          refine ⟨k + 1, by omega, by go_num, ?_, ?_⟩
          · rw [hup.out, List.length_append, ← ints_snoc]; exact hown'
          · exact (hbel.alloc hsz _).grown hgrow (by simp; omega) (own_block hown)
        case measure => simp [intOf]; omega
      | false =>
        have hup := Lib.hid (upS_no hlt hh)
        have ht : tb m k = false := by
          have hk' : (k : Int) < 8 := by omega
          simpa [hasB, isPart, hk', tb] using hh
        have hh' := Lib.hid hh
        clear hh
        rw [ht] at hix
        have ht' := Lib.hid ht
        clear ht
        go_wp2_with fail
        go_roundw
        case rel => exact ⟨k + 1, by omega, by go_num, by rw [hup.out]; exact hown, hbel⟩
        case measure => simp [intOf]; omega
    · obtain rfl : k = 8 := by omega
      go_wp2_with fail
      go_ret
      exact ⟨_, rfl, hown, hbel⟩
set_option maxRecDepth 20000 in
set_option maxHeartbeats 800000 in
theorem rhas_any (s k : Int) (hs : isSet s = true) (w : World) :
    Calls Try.prog 27 #[.int .i64 s, .int .i64 k] w fun e w' => e = .returned (.bool (hasB s k)) ∧ Below w.heap.size w w' := by
  have hs' := isSet_iff.1 hs
  obtain ⟨m, rfl⟩ := nat_of hs'.1
  have hm : m < 256 := by omega
  by_cases hk : isPart k = true
  · have hk' := isPart_iff.1 hk
    obtain ⟨k, rfl⟩ := nat_of hk'.1
    have hk8 : k < 8 := by omega
    have hix := bits_at m hk8
    have heq : Hid (hasB (m : Int) (k : Int) = tb m k) := Lib.hid (by simp [hasB, hk, tb])
    clear hs hk hs'
    go_enter Try.func27, Try.ntmps27
    go_wp2_with (go_at_call 66; refine (rbits_any m hm _).mono ?_; rintro e w1 ⟨rfl, hb1⟩)
    go_ret
    exact ⟨ret_bool heq.out.symm, hb1⟩
  · have hf : Hid (hasB (m : Int) k = false) := Lib.hid (by simp at hk; simp [hasB, hk])
    have hk' : k < 0 ∨ 8 ≤ k := isPart_false.1 (by simpa using hk)
    clear hk hs
    rcases hk' with hk' | hk'
    · go_enter Try.func27, Try.ntmps27
      go_wp2_with fail
      go_ret
      exact ⟨ret_bool hf.out.symm, Below.refl _ _⟩
    · go_enter Try.func27, Try.ntmps27
      go_wp2_with fail
      go_ret
      exact ⟨ret_bool hf.out.symm, Below.refl _ _⟩
end Go.Proofs.Ytefdblaolmckmab
