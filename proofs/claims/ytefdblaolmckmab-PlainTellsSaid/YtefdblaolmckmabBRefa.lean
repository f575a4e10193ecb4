/- The walks of the reference's small functions (chapter 1). The walk of the reference's Meets. Eight bits with one said anew, and their number. The walks of the reference's Row and Same. The walk of the reference's With. The walk of the reference's Wrong. The walk of the reference's Next. -/
import Derived.RegionTactic
import Derived.Test.YtefdblaolmckmabBMem
import Derived.Test.YtefdblaolmckmabBOpen
import Derived.Test.YtefdblaolmckmabBSpec
namespace Go.Proofs.Ytefdblaolmckmab
open Go.RowKit
open Brood
set_option linter.unusedVariables false
set_option linter.unusedSimpArgs false

set_option maxHeartbeats 400000 in
theorem rset_any (n : Int) (w : World) :
    Calls Try.prog 28 #[.int .i64 n] w fun e w' => e = .returned (.bool (isSet n)) ∧ w = w' := by
  go_enter Try.func28, Try.ntmps28
  go_wp2
  all_goals go_ret
  all_goals exact ⟨ret_bool (by simp [isSet]; omega), rfl⟩
set_option maxHeartbeats 400000 in
theorem rvalue_any (n : Int) (w : World) :
    Calls Try.prog 51 #[.int .i64 n] w fun e w' => e = .returned (.bool (isVal n)) ∧ w = w' := by
  go_enter Try.func51, Try.ntmps51
  go_wp2
  all_goals go_ret
  all_goals exact ⟨ret_bool (by simp [isVal]; omega), rfl⟩
/-- Eight bits as values: those below k as in s, the others false. -/
def arr (s : Nat) (k : Nat) : Array Value := ((List.range 8).map fun j => Value.bool (decide (j < k) && s.testBit j)).toArray
theorem arr_zero (s : Nat) : arr s 0 = #[.bool false, .bool false, .bool false, .bool false, .bool false, .bool false, .bool false, .bool false] := by
  simp [arr, List.range_succ]
theorem arr_get (s k : Nat) {j : Nat} (hj : j < 8) : (arr s k)[j]? = some (.bool (decide (j < k) && s.testBit j)) := by
  simp [arr, hj]
theorem arr_set (s : Nat) {k : Nat} (hk : k < 8) : (arr s k).setIfInBounds k (.bool (s.testBit k)) = arr s (k + 1) := by
  apply Array.ext_getElem?
  intro i
  rw [Array.getElem?_setIfInBounds]
  by_cases hi : i < 8
  · rw [arr_get s k hi, arr_get s (k + 1) hi]
    by_cases he : k = i
    · subst he; simp [arr, hk]
    · rw [if_neg he]
      have : (i < k) ↔ (i < k + 1) := by omega
      simp [this]
  · have h1 : (arr s k)[i]? = none := by simp [arr]; omega
    have h2 : (arr s (k + 1))[i]? = none := by simp [arr]; omega
    rw [h1, h2]
    rw [if_neg (by omega)]
def bitsV (s : Nat) : Value := .agg #[.bool (tb s 0), .bool (tb s 1), .bool (tb s 2), .bool (tb s 3), .bool (tb s 4), .bool (tb s 5), .bool (tb s 6), .bool (tb s 7)]
theorem odd_bit (m k q : Nat) (h : q = m / 2 ^ k) : (((q : Int) % 2) == 1) = m.testBit k := by
  subst h
  rw [Nat.testBit_eq_decide_div_mod_eq, Bool.eq_iff_iff]
  simp only [beq_iff_eq, decide_eq_true_eq]
  generalize m / 2 ^ k = q
  omega
theorem half (m k q : Nat) (h : q = m / 2 ^ k) : q / 2 = m / 2 ^ (k + 1) := by
  rw [Nat.pow_succ, ← Nat.div_div_eq_div_mul, h]

set_option maxRecDepth 20000 in
set_option maxHeartbeats 800000 in
theorem rbits_any (m : Nat) (hm : m < 256) (w : World) :
    Calls Try.prog 66 #[.int .i64 (m : Int)] w fun e w' => e = .returned (bitsV m) ∧ Below w.heap.size w w' := by
  go_enter Try.func66, Try.ntmps66
  go_wp2_with fail
  go_loopw [0, 5] (fun n i wr => ∃ k q : Nat, k ≤ 8 ∧ i = .int .i64 k ∧ n = .int .i64 (q : Int) ∧ q < 256 ∧ Hid (q = m / 2 ^ k) ∧ Blk wr (w.heap.size + 1) 107 (arr m k) ∧ Below w.heap.size w wr ∧ w.heap.size + 1 < wr.heap.size ∧ Blk wr w.heap.size 107 (arr m 0)) (fun _ i _ => 8 - (intOf i).toNat)
  case atStart =>
    refine ⟨0, m, by omega, rfl, rfl, hm, Lib.hid (by simp), ?_, ((Below.refl _ _).alloc (Nat.le_refl _) _).alloc (by simp) _, by simp, ?_⟩
    · rw [arr_zero]; have := Blk.new (w.alloc (.cells #[.bool false, .bool false, .bool false, .bool false, .bool false, .bool false, .bool false, .bool false] 107)) 107 #[.bool false, .bool false, .bool false, .bool false, .bool false, .bool false, .bool false, .bool false]; simpa using this
    · rw [arr_zero]; exact (Blk.new _ _ _).alloc _
  case round =>
    obtain ⟨k, q, hk, rfl, rfl, hq8, hq, hB, hbel, hsz, hR⟩ := hrel
    by_cases hlt : k < 8
    · have hset := Lib.hid (arr_set m hlt)
      have hodd := Lib.hid (odd_bit m k q hq.out)
      have hhalf := Lib.hid (half m k q hq.out)
      have hc := hB.cell k
      rw [arr_get m k hlt] at hc
      have hfz := hB.frozen k
      go_wp2_with fail
      go_roundw
      case rel =>
        refine ⟨k + 1, q / 2, by omega, by go_num, by go_num, by omega, Lib.hid hhalf.out, ?_, hbel.setCell (by simp) _, by simpa using hsz, ?_⟩
        · have := hB.set_ k (.bool (((q : Int) % 2) == 1))
          rw [hodd.out, hset.out] at this
          rw [hodd.out]; exact this
        · exact hR.far (by simp) _
      case measure => simp [intOf]; omega
    · obtain rfl : k = 8 := by omega
      have cc : ∀ j, j < 8 → wr.cell? ⟨w.heap.size + 1, j, none⟩ = some (.bool (tb m j)) := by
        intro j hj
        rw [hB.cell j, arr_get m 8 hj]; simp [hj, tb]
      have rr : ∀ j, j < 8 → wr.cell? ⟨w.heap.size, j, none⟩ = some (.bool false) := by
        intro j hj
        rw [hR.cell j, arr_get m 0 hj]; simp
      have c0 := cc 0 (by omega); have c1 := cc 1 (by omega); have c2 := cc 2 (by omega); have c3 := cc 3 (by omega); have c4 := cc 4 (by omega); have c5 := cc 5 (by omega); have c6 := cc 6 (by omega); have c7 := cc 7 (by omega)
      have r0 := rr 0 (by omega); have r1 := rr 1 (by omega); have r2 := rr 2 (by omega); have r3 := rr 3 (by omega); have r4 := rr 4 (by omega); have r5 := rr 5 (by omega); have r6 := rr 6 (by omega); have r7 := rr 7 (by omega)
      have f0 := hR.frozen 0; have f1 := hR.frozen 1; have f2 := hR.frozen 2; have f3 := hR.frozen 3; have f4 := hR.frozen 4; have f5 := hR.frozen 5; have f6 := hR.frozen 6; have f7 := hR.frozen 7
      clear cc rr
      go_wp2_with fail
      refine bodyPost_ret (v := bitsV m) (by simp [results, Try.results66, go_sem, bitsV, r0, r1, r2, r3, r4, r5, r6, r7]) rfl ⟨rfl, ?_⟩
      exact (((((((hbel.setCell (by simp) _).setCell (by simp) _).setCell (by simp) _).setCell (by simp) _).setCell (by simp) _).setCell (by simp) _).setCell (by simp) _).setCell (by simp) _

/-- Eight bools as values. -/
def arr8 (b : Nat → Bool) : Array Value := #[.bool (b 0), .bool (b 1), .bool (b 2), .bool (b 3), .bool (b 4), .bool (b 5), .bool (b 6), .bool (b 7)]
theorem arr8_get (b : Nat → Bool) {k : Nat} (hk : k < 8) : (arr8 b)[k]? = some (.bool (b k)) := by
  match k, hk with
  | 0, _ | 1, _ | 2, _ | 3, _ | 4, _ | 5, _ | 6, _ | 7, _ => rfl
theorem bitsV_eq (s : Nat) : bitsV s = .agg (arr8 (tb s)) := rfl
theorem numUp_bd (b : Nat → Bool) : ∀ i, i ≤ 8 → numUp b i < 2 ^ i := by
  intro i
  induction i with
  | zero => intro _; simp [numUp]
  | succ i ih =>
    intro h
    have := ih (by omega)
    have e : 2 ^ (i + 1) = 2 * 2 ^ i := by rw [Nat.pow_succ]; omega
    simp only [numUp]
    split <;> omega

set_option maxRecDepth 20000 in
set_option maxHeartbeats 800000 in
theorem rnum_any (b : Nat → Bool) (w : World) :
    Calls Try.prog 75 #[.agg (arr8 b)] w fun e w' => e = .returned (.int .i64 (numB b : Nat)) ∧ Below w.heap.size w w' := by
  have hB : ∀ k, k < 8 → (w.alloc (.cells (arr8 b) 107)).cell? ⟨w.heap.size, k, none⟩ = some (.bool (b k)) := by
    intro k hk
    rw [(Blk.new w 107 (arr8 b)).cell k, arr8_get b hk]
  have hsz : (arr8 b).size = 8 := rfl
  go_enter Try.func75, Try.ntmps75
  go_wp2_with fail
  go_loop [3, 4] (fun n i => ∃ k q : Nat, k ≤ 8 ∧ i = .int .i64 (7 - (k : Int)) ∧ n = .int .i64 (q : Int) ∧ q < 256 ∧ Hid (q = numUp b k)) (fun _ i => (intOf i + 1).toNat)
  case atStart => exact ⟨0, 0, by omega, by simp, rfl, by omega, Lib.hid rfl⟩
  case round =>
    obtain ⟨k, q, hk, rfl, rfl, hq8, hq⟩ := hrel
    by_cases hlt : k < 8
    · have hbd := numUp_bd b (k + 1) hlt
      have hbd0 := numUp_bd b k hk
      have hpw : 2 ^ (k + 1) ≤ 2 ^ 8 := Nat.pow_le_pow_right (by omega) (by omega)
      have hpw0 : 2 ^ k ≤ 2 ^ 7 := Nat.pow_le_pow_right (by omega) (by omega)
      have hq7 : q < 128 := by rw [hq.out]; omega
      clear hbd hbd0 hpw hpw0
      have hcell := hB (7 - k) (by omega)
      have hix : (7 - (k : Int)).toNat = 7 - k := by omega
      clear hB
      cases hb : b (7 - k) with
      | true =>
        have hst : Hid (2 * q + 1 = numUp b (k + 1)) := Lib.hid (by simp only [numUp, hb]; rw [← hq.out]; simp)
        rw [hb] at hcell
        have hb' := Lib.hid hb
        clear hb
        go_wp2_with fail
        go_round
        case rel => exact ⟨k + 1, 2 * q + 1, by omega, by go_num, by go_num, by omega, hst⟩
        case measure => simp [intOf]; omega
      | false =>
        have hst : Hid (2 * q = numUp b (k + 1)) := Lib.hid (by simp only [numUp, hb]; rw [← hq.out]; simp)
        rw [hb] at hcell
        have hb' := Lib.hid hb
        clear hb
        go_wp2_with fail
        go_round
        case rel => exact ⟨k + 1, 2 * q, by omega, by go_num, by go_num, by omega, hst⟩
        case measure => simp [intOf]; omega
    · obtain rfl : k = 8 := by omega
      go_wp2_with fail
      go_ret
      exact ⟨ret_int (by rw [hq.out]; rfl), (Below.refl _ _).alloc (Nat.le_refl _) _⟩

theorem bits_at0 (m : Nat) (w : World) : (Instr.index 107 (bitsV m) (.int .i64 ((0 : Nat) : Int))).run Try.prog w = .ok (.bool (tb m 0)) w := by kernel_rfl
theorem bits_at1 (m : Nat) (w : World) : (Instr.index 107 (bitsV m) (.int .i64 ((1 : Nat) : Int))).run Try.prog w = .ok (.bool (tb m 1)) w := by kernel_rfl
theorem bits_at2 (m : Nat) (w : World) : (Instr.index 107 (bitsV m) (.int .i64 ((2 : Nat) : Int))).run Try.prog w = .ok (.bool (tb m 2)) w := by kernel_rfl
theorem bits_at3 (m : Nat) (w : World) : (Instr.index 107 (bitsV m) (.int .i64 ((3 : Nat) : Int))).run Try.prog w = .ok (.bool (tb m 3)) w := by kernel_rfl
theorem bits_at4 (m : Nat) (w : World) : (Instr.index 107 (bitsV m) (.int .i64 ((4 : Nat) : Int))).run Try.prog w = .ok (.bool (tb m 4)) w := by kernel_rfl
theorem bits_at5 (m : Nat) (w : World) : (Instr.index 107 (bitsV m) (.int .i64 ((5 : Nat) : Int))).run Try.prog w = .ok (.bool (tb m 5)) w := by kernel_rfl
theorem bits_at6 (m : Nat) (w : World) : (Instr.index 107 (bitsV m) (.int .i64 ((6 : Nat) : Int))).run Try.prog w = .ok (.bool (tb m 6)) w := by kernel_rfl
theorem bits_at7 (m : Nat) (w : World) : (Instr.index 107 (bitsV m) (.int .i64 ((7 : Nat) : Int))).run Try.prog w = .ok (.bool (tb m 7)) w := by kernel_rfl
theorem bits_at (m : Nat) {k : Nat} (hk : k < 8) (w : World) : (Instr.index 107 (bitsV m) (.int .i64 (k : Int))).run Try.prog w = .ok (.bool (tb m k)) w := by
  have h : k = 0 ∨ k = 1 ∨ k = 2 ∨ k = 3 ∨ k = 4 ∨ k = 5 ∨ k = 6 ∨ k = 7 := by omega
  rcases h with rfl | rfl | rfl | rfl | rfl | rfl | rfl | rfl
  · exact bits_at0 m w
  · exact bits_at1 m w
  · exact bits_at2 m w
  · exact bits_at3 m w
  · exact bits_at4 m w
  · exact bits_at5 m w
  · exact bits_at6 m w
  · exact bits_at7 m w

set_option maxRecDepth 20000 in
set_option maxHeartbeats 800000 in
theorem rlist_any (m : Nat) (hm : m < 256) (w : World) :
    Calls Try.prog 87 #[.int .i64 (m : Int)] w fun e w' => ∃ v, e = .returned v ∧ w'.ownsRow w.heap.size 3 1 v (listS (m : Int)).length (ints (listS (m : Int))) ∧ Below w.heap.size w w' := by
  obtain ⟨i0, hi, hz0, hz1, hz2⟩ := info_parts infoInt
  go_enter Try.func87, Try.ntmps87
  go_wp2_with (go_at_call 66; refine (rbits_any m hm _).mono ?_; rintro e w1 ⟨rfl, hb1⟩)
  go_loopw [3, 8] (fun v i wr => ∃ k : Nat, k ≤ 8 ∧ i = .int .i64 k ∧ wr.ownsRow w.heap.size 3 1 v (upS m k).length (ints (upS m k)) ∧ Below w.heap.size w wr) (fun _ i _ => 8 - (intOf i).toNat)
  case atStart => exact ⟨0, by omega, rfl, own_nil _ _ _ _, hb1⟩
  case round =>
    obtain ⟨k, hk, rfl, hown, hbel⟩ := hrel
    by_cases hlt : k < 8
    · have hix := bits_at m hlt
      cases hh : hasB m k with
      | true =>
        have hup := Lib.hid (upS_yes hlt hh)
        have hle := upS_le m k
        have hsz := hbel.size
        have ht : tb m k = true := by
          have hk' : (k : Int) < 8 := by omega
          simpa [hasB, isPart, hk', tb] using hh
        have hh' := Lib.hid hh
        clear hh
        rw [ht] at hix
        have ht' := Lib.hid ht
        clear ht
        go_wp2_with (first
          | (at_builtin; refine wpList_append_own _ rfl _ _ 23 rfl w.heap.size 3 i0 (.int .i64 0) 1 8 Try.underlying23 hi hz0 hz1 hz2 rfl (by decide) _ _ _ rfl (hown.alloc _) ⟨wr.heap.size, 0, none⟩ 1 1 [.int .i64 (k : Int)] rfl rfl ?c1 ?c2 ?c3 ?c4 ?c5 ?_; rotate_left 5; intro v' w1 hown' hgrow _))
        case c1 => exact cell_one_new _ _ _
        case c2 => intro u hu; simp at hu; subst hu; rfl
        case c3 => unfold maxLen; omega
        case c4 => omega
        case c5 => simp; omega
        go_roundw
        case rel =>
          refine ⟨k + 1, by omega, by go_num, ?_, ?_⟩
          · rw [hup.out, List.length_append, ← ints_snoc]; exact hown'
          · exact (hbel.alloc hsz _).grown hgrow (by simp; omega) (own_block hown)
        case measure => simp [intOf]; omega
      | false =>
        have hup := Lib.hid (upS_no hlt hh)
        have ht : tb m k = false := by
          have hk' : (k : Int) < 8 := by omega
          simpa [hasB, isPart, hk', tb] using hh
        have hh' := Lib.hid hh
        clear hh
        rw [ht] at hix
        have ht' := Lib.hid ht
        clear ht
        go_wp2_with fail
        go_roundw
        case rel => exact ⟨k + 1, by omega, by go_num, by rw [hup.out]; exact hown, hbel⟩
        case measure => simp [intOf]; omega
    · obtain rfl : k = 8 := by omega
      go_wp2_with fail
      go_ret
      exact ⟨_, rfl, hown, hbel⟩

set_option maxRecDepth 20000 in
set_option maxHeartbeats 800000 in
theorem rhas_any (s k : Int) (hs : isSet s = true) (w : World) :
    Calls Try.prog 27 #[.int .i64 s, .int .i64 k] w fun e w' => e = .returned (.bool (hasB s k)) ∧ Below w.heap.size w w' := by
  have hs' := isSet_iff.1 hs
  obtain ⟨m, rfl⟩ := nat_of hs'.1
  have hm : m < 256 := by omega
  by_cases hk : isPart k = true
  · have hk' := isPart_iff.1 hk
    obtain ⟨k, rfl⟩ := nat_of hk'.1
    have hk8 : k < 8 := by omega
    have hix := bits_at m hk8
    have heq : Hid (hasB (m : Int) (k : Int) = tb m k) := Lib.hid (by simp [hasB, hk, tb])
    clear hs hk hs'
    go_enter Try.func27, Try.ntmps27
    go_wp2_with (go_at_call 66; refine (rbits_any m hm _).mono ?_; rintro e w1 ⟨rfl, hb1⟩)
    go_ret
    exact ⟨ret_bool heq.out.symm, hb1⟩
  · have hf : Hid (hasB (m : Int) k = false) := Lib.hid (by simp at hk; simp [hasB, hk])
    have hk' : k < 0 ∨ 8 ≤ k := isPart_false.1 (by simpa using hk)
    clear hk hs
    rcases hk' with hk' | hk'
    · go_enter Try.func27, Try.ntmps27
      go_wp2_with fail
      go_ret
      exact ⟨ret_bool hf.out.symm, Below.refl _ _⟩
    · go_enter Try.func27, Try.ntmps27
      go_wp2_with fail
      go_ret
      exact ⟨ret_bool hf.out.symm, Below.refl _ _⟩
end Go.Proofs.Ytefdblaolmckmab

namespace Go.Proofs.Ytefdblaolmckmab
open Go.RowKit
open Brood
set_option linter.unusedVariables false
set_option linter.unusedSimpArgs false

/-- What one round of Meets asks. -/
def roundB (x y z : Bool) : Bool := !(x && !z || y && z)
def meetsTo (a n h : Nat) : Nat → Bool
  | 0 => true
  | k + 1 => meetsTo a n h k && roundB (tb a k) (tb n k) (tb h k)
theorem meetsTo_succ (a n h k : Nat) : meetsTo a n h (k + 1) = (meetsTo a n h k && roundB (tb a k) (tb n k) (tb h k)) := rfl
theorem meetsTo_iff (a n h : Nat) : ∀ k, meetsTo a n h k = true ↔ ∀ j, j < k → roundB (tb a j) (tb n j) (tb h j) = true := by
  intro k
  induction k with
  | zero => simp [meetsTo]
  | succ k ih =>
    rw [meetsTo_succ, Bool.and_eq_true, ih]
    constructor
    · rintro ⟨h1, h2⟩ j hj
      rcases Nat.lt_succ_iff_lt_or_eq.1 hj with h | h
      · exact h1 j h
      · rw [h]; exact h2
    · intro h1
      exact ⟨fun j hj => h1 j (by omega), h1 k (by omega)⟩
theorem meets_iff {a n h : Nat} (ha : a < 256) (hn : n < 256) : meetsB a n h = true ↔ ∀ j, j < 8 → roundB (tb a j) (tb n j) (tb h j) = true := by
  simp only [meetsB, Int.toNat_natCast, Bool.and_eq_true, beq_iff_eq]
  constructor
  · rintro ⟨h1, h2⟩ j _
    have e1 := congrArg (fun x => x.testBit j) h1
    have e2 := congrArg (fun x => x.testBit j) h2
    simp only [Nat.testBit_and, Nat.zero_testBit] at e1 e2
    unfold roundB tb
    revert e1 e2
    cases a.testBit j <;> cases n.testBit j <;> cases h.testBit j <;> simp
  · intro hj
    have hb : ∀ x : Nat, x < 256 → ∀ i, 8 ≤ i → x.testBit i = false := fun x hx i hi => Nat.testBit_lt_two_pow (Nat.lt_of_lt_of_le hx (show 2 ^ 8 ≤ 2 ^ i from Nat.pow_le_pow_right (by omega) hi))
    constructor
    · apply Nat.eq_of_testBit_eq
      intro i
      rw [Nat.testBit_and]
      by_cases hi : i < 8
      · have := hj i hi
        unfold roundB tb at this
        revert this
        cases a.testBit i <;> cases n.testBit i <;> cases h.testBit i <;> simp
      · simp [hb a ha i (by omega)]
    · apply Nat.eq_of_testBit_eq
      intro i
      rw [Nat.testBit_and, Nat.zero_testBit]
      by_cases hi : i < 8
      · have := hj i hi
        unfold roundB tb at this
        revert this
        cases a.testBit i <;> cases n.testBit i <;> cases h.testBit i <;> simp
      · simp [hb n hn i (by omega)]
theorem meets_no {a n h : Nat} (ha : a < 256) (hn : n < 256) {k : Nat} (hk : k < 8) (e : roundB (tb a k) (tb n k) (tb h k) = false) : meetsB a n h = false := by
  cases hm : meetsB a n h with
  | false => rfl
  | true => rw [(meets_iff ha hn).1 hm k hk] at e; cases e
theorem meets_yes {a n h : Nat} (ha : a < 256) (hn : n < 256) (e : meetsTo a n h 8 = true) : meetsB a n h = true :=
  (meets_iff ha hn).2 ((meetsTo_iff a n h 8).1 e)

def ptr (g : Nat) : Value := .pointer (some ⟨g, 0, none⟩)
def MeetsFr (a n h H : Nat) (u5 u6 u7 u9 u10 u11 u12 u13 u14 u15 u16 : Value) : Act :=
  { tmps := #[.agg #[.int .i64 (a : Int), .int .i64 (n : Int)], .int .i64 (h : Int), .pointer (some ⟨H, 0, none⟩), undef, .bool false, u5, u6, u7, undef, u9, u10, u11, u12, u13, u14, u15, u16, undef, undef, undef, undef, undef, undef, undef, undef, undef, undef, undef, undef, undef, undef, undef, undef, undef, undef, undef, undef, undef, undef, undef], defers := [] }

/-- What holds in the drawn region of Meets when the operations of 'L' have come up. -/
def MeetsI (w : World) (a n h : Nat) (L : Array Bool) (act : Act) (w' : World) : Prop :=
  ∃ (l0 l1 l2 l3 l4 l5 l6 l7 l8 l9 l10 l11 l12 l13 : Bool) (g5 g6 g7 : Nat) (u5 u6 u7 u9 u10 u11 u12 u13 u14 u15 u16 : Value),
    L = #[l0, l1, l2, l3, l4, l5, l6, l7, l8, l9, l10, l11, l12, l13] ∧ act = MeetsFr a n h w.heap.size u5 u6 u7 u9 u10 u11 u12 u13 u14 u15 u16 ∧
    Below w.heap.size w w' ∧ w.heap.size < w'.heap.size ∧ Blk w' w.heap.size 29 #[.int .i64 (a : Int), .int .i64 (n : Int)] ∧
    (l0 = true → u9 = ptr w.heap.size) ∧ (l1 = true → u10 = .int .i64 (a : Int)) ∧ (l2 = true → u11 = bitsV a) ∧
    (l3 = true → u12 = .pointer (some ⟨w.heap.size, 1, none⟩)) ∧ (l4 = true → u13 = .int .i64 (n : Int)) ∧ (l5 = true → u14 = bitsV n) ∧
    (l6 = true → u15 = .int .i64 (h : Int)) ∧ (l7 = true → u16 = bitsV h) ∧
    (l8 = true → u5 = ptr g5 ∧ w.heap.size < g5 ∧ Blk w' g5 107 (if l11 then arr8 (tb a) else arr8 fun _ => false)) ∧
    (l9 = true → u6 = ptr g6 ∧ w.heap.size < g6 ∧ Blk w' g6 107 (if l12 then arr8 (tb n) else arr8 fun _ => false)) ∧
    (l10 = true → u7 = ptr g7 ∧ w.heap.size < g7 ∧ Blk w' g7 107 (if l13 then arr8 (tb h) else arr8 fun _ => false)) ∧
    (l8 = true → l9 = true → g5 ≠ g6) ∧ (l8 = true → l10 = true → g5 ≠ g7) ∧ (l9 = true → l10 = true → g6 ≠ g7) ∧
    (l11 = true → l8 = true) ∧ (l12 = true → l9 = true) ∧ (l13 = true → l10 = true)

def set8 (w : World) (g : Nat) (b : Nat → Bool) : World :=
  (((((((w.setCell ⟨g, 0, none⟩ (.bool (b 0))).setCell ⟨g, 1, none⟩ (.bool (b 1))).setCell ⟨g, 2, none⟩ (.bool (b 2))).setCell ⟨g, 3, none⟩ (.bool (b 3))).setCell ⟨g, 4, none⟩ (.bool (b 4))).setCell ⟨g, 5, none⟩ (.bool (b 5))).setCell ⟨g, 6, none⟩ (.bool (b 6))).setCell ⟨g, 7, none⟩ (.bool (b 7))
theorem arr8_set (f b : Nat → Bool) : ((((((((arr8 f).setIfInBounds 0 (.bool (b 0))).setIfInBounds 1 (.bool (b 1))).setIfInBounds 2 (.bool (b 2))).setIfInBounds 3 (.bool (b 3))).setIfInBounds 4 (.bool (b 4))).setIfInBounds 5 (.bool (b 5))).setIfInBounds 6 (.bool (b 6))).setIfInBounds 7 (.bool (b 7)) = arr8 b := by
  simp [arr8]
theorem Blk.set8_ {w : World} {g : Nat} {t : TypeId} {f : Nat → Bool} (h : Blk w g t (arr8 f)) (b : Nat → Bool) : Blk (set8 w g b) g t (arr8 b) := by
  have h1 := (((((((h.set_ 0 (.bool (b 0))).set_ 1 (.bool (b 1))).set_ 2 (.bool (b 2))).set_ 3 (.bool (b 3))).set_ 4 (.bool (b 4))).set_ 5 (.bool (b 5))).set_ 6 (.bool (b 6))).set_ 7 (.bool (b 7))
  rw [arr8_set] at h1
  exact h1
theorem Blk.far8 {w : World} {g g' : Nat} {t : TypeId} {cs : Array Value} (h : Blk w g t cs) (hne : g ≠ g') (b : Nat → Bool) : Blk (set8 w g' b) g t cs :=
  (((((((h.far (p := ⟨g', 0, none⟩) hne _).far (p := ⟨g', 1, none⟩) hne _).far (p := ⟨g', 2, none⟩) hne _).far (p := ⟨g', 3, none⟩) hne _).far (p := ⟨g', 4, none⟩) hne _).far (p := ⟨g', 5, none⟩) hne _).far (p := ⟨g', 6, none⟩) hne _).far (p := ⟨g', 7, none⟩) hne _
theorem below_set8 {B : Nat} {a w : World} (h : Below B a w) {g : Nat} (hg : B ≤ g) (b : Nat → Bool) : Below B a (set8 w g b) :=
  (((((((h.setCell (p := ⟨g, 0, none⟩) hg _).setCell (p := ⟨g, 1, none⟩) hg _).setCell (p := ⟨g, 2, none⟩) hg _).setCell (p := ⟨g, 3, none⟩) hg _).setCell (p := ⟨g, 4, none⟩) hg _).setCell (p := ⟨g, 5, none⟩) hg _).setCell (p := ⟨g, 6, none⟩) hg _).setCell (p := ⟨g, 7, none⟩) hg _
theorem size_set8 (w : World) (g : Nat) (b : Nat → Bool) : (set8 w g b).heap.size = w.heap.size := by simp [set8]

set_option maxRecDepth 20000 in
set_option maxHeartbeats 1600000 in
theorem rmeets_any (a n h : Nat) (ha : a < 256) (hn : n < 256) (hh : h < 256) (w : World) :
    Calls Try.prog 81 #[.agg #[.int .i64 (a : Int), .int .i64 (n : Int)], .int .i64 (h : Int)] w fun e w' => e = .returned (.bool (meetsB a n h)) ∧ Below w.heap.size w w' := by
  go_enter Try.func81, Try.ntmps81
  go_wp2_with fail
  refine wp_region_inv mixed (MeetsI w a n h) ?start ?fin ?step
  case start =>
    have hb := (Blk.new w 29 #[.int .i64 (a : Int), .int .i64 (n : Int)])
    exact ⟨false, false, false, false, false, false, false, false, false, false, false, false, false, false, 0, 0, 0, undef, undef, undef, undef, undef, undef, undef, undef, undef, undef, undef, rfl, rfl,
      (((Below.refl _ _).alloc (Nat.le_refl _) _).drew), by simp [World.drew], hb, (fun h => by cases h), (fun h => by cases h), (fun h => by cases h), (fun h => by cases h), (fun h => by cases h), (fun h => by cases h), (fun h => by cases h), (fun h => by cases h), (fun h => by cases h), (fun h => by cases h), (fun h => by cases h), (fun h => by cases h), (fun h => by cases h), (fun h => by cases h), (fun h => by cases h), (fun h => by cases h), (fun h => by cases h)⟩
  case step =>
    rintro L act w' i ⟨l0, l1, l2, l3, l4, l5, l6, l7, l8, l9, l10, l11, l12, l13, g5, g6, g7, u5, u6, u7, u9, u10, u11, u12, u13, u14, u15, u16, rfl, rfl, hbel, hlt, hbox, h0, h1, h2, h3, h4, h5, h6, h7, h8, h9, h10, h56, h57, h67, k8, k9, k10⟩ hi hf hd
    have hi' : i < 14 := hi
    have z8 : Try.prog.underlying 107 = Try.prog.underlying 107 := rfl
    clear hi z8
    match i, hi' with
    | 0, _ =>
      obtain rfl : l0 = false := by simpa using hf
      clear hf hd
      refine wpOp_of rfl rfl (fun K hK => ?_)
      unfold MeetsFr at hK ⊢
      go_simp
      exact hK _ _ ⟨true, l1, l2, l3, l4, l5, l6, l7, l8, l9, l10, l11, l12, l13, g5, g6, g7, u5, u6, u7, (ptr w.heap.size), u10, u11, u12, u13, u14, u15, u16, rfl, rfl, hbel, hlt, hbox, fun _ => rfl, h1, h2, h3, h4, h5, h6, h7, h8, h9, h10, h56, h57, h67, k8, k9, k10⟩
    | 1, _ =>
      obtain rfl : l1 = false := by simpa using hf
      simp [Region.binds] at hd
      subst hd
      clear hf
      obtain rfl := h0 rfl
      refine wpOp_of rfl rfl (fun K hK => ?_)
      unfold MeetsFr at hK ⊢
      have hc := hbox.cell 0
      simp at hc
      simp only [ptr]
      go_simp
      exact hK _ _ ⟨true, true, l2, l3, l4, l5, l6, l7, l8, l9, l10, l11, l12, l13, g5, g6, g7, u5, u6, u7, (ptr w.heap.size), (.int .i64 (a : Int)), u11, u12, u13, u14, u15, u16, rfl, rfl, hbel, hlt, hbox, fun _ => rfl, fun _ => rfl, h2, h3, h4, h5, h6, h7, h8, h9, h10, h56, h57, h67, k8, k9, k10⟩
    | 2, _ =>
      obtain rfl : l2 = false := by simpa using hf
      simp [Region.binds] at hd
      subst hd
      clear hf
      obtain rfl := h1 rfl
      refine wpOp_of rfl rfl (fun K hK => ?_)
      unfold MeetsFr at hK ⊢
      go_simp
      refine (rbits_any a ha _).mono ?_
      rintro e w1 ⟨rfl, hb1⟩
      simp only
      have hlt1 : w'.heap.size ≤ w1.heap.size := hb1.size
      exact hK _ _ ⟨l0, true, true, l3, l4, l5, l6, l7, l8, l9, l10, l11, l12, l13, g5, g6, g7, u5, u6, u7, u9, (.int .i64 (a : Int)), (bitsV a), u12, u13, u14, u15, u16, rfl, rfl, (hbel.trans (hb1.mono hbel.size)), (by omega), (hbox.below hb1 hbox.lt), h0, fun _ => rfl, fun _ => rfl, h3, h4, h5, h6, h7, fun q => ⟨(h8 q).1, (h8 q).2.1, (h8 q).2.2.below hb1 (h8 q).2.2.lt⟩, fun q => ⟨(h9 q).1, (h9 q).2.1, (h9 q).2.2.below hb1 (h9 q).2.2.lt⟩, fun q => ⟨(h10 q).1, (h10 q).2.1, (h10 q).2.2.below hb1 (h10 q).2.2.lt⟩, h56, h57, h67, k8, k9, k10⟩
    | 3, _ =>
      obtain rfl : l3 = false := by simpa using hf
      clear hf hd
      refine wpOp_of rfl rfl (fun K hK => ?_)
      unfold MeetsFr at hK ⊢
      go_simp
      exact hK _ _ ⟨l0, l1, l2, true, l4, l5, l6, l7, l8, l9, l10, l11, l12, l13, g5, g6, g7, u5, u6, u7, u9, u10, u11, (.pointer (some ⟨w.heap.size, 1, none⟩)), u13, u14, u15, u16, rfl, rfl, hbel, hlt, hbox, h0, h1, h2, fun _ => rfl, h4, h5, h6, h7, h8, h9, h10, h56, h57, h67, k8, k9, k10⟩
    | 4, _ =>
      obtain rfl : l4 = false := by simpa using hf
      simp [Region.binds] at hd
      subst hd
      clear hf
      obtain rfl := h3 rfl
      refine wpOp_of rfl rfl (fun K hK => ?_)
      unfold MeetsFr at hK ⊢
      have hc := hbox.cell 1
      simp at hc
      go_simp
      exact hK _ _ ⟨l0, l1, l2, true, true, l5, l6, l7, l8, l9, l10, l11, l12, l13, g5, g6, g7, u5, u6, u7, u9, u10, u11, (.pointer (some ⟨w.heap.size, 1, none⟩)), (.int .i64 (n : Int)), u14, u15, u16, rfl, rfl, hbel, hlt, hbox, h0, h1, h2, fun _ => rfl, fun _ => rfl, h5, h6, h7, h8, h9, h10, h56, h57, h67, k8, k9, k10⟩
    | 5, _ =>
      obtain rfl : l5 = false := by simpa using hf
      simp [Region.binds] at hd
      obtain ⟨rfl, rfl⟩ := hd
      clear hf
      obtain rfl := h4 rfl
      obtain rfl := h2 rfl
      refine wpOp_of rfl rfl (fun K hK => ?_)
      unfold MeetsFr at hK ⊢
      go_simp
      refine (rbits_any n hn _).mono ?_
      rintro e w1 ⟨rfl, hb1⟩
      simp only
      have hlt1 : w'.heap.size ≤ w1.heap.size := hb1.size
      exact hK _ _ ⟨l0, l1, true, l3, true, true, l6, l7, l8, l9, l10, l11, l12, l13, g5, g6, g7, u5, u6, u7, u9, u10, (bitsV a), u12, (.int .i64 (n : Int)), (bitsV n), u15, u16, rfl, rfl, (hbel.trans (hb1.mono hbel.size)), (by omega), (hbox.below hb1 hbox.lt), h0, h1, fun _ => rfl, h3, fun _ => rfl, fun _ => rfl, h6, h7, fun q => ⟨(h8 q).1, (h8 q).2.1, (h8 q).2.2.below hb1 (h8 q).2.2.lt⟩, fun q => ⟨(h9 q).1, (h9 q).2.1, (h9 q).2.2.below hb1 (h9 q).2.2.lt⟩, fun q => ⟨(h10 q).1, (h10 q).2.1, (h10 q).2.2.below hb1 (h10 q).2.2.lt⟩, h56, h57, h67, k8, k9, k10⟩
    | 6, _ =>
      obtain rfl : l6 = false := by simpa using hf
      clear hf hd
      refine wpOp_of rfl rfl (fun K hK => ?_)
      unfold MeetsFr at hK ⊢
      go_simp
      exact hK _ _ ⟨l0, l1, l2, l3, l4, l5, true, l7, l8, l9, l10, l11, l12, l13, g5, g6, g7, u5, u6, u7, u9, u10, u11, u12, u13, u14, (.int .i64 (h : Int)), u16, rfl, rfl, hbel, hlt, hbox, h0, h1, h2, h3, h4, h5, fun _ => rfl, h7, h8, h9, h10, h56, h57, h67, k8, k9, k10⟩
    | 7, _ =>
      obtain rfl : l7 = false := by simpa using hf
      simp [Region.binds] at hd
      obtain ⟨rfl, rfl⟩ := hd
      clear hf
      obtain rfl := h6 rfl
      obtain rfl := h5 rfl
      refine wpOp_of rfl rfl (fun K hK => ?_)
      unfold MeetsFr at hK ⊢
      go_simp
      refine (rbits_any h hh _).mono ?_
      rintro e w1 ⟨rfl, hb1⟩
      simp only
      have hlt1 : w'.heap.size ≤ w1.heap.size := hb1.size
      exact hK _ _ ⟨l0, l1, l2, l3, l4, true, true, true, l8, l9, l10, l11, l12, l13, g5, g6, g7, u5, u6, u7, u9, u10, u11, u12, u13, (bitsV n), (.int .i64 (h : Int)), (bitsV h), rfl, rfl, (hbel.trans (hb1.mono hbel.size)), (by omega), (hbox.below hb1 hbox.lt), h0, h1, h2, h3, h4, fun _ => rfl, fun _ => rfl, fun _ => rfl, fun q => ⟨(h8 q).1, (h8 q).2.1, (h8 q).2.2.below hb1 (h8 q).2.2.lt⟩, fun q => ⟨(h9 q).1, (h9 q).2.1, (h9 q).2.2.below hb1 (h9 q).2.2.lt⟩, fun q => ⟨(h10 q).1, (h10 q).2.1, (h10 q).2.2.below hb1 (h10 q).2.2.lt⟩, h56, h57, h67, k8, k9, k10⟩
    | 8, _ =>
      obtain rfl : l8 = false := by simpa using hf
      clear hf hd
      refine wpOp_of rfl rfl (fun K hK => ?_)
      unfold MeetsFr at hK ⊢
      have hno : ¬ l11 = true := fun q => by cases k8 q
      go_simp
      exact hK _ _ ⟨l0, l1, l2, l3, l4, l5, l6, l7, true, l9, l10, l11, l12, l13, w'.heap.size, g6, g7, (ptr w'.heap.size), u6, u7, u9, u10, u11, u12, u13, u14, u15, u16, rfl, rfl, (hbel.alloc (by omega) _), (by simp; omega), (hbox.alloc _), h0, h1, h2, h3, h4, h5, h6, h7, fun _ => ⟨rfl, hlt, by rw [if_neg hno]; exact Blk.new _ _ _⟩, fun q => ⟨(h9 q).1, (h9 q).2.1, (h9 q).2.2.alloc _⟩, fun q => ⟨(h10 q).1, (h10 q).2.1, (h10 q).2.2.alloc _⟩, fun _ q e => Nat.lt_irrefl _ (e ▸ (h9 q).2.2.lt), fun _ q e => Nat.lt_irrefl _ (e ▸ (h10 q).2.2.lt), h67, fun _ => rfl, k9, k10⟩
    | 9, _ =>
      obtain rfl : l9 = false := by simpa using hf
      clear hf hd
      refine wpOp_of rfl rfl (fun K hK => ?_)
      unfold MeetsFr at hK ⊢
      have hno : ¬ l12 = true := fun q => by cases k9 q
      go_simp
      exact hK _ _ ⟨l0, l1, l2, l3, l4, l5, l6, l7, l8, true, l10, l11, l12, l13, g5, w'.heap.size, g7, u5, (ptr w'.heap.size), u7, u9, u10, u11, u12, u13, u14, u15, u16, rfl, rfl, (hbel.alloc (by omega) _), (by simp; omega), (hbox.alloc _), h0, h1, h2, h3, h4, h5, h6, h7, fun q => ⟨(h8 q).1, (h8 q).2.1, (h8 q).2.2.alloc _⟩, fun _ => ⟨rfl, hlt, by rw [if_neg hno]; exact Blk.new _ _ _⟩, fun q => ⟨(h10 q).1, (h10 q).2.1, (h10 q).2.2.alloc _⟩, fun q _ e => Nat.lt_irrefl _ (e ▸ (h8 q).2.2.lt), h57, fun _ q e => Nat.lt_irrefl _ (e ▸ (h10 q).2.2.lt), k8, fun _ => rfl, k10⟩
    | 10, _ =>
      obtain rfl : l10 = false := by simpa using hf
      clear hf hd
      refine wpOp_of rfl rfl (fun K hK => ?_)
      unfold MeetsFr at hK ⊢
      have hno : ¬ l13 = true := fun q => by cases k10 q
      go_simp
      exact hK _ _ ⟨l0, l1, l2, l3, l4, l5, l6, l7, l8, l9, true, l11, l12, l13, g5, g6, w'.heap.size, u5, u6, (ptr w'.heap.size), u9, u10, u11, u12, u13, u14, u15, u16, rfl, rfl, (hbel.alloc (by omega) _), (by simp; omega), (hbox.alloc _), h0, h1, h2, h3, h4, h5, h6, h7, fun q => ⟨(h8 q).1, (h8 q).2.1, (h8 q).2.2.alloc _⟩, fun q => ⟨(h9 q).1, (h9 q).2.1, (h9 q).2.2.alloc _⟩, fun _ => ⟨rfl, hlt, by rw [if_neg hno]; exact Blk.new _ _ _⟩, h56, fun q _ e => Nat.lt_irrefl _ (e ▸ (h8 q).2.2.lt), fun q _ e => Nat.lt_irrefl _ (e ▸ (h9 q).2.2.lt), k8, k9, fun _ => rfl⟩
    | 11, _ =>
      obtain rfl : l11 = false := by simpa using hf
      have e : l8 = true ∧ l2 = true := by
        clear h0 h1 h2 h3 h4 h5 h6 h7 h8 h9 h10 h56 h57 h67 k8 k9 k10
        revert hd
        cases l8 <;> cases l2 <;> simp [Region.binds]
      obtain ⟨rfl, rfl⟩ := e
      clear hf hd
      obtain ⟨rfl, hg, hB⟩ := h8 rfl
      obtain rfl := h2 rfl
      refine wpOp_of rfl rfl (fun K hK => ?_)
      unfold MeetsFr at hK ⊢
      rw [if_neg (by simp)] at hB
      have rr : ∀ j, j < 8 → w'.cell? ⟨g5, j, none⟩ = some (.bool false) := fun j hj => by rw [hB.cell j, arr8_get _ hj]
      have r0 := rr 0 (by omega); have f0 := hB.frozen 0
      have r1 := rr 1 (by omega); have f1 := hB.frozen 1
      have r2 := rr 2 (by omega); have f2 := hB.frozen 2
      have r3 := rr 3 (by omega); have f3 := hB.frozen 3
      have r4 := rr 4 (by omega); have f4 := hB.frozen 4
      have r5 := rr 5 (by omega); have f5 := hB.frozen 5
      have r6 := rr 6 (by omega); have f6 := hB.frozen 6
      have r7 := rr 7 (by omega); have f7 := hB.frozen 7
      simp only [ptr, bitsV]
      go_simp
      exact hK _ (set8 w' g5 (tb a)) ⟨l0, l1, true, l3, l4, l5, l6, l7, true, l9, l10, true, l12, l13, g5, g6, g7, (ptr g5), u6, u7, u9, u10, (bitsV a), u12, u13, u14, u15, u16, rfl, rfl, (below_set8 hbel (by omega) _), (by rw [size_set8]; omega), (hbox.far8 (by omega) _), h0, h1, fun _ => rfl, h3, h4, h5, h6, h7, fun _ => ⟨rfl, hg, by rw [if_pos rfl]; exact hB.set8_ _⟩, fun q => ⟨(h9 q).1, (h9 q).2.1, (h9 q).2.2.far8 (fun e => h56 rfl q e.symm) _⟩, fun q => ⟨(h10 q).1, (h10 q).2.1, (h10 q).2.2.far8 (fun e => h57 rfl q e.symm) _⟩, h56, h57, h67, fun _ => rfl, k9, k10⟩
    | 12, _ =>
      obtain rfl : l12 = false := by simpa using hf
      have e : l9 = true ∧ l5 = true := by
        clear h0 h1 h2 h3 h4 h5 h6 h7 h8 h9 h10 h56 h57 h67 k8 k9 k10
        revert hd
        cases l9 <;> cases l5 <;> simp [Region.binds]
      obtain ⟨rfl, rfl⟩ := e
      clear hf hd
      obtain ⟨rfl, hg, hB⟩ := h9 rfl
      obtain rfl := h5 rfl
      refine wpOp_of rfl rfl (fun K hK => ?_)
      unfold MeetsFr at hK ⊢
      rw [if_neg (by simp)] at hB
      have rr : ∀ j, j < 8 → w'.cell? ⟨g6, j, none⟩ = some (.bool false) := fun j hj => by rw [hB.cell j, arr8_get _ hj]
      have r0 := rr 0 (by omega); have f0 := hB.frozen 0
      have r1 := rr 1 (by omega); have f1 := hB.frozen 1
      have r2 := rr 2 (by omega); have f2 := hB.frozen 2
      have r3 := rr 3 (by omega); have f3 := hB.frozen 3
      have r4 := rr 4 (by omega); have f4 := hB.frozen 4
      have r5 := rr 5 (by omega); have f5 := hB.frozen 5
      have r6 := rr 6 (by omega); have f6 := hB.frozen 6
      have r7 := rr 7 (by omega); have f7 := hB.frozen 7
      simp only [ptr, bitsV]
      go_simp
      exact hK _ (set8 w' g6 (tb n)) ⟨l0, l1, l2, l3, l4, true, l6, l7, l8, true, l10, l11, true, l13, g5, g6, g7, u5, (ptr g6), u7, u9, u10, u11, u12, u13, (bitsV n), u15, u16, rfl, rfl, (below_set8 hbel (by omega) _), (by rw [size_set8]; omega), (hbox.far8 (by omega) _), h0, h1, h2, h3, h4, fun _ => rfl, h6, h7, fun q => ⟨(h8 q).1, (h8 q).2.1, (h8 q).2.2.far8 (h56 q rfl) _⟩, fun _ => ⟨rfl, hg, by rw [if_pos rfl]; exact hB.set8_ _⟩, fun q => ⟨(h10 q).1, (h10 q).2.1, (h10 q).2.2.far8 (fun e => h67 rfl q e.symm) _⟩, h56, h57, h67, k8, fun _ => rfl, k10⟩
    | 13, _ =>
      obtain rfl : l13 = false := by simpa using hf
      have e : l10 = true ∧ l7 = true := by
        clear h0 h1 h2 h3 h4 h5 h6 h7 h8 h9 h10 h56 h57 h67 k8 k9 k10
        revert hd
        cases l10 <;> cases l7 <;> simp [Region.binds]
      obtain ⟨rfl, rfl⟩ := e
      clear hf hd
      obtain ⟨rfl, hg, hB⟩ := h10 rfl
      obtain rfl := h7 rfl
      refine wpOp_of rfl rfl (fun K hK => ?_)
      unfold MeetsFr at hK ⊢
      rw [if_neg (by simp)] at hB
      have rr : ∀ j, j < 8 → w'.cell? ⟨g7, j, none⟩ = some (.bool false) := fun j hj => by rw [hB.cell j, arr8_get _ hj]
      have r0 := rr 0 (by omega); have f0 := hB.frozen 0
      have r1 := rr 1 (by omega); have f1 := hB.frozen 1
      have r2 := rr 2 (by omega); have f2 := hB.frozen 2
      have r3 := rr 3 (by omega); have f3 := hB.frozen 3
      have r4 := rr 4 (by omega); have f4 := hB.frozen 4
      have r5 := rr 5 (by omega); have f5 := hB.frozen 5
      have r6 := rr 6 (by omega); have f6 := hB.frozen 6
      have r7 := rr 7 (by omega); have f7 := hB.frozen 7
      simp only [ptr, bitsV]
      go_simp
      exact hK _ (set8 w' g7 (tb h)) ⟨l0, l1, l2, l3, l4, l5, l6, true, l8, l9, true, l11, l12, true, g5, g6, g7, u5, u6, (ptr g7), u9, u10, u11, u12, u13, u14, u15, (bitsV h), rfl, rfl, (below_set8 hbel (by omega) _), (by rw [size_set8]; omega), (hbox.far8 (by omega) _), h0, h1, h2, h3, h4, h5, h6, fun _ => rfl, fun q => ⟨(h8 q).1, (h8 q).2.1, (h8 q).2.2.far8 (h57 q rfl) _⟩, fun q => ⟨(h9 q).1, (h9 q).2.1, (h9 q).2.2.far8 (h67 q rfl) _⟩, fun _ => ⟨rfl, hg, by rw [if_pos rfl]; exact hB.set8_ _⟩, h56, h57, h67, k8, k9, fun _ => rfl⟩
  case fin =>
    rintro L act w' ⟨l0, l1, l2, l3, l4, l5, l6, l7, l8, l9, l10, l11, l12, l13, g5, g6, g7, u5, u6, u7, u9, u10, u11, u12, u13, u14, u15, u16, rfl, rfl, hbel, hlt, hbox, h0, h1, h2, h3, h4, h5, h6, h7, h8, h9, h10, h56, h57, h67, k8, k9, k10⟩ hr
    clear h0 h1 h2 h3 h4 h5 h6 h7 k8 k9 k10 hbox
    obtain rfl : l0 = true := by simpa using ready_out hr 0 (by decide) (by simp [Region.binds])
    obtain rfl : l3 = true := by simpa using ready_out hr 3 (by decide) (by simp [Region.binds])
    obtain rfl : l6 = true := by simpa using ready_out hr 6 (by decide) (by simp [Region.binds])
    obtain rfl : l8 = true := by simpa using ready_out hr 8 (by decide) (by simp [Region.binds])
    obtain rfl : l9 = true := by simpa using ready_out hr 9 (by decide) (by simp [Region.binds])
    obtain rfl : l10 = true := by simpa using ready_out hr 10 (by decide) (by simp [Region.binds])
    obtain rfl : l1 = true := by simpa using ready_out hr 1 (by decide) (by simp [Region.binds])
    obtain rfl : l4 = true := by simpa using ready_out hr 4 (by decide) (by simp [Region.binds])
    obtain rfl : l2 = true := by simpa using ready_out hr 2 (by decide) (by simp [Region.binds])
    obtain rfl : l5 = true := by simpa using ready_out hr 5 (by decide) (by simp [Region.binds])
    obtain rfl : l7 = true := by simpa using ready_out hr 7 (by decide) (by simp [Region.binds])
    obtain rfl : l11 = true := by simpa using ready_out hr 11 (by decide) (by simp [Region.binds])
    obtain rfl : l12 = true := by simpa using ready_out hr 12 (by decide) (by simp [Region.binds])
    obtain rfl : l13 = true := by simpa using ready_out hr 13 (by decide) (by simp [Region.binds])
    obtain ⟨rfl, hg5, hB5⟩ := h8 rfl
    obtain ⟨rfl, hg6, hB6⟩ := h9 rfl
    obtain ⟨rfl, hg7, hB7⟩ := h10 rfl
    rw [if_pos rfl] at hB5 hB6 hB7
    have n56 := h56 rfl rfl; have n57 := h57 rfl rfl; have n67 := h67 rfl rfl
    clear h8 h9 h10 h56 h57 h67 hr
    unfold MeetsFr ptr
    go_wp2_with fail
    go_loop [17] (fun i => ∃ k : Nat, k ≤ 8 ∧ i = .int .i64 k ∧ Hid (meetsTo a n h k = true)) (fun i => 8 - (intOf i).toNat)
    case atStart => exact ⟨0, by omega, rfl, Lib.hid rfl⟩
    case round =>
      obtain ⟨k, hk, rfl, hm⟩ := hrel
      by_cases hlt : k < 8
      · have c5 : w'.cell? ⟨g5, k, none⟩ = some (.bool (tb a k)) := by rw [hB5.cell k, arr8_get _ hlt]
        have c6 : w'.cell? ⟨g6, k, none⟩ = some (.bool (tb n k)) := by rw [hB6.cell k, arr8_get _ hlt]
        have c7 : w'.cell? ⟨g7, k, none⟩ = some (.bool (tb h k)) := by rw [hB7.cell k, arr8_get _ hlt]
        have hst := Lib.hid (meetsTo_succ a n h k)
        have hno := Lib.hid (meets_no (h := h) ha hn hlt)
        have hz8 : (#[Value.bool false, .bool false, .bool false, .bool false, .bool false, .bool false, .bool false, .bool false] : Array Value).size = 8 := rfl
        clear hB5 hB6 hB7 hz8
        cases ta : tb a k <;> cases tn : tb n k <;> cases th : tb h k
        all_goals rw [ta] at c5; rw [tn] at c6; rw [th] at c7
        all_goals (have ta' := Lib.hid ta; clear ta; have tn' := Lib.hid tn; clear tn; have th' := Lib.hid th; clear th)
        all_goals go_wp2_with fail
        all_goals first
          | (go_ret; exact ⟨ret_bool (by rw [hno.out (by rw [ta'.out, tn'.out, th'.out]; rfl)]), hbel⟩)
          | (go_round
             case rel => exact ⟨k + 1, by omega, by go_num, Lib.hid (by rw [hst.out, hm.out, ta'.out, tn'.out, th'.out]; rfl)⟩
             case measure => simp [intOf]; omega)
      · obtain rfl : k = 8 := by omega
        go_wp2_with fail
        go_ret
        exact ⟨ret_bool (meets_yes ha hn hm.out).symm, hbel⟩
end Go.Proofs.Ytefdblaolmckmab

namespace Go.Proofs.Ytefdblaolmckmab
open Go.RowKit
open Brood
set_option linter.unusedVariables false
set_option linter.unusedSimpArgs false

/-- The bits of a with bit k said to be v, where k is a part. -/
def putB (a : Nat) (k : Int) (v : Bool) : Nat → Bool := fun j => if (j : Int) = k then v else tb a j
theorem num_bits : ∀ a, a < 256 → numB (tb a) = a := by decide +kernel
theorem num_with : ∀ a, a < 256 → ∀ k : Nat, k < 8 → (numB (putB a (k : Int) true) : Int) = withS (a : Int) (k : Int) := by decide +kernel
theorem num_without : ∀ a, a < 256 → ∀ k : Nat, k < 8 → (numB (putB a (k : Int) false) : Int) = withoutS (a : Int) (k : Int) := by decide +kernel
theorem put_out {a : Nat} {k : Int} (h : isPart k = false) (v : Bool) : arr8 (putB a k v) = arr8 (tb a) := by
  rw [isPart_false] at h
  have : ∀ j : Nat, j < 8 → putB a k v j = tb a j := by
    intro j hj
    unfold putB
    rw [if_neg (by omega)]
  simp [arr8, this]
theorem put_in {a : Nat} {k : Nat} (h : k < 8) (v : Bool) : (arr8 (tb a)).setIfInBounds k (.bool v) = arr8 (putB a (k : Int) v) := by
  have e : k = 0 ∨ k = 1 ∨ k = 2 ∨ k = 3 ∨ k = 4 ∨ k = 5 ∨ k = 6 ∨ k = 7 := by omega
  rcases e with rfl | rfl | rfl | rfl | rfl | rfl | rfl | rfl <;> simp [arr8, putB]
theorem num_put_w {a : Nat} (ha : a < 256) (k : Int) : (numB (putB a k true) : Int) = withS (a : Int) k := by
  by_cases hk : isPart k = true
  · have := isPart_iff.1 hk
    obtain ⟨k, rfl⟩ := nat_of this.1
    exact num_with a ha k (by omega)
  · have hk' : isPart k = false := by simpa using hk
    have e : numB (putB a k true) = numB (tb a) := by
      have h := isPart_false.1 hk'
      have : ∀ j : Nat, j < 8 → putB a k true j = tb a j := by
        intro j hj
        unfold putB
        rw [if_neg (by omega)]
      simp [numB, numUp, this]
    rw [e, num_bits a ha]
    simp [withS, hk']
theorem num_put_wo {a : Nat} (ha : a < 256) (k : Int) : (numB (putB a k false) : Int) = withoutS (a : Int) k := by
  by_cases hk : isPart k = true
  · have := isPart_iff.1 hk
    obtain ⟨k, rfl⟩ := nat_of this.1
    exact num_without a ha k (by omega)
  · have hk' : isPart k = false := by simpa using hk
    have e : numB (putB a k false) = numB (tb a) := by
      have h := isPart_false.1 hk'
      have : ∀ j : Nat, j < 8 → putB a k false j = tb a j := by
        intro j hj
        unfold putB
        rw [if_neg (by omega)]
      simp [numB, numUp, this]
    rw [e, num_bits a ha]
    simp [withoutS, hasB, hk']

theorem num_true {a : Nat} (ha : a < 256) (k : Int) (w : World) :
    Calls Try.prog 75 #[.agg #[.bool (putB a k true 0), .bool (putB a k true 1), .bool (putB a k true 2), .bool (putB a k true 3), .bool (putB a k true 4), .bool (putB a k true 5), .bool (putB a k true 6), .bool (putB a k true 7)]] w fun e w' => e = .returned (.int .i64 (withS (a : Int) k)) ∧ Below w.heap.size w w' := by
  have := rnum_any (putB a k true) w
  rw [num_put_w ha] at this
  exact this
theorem num_false {a : Nat} (ha : a < 256) (k : Int) (w : World) :
    Calls Try.prog 75 #[.agg #[.bool (putB a k false 0), .bool (putB a k false 1), .bool (putB a k false 2), .bool (putB a k false 3), .bool (putB a k false 4), .bool (putB a k false 5), .bool (putB a k false 6), .bool (putB a k false 7)]] w fun e w' => e = .returned (.int .i64 (withoutS (a : Int) k)) ∧ Below w.heap.size w w' := by
  have := rnum_any (putB a k false) w
  rw [num_put_wo ha] at this
  exact this
end Go.Proofs.Ytefdblaolmckmab

namespace Go.Proofs.Ytefdblaolmckmab
open Go.RowKit
open Brood
set_option linter.unusedVariables false
set_option linter.unusedSimpArgs false

/-- Where the row of a being stands, if it does. -/
def RowAns (w : World) (v : Value) (o : Option BRow) : Prop :=
  match o with
  | none => v = .pointer none
  | some r => ∃ b o, v = .pointer (some ⟨b, o, none⟩) ∧ b < w.heap.size ∧ RowAt w b o r
theorem rowPtr_ans {w : World} {B : Nat} {A : Option Addr} {rows : List BRow} (hr : RdR w B A rows) (hB : B ≤ w.heap.size) (i g : Int) : RowAns w (rowPtr A i g rows) (rowOf i g rows) := by
  rw [findR_rowOf]
  unfold rowPtr
  cases h : findR i g rows with
  | none => exact rfl
  | some k =>
    have hk := findR_lt h
    obtain ⟨b, off, rfl, hb, hrow⟩ := hr.at_ hk
    simp only [Option.bind_some, List.getElem?_eq_getElem hk]
    exact ⟨b, off + k * 11, by simp [ptrAt], by omega, hrow⟩
set_option maxRecDepth 20000 in
set_option maxHeartbeats 3200000 in
theorem rrow_at (rows : List BRow) (gens : List Int) (Ar : Option Addr) (cr : Nat) (Ag : Option Addr) (cg : Nat) (i g : Int) (hlr : rows.length ≤ 9223372036854775807) (w : World) (hr : RdR w w.heap.size Ar rows) :
    Calls Try.prog 26 #[.agg #[.slice Ar rows.length cr, .slice Ag gens.length cg], .agg #[.int .i64 i, .int .i64 g]] w fun e w' => e = .returned (rowPtr Ar i g rows) ∧ Below w.heap.size w w' := by
  have hE : Hid (rowPtr Ar i g rows = ptrAt Ar (findR i g (rows.drop 0)) 0) := Lib.hid rfl
  generalize rowPtr Ar i g rows = E at *
  have H0 := ((Hp.start w).new w.heap.size rfl 25 [.slice Ar rows.length cr, .slice Ag gens.length cg]).new (w.heap.size + 1) (by simp) 27 [.int .i64 i, .int .i64 g]
  go_enter Try.func26, Try.ntmps26
  go_wp2_with fail
  go_loopw [9] (fun q wr => ∃ k : Nat, k ≤ rows.length ∧ q = .int .i64 k ∧ Hid (E = ptrAt Ar (findR i g (rows.drop k)) k) ∧ Hp w wr [.box w.heap.size 25 [.slice Ar rows.length cr, .slice Ag gens.length cg], .box (w.heap.size + 1) 27 [.int .i64 i, .int .i64 g]]) (fun q _ => rows.length - (intOf q).toNat)
  case atStart => exact ⟨0, by omega, rfl, hE, H0⟩
  case round =>
    clear H0 hE
    obtain ⟨k, hk, rfl, hE, H⟩ := hrel
    by_cases hlt : k < rows.length
    · have hR1 : RdR wr w.heap.size Ar rows := Rd.under hr H.bel (Nat.le_refl _)
      obtain ⟨b1, off, rfl, hb1, hrow⟩ := hR1.at_ hlt
      have hst := Lib.hid (@ptr_drop (some ⟨b1, off, none⟩) i g rows k hlt)
      generalize rows[k] = r at *
      have i0 : (0 : Int) ≤ (k : Int) := by omega
      have i1 : (k : Int) < (rows.length : Int) := by omega
      obtain ⟨c0, c1, c2⟩ := hrow.head
      have e0 := H.cell 0 0 rfl rfl; have e1 := H.cell 1 0 rfl rfl; have e2 := H.cell 1 1 rfl rfl
      have hq : ∀ W, (binOp .eql 27 (.agg #[.int .i64 r.idx, .int .i64 r.gen]) (.agg #[.int .i64 i, .int .i64 g])).run Try.prog W = .ok (.bool (isB i g r)) W := fun W => eqBeing _ _ _ _ W
      go_upto_region 4 with fail
      go_cut [19] (fun s19 wx => s19 = .bool (isB i g r) ∧ ∃ n, wx = wr.drewN n)
      case first =>
        go_quiet (fail)
        go_wp2_with fail
        go_meet
        exact ⟨rfl, _, rfl⟩
      case rest =>
        obtain ⟨rfl, n, rfl⟩ := hcut
        have H2 := H.drewN n
        have e0 := H2.cell 0 0 rfl rfl
        cases hB : isB i g r
        · rw [hB] at hst
          go_wp2_with fail
          go_roundw
          case rel => exact ⟨k + 1, by omega, by go_num, Lib.hid (by rw [hE.out, hst.out]; simp), H2⟩
          case measure => simp [intOf]; omega
        · rw [hB] at hst
          go_wp2_with fail
          go_ret
          refine ⟨?_, H2.bel⟩
          rw [hE.out, hst.out]
          rfl
    · obtain rfl : k = rows.length := by omega
      go_wp2_with fail
      go_ret
      refine ⟨?_, H.bel⟩
      rw [hE.out, List.drop_length]
      rfl
theorem rrow_any (rows : List BRow) (gens : List Int) (Ar : Option Addr) (cr : Nat) (Ag : Option Addr) (cg : Nat) (i g : Int) (hlr : rows.length ≤ 9223372036854775807) (w : World) (hr : RdR w w.heap.size Ar rows) :
    Calls Try.prog 26 #[.agg #[.slice Ar rows.length cr, .slice Ag gens.length cg], .agg #[.int .i64 i, .int .i64 g]] w fun e w' => (∃ v, e = .returned v ∧ RowAns w v (rowOf i g rows)) ∧ Below w.heap.size w w' := by
  refine (rrow_at rows gens Ar cr Ag cg i g hlr w hr).mono ?_
  rintro e w' ⟨rfl, hb⟩
  exact ⟨⟨_, rfl, rowPtr_ans hr (Nat.le_refl _) i g⟩, hb⟩
set_option maxRecDepth 20000 in
set_option maxHeartbeats 6400000 in
theorem rsame_any (rows : List BRow) (gens : List Int) (Ar : Option Addr) (cr : Nat) (Ag : Option Addr) (cg : Nat) (Ar' : Option Addr) (cr' : Nat) (Ag' : Option Addr) (cg' : Nat) (hlr : rows.length ≤ 9223372036854775807) (hlg : gens.length ≤ 9223372036854775807)
    (w : World) (hr : RdR w w.heap.size Ar rows) (hr' : RdR w w.heap.size Ar' rows) (hg : RdG w w.heap.size Ag gens) (hg' : RdG w w.heap.size Ag' gens) :
    Calls Try.prog 13 #[.agg #[.slice Ar rows.length cr, .slice Ag gens.length cg], .agg #[.slice Ar' rows.length cr', .slice Ag' gens.length cg']] w fun e w' => e = .returned (.bool true) ∧ Below w.heap.size w w' := by
  have H0 := ((Hp.start w).new w.heap.size rfl 25 [.slice Ar rows.length cr, .slice Ag gens.length cg]).new (w.heap.size + 1) (by simp) 25 [.slice Ar' rows.length cr', .slice Ag' gens.length cg']
  go_enter Try.func13, Try.ntmps13
  go_wp2_with fail
  go_loopw [26] (fun q wr => ∃ k : Nat, k ≤ rows.length ∧ q = .int .i64 k ∧ Hp w wr [.box w.heap.size 25 [.slice Ar rows.length cr, .slice Ag gens.length cg], .box (w.heap.size + 1) 25 [.slice Ar' rows.length cr', .slice Ag' gens.length cg']]) (fun q _ => rows.length - (intOf q).toNat)
  case atStart => exact ⟨0, by omega, rfl, H0⟩
  case round =>
    clear H0
    obtain ⟨k, hk, rfl, H⟩ := hrel
    by_cases hlt : k < rows.length
    · have hR1 : RdR wr w.heap.size Ar rows := Rd.under hr H.bel (Nat.le_refl _)
      have hR2 : RdR wr w.heap.size Ar' rows := Rd.under hr' H.bel (Nat.le_refl _)
      obtain ⟨b1, off, rfl, hb1, hrow⟩ := hR1.at_ hlt
      obtain ⟨b2, off2, rfl, hb2, hrow2⟩ := hR2.at_ hlt
      clear hR1 hR2
      generalize rows[k] = r at *
      have i0 : (0 : Int) ≤ (k : Int) := by omega
      have i1 : (k : Int) < (rows.length : Int) := by omega
      have e0 := H.cell 0 0 rfl rfl; have e1 := H.cell 1 0 rfl rfl
      have hq := fun W => neRow r r W
      obtain ⟨c0, c1, c2⟩ := hrow.head
      obtain ⟨d0, d1, d2⟩ := hrow2.head
      obtain ⟨idx, gen, has, vals, h8⟩ := r
      obtain ⟨a0, a1, a2, a3, a4, a5, a6, a7, rfl⟩ := vals_eight h8
      have v0 := hrow 3 (.int .i64 a0) rfl; have v1 := hrow 4 (.int .i64 a1) rfl; have v2 := hrow 5 (.int .i64 a2) rfl; have v3 := hrow 6 (.int .i64 a3) rfl; have v4 := hrow 7 (.int .i64 a4) rfl; have v5 := hrow 8 (.int .i64 a5) rfl; have v6 := hrow 9 (.int .i64 a6) rfl; have v7 := hrow 10 (.int .i64 a7) rfl
      have u0 := hrow2 3 (.int .i64 a0) rfl; have u1 := hrow2 4 (.int .i64 a1) rfl; have u2 := hrow2 5 (.int .i64 a2) rfl; have u3 := hrow2 6 (.int .i64 a3) rfl; have u4 := hrow2 7 (.int .i64 a4) rfl; have u5 := hrow2 8 (.int .i64 a5) rfl; have u6 := hrow2 9 (.int .i64 a6) rfl; have u7 := hrow2 10 (.int .i64 a7) rfl
      simp only at c0 c1 c2 d0 d1 d2
      have hrv : rowV ⟨idx, gen, has, [a0, a1, a2, a3, a4, a5, a6, a7], h8⟩ = .agg #[.int .i64 idx, .int .i64 gen, .int .i64 has, .int .i64 a0, .int .i64 a1, .int .i64 a2, .int .i64 a3, .int .i64 a4, .int .i64 a5, .int .i64 a6, .int .i64 a7] := rfl
      rw [hrv] at hq
      simp only [decide_true, Bool.not_true] at hq
      clear hrv hrow hrow2
      go_upto_region 6 with fail
      go_cut [39] (fun s39 wx => s39 = .bool false ∧ ∃ n, wx = wr.drewN n)
      case first =>
        go_quiet (fail)
        go_wp2_with fail
        go_meet
        exact ⟨rfl, _, rfl⟩
      case rest =>
        obtain ⟨rfl, n, rfl⟩ := hcut
        have H2 := H.drewN n
        go_wp2_with fail
        go_roundw
        case rel => exact ⟨k + 1, by omega, by go_num, H2⟩
        case measure => simp [intOf]; omega
    · obtain rfl : k = rows.length := by omega
      have e0 := H.cell 0 1 rfl rfl; have e1 := H.cell 1 1 rfl rfl
      clear hr hr'
      go_wp2_with fail
      go_loopw [44] (fun q wx => ∃ k : Nat, k ≤ gens.length ∧ q = .int .i64 k ∧ Hp w wx [.box w.heap.size 25 [.slice Ar rows.length cr, .slice Ag gens.length cg], .box (w.heap.size + 1) 25 [.slice Ar' rows.length cr', .slice Ag' gens.length cg']]) (fun q _ => gens.length - (intOf q).toNat)
      case atStart => exact ⟨0, by omega, rfl, H⟩
      case round =>
        clear H e0 e1
        obtain ⟨k, hk, rfl, H⟩ := hrel
        by_cases hlt : k < gens.length
        · have hR1 : RdG wr w.heap.size Ag gens := Rd.under hg H.bel (Nat.le_refl _)
          have hR2 : RdG wr w.heap.size Ag' gens := Rd.under hg' H.bel (Nat.le_refl _)
          obtain ⟨b1, off, rfl, hb1, c0⟩ := hR1.at_ hlt
          obtain ⟨b2, off2, rfl, hb2, d0⟩ := hR2.at_ hlt
          clear hR1 hR2 hg hg'
          generalize gens[k] = r at *
          have i0 : (0 : Int) ≤ (k : Int) := by omega
          have i1 : (k : Int) < (gens.length : Int) := by omega
          have e0 := H.cell 0 1 rfl rfl; have e1 := H.cell 1 1 rfl rfl
          go_upto_region 12 with fail
          go_cut [57] (fun s57 wx => s57 = .bool false ∧ ∃ n, wx = wr.drewN n)
          case first =>
            go_quiet (fail)
            go_wp2_with fail
            go_meet
            exact ⟨rfl, _, rfl⟩
          case rest =>
            obtain ⟨rfl, n, rfl⟩ := hcut
            have H2 := H.drewN n
            go_wp2_with fail
            go_roundw
            case rel => exact ⟨k + 1, by omega, by go_num, H2⟩
            case measure => simp [intOf]; omega
        · obtain rfl : k = gens.length := by omega
          go_wp2_with fail
          go_ret
          exact ⟨rfl, H.bel⟩
end Go.Proofs.Ytefdblaolmckmab

namespace Go.Proofs.Ytefdblaolmckmab
open Go.RowKit
open Brood
set_option linter.unusedVariables false
set_option linter.unusedSimpArgs false

def wiE (B : Nat) (vr vg : Value) (r : BRow) (A : Option Addr) (c : Nat) (cur : List BRow) : List Ent :=
  [.box B 25 [vr, vg], .box (B + 1) 51 (rowCells r), .box (B + 1 + 1) 25 [.slice none 0 0, .slice none 0 0], .box (B + 1 + 1 + 1) 25 [.slice A cur.length c, vg], .own (.slice A cur.length c) 51 11 cur.length (cur.flatMap rowCells)]
set_option maxRecDepth 20000 in
set_option maxHeartbeats 6400000 in
theorem rwith_any (rows : List BRow) (gens : List Int) (r : BRow) (Ar : Option Addr) (cr : Nat) (Ag : Option Addr) (cg : Nat) (hlr : rows.length ≤ 60) (w : World) (hr : RdR w w.heap.size Ar rows) :
    Calls Try.prog 67 #[.agg #[.slice Ar rows.length cr, .slice Ag gens.length cg], rowV r] w fun e w' => (∃ A c, e = .returned (.agg #[.slice A (withV r rows).length c, .slice Ag gens.length cg]) ∧ w'.ownsRow w.heap.size 51 11 (.slice A (withV r rows).length c) (withV r rows).length ((withV r rows).flatMap rowCells)) ∧ Below w.heap.size w w' := by
  obtain ⟨i0', hi0, hz0a, hz0b, hz0c⟩ := info_parts infoRow
  have hE : Hid (withV r rows = [] ++ withFrom r false (rows.drop 0)) := Lib.hid rfl
  generalize withV r rows = E at *
  have H0 := (((Hp.start w).new w.heap.size rfl 25 [.slice Ar rows.length cr, .slice Ag gens.length cg]).new (w.heap.size + 1) (by simp) 51 (rowCells r)).new (w.heap.size + 1 + 1) (by simp) 25 [.slice none 0 0, .slice none 0 0]
  replace H0 := H0.new (w.heap.size + 1 + 1 + 1) (by simp) 25 [.slice none 0 0, .slice Ag gens.length cg]
  replace H0 := H0.nil_ 51 11
  have hrid := Lib.hid (show ∀ x : BRow, ∀ D l, withFrom r D (x :: l) = (if !D && decide (r.idx ≤ x.idx) then [r] else []) ++ ((if x.idx != r.idx then [x] else []) ++ withFrom r (D || decide (r.idx ≤ x.idx)) l) from fun _ _ _ => rfl)
  have hrnil := Lib.hid (show ∀ D, withFrom r D [] = if D then [] else [r] from fun _ => rfl)
  have hsn := Lib.hid (fun l => flat_snoc l r)
  obtain ⟨ro, hro⟩ : ∃ ro, ro = r := ⟨_, rfl⟩
  rw [← hro] at hE hrid hrnil hsn
  have hroi : ro.idx = r.idx := by rw [hro]
  have hrov : rowCells ro = rowCells r := by rw [hro]
  obtain ⟨ri, rg, rh, rv, h8⟩ := r
  obtain ⟨b0, b1, b2, b3, b4, b5, b6, b7, rfl⟩ := vals_eight h8
  have hrv : rowV ⟨ri, rg, rh, [b0, b1, b2, b3, b4, b5, b6, b7], h8⟩ = .agg #[.int .i64 ri, .int .i64 rg, .int .i64 rh, .int .i64 b0, .int .i64 b1, .int .i64 b2, .int .i64 b3, .int .i64 b4, .int .i64 b5, .int .i64 b6, .int .i64 b7] := rfl
  have hrc : rowCells ⟨ri, rg, rh, [b0, b1, b2, b3, b4, b5, b6, b7], h8⟩ = [.int .i64 ri, .int .i64 rg, .int .i64 rh, .int .i64 b0, .int .i64 b1, .int .i64 b2, .int .i64 b3, .int .i64 b4, .int .i64 b5, .int .i64 b6, .int .i64 b7] := rfl
  simp only at hroi
  rw [hrc] at H0 hrov
  rw [hrv]
  rw [hroi] at hrid
  replace hrov := Lib.hid hrov
  clear hrv hrc hro hroi
  go_enter Try.func67, Try.ntmps67
  go_wp2_with fail
  go_loopw [6, 15] (fun s6 q wx => ∃ k : Nat, k ≤ rows.length ∧ q = .int .i64 k ∧ ∃ (D : Bool) (A : Option Addr) (c : Nat) (cur : List BRow), s6 = .bool D ∧ cur.length ≤ 2 * k ∧ Hid (E = cur ++ withFrom ro D (rows.drop k)) ∧
      Hp w wx [.box w.heap.size 25 [.slice Ar rows.length cr, .slice Ag gens.length cg], .box (w.heap.size + 1) 51 [.int .i64 ri, .int .i64 rg, .int .i64 rh, .int .i64 b0, .int .i64 b1, .int .i64 b2, .int .i64 b3, .int .i64 b4, .int .i64 b5, .int .i64 b6, .int .i64 b7], .box (w.heap.size + 1 + 1) 25 [.slice none 0 0, .slice none 0 0], .box (w.heap.size + 1 + 1 + 1) 25 [.slice A cur.length c, .slice Ag gens.length cg], .own (.slice A cur.length c) 51 11 cur.length (cur.flatMap rowCells)]) (fun _ q _ => rows.length - (intOf q).toNat)
  case atStart => exact ⟨0, by omega, rfl, false, none, 0, [], rfl, by simp, hE, H0⟩
  case round =>
    clear H0 hE
    obtain ⟨k, hk, rfl, D, A, c, cur, rfl, hcur, hE, H⟩ := hrel
    by_cases hlt : k < rows.length
    · have hR1 : RdR wr w.heap.size Ar rows := Rd.under hr H.bel (Nat.le_refl _)
      obtain ⟨b1', off, rfl, hb1, hrow⟩ := hR1.at_ hlt
      have hst := Lib.hid (drop_cons hlt)
      clear hR1
      have hxv := Lib.hid (fun l => flat_snoc l rows[k])
      obtain ⟨xo, hxo⟩ : ∃ xo, xo = rows[k] := ⟨_, rfl⟩
      rw [← hxo] at hst hxv
      have hxi : xo.idx = rows[k].idx := by rw [hxo]
      have hxc : rowCells xo = rowCells rows[k] := by rw [hxo]
      generalize rows[k] = x at *
      have i0 : (0 : Int) ≤ (k : Int) := by omega
      have i1 : (k : Int) < (rows.length : Int) := by omega
      obtain ⟨c0, c1, c2⟩ := hrow.head
      obtain ⟨idx, gen, has, vals, h8'⟩ := x
      obtain ⟨a0, a1, a2, a3, a4, a5, a6, a7, rfl⟩ := vals_eight h8'
      have v0 := hrow 3 (.int .i64 a0) rfl; have v1 := hrow 4 (.int .i64 a1) rfl; have v2 := hrow 5 (.int .i64 a2) rfl; have v3 := hrow 6 (.int .i64 a3) rfl; have v4 := hrow 7 (.int .i64 a4) rfl; have v5 := hrow 8 (.int .i64 a5) rfl; have v6 := hrow 9 (.int .i64 a6) rfl; have v7 := hrow 10 (.int .i64 a7) rfl
      simp only at c0 c1 c2 hxi
      have hxr : rowCells ⟨idx, gen, has, [a0, a1, a2, a3, a4, a5, a6, a7], h8'⟩ = [.int .i64 idx, .int .i64 gen, .int .i64 has, .int .i64 a0, .int .i64 a1, .int .i64 a2, .int .i64 a3, .int .i64 a4, .int .i64 a5, .int .i64 a6, .int .i64 a7] := rfl
      rw [hxr] at hxc
      have hE1 : Hid (E = (cur ++ if !D && decide (ri ≤ idx) then [ro] else []) ++ ((if idx != ri then [xo] else []) ++ withFrom ro (D || decide (ri ≤ idx)) (rows.drop (k + 1)))) := Lib.hid (by rw [hE.out, hst.out, hrid.out, hxi, List.append_assoc])
      replace hxc := Lib.hid hxc
      clear hrow hE hst hxr hxi hxo
      have H1 := H.new wr.heap.size rfl 51 [.int .i64 idx, .int .i64 gen, .int .i64 has, .int .i64 a0, .int .i64 a1, .int .i64 a2, .int .i64 a3, .int .i64 a4, .int .i64 a5, .int .i64 a6, .int .i64 a7]
      have e0 := H1.cell 1 0 rfl rfl
      go_upto_region 6 with fail
      go_cut [29] (fun s29 wx => s29 = .bool (!D && decide (ri ≤ idx)) ∧ wx = wr.alloc (.cells #[.int .i64 idx, .int .i64 gen, .int .i64 has, .int .i64 a0, .int .i64 a1, .int .i64 a2, .int .i64 a3, .int .i64 a4, .int .i64 a5, .int .i64 a6, .int .i64 a7] 51))
      case first =>
        cases D
        · have e00 := H.cell 1 0 rfl rfl; have l00 := H.lt 1 rfl
          go_wp2_with fail
          go_meet
          exact ⟨by simp, rfl⟩
        · go_wp2_with fail
          go_meet
          exact ⟨by simp, rfl⟩
      case rest =>
        obtain ⟨rfl, rfl⟩ := hcut
        obtain ⟨wa, hwa, H1⟩ := H1.name
        rw [hwa] at e0 ⊢
        have hga : wr.heap.size < wa.heap.size := H1.lt 5 rfl
        generalize wr.heap.size = gx at *
        clear hwa c0 c1 c2 v0 v1 v2 v3 v4 v5 v6 v7
        go_upto_if 29 with fail
        go_cut [6] (fun s6 wx => s6 = .bool (D || decide (ri ≤ idx)) ∧ ∃ A c cur1, cur1 = (cur ++ if !D && decide (ri ≤ idx) then [ro] else []) ∧
          Hp w wx [.box w.heap.size 25 [.slice (some ⟨b1', off, none⟩) rows.length cr, .slice Ag gens.length cg], .box (w.heap.size + 1) 51 [.int .i64 ri, .int .i64 rg, .int .i64 rh, .int .i64 b0, .int .i64 b1, .int .i64 b2, .int .i64 b3, .int .i64 b4, .int .i64 b5, .int .i64 b6, .int .i64 b7], .box (w.heap.size + 1 + 1) 25 [.slice none 0 0, .slice none 0 0], .box (w.heap.size + 1 + 1 + 1) 25 [.slice A cur1.length c, .slice Ag gens.length cg], .own (.slice A cur1.length c) 51 11 cur1.length (cur1.flatMap rowCells), .box gx 51 [.int .i64 idx, .int .i64 gen, .int .i64 has, .int .i64 a0, .int .i64 a1, .int .i64 a2, .int .i64 a3, .int .i64 a4, .int .i64 a5, .int .i64 a6, .int .i64 a7]])
        case first =>
          cases hC : (!D && decide (ri ≤ idx))
          · have hD : Hid (D = (D || decide (ri ≤ idx))) := Lib.hid (by revert hC; cases D <;> simp)
            go_wp2_with fail
            go_meet
            exact ⟨by rw [← hD.out], A, c, cur, by rw [hC]; simp, H1⟩
          · have hD : Hid ((D || decide (ri ≤ idx)) = true) := Lib.hid (by revert hC; cases D <;> simp)
            have q0 := H1.cell 3 0 rfl rfl; have q1 := H1.cell 3 1 rfl rfl
            have f0 := H1.cell 1 0 rfl rfl; have f1 := H1.cell 1 1 rfl rfl; have f2 := H1.cell 1 2 rfl rfl; have f3 := H1.cell 1 3 rfl rfl; have f4 := H1.cell 1 4 rfl rfl; have f5 := H1.cell 1 5 rfl rfl; have f6 := H1.cell 1 6 rfl rfl; have f7 := H1.cell 1 7 rfl rfl; have f8 := H1.cell 1 8 rfl rfl; have f9 := H1.cell 1 9 rfl rfl; have f10 := H1.cell 1 10 rfl rfl
            have HN := H1.new wa.heap.size rfl 51 [.int .i64 ri, .int .i64 rg, .int .i64 rh, .int .i64 b0, .int .i64 b1, .int .i64 b2, .int .i64 b3, .int .i64 b4, .int .i64 b5, .int .i64 b6, .int .i64 b7]
            go_wp2_with (at_builtin; refine wpList_append_own_at _ rfl _ _ 22 rfl w.heap.size 51 i0' (.agg #[.int .i64 0, .int .i64 0, .int .i64 0, .int .i64 0, .int .i64 0, .int .i64 0, .int .i64 0, .int .i64 0, .int .i64 0, .int .i64 0, .int .i64 0]) 11 88 Try.underlying22 hi0 hz0a hz0b hz0c rfl (by decide) _ _ _ rfl (HN.owns 4 rfl) ⟨wa.heap.size, 0, none⟩ 1 1 [.int .i64 ri, .int .i64 rg, .int .i64 rh, .int .i64 b0, .int .i64 b1, .int .i64 b2, .int .i64 b3, .int .i64 b4, .int .i64 b5, .int .i64 b6, .int .i64 b7] rfl rfl ?c1 ?c2 ?c3 ?c4 ?c5 ?_; rotate_left 5; intro v' w7 hown7 hgrow7 _ hat7; have H8 := HN.app 4 rfl hgrow7 hown7 (hat7.imp id (fun e g hg => by rw [e] at hg; injection hg with hg; omega)); have z0 := H8.cell 3 0 rfl rfl; have z1 := H8.cell 3 1 rfl rfl; have z2 := H8.frozen 3 1 rfl; have z3 := H8.frozen 3 0 rfl; obtain ⟨A3, c3, rfl, hs1, hs2⟩ := own_shape hown7)
            case c1 => exact news_blk (HN.blk 6 rfl)
            case c2 => simp [Value.oneCell']
            case c3 => unfold maxLen; omega
            case c4 => omega
            case c5 => exact HN.bel.size
            go_meet
            have hl : (cur ++ [ro]).length = cur.length + 1 := by simp
            refine ⟨by rw [hD.out], A3, c3, cur ++ [ro], by rw [hC]; simp, ?_⟩
            rw [hl, hsn.out, hrov.out]
            exact (H8.set 3 0 (.slice A3 (cur.length + 1) c3) rfl).drop1 6
        case rest =>
          obtain ⟨rfl, A4, c4, cur1, hcur1, H2⟩ := hcut
          have hE2 : Hid (E = cur1 ++ ((if idx != ri then [xo] else []) ++ withFrom ro (D || decide (ri ≤ idx)) (rows.drop (k + 1)))) := Lib.hid (by rw [hE1.out, hcur1])
          have hl1 : cur1.length ≤ 2 * k + 1 := by
            rw [hcur1, List.length_append]
            split <;> simp <;> omega
          generalize (D || decide (ri ≤ idx)) = D' at *
          clear hE1 hcur1 H1 e0 H
          have e0 := H2.cell 1 0 rfl rfl; have e1 := H2.cell 5 0 rfl rfl
          go_upto_if 42 with fail
          cases hC : (idx != ri)
          · have hE3 : Hid (E = cur1 ++ withFrom ro D' (rows.drop (k + 1))) := Lib.hid (by rw [hE2.out, hC]; simp)
            clear hE2
            go_wp2_with fail
            go_roundw
            case rel => exact ⟨k + 1, by omega, by go_num, D', A4, c4, cur1, rfl, by omega, hE3, H2.drop1 5⟩
            case measure => simp [intOf]; omega
          · have hE3 : Hid (E = (cur1 ++ [xo]) ++ withFrom ro D' (rows.drop (k + 1))) := Lib.hid (by rw [hE2.out, hC]; simp)
            obtain ⟨wb, hwb, H2⟩ := H2.name
            rw [hwb] at e0 e1 ⊢
            clear hwb hE2
            have q0 := H2.cell 3 0 rfl rfl; have q1 := H2.cell 3 1 rfl rfl
            have f1 := H2.cell 5 1 rfl rfl; have f2 := H2.cell 5 2 rfl rfl; have f3 := H2.cell 5 3 rfl rfl; have f4 := H2.cell 5 4 rfl rfl; have f5 := H2.cell 5 5 rfl rfl; have f6 := H2.cell 5 6 rfl rfl; have f7 := H2.cell 5 7 rfl rfl; have f8 := H2.cell 5 8 rfl rfl; have f9 := H2.cell 5 9 rfl rfl; have f10 := H2.cell 5 10 rfl rfl
            have HN := H2.new wb.heap.size rfl 51 [.int .i64 idx, .int .i64 gen, .int .i64 has, .int .i64 a0, .int .i64 a1, .int .i64 a2, .int .i64 a3, .int .i64 a4, .int .i64 a5, .int .i64 a6, .int .i64 a7]
            go_wp2_with (at_builtin; refine wpList_append_own_at _ rfl _ _ 22 rfl w.heap.size 51 i0' (.agg #[.int .i64 0, .int .i64 0, .int .i64 0, .int .i64 0, .int .i64 0, .int .i64 0, .int .i64 0, .int .i64 0, .int .i64 0, .int .i64 0, .int .i64 0]) 11 88 Try.underlying22 hi0 hz0a hz0b hz0c rfl (by decide) _ _ _ rfl (HN.owns 4 rfl) ⟨wb.heap.size, 0, none⟩ 1 1 [.int .i64 idx, .int .i64 gen, .int .i64 has, .int .i64 a0, .int .i64 a1, .int .i64 a2, .int .i64 a3, .int .i64 a4, .int .i64 a5, .int .i64 a6, .int .i64 a7] rfl rfl ?c1 ?c2 ?c3 ?c4 ?c5 ?_; rotate_left 5; intro v' w7 hown7 hgrow7 _ hat7; have H8 := HN.app 4 rfl hgrow7 hown7 (hat7.imp id (fun e g hg => by rw [e] at hg; injection hg with hg; omega)); have z0 := H8.cell 3 0 rfl rfl; have z1 := H8.cell 3 1 rfl rfl; have z2 := H8.frozen 3 1 rfl; have z3 := H8.frozen 3 0 rfl; obtain ⟨A3, c3, rfl, hs1, hs2⟩ := own_shape hown7)
            case c1 => exact news_blk (HN.blk 6 rfl)
            case c2 => simp [Value.oneCell']
            case c3 => unfold maxLen; omega
            case c4 => omega
            case c5 => exact HN.bel.size
            go_roundw
            have hl : (cur1 ++ [xo]).length = cur1.length + 1 := by simp
            case rel =>
              refine ⟨k + 1, by omega, by go_num, D', A3, c3, cur1 ++ [xo], rfl, by omega, hE3, ?_⟩
              rw [hl, hxv.out, hxc.out]
              exact ((H8.set 3 0 (.slice A3 (cur1.length + 1) c3) rfl).drop1 6).drop1 5
            case measure => simp [intOf]; omega
    · obtain rfl : k = rows.length := by omega
      have hE1 : Hid (E = cur ++ if D then [] else [ro]) := Lib.hid (by rw [hE.out, List.drop_length, hrnil.out])
      clear hE
      go_upto_if 51 with fail
      go_cut [] (fun wx => ∃ A c, Hp w wx [.box w.heap.size 25 [.slice Ar rows.length cr, .slice Ag gens.length cg], .box (w.heap.size + 1) 51 [.int .i64 ri, .int .i64 rg, .int .i64 rh, .int .i64 b0, .int .i64 b1, .int .i64 b2, .int .i64 b3, .int .i64 b4, .int .i64 b5, .int .i64 b6, .int .i64 b7], .box (w.heap.size + 1 + 1) 25 [.slice none 0 0, .slice none 0 0], .box (w.heap.size + 1 + 1 + 1) 25 [.slice A E.length c, .slice Ag gens.length cg], .own (.slice A E.length c) 51 11 E.length (E.flatMap rowCells)])
      case first =>
        cases D
        · have q0 := H.cell 3 0 rfl rfl; have q1 := H.cell 3 1 rfl rfl
          have f0 := H.cell 1 0 rfl rfl; have f1 := H.cell 1 1 rfl rfl; have f2 := H.cell 1 2 rfl rfl; have f3 := H.cell 1 3 rfl rfl; have f4 := H.cell 1 4 rfl rfl; have f5 := H.cell 1 5 rfl rfl; have f6 := H.cell 1 6 rfl rfl; have f7 := H.cell 1 7 rfl rfl; have f8 := H.cell 1 8 rfl rfl; have f9 := H.cell 1 9 rfl rfl; have f10 := H.cell 1 10 rfl rfl
          have HN := H.new wr.heap.size rfl 51 [.int .i64 ri, .int .i64 rg, .int .i64 rh, .int .i64 b0, .int .i64 b1, .int .i64 b2, .int .i64 b3, .int .i64 b4, .int .i64 b5, .int .i64 b6, .int .i64 b7]
          go_wp2_with (at_builtin; refine wpList_append_own_at _ rfl _ _ 22 rfl w.heap.size 51 i0' (.agg #[.int .i64 0, .int .i64 0, .int .i64 0, .int .i64 0, .int .i64 0, .int .i64 0, .int .i64 0, .int .i64 0, .int .i64 0, .int .i64 0, .int .i64 0]) 11 88 Try.underlying22 hi0 hz0a hz0b hz0c rfl (by decide) _ _ _ rfl (HN.owns 4 rfl) ⟨wr.heap.size, 0, none⟩ 1 1 [.int .i64 ri, .int .i64 rg, .int .i64 rh, .int .i64 b0, .int .i64 b1, .int .i64 b2, .int .i64 b3, .int .i64 b4, .int .i64 b5, .int .i64 b6, .int .i64 b7] rfl rfl ?c1 ?c2 ?c3 ?c4 ?c5 ?_; rotate_left 5; intro v' w7 hown7 hgrow7 _ hat7; have H8 := HN.app 4 rfl hgrow7 hown7 (hat7.imp id (fun e g hg => by rw [e] at hg; injection hg with hg; omega)); have z0 := H8.cell 3 0 rfl rfl; have z1 := H8.cell 3 1 rfl rfl; have z2 := H8.frozen 3 1 rfl; have z3 := H8.frozen 3 0 rfl; obtain ⟨A3, c3, rfl, hs1, hs2⟩ := own_shape hown7)
          case c1 => exact news_blk (HN.blk 5 rfl)
          case c2 => simp [Value.oneCell']
          case c3 => unfold maxLen; omega
          case c4 => omega
          case c5 => exact HN.bel.size
          go_meet
          have hl : E.length = cur.length + 1 := by rw [hE1.out]; simp
          have hf : E.flatMap rowCells = cur.flatMap rowCells ++ [.int .i64 ri, .int .i64 rg, .int .i64 rh, .int .i64 b0, .int .i64 b1, .int .i64 b2, .int .i64 b3, .int .i64 b4, .int .i64 b5, .int .i64 b6, .int .i64 b7] := by rw [hE1.out, if_neg (by simp), hsn.out, hrov.out]
          refine ⟨A3, c3, ?_⟩
          rw [hl, hf]
          exact (H8.set 3 0 (.slice A3 (cur.length + 1) c3) rfl).drop1 5
        · have hEc : E = cur := by rw [hE1.out]; simp
          go_wp2_with fail
          go_meet
          rw [hEc]
          exact ⟨A, c, H⟩
      case rest =>
        obtain ⟨A5, c5, H3⟩ := hcut
        clear H hE1
        have q0 := H3.cell 3 0 rfl rfl; have q1 := H3.cell 3 1 rfl rfl; have y0 := H3.frozen 2 0 rfl; have y1 := H3.frozen 2 1 rfl; have y2 := H3.cell 2 0 rfl rfl; have y3 := H3.cell 2 1 rfl rfl
        have H9 := (H3.set 2 0 (.slice A5 E.length c5) rfl).set 2 1 (.slice Ag gens.length cg) rfl
        have p0 := H9.cell 2 0 rfl rfl; have p1 := H9.cell 2 1 rfl rfl
        go_wp2_with fail
        refine bodyPost_ret (v := .agg #[.slice A5 E.length c5, .slice Ag gens.length cg]) (by simp [results, Try.results67, go_sem, p0, p1]) rfl ⟨⟨_, _, rfl, H9.owns 4 rfl⟩, H9.bel⟩
end Go.Proofs.Ytefdblaolmckmab

namespace Go.Proofs.Ytefdblaolmckmab
open Go.RowKit
open Brood
set_option linter.unusedVariables false
set_option linter.unusedSimpArgs false

set_option maxHeartbeats 1600000 in
theorem rbad_any (e i : Int) (b : Nat) (w : World) (h : Blk w b 3 #[.int .i64 i]) :
    Calls Try.prog 56 #[.int .i64 e, .pointer (some ⟨b, 0, none⟩)] w fun e' w' => e' = .returned (.agg #[.int .i64 e, .int .i64 i]) ∧ Below w.heap.size w w' := by
  have c0 := h.cell 0
  have hlt := h.lt
  simp at c0
  have H0 := (Hp.start w).new w.heap.size rfl 32 [.int .i64 0, .int .i64 0]
  have H1 := (H0.set 0 0 (.int .i64 e) rfl).set 0 1 (.int .i64 i) rfl
  have p0 := H1.cell 0 0 rfl rfl; have p1 := H1.cell 0 1 rfl rfl
  go_enter Try.func56, Try.ntmps56
  go_wp2_with fail
  refine bodyPost_ret (v := .agg #[.int .i64 e, .int .i64 i]) (by simp [results, Try.results56, go_sem]) rfl ⟨rfl, (Below.refl _ _).alloc (Nat.le_refl _) _⟩

def worldBox (w : World) (Ar : Option Addr) (nr cr : Nat) (Ag : Option Addr) (ng cg : Nat) : Ent := .box w.heap.size 25 [.slice Ar nr cr, .slice Ag ng cg]
set_option maxRecDepth 20000 in
set_option maxHeartbeats 12800000 in
theorem rwrong2_any (rows : List BRow) (gens : List Int) (Ar : Option Addr) (cr : Nat) (Ag : Option Addr) (cg : Nat) (hlenr : rows.length ≤ 9223372036854775807) (w : World) (hr : RdR w w.heap.size Ar rows) (hg : RdG w w.heap.size Ag gens) :
    Calls Try.prog 12 #[.agg #[.slice Ar rows.length cr, .slice Ag gens.length cg]] w fun e w' => e = .returned (.agg #[.int .i64 (worldErr ⟨rows, gens⟩).1, .int .i64 (worldErr ⟨rows, gens⟩).2]) ∧ Below w.heap.size w w' := by
  have hmf : ∀ (fn : Fn) (first cap : Array Value) (w : World), (Instr.makeFunc fn first cap).run Try.prog w = .ok (.func fn first cap) w := fun _ _ _ _ => rfl
  have H0 := ((Hp.start w).new w.heap.size rfl 25 [.slice Ar rows.length cr, .slice Ag gens.length cg]).new (w.heap.size + 1) (by simp) 32 [.int .i64 0, .int .i64 0]
  have hwe : Hid (worldErr ⟨rows, gens⟩ = if (gensErr gens).1 ≠ 0 then gensErr gens else rowsFrom gens 0 none rows) := Lib.hid rfl
  generalize worldErr ⟨rows, gens⟩ = E at *
  by_cases hlen : 60 < gens.length
  · have hE : Hid (E = (4, 0)) := Lib.hid (by rw [hwe.out]; simp [gensErr, hlen])
    clear hwe
    go_enter Try.func12, Try.ntmps12
    go_wp2_with fail
    refine bodyPost_ret (v := .agg #[.int .i64 4, .int .i64 0]) (by simp [results, Try.results12, go_sem]) rfl ⟨by rw [hE.out], ?_⟩
    exact ((Below.refl _ _).alloc (Nat.le_refl _) _).alloc (by simp) _
  have hgf : Hid (gensErr gens = gensFrom 0 (gens.drop 0)) := Lib.hid (by simp [gensErr, hlen])
  go_enter Try.func12, Try.ntmps12
  go_wp2_with fail
  go_loopw [19] (fun q wr => ∃ k : Nat, k ≤ gens.length ∧ q = .int .i64 k ∧ Hid (gensErr gens = gensFrom k (gens.drop k)) ∧ Hp w wr [.box w.heap.size 25 [.slice Ar rows.length cr, .slice Ag gens.length cg], .box (w.heap.size + 1) 32 [.int .i64 0, .int .i64 0]]) (fun q _ => gens.length - (intOf q).toNat)
  case atStart => exact ⟨0, by omega, rfl, hgf, H0⟩
  case round =>
    clear H0 hgf
    obtain ⟨k, hk, rfl, hgf, H⟩ := hrel
    have f0 := H.cell 1 0 rfl rfl; have f1 := H.cell 1 1 rfl rfl; have z0 := H.frozen 1 0 rfl; have z1 := H.frozen 1 1 rfl
    by_cases hlt : k < gens.length
    · have hR1 : RdG wr w.heap.size Ag gens := Rd.under hg H.bel (Nat.le_refl _)
      obtain ⟨b1, off, rfl, hb1, c0⟩ := hR1.at_ hlt
      have hst := Lib.hid (drop_cons hlt)
      clear hR1
      generalize gens[k] = n at *
      have i0 : (0 : Int) ≤ (k : Int) := by omega
      have i1 : (k : Int) < (gens.length : Int) := by omega
      have H2 := (H.set 1 0 (.int .i64 3) rfl).set 1 1 (.int .i64 (k : Int)) rfl
      have p0 := H2.cell 1 0 rfl rfl; have p1 := H2.cell 1 1 rfl rfl
      by_cases h1 : n < 1
      · have hE : Hid (E = (3, (k : Int))) := Lib.hid (by
          have hgn : gensFrom k (n :: gens.drop (k + 1)) = (3, (k : Int)) := by rw [gensFrom, if_pos (.inl h1)]
          rw [hwe.out, hgf.out, hst.out, hgn]; simp)
        go_wp2_with fail
        refine bodyPost_ret (v := .agg #[.int .i64 3, .int .i64 (k : Int)]) (by simp [results, Try.results12, go_sem, p0, p1]) rfl ⟨by rw [hE.out], H2.bel⟩
      by_cases h2 : 1000 < n
      · have hE : Hid (E = (3, (k : Int))) := Lib.hid (by
          have hgn : gensFrom k (n :: gens.drop (k + 1)) = (3, (k : Int)) := by rw [gensFrom, if_pos (.inr h2)]
          rw [hwe.out, hgf.out, hst.out, hgn]; simp)
        go_wp2_with fail
        refine bodyPost_ret (v := .agg #[.int .i64 3, .int .i64 (k : Int)]) (by simp [results, Try.results12, go_sem, p0, p1]) rfl ⟨by rw [hE.out], H2.bel⟩
      have hnext : Hid (gensErr gens = gensFrom (k + 1) (gens.drop (k + 1))) := Lib.hid (by rw [hgf.out, hst.out, gensFrom, if_neg (by omega)])
      clear H2 p0 p1
      go_wp2_with fail
      go_roundw
      case rel => exact ⟨k + 1, by omega, by go_num, hnext, H⟩
      case measure => simp [intOf]; omega
    · obtain rfl : k = gens.length := by omega
      have hE : Hid (E = rowsFrom gens 0 (prevOf rows 0) (rows.drop 0)) := Lib.hid (by rw [hwe.out, hgf.out, List.drop_length]; simp [gensFrom, prevOf])
      clear hwe hgf
      have e0 := H.cell 0 0 rfl rfl; have e1 := H.cell 0 1 rfl rfl
      go_wp2_with fail
      go_loopw [36] (fun q wx => ∃ k : Nat, k ≤ rows.length ∧ q = .int .i64 k ∧ Hid (E = rowsFrom gens k (prevOf rows k) (rows.drop k)) ∧ Hp w wx [.box w.heap.size 25 [.slice Ar rows.length cr, .slice Ag gens.length cg], .box (w.heap.size + 1) 32 [.int .i64 0, .int .i64 0]]) (fun q _ => rows.length - (intOf q).toNat)
      case atStart => exact ⟨0, by omega, rfl, hE, H⟩
      case round =>
        clear H hE e0 e1 f0 f1 z0 z1
        obtain ⟨k, hk, rfl, hE, H⟩ := hrel
        have f0 := H.cell 1 0 rfl rfl; have f1 := H.cell 1 1 rfl rfl; have z0 := H.frozen 1 0 rfl; have z1 := H.frozen 1 1 rfl
        have e0 := H.cell 0 0 rfl rfl; have e1 := H.cell 0 1 rfl rfl
        by_cases hlt : k < rows.length
        · have hR1 : RdR wr w.heap.size Ar rows := Rd.under hr H.bel (Nat.le_refl _)
          have hG1 : RdG wr w.heap.size Ag gens := Rd.under hg H.bel (Nat.le_refl _)
          obtain ⟨b, off, rfl, hb, hrow⟩ := hR1.at_ hlt
          have hst := Lib.hid (drop_cons hlt)
          have hpn : Hid (prevOf rows (k + 1) = some rows[k].idx) := Lib.hid (by simp [prevOf, List.getElem?_eq_getElem hlt])
          have hprev : ∀ k', k = k' + 1 → ∃ z : Int, prevOf rows k = some z ∧ wr.cell? ⟨b, off + k' * 11, none⟩ = some (.int .i64 z) := by
            rintro k' rfl
            have hk' : k' < rows.length := by omega
            obtain ⟨b', off', hbo, _, hrow'⟩ := hR1.at_ hk'
            injection hbo with hbo
            injection hbo with hbo1 hbo2
            subst hbo1 hbo2
            exact ⟨rows[k'].idx, by simp [prevOf, List.getElem?_eq_getElem hk'], hrow'.head.1⟩
          have hgat : ∀ ix : Nat, ix < gens.length → ∃ bg og z, Ag = some ⟨bg, og, none⟩ ∧ bg < w.heap.size ∧ gens.getD ix 0 = z ∧ wr.cell? ⟨bg, og + ix, none⟩ = some (.int .i64 z) := by
            intro ix hlx
            obtain ⟨bg, og, he, hbg, hcg⟩ := hG1.at_ hlx
            exact ⟨bg, og, gens[ix], he, hbg, by simp [List.getD_eq_getElem?_getD, hlx], hcg⟩
          have hrf := Lib.hid (show rowsFrom gens k (prevOf rows k) (rows[k] :: rows.drop (k + 1)) = (if rowErr rows[k] ≠ 0 then (rowErr rows[k], (k : Int)) else if rows[k].idx < 0 ∨ (gens.length : Int) ≤ rows[k].idx then (3, (k : Int)) else if prevGe (prevOf rows k) rows[k].idx = true then (2, (k : Int)) else if rows[k].gen ≠ gens.getD rows[k].idx.toNat 0 then (7, (k : Int)) else rowsFrom gens (k + 1) (some rows[k].idx) (rows.drop (k + 1))) from by rw [rowsFrom])
          rw [← hst.out, ← hE.out] at hrf
          have hre : Hid (rowErr rows[k] = if isSet rows[k].has && !valsBad rows[k].has 0 rows[k].vals then 0 else 3) := Lib.hid rfl
          replace hprev := Lib.hid hprev
          replace hgat := Lib.hid hgat
          clear hR1 hG1 hst hE
          generalize rows[k] = r at *
          have i0 : (0 : Int) ≤ (k : Int) := by omega
          have i1 : (k : Int) < (rows.length : Int) := by omega
          obtain ⟨c0, c1, c2⟩ := hrow.head
          generalize rowErr r = re at *
          obtain ⟨idx, gen, has, vals, h8⟩ := r
          obtain ⟨a0, a1, a2, a3, a4, a5, a6, a7, rfl⟩ := vals_eight h8
          simp only at c0 c1 c2 hrf hre hpn
          have v0 := hrow 3 (.int .i64 a0) rfl; have v1 := hrow 4 (.int .i64 a1) rfl; have v2 := hrow 5 (.int .i64 a2) rfl; have v3 := hrow 6 (.int .i64 a3) rfl; have v4 := hrow 7 (.int .i64 a4) rfl; have v5 := hrow 8 (.int .i64 a5) rfl; have v6 := hrow 9 (.int .i64 a6) rfl; have v7 := hrow 10 (.int .i64 a7) rfl
          clear hrow
          have H3 := (H.new wr.heap.size rfl 3 [.int .i64 (k : Int)]).new (wr.heap.size + 1) (by simp) 51 [.int .i64 idx, .int .i64 gen, .int .i64 has, .int .i64 a0, .int .i64 a1, .int .i64 a2, .int .i64 a3, .int .i64 a4, .int .i64 a5, .int .i64 a6, .int .i64 a7]
          obtain ⟨wo, rfl⟩ : ∃ wo : World, wo = wr := ⟨_, rfl⟩
          have hbw3 : Below wo.heap.size wo ((wo.alloc (.cells #[.int .i64 (k : Int)] 3)).alloc (.cells #[.int .i64 idx, .int .i64 gen, .int .i64 has, .int .i64 a0, .int .i64 a1, .int .i64 a2, .int .i64 a3, .int .i64 a4, .int .i64 a5, .int .i64 a6, .int .i64 a7] 51)) := ((Below.refl _ _).alloc (Nat.le_refl _) _).alloc (by simp) _
          go_wp2_with fail
          clear c0 c1 c2 v0 v1 v2 v3 v4 v5 v6 v7 f0 f1 z0 z1 e0 e1
          refine (rset_any has _).mono ?_
          rintro e w3 ⟨rfl, hw3⟩
          rw [hw3] at H3 hbw3
          clear hw3
          cases hs : isSet has
          case false =>
            have y0 := H3.frozen 1 0 rfl; have y1 := H3.frozen 1 1 rfl
            have hE2 : Hid (E = (3, (k : Int))) := Lib.hid (by rw [hrf.out, hre.out, hs]; rfl)
            go_wp2_with fail
            refine (rbad_any 3 (k : Int) wo.heap.size _ (H3.blk 2 rfl)).mono ?_
            rintro e w9 ⟨rfl, hb9⟩
            replace H3 := H3.grow hb9
            have y0 := H3.frozen 1 0 rfl; have y1 := H3.frozen 1 1 rfl; have y2 := H3.cell 1 0 rfl rfl; have y3 := H3.cell 1 1 rfl rfl
            have H9 := (H3.set 1 0 (.int .i64 3) rfl).set 1 1 (.int .i64 (k : Int)) rfl
            have p0 := H9.cell 1 0 rfl rfl; have p1 := H9.cell 1 1 rfl rfl
            go_wp2_with fail
            refine bodyPost_ret (v := .agg #[.int .i64 3, .int .i64 (k : Int)]) (by simp [results, Try.results12, go_sem, p0, p1]) rfl ⟨by rw [hE2.out], H9.bel⟩
          case true =>
            have x0 := H3.cell 3 0 rfl rfl; have x1 := H3.cell 3 1 rfl rfl; have x2 := H3.cell 3 2 rfl rfl; have x3 := H3.cell 3 3 rfl rfl; have x4 := H3.cell 3 4 rfl rfl; have x5 := H3.cell 3 5 rfl rfl; have x6 := H3.cell 3 6 rfl rfl; have x7 := H3.cell 3 7 rfl rfl; have x8 := H3.cell 3 8 rfl rfl; have x9 := H3.cell 3 9 rfl rfl; have x10 := H3.cell 3 10 rfl rfl
            go_wp2_with fail
            clear x0 x1 x2 x3 x4 x5 x6 x7 x8 x9 x10
            have hre2 : Hid (re = if valsBad has 0 [a0, a1, a2, a3, a4, a5, a6, a7] then 3 else 0) := Lib.hid (by
              rw [hre.out, hs, Bool.true_and]
              cases valsBad has 0 [a0, a1, a2, a3, a4, a5, a6, a7] <;> rfl)
            clear hre
            have hL : ([a0, a1, a2, a3, a4, a5, a6, a7] : List Int).length = 8 := rfl
            have hst := Lib.hid (fun k hk => @valsBad_drop has [a0, a1, a2, a3, a4, a5, a6, a7] k hk)
            have hvv2 : Hid (∀ (q : Nat) (hq : q < ([a0, a1, a2, a3, a4, a5, a6, a7] : List Int).length) (W : World), (Instr.index 49 (.agg #[.int .i64 a0, .int .i64 a1, .int .i64 a2, .int .i64 a3, .int .i64 a4, .int .i64 a5, .int .i64 a6, .int .i64 a7]) (.int .i64 (q : Int))).run Try.prog W = .ok (.int .i64 (([a0, a1, a2, a3, a4, a5, a6, a7] : List Int)[q]'hq)) W) := Lib.hid (fun q hq W => vals_at (vs := [a0, a1, a2, a3, a4, a5, a6, a7]) rfl (by simpa using hq) W)
            obtain ⟨L, hLe⟩ : ∃ L : List Int, L = [a0, a1, a2, a3, a4, a5, a6, a7] := ⟨_, rfl⟩
            have hvv : Hid (∀ (q : Nat) (hq : q < L.length) (W : World), (Instr.index 49 (.agg #[.int .i64 a0, .int .i64 a1, .int .i64 a2, .int .i64 a3, .int .i64 a4, .int .i64 a5, .int .i64 a6, .int .i64 a7]) (.int .i64 (q : Int))).run Try.prog W = .ok (.int .i64 (L[q]'hq)) W) := by subst hLe; exact hvv2
            rw [← hLe] at hre2 hst hL
            clear hvv2 hLe
            go_loopw [50] (fun q wx => ∃ j : Nat, j ≤ 8 ∧ q = .int .i64 j ∧ Hid (valsBad has 0 L = valsBad has j (L.drop j)) ∧ Below wo.heap.size wo wx ∧ Hp w wx [.box w.heap.size 25 [.slice (some ⟨b, off, none⟩) rows.length cr, .slice Ag gens.length cg], .box (w.heap.size + 1) 32 [.int .i64 0, .int .i64 0], .box wo.heap.size 3 [.int .i64 (k : Int)], .box (wo.heap.size + 1) 51 [.int .i64 idx, .int .i64 gen, .int .i64 has, .int .i64 a0, .int .i64 a1, .int .i64 a2, .int .i64 a3, .int .i64 a4, .int .i64 a5, .int .i64 a6, .int .i64 a7]]) (fun q _ => 8 - (intOf q).toNat)
            case atStart => exact ⟨0, by omega, rfl, Lib.hid (by simp), hbw3, H3⟩
            case round =>
              clear H3 hbw3
              obtain ⟨j, hj, rfl, heq, hbw, H3⟩ := hrel
              by_cases hlt8 : j < 8
              · have hjL : j < L.length := by omega
                have hix := hvv.out j hjL
                have hst3 := Lib.hid (hst.out j hjL)
                generalize L[j] = z at *
                have hvb : Hid (valBad has j z = (!isVal z || (decide (z ≠ 0) && !hasB has (j : Int)))) := Lib.hid rfl
                have x2 := H3.cell 3 2 rfl rfl
                have j0 : (0 : Int) ≤ (j : Int) := by omega
                have j8 : (j : Int) < 8 := by omega
                go_wp2_with fail
                refine (rvalue_any z _).mono ?_
                rintro e w4 ⟨rfl, rfl⟩
                cases q1 : isVal z
                case false =>
                  have hf : Hid (valsBad has 0 L = true) := Lib.hid (by rw [heq.out, hst3.out, hvb.out, q1]; rfl)
                  have hE2 : Hid (E = (3, (k : Int))) := Lib.hid (by rw [hrf.out, hre2.out, hf.out]; rfl)
                  go_wp2_with fail
                  refine (rbad_any 3 (k : Int) wo.heap.size _ (H3.blk 2 rfl)).mono ?_
                  rintro e w9 ⟨rfl, hb9⟩
                  replace H3 := H3.grow hb9
                  have y0 := H3.frozen 1 0 rfl; have y1 := H3.frozen 1 1 rfl; have y2 := H3.cell 1 0 rfl rfl; have y3 := H3.cell 1 1 rfl rfl
                  have H9 := (H3.set 1 0 (.int .i64 3) rfl).set 1 1 (.int .i64 (k : Int)) rfl
                  have p0 := H9.cell 1 0 rfl rfl; have p1 := H9.cell 1 1 rfl rfl
                  go_wp2_with fail
                  refine bodyPost_ret (v := .agg #[.int .i64 3, .int .i64 (k : Int)]) (by simp [results, Try.results12, go_sem, p0, p1]) rfl ⟨by rw [hE2.out], H9.bel⟩
                case true =>
                  by_cases q2 : z = 0
                  · subst q2
                    have hf : Hid (valsBad has 0 L = valsBad has (j + 1) (L.drop (j + 1))) := Lib.hid (by rw [heq.out, hst3.out, hvb.out, q1]; rfl)
                    go_wp2_with fail
                    go_roundw
                    case rel => exact ⟨j + 1, by omega, by go_num, hf, hbw, H3⟩
                    case measure => simp [intOf]; omega
                  · have q2' : (z != 0) = true := by simpa using q2
                    go_wp2_with fail
                    refine (rhas_any has (j : Int) hs _).mono ?_
                    rintro e w4 ⟨rfl, hb4⟩
                    replace hbw := grow_below hbw hb4
                    replace H3 := H3.grow hb4
                    clear x2
                    cases q3 : hasB has (j : Int)
                    case false =>
                      have hf : Hid (valsBad has 0 L = true) := Lib.hid (by rw [heq.out, hst3.out, hvb.out, q1, q3]; simp [q2])
                      have hE2 : Hid (E = (3, (k : Int))) := Lib.hid (by rw [hrf.out, hre2.out, hf.out]; rfl)
                      go_wp2_with fail
                      refine (rbad_any 3 (k : Int) wo.heap.size _ (H3.blk 2 rfl)).mono ?_
                      rintro e w9 ⟨rfl, hb9⟩
                      replace H3 := H3.grow hb9
                      have y0 := H3.frozen 1 0 rfl; have y1 := H3.frozen 1 1 rfl; have y2 := H3.cell 1 0 rfl rfl; have y3 := H3.cell 1 1 rfl rfl
                      have H9 := (H3.set 1 0 (.int .i64 3) rfl).set 1 1 (.int .i64 (k : Int)) rfl
                      have p0 := H9.cell 1 0 rfl rfl; have p1 := H9.cell 1 1 rfl rfl
                      go_wp2_with fail
                      refine bodyPost_ret (v := .agg #[.int .i64 3, .int .i64 (k : Int)]) (by simp [results, Try.results12, go_sem, p0, p1]) rfl ⟨by rw [hE2.out], H9.bel⟩
                    case true =>
                      have hf : Hid (valsBad has 0 L = valsBad has (j + 1) (L.drop (j + 1))) := Lib.hid (by rw [heq.out, hst3.out, hvb.out, q1, q3]; simp)
                      go_wp2_with fail
                      go_roundw
                      case rel => exact ⟨j + 1, by omega, by go_num, hf, hbw, H3⟩
                      case measure => simp [intOf]; omega
              · obtain rfl : j = 8 := by omega
                have hf : Hid (valsBad has 0 L = false) := Lib.hid (by rw [heq.out, ← hL, List.drop_length]; rfl)
                have hrf2 : Hid (E = if idx < 0 ∨ (gens.length : Int) ≤ idx then (3, (k : Int)) else if prevGe (prevOf rows k) idx = true then (2, (k : Int)) else if gen ≠ gens.getD idx.toNat 0 then (7, (k : Int)) else rowsFrom gens (k + 1) (some idx) (rows.drop (k + 1))) := Lib.hid (by rw [hrf.out, hre2.out, hf.out]; rfl)
                clear hrf hre2 hf hvv heq hst
                have x0 := H3.cell 3 0 rfl rfl; have x1 := H3.cell 3 1 rfl rfl
                have e0 := H3.cell 0 0 rfl rfl; have e1 := H3.cell 0 1 rfl rfl; have e2 := H3.cell 2 0 rfl rfl
                by_cases h1 : idx < 0
                · have hE2 : Hid (E = (3, (k : Int))) := Lib.hid (by rw [hrf2.out, if_pos (.inl h1)])
                  go_wp2_with fail
                  refine (rbad_any 3 (k : Int) wo.heap.size _ (H3.blk 2 rfl)).mono ?_
                  rintro e w9 ⟨rfl, hb9⟩
                  replace H3 := H3.grow hb9
                  have y0 := H3.frozen 1 0 rfl; have y1 := H3.frozen 1 1 rfl; have y2 := H3.cell 1 0 rfl rfl; have y3 := H3.cell 1 1 rfl rfl
                  have H9 := (H3.set 1 0 (.int .i64 3) rfl).set 1 1 (.int .i64 (k : Int)) rfl
                  have p0 := H9.cell 1 0 rfl rfl; have p1 := H9.cell 1 1 rfl rfl
                  go_wp2_with fail
                  refine bodyPost_ret (v := .agg #[.int .i64 3, .int .i64 (k : Int)]) (by simp [results, Try.results12, go_sem, p0, p1]) rfl ⟨by rw [hE2.out], H9.bel⟩
                by_cases h2 : (gens.length : Int) ≤ idx
                · have hE2 : Hid (E = (3, (k : Int))) := Lib.hid (by rw [hrf2.out, if_pos (.inr h2)])
                  go_wp2_with fail
                  refine (rbad_any 3 (k : Int) wo.heap.size _ (H3.blk 2 rfl)).mono ?_
                  rintro e w9 ⟨rfl, hb9⟩
                  replace H3 := H3.grow hb9
                  have y0 := H3.frozen 1 0 rfl; have y1 := H3.frozen 1 1 rfl; have y2 := H3.cell 1 0 rfl rfl; have y3 := H3.cell 1 1 rfl rfl
                  have H9 := (H3.set 1 0 (.int .i64 3) rfl).set 1 1 (.int .i64 (k : Int)) rfl
                  have p0 := H9.cell 1 0 rfl rfl; have p1 := H9.cell 1 1 rfl rfl
                  go_wp2_with fail
                  refine bodyPost_ret (v := .agg #[.int .i64 3, .int .i64 (k : Int)]) (by simp [results, Try.results12, go_sem, p0, p1]) rfl ⟨by rw [hE2.out], H9.bel⟩
                obtain ⟨ix, rfl⟩ := nat_of (n := idx) (by omega)
                have hixl : ix < gens.length := by omega
                obtain ⟨bg, og, z, rfl, hbg, hz, hcz⟩ := hgat.out ix hixl
                have hrf3 : Hid (E = if prevGe (prevOf rows k) (ix : Int) = true then (2, (k : Int)) else if gen ≠ z then (7, (k : Int)) else rowsFrom gens (k + 1) (some (ix : Int)) (rows.drop (k + 1))) := Lib.hid (by
                  rw [hrf2.out, if_neg (by omega), Int.toNat_natCast, hz])
                have hwl := H.bel.size
                replace hcz := (hbw.cell (p := ⟨bg, og + ix, none⟩) (by simp only; omega)).trans hcz
                have ix0 : (0 : Int) ≤ (ix : Int) := by omega
                have ix1 : (ix : Int) < (gens.length : Int) := by omega
                clear hrf2 hgat hz
                go_upto_region 24 with fail
                go_cut [98] (fun s98 wx => s98 = .bool (prevGe (prevOf rows k) (ix : Int)) ∧ wx = wr)
                case first =>
                  clear hrf3
                  cases k with
                  | zero =>
                    go_wp2_with fail
                    go_meet
                    exact ⟨by simp [prevOf, prevGe], rfl⟩
                  | succ k' =>
                    obtain ⟨q, hq, hcq⟩ := hprev.out k' rfl
                    have hqv : Hid (prevGe (prevOf rows (k' + 1)) (ix : Int) = decide ((ix : Int) ≤ q)) := Lib.hid (by rw [hq]; rfl)
                    have hwrap : IntKind.i64.wrap (((k' + 1 : Nat) : Int) - 1) = (k' : Int) := by rw [IntKind.wrap_i64]; omega
                    have hkp : (0 : Int) < ((k' + 1 : Nat) : Int) := by omega
                    have k0 : (0 : Int) ≤ (k' : Int) := by omega
                    have k1 : (k' : Int) < (rows.length : Int) := by omega
                    replace hcq := (hbw.cell (p := ⟨b, off + k' * 11, none⟩) (by simp only; omega)).trans hcq
                    clear hq
                    go_wp2_with fail
                    go_meet
                    exact ⟨by rw [hqv.out], rfl⟩
                case rest =>
                  obtain ⟨rfl, rfl⟩ := hcut
                  cases hpg : prevGe (prevOf rows k) (ix : Int)
                  case true =>
                    have hE2 : Hid (E = (2, (k : Int))) := Lib.hid (by rw [hrf3.out, if_pos hpg])
                    go_wp2_with fail
                    refine (rbad_any 2 (k : Int) wo.heap.size _ (H3.blk 2 rfl)).mono ?_
                    rintro e w9 ⟨rfl, hb9⟩
                    replace H3 := H3.grow hb9
                    have y0 := H3.frozen 1 0 rfl; have y1 := H3.frozen 1 1 rfl; have y2 := H3.cell 1 0 rfl rfl; have y3 := H3.cell 1 1 rfl rfl
                    have H9 := (H3.set 1 0 (.int .i64 2) rfl).set 1 1 (.int .i64 (k : Int)) rfl
                    have p0 := H9.cell 1 0 rfl rfl; have p1 := H9.cell 1 1 rfl rfl
                    go_wp2_with fail
                    refine bodyPost_ret (v := .agg #[.int .i64 2, .int .i64 (k : Int)]) (by simp [results, Try.results12, go_sem, p0, p1]) rfl ⟨by rw [hE2.out], H9.bel⟩
                  case false =>
                    have hrf4 : Hid (E = if gen ≠ z then (7, (k : Int)) else rowsFrom gens (k + 1) (some (ix : Int)) (rows.drop (k + 1))) := Lib.hid (by rw [hrf3.out, if_neg (by rw [hpg]; decide)])
                    clear hrf3
                    go_upto_region 26 with fail
                    go_cut [109] (fun s109 wx => s109 = .bool (z != gen) ∧ ∃ m, wx = wc.drewN m)
                    case first =>
                      go_quiet (fail)
                      go_wp2_with fail
                      go_meet
                      exact ⟨rfl, _, rfl⟩
                    case rest =>
                      obtain ⟨rfl, m, rfl⟩ := hcut
                      replace H3 := H3.drewN m
                      clear x0 x1 e0 e1 e2 hcz
                      by_cases hgz : gen = z
                      · subst hgz
                        have hnext : Hid (E = rowsFrom gens (k + 1) (prevOf rows (k + 1)) (rows.drop (k + 1))) := Lib.hid (by rw [hrf4.out, if_neg (by simp), hpn.out])
                        go_wp2_with fail
                        go_roundw
                        case rel => exact ⟨k + 1, by omega, by go_num, hnext, H3.sub (by simp)⟩
                        case measure => simp [intOf]; omega
                      · have hgz' : (z != gen) = true := by simpa using Ne.symm hgz
                        have hE2 : Hid (E = (7, (k : Int))) := Lib.hid (by rw [hrf4.out, if_pos hgz])
                        go_wp2_with fail
                        refine (rbad_any 7 (k : Int) wo.heap.size _ (H3.blk 2 rfl)).mono ?_
                        rintro e w9 ⟨rfl, hb9⟩
                        replace H3 := H3.grow hb9
                        have y0 := H3.frozen 1 0 rfl; have y1 := H3.frozen 1 1 rfl; have y2 := H3.cell 1 0 rfl rfl; have y3 := H3.cell 1 1 rfl rfl
                        have H9 := (H3.set 1 0 (.int .i64 7) rfl).set 1 1 (.int .i64 (k : Int)) rfl
                        have p0 := H9.cell 1 0 rfl rfl; have p1 := H9.cell 1 1 rfl rfl
                        go_wp2_with fail
                        refine bodyPost_ret (v := .agg #[.int .i64 7, .int .i64 (k : Int)]) (by simp [results, Try.results12, go_sem, p0, p1]) rfl ⟨by rw [hE2.out], H9.bel⟩
        · obtain rfl : k = rows.length := by omega
          have hE2 : Hid (E = (0, 0)) := Lib.hid (by rw [hE.out, List.drop_length]; rfl)
          have H2 := (H.set 1 0 (.int .i64 0) rfl).set 1 1 (.int .i64 0) rfl
          have p0 := H2.cell 1 0 rfl rfl; have p1 := H2.cell 1 1 rfl rfl
          go_wp2_with fail
          refine bodyPost_ret (v := .agg #[.int .i64 0, .int .i64 0]) (by simp [results, Try.results12, go_sem, p0, p1]) rfl ⟨by rw [hE2.out], H2.bel⟩
end Go.Proofs.Ytefdblaolmckmab

namespace Go.Proofs.Ytefdblaolmckmab
open Go.RowKit
open Brood
set_option linter.unusedVariables false
set_option linter.unusedSimpArgs false

theorem all_idx (rows : List BRow) (i : Int) : (rows.all fun r => r.idx != i) = !(rows.map (·.idx)).contains i := by
  induction rows with
  | nil => rfl
  | cons r l ih =>
    rw [List.all_cons, ih, List.map_cons, List.contains_cons, Bool.not_or]
    congr 1
    rw [bne, BEq.comm]
theorem all_take {rows : List BRow} {j : Nat} (hj : j < rows.length) (f : BRow → Bool) : ((rows.take (j + 1)).all f) = ((rows.take j).all f && f rows[j]) := by
  rw [List.take_add_one, List.getElem?_eq_getElem hj, List.all_append]
  simp

set_option maxRecDepth 20000 in
set_option maxHeartbeats 6400000 in
theorem rnext_any (rows : List BRow) (gens : List Int) (Ar : Option Addr) (cr : Nat) (Ag : Option Addr) (cg : Nat) (hlr : rows.length ≤ 9223372036854775807) (hlg : gens.length ≤ 9223372036854775807) (hwg : ∀ n ∈ gens, -9223372036854775808 ≤ n) (w : World) (hr : RdR w w.heap.size Ar rows) (hg : RdG w w.heap.size Ag gens) :
    Calls Try.prog 16 #[.agg #[.slice Ar rows.length cr, .slice Ag gens.length cg]] w fun e w' => e = .returned (.tuple #[.agg #[.int .i64 (nextV rows gens).1, .int .i64 (nextV rows gens).2.1], .int .i64 (nextV rows gens).2.2]) ∧ Below w.heap.size w w' := by
  have H0 := ((Hp.start w).new w.heap.size rfl 25 [.slice Ar rows.length cr, .slice Ag gens.length cg]).new (w.heap.size + 1) (by simp) 27 [.int .i64 0, .int .i64 0]
  have hE : Hid (nextV rows gens = match nextFrom (rows.map (·.idx)) 0 (gens.drop 0) with
      | some p => (p.1, p.2, 0)
      | none => if 60 ≤ gens.length then (0, 0, 4) else ((gens.length : Int), 1, 0)) := Lib.hid rfl
  generalize nextV rows gens = E at *
  go_enter Try.func16, Try.ntmps16
  go_wp2_with fail
  go_loopw [12] (fun q wr => ∃ k : Nat, k ≤ gens.length ∧ q = .int .i64 k ∧ Hid (E = match nextFrom (rows.map (·.idx)) k (gens.drop k) with
      | some p => (p.1, p.2, 0)
      | none => if 60 ≤ gens.length then (0, 0, 4) else ((gens.length : Int), 1, 0)) ∧ Hp w wr [.box w.heap.size 25 [.slice Ar rows.length cr, .slice Ag gens.length cg], .box (w.heap.size + 1) 27 [.int .i64 0, .int .i64 0]]) (fun q _ => gens.length - (intOf q).toNat)
  case atStart => exact ⟨0, by omega, rfl, hE, H0⟩
  case round =>
    clear H0 hE
    obtain ⟨k, hk, rfl, hE, H⟩ := hrel
    have e0 := H.cell 0 0 rfl rfl; have e1 := H.cell 0 1 rfl rfl
    by_cases hlt : k < gens.length
    · have hR1 : RdG wr w.heap.size Ag gens := Rd.under hg H.bel (Nat.le_refl _)
      obtain ⟨b1, off, rfl, hb1, c0⟩ := hR1.at_ hlt
      have hst := Lib.hid (drop_cons hlt)
      have hn0 := hwg _ (List.getElem_mem hlt)
      clear hR1
      generalize gens[k] = n at *
      have i0 : (0 : Int) ≤ (k : Int) := by omega
      have i1 : (k : Int) < (gens.length : Int) := by omega
      go_wp2_with fail
      go_loopw [6, 22] (fun s6 q wx => ∃ j : Nat, j ≤ rows.length ∧ q = .int .i64 j ∧ s6 = .bool (decide (n < 1000) && ((rows.take j).all fun r => r.idx != (k : Int))) ∧ Hp w wx [.box w.heap.size 25 [.slice Ar rows.length cr, .slice (some ⟨b1, off, none⟩) gens.length cg], .box (w.heap.size + 1) 27 [.int .i64 0, .int .i64 0]]) (fun _ q _ => rows.length - (intOf q).toNat)
      case atStart => exact ⟨0, by omega, rfl, by simp, H⟩
      case round =>
        clear H e0 e1 c0
        obtain ⟨j, hj, rfl, rfl, H⟩ := hrel
        by_cases hltj : j < rows.length
        · have hR1 : RdR wr w.heap.size Ar rows := Rd.under hr H.bel (Nat.le_refl _)
          obtain ⟨b2, off2, rfl, hb2, hrow⟩ := hR1.at_ hltj
          have hat := Lib.hid (all_take hltj (fun r => r.idx != (k : Int)))
          clear hR1
          generalize rows[j] = r at *
          have j0 : (0 : Int) ≤ (j : Int) := by omega
          have j1 : (j : Int) < (rows.length : Int) := by omega
          obtain ⟨c0, c1, c2⟩ := hrow.head
          obtain ⟨idx, gen, has, vals, h8⟩ := r
          obtain ⟨a0, a1, a2, a3, a4, a5, a6, a7, rfl⟩ := vals_eight h8
          have v0 := hrow 3 (.int .i64 a0) rfl; have v1 := hrow 4 (.int .i64 a1) rfl; have v2 := hrow 5 (.int .i64 a2) rfl; have v3 := hrow 6 (.int .i64 a3) rfl; have v4 := hrow 7 (.int .i64 a4) rfl; have v5 := hrow 8 (.int .i64 a5) rfl; have v6 := hrow 9 (.int .i64 a6) rfl; have v7 := hrow 10 (.int .i64 a7) rfl
          simp only at c0 c1 c2 hat
          clear hrow
          have H2 := H.new wr.heap.size rfl 51 [.int .i64 idx, .int .i64 gen, .int .i64 has, .int .i64 a0, .int .i64 a1, .int .i64 a2, .int .i64 a3, .int .i64 a4, .int .i64 a5, .int .i64 a6, .int .i64 a7]
          cases hB : (decide (n < 1000) && ((rows.take j).all fun r => r.idx != (k : Int)))
          · have hB2 : Hid ((decide (n < 1000) && ((rows.take (j + 1)).all fun r => r.idx != (k : Int))) = false) := Lib.hid (by rw [hat.out, ← Bool.and_assoc, hB]; rfl)
            go_wp2_with fail
            go_roundw
            case rel => exact ⟨j + 1, by omega, by go_num, by rw [hB2.out], H2.sub (by simp)⟩
            case measure => simp [intOf]; omega
          · have hB2 : Hid ((decide (n < 1000) && ((rows.take (j + 1)).all fun r => r.idx != (k : Int))) = (idx != (k : Int))) := Lib.hid (by rw [hat.out, ← Bool.and_assoc, hB]; rfl)
            go_wp2_with fail
            go_roundw
            case rel => exact ⟨j + 1, by omega, by go_num, by rw [hB2.out], H2.sub (by simp)⟩
            case measure => simp [intOf]; omega
        · obtain rfl : j = rows.length := by omega
          have hfr : Hid ((decide (n < 1000) && ((rows.take rows.length).all fun r => r.idx != (k : Int))) = (!(rows.map (·.idx)).contains (k : Int) && decide (n < 1000))) := Lib.hid (by rw [List.take_length, all_idx, Bool.and_comm])
          have hnf : Hid (nextFrom (rows.map (·.idx)) k (n :: gens.drop (k + 1)) = if !(rows.map (·.idx)).contains (k : Int) && decide (n < 1000) then some ((k : Int), n + 1) else nextFrom (rows.map (·.idx)) (k + 1) (gens.drop (k + 1))) := Lib.hid rfl
          rw [hfr.out] at *
          rw [← hst.out] at hnf
          clear hfr
          cases hB : (!(rows.map (·.idx)).contains (k : Int) && decide (n < 1000))
          · have hE2 : Hid (E = match nextFrom (rows.map (·.idx)) (k + 1) (gens.drop (k + 1)) with
                | some p => (p.1, p.2, 0)
                | none => if 60 ≤ gens.length then (0, 0, 4) else ((gens.length : Int), 1, 0)) := Lib.hid (by rw [hE.out, hnf.out, hB]; rfl)
            go_wp2_with fail
            go_roundw
            case rel => exact ⟨k + 1, by omega, by go_num, hE2, H⟩
            case measure => simp [intOf]; omega
          · have hn1 : n < 1000 := by
              rw [Bool.and_eq_true] at hB
              exact of_decide_eq_true hB.2
            have hE2 : Hid (E = ((k : Int), n + 1, 0)) := Lib.hid (by rw [hE.out, hnf.out, hB]; rfl)
            have hwrap : IntKind.i64.wrap (n + 1) = n + 1 := by rw [IntKind.wrap_i64]; omega
            have y0 := H.frozen 1 0 rfl; have y1 := H.frozen 1 1 rfl; have y2 := H.cell 1 0 rfl rfl; have y3 := H.cell 1 1 rfl rfl
            have H9 := (H.set 1 0 (.int .i64 (k : Int)) rfl).set 1 1 (.int .i64 (n + 1)) rfl
            have p0 := H9.cell 1 0 rfl rfl; have p1 := H9.cell 1 1 rfl rfl
            clear hn1 hB
            go_wp2_with fail
            refine bodyPost_ret (v := .tuple #[.agg #[.int .i64 (k : Int), .int .i64 (n + 1)], .int .i64 0]) (by simp [results, Try.results16, go_sem, p0, p1]) rfl ⟨by rw [hE2.out], H9.bel⟩
    · obtain rfl : k = gens.length := by omega
      have y0 := H.frozen 1 0 rfl; have y1 := H.frozen 1 1 rfl; have y2 := H.cell 1 0 rfl rfl; have y3 := H.cell 1 1 rfl rfl
      have hE2 : Hid (E = if 60 ≤ gens.length then (0, 0, 4) else ((gens.length : Int), 1, 0)) := Lib.hid (by rw [hE.out, List.drop_length]; rfl)
      by_cases h60 : 60 ≤ gens.length
      · have hE3 : Hid (E = (0, 0, 4)) := Lib.hid (by rw [hE2.out, if_pos h60])
        have H9 := (H.set 1 0 (.int .i64 0) rfl).set 1 1 (.int .i64 0) rfl
        have p0 := H9.cell 1 0 rfl rfl; have p1 := H9.cell 1 1 rfl rfl
        go_wp2_with fail
        refine bodyPost_ret (v := .tuple #[.agg #[.int .i64 0, .int .i64 0], .int .i64 4]) (by simp [results, Try.results16, go_sem, p0, p1]) rfl ⟨by rw [hE3.out], H9.bel⟩
      · have hE3 : Hid (E = ((gens.length : Int), 1, 0)) := Lib.hid (by rw [hE2.out, if_neg h60])
        have H9 := (H.set 1 0 (.int .i64 (gens.length : Int)) rfl).set 1 1 (.int .i64 1) rfl
        have p0 := H9.cell 1 0 rfl rfl; have p1 := H9.cell 1 1 rfl rfl
        go_wp2_with fail
        refine bodyPost_ret (v := .tuple #[.agg #[.int .i64 (gens.length : Int), .int .i64 1], .int .i64 0]) (by simp [results, Try.results16, go_sem, p0, p1]) rfl ⟨by rw [hE3.out], H9.bel⟩
end Go.Proofs.Ytefdblaolmckmab
