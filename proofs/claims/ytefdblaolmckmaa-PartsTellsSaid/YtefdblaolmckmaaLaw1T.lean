/- The walk of the law PartsTells: it returns true, whatever comes in. -/
import Derived.Test.YtefdblaolmckmaaRefM
import Derived.Test.YtefdblaolmckmaaLaw1M
import Derived.Deep.RegionHeld3
import Derived.BigQuiet
import Derived.Deep.DeepCutAuto
namespace Go.Proofs.Ytefdblaolmckmaa
open Go.RowKit
open Brood

set_option maxRecDepth 20000 in
set_option maxHeartbeats 1600000 in
theorem partsTells_out (a b k n : Int) (hs : isSet a = false ∨ isSet b = false) (w : World) :
    Calls Try.prog 4 #[.int .i64 a, .int .i64 b, .int .i64 k, .int .i64 n] w fun e w' => e = .returned (.bool true) ∧ Below w.heap.size w w' := by
  have hk : (k < 0 ∧ isPart k = false) ∨ ((0 ≤ k ∧ k < 8) ∧ isPart k = true) ∨ (8 ≤ k ∧ isPart k = false) := by
    rw [isPart_false, isPart_iff]; omega
  rcases hk with ⟨k1, k2⟩ | ⟨⟨k1, k0⟩, k2⟩ | ⟨k1, k2⟩
  all_goals cases q1 : isSet a <;> cases q2 : isSet b
  all_goals first | (exfalso; rcases hs with h | h <;> simp_all; done) | clear hs
  all_goals (
    go_enter Try.func4, Try.ntmps4
    go_wp2_with (first
      | (go_at_call 16; refine (set_any _ _).mono ?_; rintro e w' ⟨rfl, rfl⟩)
      | (go_at_call 20; refine (rset_any _ _).mono ?_; rintro e w' ⟨rfl, rfl⟩)
      | (go_at_call 21; refine (part_any _ _).mono ?_; rintro e w' ⟨rfl, rfl⟩)
      | (go_at_call 22; refine (value_any _ _).mono ?_; rintro e w' ⟨rfl, rfl⟩)
      | (go_at_call 23; refine (rvalue_any _ _).mono ?_; rintro e w' ⟨rfl, rfl⟩)
      | (go_at_call 24; refine (clip_any _ _).mono ?_; rintro e w' ⟨rfl, rfl⟩)
      | (go_at_call 25; refine (rclip_any _ _).mono ?_; rintro e w' ⟨rfl, rfl⟩)))
  all_goals go_ret
  all_goals exact ⟨rfl, Below.refl _ _⟩

/-- The bits of a with bit k said to be v, where k is a part. -/
def putB (a : Nat) (k : Int) (v : Bool) : Nat → Bool := fun j => if (j : Int) = k then v else tb a j
theorem num_bits : ∀ a, a < 256 → numB (tb a) = a := by decide +kernel
theorem num_with : ∀ a, a < 256 → ∀ k : Nat, k < 8 → (numB (putB a (k : Int) true) : Int) = withS (a : Int) (k : Int) := by decide +kernel
theorem num_without : ∀ a, a < 256 → ∀ k : Nat, k < 8 → (numB (putB a (k : Int) false) : Int) = withoutS (a : Int) (k : Int) := by decide +kernel
theorem put_out {a : Nat} {k : Int} (h : isPart k = false) (v : Bool) : arr8 (putB a k v) = arr8 (tb a) := by
  rw [isPart_false] at h
  have : ∀ j : Nat, j < 8 → putB a k v j = tb a j := by
    intro j hj
    unfold putB
    rw [if_neg (by omega)]
  simp [arr8, this]
theorem put_in {a : Nat} {k : Nat} (h : k < 8) (v : Bool) : (arr8 (tb a)).setIfInBounds k (.bool v) = arr8 (putB a (k : Int) v) := by
  have e : k = 0 ∨ k = 1 ∨ k = 2 ∨ k = 3 ∨ k = 4 ∨ k = 5 ∨ k = 6 ∨ k = 7 := by omega
  rcases e with rfl | rfl | rfl | rfl | rfl | rfl | rfl | rfl <;> simp [arr8, putB]
theorem num_put_w {a : Nat} (ha : a < 256) (k : Int) : (numB (putB a k true) : Int) = withS (a : Int) k := by
  by_cases hk : isPart k = true
  · have := isPart_iff.1 hk
    obtain ⟨k, rfl⟩ := nat_of this.1
    exact num_with a ha k (by omega)
  · have hk' : isPart k = false := by simpa using hk
    have e : numB (putB a k true) = numB (tb a) := by
      have h := isPart_false.1 hk'
      have : ∀ j : Nat, j < 8 → putB a k true j = tb a j := by
        intro j hj
        unfold putB
        rw [if_neg (by omega)]
      simp [numB, numUp, this]
    rw [e, num_bits a ha]
    simp [withS, hk']
theorem num_put_wo {a : Nat} (ha : a < 256) (k : Int) : (numB (putB a k false) : Int) = withoutS (a : Int) k := by
  by_cases hk : isPart k = true
  · have := isPart_iff.1 hk
    obtain ⟨k, rfl⟩ := nat_of this.1
    exact num_without a ha k (by omega)
  · have hk' : isPart k = false := by simpa using hk
    have e : numB (putB a k false) = numB (tb a) := by
      have h := isPart_false.1 hk'
      have : ∀ j : Nat, j < 8 → putB a k false j = tb a j := by
        intro j hj
        unfold putB
        rw [if_neg (by omega)]
      simp [numB, numUp, this]
    rw [e, num_bits a ha]
    simp [withoutS, hasB, hk']

theorem count_list (a : Nat) : (countS (a : Int) != ((listS (a : Int)).length : Int)) = false := by
  simp [countS, listS]
theorem num_true {a : Nat} (ha : a < 256) (k : Int) (w : World) :
    Calls Try.prog 31 #[.agg #[.bool (putB a k true 0), .bool (putB a k true 1), .bool (putB a k true 2), .bool (putB a k true 3), .bool (putB a k true 4), .bool (putB a k true 5), .bool (putB a k true 6), .bool (putB a k true 7)]] w fun e w' => e = .returned (.int .i64 (withS (a : Int) k)) ∧ Below w.heap.size w w' := by
  have := rnum_any (putB a k true) w
  rw [num_put_w ha] at this
  exact this
theorem num_false {a : Nat} (ha : a < 256) (k : Int) (w : World) :
    Calls Try.prog 31 #[.agg #[.bool (putB a k false 0), .bool (putB a k false 1), .bool (putB a k false 2), .bool (putB a k false 3), .bool (putB a k false 4), .bool (putB a k false 5), .bool (putB a k false 6), .bool (putB a k false 7)]] w fun e w' => e = .returned (.int .i64 (withoutS (a : Int) k)) ∧ Below w.heap.size w w' := by
  have := rnum_any (putB a k false) w
  rw [num_put_wo ha] at this
  exact this
theorem cells8 {w : World} {g : Nat} {f : Nat → Bool} (h : Blk w g 30 (arr8 f)) : w.cell? ⟨g, 0, none⟩ = some (.bool (f 0)) ∧ w.cell? ⟨g, 1, none⟩ = some (.bool (f 1)) ∧ w.cell? ⟨g, 2, none⟩ = some (.bool (f 2)) ∧ w.cell? ⟨g, 3, none⟩ = some (.bool (f 3)) ∧ w.cell? ⟨g, 4, none⟩ = some (.bool (f 4)) ∧ w.cell? ⟨g, 5, none⟩ = some (.bool (f 5)) ∧ w.cell? ⟨g, 6, none⟩ = some (.bool (f 6)) ∧ w.cell? ⟨g, 7, none⟩ = some (.bool (f 7)) :=
  ⟨by rw [h.cell]; rfl, by rw [h.cell]; rfl, by rw [h.cell]; rfl, by rw [h.cell]; rfl, by rw [h.cell]; rfl, by rw [h.cell]; rfl, by rw [h.cell]; rfl, by rw [h.cell]; rfl⟩
theorem cells16 {w : World} {g g' : Nat} {f f' : Nat → Bool} (h : Blk w g 30 (arr8 f)) (h' : Blk w g' 30 (arr8 f')) : w.cell? ⟨g, 0, none⟩ = some (.bool (f 0)) ∧ w.cell? ⟨g, 1, none⟩ = some (.bool (f 1)) ∧ w.cell? ⟨g, 2, none⟩ = some (.bool (f 2)) ∧ w.cell? ⟨g, 3, none⟩ = some (.bool (f 3)) ∧ w.cell? ⟨g, 4, none⟩ = some (.bool (f 4)) ∧ w.cell? ⟨g, 5, none⟩ = some (.bool (f 5)) ∧ w.cell? ⟨g, 6, none⟩ = some (.bool (f 6)) ∧ w.cell? ⟨g, 7, none⟩ = some (.bool (f 7)) ∧ w.cell? ⟨g', 0, none⟩ = some (.bool (f' 0)) ∧ w.cell? ⟨g', 1, none⟩ = some (.bool (f' 1)) ∧ w.cell? ⟨g', 2, none⟩ = some (.bool (f' 2)) ∧ w.cell? ⟨g', 3, none⟩ = some (.bool (f' 3)) ∧ w.cell? ⟨g', 4, none⟩ = some (.bool (f' 4)) ∧ w.cell? ⟨g', 5, none⟩ = some (.bool (f' 5)) ∧ w.cell? ⟨g', 6, none⟩ = some (.bool (f' 6)) ∧ w.cell? ⟨g', 7, none⟩ = some (.bool (f' 7)) :=
  ⟨(cells8 h).1, (cells8 h).2.1, (cells8 h).2.2.1, (cells8 h).2.2.2.1, (cells8 h).2.2.2.2.1, (cells8 h).2.2.2.2.2.1, (cells8 h).2.2.2.2.2.2.1, (cells8 h).2.2.2.2.2.2.2, cells8 h'⟩
set_option maxRecDepth 20000 in
set_option maxHeartbeats 3200000 in
theorem partsTells_in (a b : Nat) (ha : a < 256) (hb : b < 256) (k n : Int) (w : World) :
    Calls Try.prog 4 #[.int .i64 (a : Int), .int .i64 (b : Int), .int .i64 k, .int .i64 n] w fun e w' => e = .returned (.bool true) ∧ Below w.heap.size w w' := by
  have q1 : isSet (a : Int) = true := by rw [isSet_iff]; omega
  have q2 : isSet (b : Int) = true := by rw [isSet_iff]; omega
  have n3 := count_list a
  go_enter Try.func4, Try.ntmps4
  go_upto_region 1 with fail
  go_cut [45] (fun s45 wx => s45 = .bool false ∧ w = wx)
  case first =>
    have hk : (k < 0 ∧ isPart k = false) ∨ ((0 ≤ k ∧ k < 8) ∧ isPart k = true) ∨ (8 ≤ k ∧ isPart k = false) := by
      rw [isPart_false, isPart_iff]; omega
    rcases hk with ⟨k1, k2⟩ | ⟨⟨k1, k0⟩, k2⟩ | ⟨k1, k2⟩
    · go_wp2_with (first
      | (go_at_call 16; refine (set_any _ _).mono ?_; rintro e w' ⟨rfl, rfl⟩)
      | (go_at_call 20; refine (rset_any _ _).mono ?_; rintro e w' ⟨rfl, rfl⟩)
      | (go_at_call 21; refine (part_any _ _).mono ?_; rintro e w' ⟨rfl, rfl⟩)
      | (go_at_call 22; refine (value_any _ _).mono ?_; rintro e w' ⟨rfl, rfl⟩)
      | (go_at_call 23; refine (rvalue_any _ _).mono ?_; rintro e w' ⟨rfl, rfl⟩)
      | (go_at_call 24; refine (clip_any _ _).mono ?_; rintro e w' ⟨rfl, rfl⟩)
      | (go_at_call 25; refine (rclip_any _ _).mono ?_; rintro e w' ⟨rfl, rfl⟩)
      | (go_at_call 26; refine (rbits_any a ha _).mono ?_; rintro e w1 ⟨rfl, hb1⟩; unfold bitsV; first | (replace hb0 := grow_below hb0 hb1; clear hb1) | (have hb0 := hb1; clear hb1))
      | (go_at_call 27; refine (list_any (a : Int) q1 _).mono ?_; rintro e w2 ⟨vl, rfl, hown, hbl⟩; obtain ⟨Al, cl, rfl, _, _⟩ := own_shape hown)
      | (go_at_call 28; refine (rlist_any a ha _).mono ?_; rintro e w3 ⟨vm, rfl, hown', hbm⟩; obtain ⟨Am, cm, rfl, _, _⟩ := own_shape hown'))
      go_meet; exact ⟨rfl, rfl⟩
    · go_wp2_with (first
      | (go_at_call 16; refine (set_any _ _).mono ?_; rintro e w' ⟨rfl, rfl⟩)
      | (go_at_call 20; refine (rset_any _ _).mono ?_; rintro e w' ⟨rfl, rfl⟩)
      | (go_at_call 21; refine (part_any _ _).mono ?_; rintro e w' ⟨rfl, rfl⟩)
      | (go_at_call 22; refine (value_any _ _).mono ?_; rintro e w' ⟨rfl, rfl⟩)
      | (go_at_call 23; refine (rvalue_any _ _).mono ?_; rintro e w' ⟨rfl, rfl⟩)
      | (go_at_call 24; refine (clip_any _ _).mono ?_; rintro e w' ⟨rfl, rfl⟩)
      | (go_at_call 25; refine (rclip_any _ _).mono ?_; rintro e w' ⟨rfl, rfl⟩)
      | (go_at_call 26; refine (rbits_any a ha _).mono ?_; rintro e w1 ⟨rfl, hb1⟩; unfold bitsV; first | (replace hb0 := grow_below hb0 hb1; clear hb1) | (have hb0 := hb1; clear hb1))
      | (go_at_call 27; refine (list_any (a : Int) q1 _).mono ?_; rintro e w2 ⟨vl, rfl, hown, hbl⟩; obtain ⟨Al, cl, rfl, _, _⟩ := own_shape hown)
      | (go_at_call 28; refine (rlist_any a ha _).mono ?_; rintro e w3 ⟨vm, rfl, hown', hbm⟩; obtain ⟨Am, cm, rfl, _, _⟩ := own_shape hown'))
      go_meet; exact ⟨rfl, rfl⟩
    · have hd : decide (k < 8) = false := by simp; omega
      go_wp2_with (first
      | (go_at_call 16; refine (set_any _ _).mono ?_; rintro e w' ⟨rfl, rfl⟩)
      | (go_at_call 20; refine (rset_any _ _).mono ?_; rintro e w' ⟨rfl, rfl⟩)
      | (go_at_call 21; refine (part_any _ _).mono ?_; rintro e w' ⟨rfl, rfl⟩)
      | (go_at_call 22; refine (value_any _ _).mono ?_; rintro e w' ⟨rfl, rfl⟩)
      | (go_at_call 23; refine (rvalue_any _ _).mono ?_; rintro e w' ⟨rfl, rfl⟩)
      | (go_at_call 24; refine (clip_any _ _).mono ?_; rintro e w' ⟨rfl, rfl⟩)
      | (go_at_call 25; refine (rclip_any _ _).mono ?_; rintro e w' ⟨rfl, rfl⟩)
      | (go_at_call 26; refine (rbits_any a ha _).mono ?_; rintro e w1 ⟨rfl, hb1⟩; unfold bitsV; first | (replace hb0 := grow_below hb0 hb1; clear hb1) | (have hb0 := hb1; clear hb1))
      | (go_at_call 27; refine (list_any (a : Int) q1 _).mono ?_; rintro e w2 ⟨vl, rfl, hown, hbl⟩; obtain ⟨Al, cl, rfl, _, _⟩ := own_shape hown)
      | (go_at_call 28; refine (rlist_any a ha _).mono ?_; rintro e w3 ⟨vm, rfl, hown', hbm⟩; obtain ⟨Am, cm, rfl, _, _⟩ := own_shape hown'))
      go_meet; exact ⟨rfl, rfl⟩
  case rest =>
    obtain ⟨rfl, rfl⟩ := hcut
    go_upto_region 6 with (first
      | (go_at_call 16; refine (set_any _ _).mono ?_; rintro e w' ⟨rfl, rfl⟩)
      | (go_at_call 20; refine (rset_any _ _).mono ?_; rintro e w' ⟨rfl, rfl⟩)
      | (go_at_call 21; refine (part_any _ _).mono ?_; rintro e w' ⟨rfl, rfl⟩)
      | (go_at_call 22; refine (value_any _ _).mono ?_; rintro e w' ⟨rfl, rfl⟩)
      | (go_at_call 23; refine (rvalue_any _ _).mono ?_; rintro e w' ⟨rfl, rfl⟩)
      | (go_at_call 24; refine (clip_any _ _).mono ?_; rintro e w' ⟨rfl, rfl⟩)
      | (go_at_call 25; refine (rclip_any _ _).mono ?_; rintro e w' ⟨rfl, rfl⟩)
      | (go_at_call 26; refine (rbits_any a ha _).mono ?_; rintro e w1 ⟨rfl, hb1⟩; unfold bitsV; first | (replace hb0 := grow_below hb0 hb1; clear hb1) | (have hb0 := hb1; clear hb1))
      | (go_at_call 27; refine (list_any (a : Int) q1 _).mono ?_; rintro e w2 ⟨vl, rfl, hown, hbl⟩; obtain ⟨Al, cl, rfl, _, _⟩ := own_shape hown)
      | (go_at_call 28; refine (rlist_any a ha _).mono ?_; rintro e w3 ⟨vm, rfl, hown', hbm⟩; obtain ⟨Am, cm, rfl, _, _⟩ := own_shape hown'))
    go_cut [63] (fun s63 wx => s63 = .bool (isPart k) ∧ wx = (w1.alloc (.cells (arr8 (tb a)) 30)).alloc (.cells (arr8 (tb a)) 30))
    case first =>
      have hk : (k < 0 ∧ isPart k = false) ∨ ((0 ≤ k ∧ k < 8) ∧ isPart k = true) ∨ (8 ≤ k ∧ isPart k = false) := by
        rw [isPart_false, isPart_iff]; omega
      rcases hk with ⟨k1, k2⟩ | ⟨⟨k1, k0⟩, k2⟩ | ⟨k1, k2⟩
      · go_wp2_with fail
        go_meet; exact ⟨by rw [k2], rfl⟩
      · go_wp2_with fail
        go_meet; exact ⟨by rw [k2], rfl⟩
      · have hd : decide (k < 8) = false := by simp; omega
        go_wp2_with fail
        go_meet; exact ⟨by rw [k2], rfl⟩
    case rest =>
      obtain ⟨rfl, hw⟩ := hcut
      have hg0 : w.heap.size ≤ w1.heap.size := hb0.size
      have hbA : Below w.heap.size w wc := by rw [hw]; exact (hb0.alloc hb0.size _).alloc (by simp; omega) _
      have hsz : w1.heap.size + 2 = wc.heap.size := by rw [hw]; simp
      have HX0 : Blk wc w1.heap.size 30 (arr8 (tb a)) := by rw [hw]; exact (Blk.new _ _ _).alloc _
      have HY0 : Blk wc (w1.heap.size + 1) 30 (arr8 (tb a)) := by
        rw [hw]
        have := Blk.new (w1.alloc (.cells (arr8 (tb a)) 30)) 30 (arr8 (tb a))
        simpa using this
      clear hw hb0
      generalize w1.heap.size = g at *
      go_upto_if 63 with fail
      go_cut [] (fun wx => Below w.heap.size w wx ∧ g + 2 = wx.heap.size ∧ Blk wx g 30 (arr8 (putB a k true)) ∧ Blk wx (g + 1) 30 (arr8 (putB a k false)))
      case first =>
        cases k2 : isPart k with
        | true =>
          have hk := isPart_iff.1 k2
          obtain ⟨k, rfl⟩ := nat_of hk.1
          have hk8 : k < 8 := by omega
          have c1 : wc.cell? ⟨g, k, none⟩ = some (.bool (tb a k)) := by rw [HX0.cell k, arr8_get _ hk8]
          have c2 : wc.cell? ⟨g + 1, k, none⟩ = some (.bool (tb a k)) := by rw [HY0.cell k, arr8_get _ hk8]
          have f1 := HX0.frozen k
          have f2 := HY0.frozen k
          have g1 : g < wc.heap.size := HX0.lt
          have p1 := put_in (a := a) hk8 true
          have p2 := put_in (a := a) hk8 false
          have P1 := Lib.hid p1
          have P2 := Lib.hid p2
          have hsz' := Lib.hid hsz
          have g2 : w.heap.size ≤ g := hg0
          clear p1 p2 hsz
          go_wp2_with fail
          go_meet
          refine ⟨(hbA.setCell (p := ⟨g, k, none⟩) g2 _).setCell (p := ⟨g + 1, k, none⟩) (by simp; omega) _, by simpa using hsz'.out, ?_, ?_⟩
          · have := (HX0.set_ k (.bool true)).far (p := ⟨g + 1, k, none⟩) (by simp) (.bool false)
            rw [P1.out] at this; exact this
          · have := (HY0.far (p := ⟨g, k, none⟩) (by simp) (.bool true)).set_ k (.bool false)
            rw [P2.out] at this; exact this
        | false =>
          have hsz' := Lib.hid hsz
          clear hsz
          go_wp2_with fail
          go_meet
          exact ⟨hbA, hsz'.out, by rw [put_out k2]; exact HX0, by rw [put_out k2]; exact HY0⟩
      case rest =>
        obtain ⟨hbB, hsB, HX, HY⟩ := hcut
        go_upto_region 9 with (first
          | (go_at_call 27; refine (list_any (a : Int) q1 _).mono ?_; rintro e w2 ⟨vl, rfl, hown, hbl⟩; obtain ⟨Al, cl, rfl, _, _⟩ := own_shape hown)
          | (go_at_call 28; refine (rlist_any a ha _).mono ?_; rintro e w3 ⟨vm, rfl, hown', hbm⟩; obtain ⟨Am, cm, rfl, _, _⟩ := own_shape hown'))
        have hbel : Below w.heap.size w w3 := grow_below (grow_below hbB hbl) hbm
        have hz2 : wc.heap.size ≤ w2.heap.size := hbl.size
        have HX' := (HX.below hbl HX.lt).below hbm (by omega)
        have HY' := (HY.below hbl HY.lt).below hbm (by omega)
        have RL : RdI w3 Al (listS (a : Int)) := (RdI.of_own hown).grow hbm
        have RM : RdI w3 Am (listS (a : Int)) := RdI.of_own hown'
        have hz3 : g + 1 < w3.heap.size := HY'.lt
        clear hown hown' hbl hbm HX0 HY0 HX HY hbA hbB hsz hsB hz2
        replace HX := HX'.drew; replace HY := HY'.drew; replace RL := RL.drew; replace RM := RM.drew; replace hbel := hbel.drew
        clear HX' HY'
        go_cut [108] (fun s108 wx => s108 = .bool false ∧ Below w.heap.size w wx ∧ RdI wx Al (listS (a : Int)) ∧ RdI wx Am (listS (a : Int)))
        case first =>
          go_region_held3 (fun w' => w'.cell? ⟨g, 0, none⟩ = some (.bool ((putB a k true) 0)) ∧ w'.cell? ⟨g, 1, none⟩ = some (.bool ((putB a k true) 1)) ∧ w'.cell? ⟨g, 2, none⟩ = some (.bool ((putB a k true) 2)) ∧ w'.cell? ⟨g, 3, none⟩ = some (.bool ((putB a k true) 3)) ∧ w'.cell? ⟨g, 4, none⟩ = some (.bool ((putB a k true) 4)) ∧ w'.cell? ⟨g, 5, none⟩ = some (.bool ((putB a k true) 5)) ∧ w'.cell? ⟨g, 6, none⟩ = some (.bool ((putB a k true) 6)) ∧ w'.cell? ⟨g, 7, none⟩ = some (.bool ((putB a k true) 7)) ∧ w'.cell? ⟨g + 1, 0, none⟩ = some (.bool ((putB a k false) 0)) ∧ w'.cell? ⟨g + 1, 1, none⟩ = some (.bool ((putB a k false) 1)) ∧ w'.cell? ⟨g + 1, 2, none⟩ = some (.bool ((putB a k false) 2)) ∧ w'.cell? ⟨g + 1, 3, none⟩ = some (.bool ((putB a k false) 3)) ∧ w'.cell? ⟨g + 1, 4, none⟩ = some (.bool ((putB a k false) 4)) ∧ w'.cell? ⟨g + 1, 5, none⟩ = some (.bool ((putB a k false) 5)) ∧ w'.cell? ⟨g + 1, 6, none⟩ = some (.bool ((putB a k false) 6)) ∧ w'.cell? ⟨g + 1, 7, none⟩ = some (.bool ((putB a k false) 7))) (exact cells16 HX HY)
            (first
              | (go_at_call 29; refine (has_any _ _ q1 _).mono ?_; rintro e w' ⟨rfl, rfl⟩)
              | (go_at_call 30; refine (rhas_any _ _ q1 _).mono ?_; rintro e w4 ⟨rfl, hb4⟩; have HX := HX.below hb4 HX.lt; have HY := HY.below hb4 HY.lt; have RL := RL.grow hb4; have RM := RM.grow hb4; have hbel := grow_below hbel hb4)
              | (go_at_call 18; refine (with_any _ _ q1 _).mono ?_; rintro e w' ⟨rfl, rfl⟩)
              | (go_at_call 19; refine (without_any _ _ q1 _).mono ?_; rintro e w' ⟨rfl, rfl⟩)
              | (go_at_call 32; refine (count_any _ q1 _).mono ?_; rintro e w' ⟨rfl, rfl⟩)
              | (go_at_call_of 31 (Value.agg #[Value.bool (putB a k true 0), Value.bool (putB a k true 1), Value.bool (putB a k true 2), Value.bool (putB a k true 3), Value.bool (putB a k true 4), Value.bool (putB a k true 5), Value.bool (putB a k true 6), Value.bool (putB a k true 7)]); refine (num_true ha k _).mono ?_; rintro e w5 ⟨rfl, hb5⟩; have HX := HX.below hb5 HX.lt; have HY := HY.below hb5 HY.lt; have RL := RL.grow hb5; have RM := RM.grow hb5; have hbel := grow_below hbel hb5)
              | (go_at_call 31; refine (num_false ha k _).mono ?_; rintro e w5 ⟨rfl, hb5⟩; have HX := HX.below hb5 HX.lt; have HY := HY.below hb5 HY.lt; have RL := RL.grow hb5; have RM := RM.grow hb5; have hbel := grow_below hbel hb5))
          go_wp2_with fail
          go_meet
          exact ⟨rfl, hbel, RL, RM⟩
        case rest =>
          obtain ⟨rfl, hbC, RL, RM⟩ := hcut
          clear HX HY hbel
          go_wp2_with fail
          have hl8 : (listS (a : Int)).length ≤ 8 := upS_le (a : Int) 8
          go_loopw [111] (fun i wx => ∃ j : Nat, j ≤ (listS (a : Int)).length ∧ i = .int .i64 j ∧ Below w.heap.size w wx ∧ RdI wx Al (listS (a : Int)) ∧ RdI wx Am (listS (a : Int))) (fun i _ => (listS (a : Int)).length - (intOf i).toNat)
          case atStart => exact ⟨0, Nat.zero_le _, rfl, hbC, RL, RM⟩
          case round =>
            obtain ⟨j, hj, rfl, hbD, RL, RM⟩ := hrel
            by_cases hlt : j < (listS (a : Int)).length
            · obtain ⟨b1, o1, rfl, hb1, hc1⟩ := RL.at_ hlt
              obtain ⟨b2, o2, rfl, hb2, hc2⟩ := RM.at_ hlt
              have i0 : (0 : Int) ≤ (j : Int) := by omega
              have i1 : (j : Int) < ((listS (a : Int)).length : Int) := by omega
              go_wp2_with fail
              go_quiet (fail)
              go_wp2_with fail
              go_roundw
              case rel => exact ⟨j + 1, by omega, by go_num, below_drewN hbD _, RL.drewN _, RM.drewN _⟩
              case measure => simp [intOf]; omega
            · obtain rfl : j = (listS (a : Int)).length := by omega
              go_wp2_with fail
              obtain ⟨wo, rfl⟩ : ∃ wo : World, wo = wr := ⟨_, rfl⟩
              clear RL RM hbC
              go_loopw [127] (fun i wx => ∃ h : Nat, h ≤ 256 ∧ i = .int .i64 h ∧ Below w.heap.size w wx ∧ Blk wx wo.heap.size 26 #[.int .i64 (a : Int), .int .i64 (b : Int)]) (fun i _ => 256 - (intOf i).toNat)
              case atStart => exact ⟨0, by omega, rfl, hbD.alloc hbD.size _, Blk.new _ _ _⟩
              case round =>
                obtain ⟨h, hh, rfl, hbE, HB⟩ := hrel
                by_cases hh1 : h < 256
                · have qh : isSet (h : Int) = true := by rw [isSet_iff]; omega
                  replace HB := HB.drew; replace hbE := hbE.drew
                  have r0 := HB.cell 0
                  have r1 := HB.cell 1
                  simp at r0 r1
                  go_upto_region 21 with fail
                  go_region_held3 (fun w' => w'.cell? ⟨wo.heap.size, 0, none⟩ = some (.int .i64 (a : Int)) ∧ w'.cell? ⟨wo.heap.size, 1, none⟩ = some (.int .i64 (b : Int))) (exact ⟨HB.cell 0, HB.cell 1⟩)
                    (first
                      | (go_at_call 17; refine (meets_any _ _ _ q1 q2 qh _).mono ?_; rintro e w4 ⟨rfl, hb4⟩; have HB := HB.below hb4 HB.lt; have hbE := grow_below hbE hb4)
                      | (go_at_call 33; refine (rmeets_any a b h ha hb hh1 _).mono ?_; rintro e w4 ⟨rfl, hb4⟩; have HB := HB.below hb4 HB.lt; have hbE := grow_below hbE hb4))
                  go_wp2_with fail
                  go_roundw
                  case rel => exact ⟨h + 1, by omega, by go_num, hbE, HB⟩
                  case measure => simp [intOf]; omega
                · obtain rfl : h = 256 := by omega
                  go_wp2_with fail
                  go_ret
                  exact ⟨rfl, hbE⟩
theorem partsTells_walk (a b k n : Int) (w : World) :
    Calls Try.prog 4 #[.int .i64 a, .int .i64 b, .int .i64 k, .int .i64 n] w fun e w' => e = .returned (.bool true) ∧ Below w.heap.size w w' := by
  cases qa : isSet a with
  | false => exact partsTells_out a b k n (.inl qa) w
  | true =>
    cases qb : isSet b with
    | false => exact partsTells_out a b k n (.inr qb) w
    | true =>
      have ha := isSet_iff.1 qa
      have hb := isSet_iff.1 qb
      obtain ⟨a, rfl⟩ := nat_of ha.1
      obtain ⟨b, rfl⟩ := nat_of hb.1
      exact partsTells_in a b (by omega) (by omega) k n w
end Go.Proofs.Ytefdblaolmckmaa
