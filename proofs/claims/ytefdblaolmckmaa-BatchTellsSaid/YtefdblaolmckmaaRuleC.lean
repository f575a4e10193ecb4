/- The walks of rule.May and rule.Clash. -/
import Derived.Test.YtefdblaolmckmaaRuleN
namespace Go.Proofs.Ytefdblaolmckmaa
open Go.RowKit
open Brood
set_option linter.unusedVariables false
set_option linter.unusedSimpArgs false

theorem bits_andNot (a b : Nat) (ha : a < 256) (hb : b < 256) : bits .andNot .i64 ((a : Nat) : Int) ((b : Nat) : Int) = ((a &&& (255 ^^^ b) : Nat) : Int) := by
  have e : BitVec.ofInt 64 (a : Int) &&& ~~~ (BitVec.ofInt 64 (b : Int)) = BitVec.ofNat 64 (a &&& (255 ^^^ b)) := by
    rw [BitVec.ofInt_natCast, BitVec.ofInt_natCast]
    apply BitVec.eq_of_getLsbD_eq
    intro i hi
    simp only [BitVec.getLsbD_and, BitVec.getLsbD_not, BitVec.getLsbD_ofNat, Nat.testBit_and, Nat.testBit_xor, hi, decide_true, Bool.true_and]
    by_cases h8 : i < 8
    · have h255 : ∀ i, i < 8 → Nat.testBit 255 i = true := by decide
      rw [h255 i h8]
      simp
    · have hz : a.testBit i = false := Nat.testBit_lt_two_pow (Nat.lt_of_lt_of_le ha (show 2 ^ 8 ≤ 2 ^ i from Nat.pow_le_pow_right (by omega) (by omega)))
      rw [hz]
      simp
  have hx : a &&& (255 ^^^ b) < 2 ^ 8 := Nat.and_lt_two_pow _ (Nat.xor_lt_two_pow (by omega) (by omega))
  show IntKind.i64.wrap ((BitVec.ofInt 64 (a : Int) &&& ~~~ (BitVec.ofInt 64 (b : Int))).toNat : Int) = _
  rw [e, BitVec.toNat_ofNat, Nat.mod_eq_of_lt (by omega), IntKind.wrap_i64]
  omega
theorem and_sub {a b : Nat} (ha : a < 256) (hb : b < 256) : a &&& (255 ^^^ b) = 0 ↔ a &&& b = a := by
  have h255 : ∀ i, i < 8 → Nat.testBit 255 i = true := by decide
  have hz : ∀ x : Nat, x < 256 → ∀ i, ¬ i < 8 → x.testBit i = false := fun x hx i h8 => Nat.testBit_lt_two_pow (Nat.lt_of_lt_of_le hx (show 2 ^ 8 ≤ 2 ^ i from Nat.pow_le_pow_right (by omega) (by omega)))
  constructor
  · intro h
    apply Nat.eq_of_testBit_eq
    intro i
    have e := congrArg (fun x => x.testBit i) h
    simp only [Nat.testBit_and, Nat.testBit_xor, Nat.zero_testBit] at e ⊢
    by_cases h8 : i < 8
    · rw [h255 i h8] at e
      revert e
      cases a.testBit i <;> cases b.testBit i <;> simp
    · simp [hz a ha i h8]
  · intro h
    apply Nat.eq_of_testBit_eq
    intro i
    have e := congrArg (fun x => x.testBit i) h
    simp only [Nat.testBit_and, Nat.testBit_xor, Nat.zero_testBit] at e ⊢
    by_cases h8 : i < 8
    · rw [h255 i h8]
      revert e
      cases a.testBit i <;> cases b.testBit i <;> simp
    · simp [hz a ha i h8]
theorem bits_sub (a : Nat) (ha : a < 256) (b : Nat) (hb : b < 256) : (bits .andNot .i64 ((a : Nat) : Int) ((b : Nat) : Int) == 0) = (a &&& b == a) := by
  rw [bits_andNot a b ha hb, Bool.eq_iff_iff]
  simp only [beq_iff_eq]
  have := and_sub ha hb
  constructor
  · intro h; exact this.1 (by omega)
  · intro h; have := this.2 h; omega
theorem bits_subS {a b : Int} (ha : isSet a = true) (hb : isSet b = true) : (bits .andNot .i64 a b == 0) = subS a b := by
  rw [isSet_iff] at ha hb
  obtain ⟨a, rfl⟩ := nat_of ha.1
  obtain ⟨b, rfl⟩ := nat_of hb.1
  rw [bits_sub a (by omega) b (by omega)]
  simp [subS]
theorem bits_meetS {a b : Int} (ha : isSet a = true) (hb : isSet b = true) : (bits .and .i64 a b != 0) = meetS a b := by
  have ha' := isSet_iff.1 ha
  have hb' := isSet_iff.1 hb
  rw [bits_and_set ha' hb']
  unfold meetS
  rw [Bool.eq_iff_iff]
  simp

/-- A system with which nothing is wrong, as far as Needs asks. -/
def Right (s : BSys) : Prop := isSet s.all = true ∧ isSet s.non = true ∧ s.acts.length ≤ 8 ∧ ∀ a ∈ s.acts, actErr s.all a = 0
theorem right_of {s : BSys} (h : (sysWrong s).1 = 0) : Right s := by
  unfold sysWrong at h
  split at h
  · rename_i hh
    split at h
    · simp at h
    · simp only [sysHead, Bool.and_eq_true] at hh
      exact ⟨hh.1.2, hh.2, by omega, wrong_acts _ _ _ h⟩
  · simp at h
theorem need_sets {all : Int} : ∀ (l : List BAct) (n : BNeed), (∀ a ∈ l, actErr all a = 0) → isSet n.reads = true → isSet n.writes = true →
    isSet (l.foldl (needAct all) n).reads = true ∧ isSet (l.foldl (needAct all) n).writes = true := by
  intro l
  induction l with
  | nil => intro n _ h1 h2; exact ⟨h1, h2⟩
  | cons a l ih =>
    intro n hok h1 h2
    rw [List.foldl_cons]
    refine ih _ (fun x hx => hok x (by simp [hx])) ?_ ?_
    · unfold needAct
      split
      · exact h1
      · split
        · exact h1
        · simp only
          split <;> split <;> first | exact with_set (with_set h1) | exact with_set h1 | exact h1
    · have ha := hok a (by simp)
      unfold needAct
      split
      · exact h2
      · split
        · rename_i h7
          obtain ⟨kind, part, src, nn⟩ := a
          exact or_set h2 (ok_part ha h7)
        · exact with_set h2
theorem needs_sets {s : BSys} (h : Right s) : isSet (needs s).reads = true ∧ isSet (needs s).writes = true :=
  need_sets _ _ h.2.2.2 (by decide) (by decide)
/-- The contract of Needs, for a right system. -/
theorem needs_right (s : BSys) (h : Right s) (A : Option Addr) (c : Nat) (w : World) (hA : RdA w A s.acts) :
    Calls Try.prog 36 #[.agg #[.int .i64 s.mod, .int .i64 s.all, .int .i64 s.non, .slice A s.acts.length c]] w fun e w' =>
      e = .returned (.agg #[.int .i64 (needs s).reads, .int .i64 (needs s).writes, .bool (needs s).moves, .bool (needs s).life]) ∧ Below w.heap.size w w' :=
  needs_any s.mod s.all s.non s.acts h.1 h.2.2.2 (by have := h.2.2.1; omega) A c w hA

set_option maxRecDepth 20000 in
set_option maxHeartbeats 1600000 in
theorem may_any (m : BMod) (hm1 : isSet m.reads = true) (hm2 : isSet m.writes = true) (s : BSys) (h : Right s) (A : Option Addr) (c : Nat) (w : World) (hA : RdA w A s.acts) :
    Calls Try.prog 38 #[.agg #[.int .i64 m.reads, .int .i64 m.writes, .bool m.life], .agg #[.int .i64 s.mod, .int .i64 s.all, .int .i64 s.non, .slice A s.acts.length c]] w fun e w' =>
      e = .returned (.bool (may m s)) ∧ Below w.heap.size w w' := by
  have hs := needs_sets h
  have hB2 := (Blk.new w 40 #[.int .i64 m.reads, .int .i64 m.writes, .bool m.life]).alloc (.cells #[.int .i64 s.mod, .int .i64 s.all, .int .i64 s.non, .slice A s.acts.length c] 38)
  have hB3 := Blk.new (w.alloc (.cells #[.int .i64 m.reads, .int .i64 m.writes, .bool m.life] 40)) 38 #[.int .i64 s.mod, .int .i64 s.all, .int .i64 s.non, .slice A s.acts.length c]
  simp only [World.size_alloc] at hB3
  have hr1 := or_set hs.1 h.1
  have hr2 := or_set hr1 h.2.1
  have q1 := bits_or_set hs.1 h.1
  have q2 := bits_or_set hr1 h.2.1
  have q3 := Lib.hid (bits_subS hr2 hm1)
  have q4 := Lib.hid (bits_subS hs.2 hm2)
  have hmay : Hid (may m s = (subS (orS (orS (needs s).reads s.all) s.non) m.reads && subS (needs s).writes m.writes && (m.life || !(needs s).life))) := Lib.hid rfl
  have hcall := needs_right s h A c
  have hcall' := Lib.hid hcall
  clear hcall
  generalize (needs s).reads = nr at *
  generalize (needs s).writes = nw at *
  generalize (needs s).moves = nm at *
  generalize (needs s).life = nl at *
  obtain ⟨mr, mw, ml⟩ := m
  simp only at *
  cases b1 : subS (orS (orS nr s.all) s.non) mr <;> cases b2 : subS nw mw <;> cases ml <;> cases nl
  all_goals (
    have q3' := q3.out
    have q4' := q4.out
    rw [b1] at q3'
    rw [b2] at q4'
    go_enter Try.func38, Try.ntmps38
    go_wp2_with fail
    refine (hcall'.out _ (RdA.grow hA (((Below.refl _ _).alloc (Nat.le_refl _) _).alloc (by simp) _))).mono ?_
    rintro e w1 ⟨rfl, hb1⟩
    have HM := hB2.below hb1 hB2.lt
    have HS := hB3.below hb1 (by simp)
    have m0 := HM.cell 0; have m1 := HM.cell 1; have m2 := HM.cell 2
    have s1 := HS.cell 1; have s2 := HS.cell 2
    have z1 := HM.lt; have z2 := HS.lt
    simp at m0 m1 m2 s1 s2)
  all_goals go_wp2_with fail
  all_goals go_ret
  all_goals exact ⟨ret_bool (by rw [hmay.out, b1, b2]; rfl), (grow_below (((Below.refl _ _).alloc (Nat.le_refl _) _).alloc (by simp) _) hb1).alloc (by have := hb1.size; simp at this; omega) _⟩
end Go.Proofs.Ytefdblaolmckmaa
