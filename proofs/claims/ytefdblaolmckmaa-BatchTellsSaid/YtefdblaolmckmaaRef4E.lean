/- The walks of the reference's May and Clash. -/
import Derived.Test.YtefdblaolmckmaaRef4D
import Derived.Test.YtefdblaolmckmaaClash
namespace Go.Proofs.Ytefdblaolmckmaa
open Go.RowKit
open Brood
set_option linter.unusedVariables false
set_option linter.unusedSimpArgs false

theorem tb_hi {a : Int} (ha : isSet a = true) {j : Nat} (hj : 8 ≤ j) : tb a.toNat j = false := by
  have h' := isSet_iff.1 ha
  unfold tb
  refine Nat.testBit_lt_two_pow (Nat.lt_of_lt_of_le (show a.toNat < 2 ^ 8 by omega) (Nat.pow_le_pow_right (by omega) hj))
theorem subS_tb {a : Int} (b : Int) (ha : isSet a = true) : subS a b = true ↔ ∀ j, j < 8 → tb a.toNat j = true → tb b.toNat j = true := by
  simp only [subS, beq_iff_eq]
  constructor
  · intro h j _ hj
    have := congrArg (fun x => x.testBit j) h
    simp only [Nat.testBit_and] at this
    unfold tb at hj ⊢
    rw [hj] at this
    simpa using this
  · intro h
    apply Nat.eq_of_testBit_eq
    intro j
    rw [Nat.testBit_and]
    by_cases hj : j < 8
    · have := h j hj
      unfold tb at this
      revert this
      cases a.toNat.testBit j <;> simp
    · have := tb_hi ha (j := j) (by omega)
      unfold tb at this
      rw [this]; simp
theorem meetS_tb {a : Int} (b : Int) (ha : isSet a = true) : meetS a b = false ↔ ∀ j, j < 8 → (tb a.toNat j && tb b.toNat j) = false := by
  simp only [meetS, Bool.not_eq_false', beq_iff_eq]
  constructor
  · intro h j _
    have := congrArg (fun x => x.testBit j) h
    simpa [Nat.testBit_and, tb] using this
  · intro h
    apply Nat.eq_of_testBit_eq
    intro j
    rw [Nat.testBit_and, Nat.zero_testBit]
    by_cases hj : j < 8
    · exact h j hj
    · have := tb_hi ha (j := j) (by omega)
      unfold tb at this
      rw [this]; simp

def badMay (nr nw all non mr mw : Int) (j : Nat) : Bool := ((hasB nr (j : Int) || hasB all (j : Int) || hasB non (j : Int)) && !hasB mr (j : Int)) || (hasB nw (j : Int) && !hasB mw (j : Int))
theorem badMay_none {nr nw all non : Int} (mr mw : Int) (h1 : isSet nr = true) (h2 : isSet nw = true) (h3 : isSet all = true) (h4 : isSet non = true) :
    (subS (orS (orS nr all) non) mr && subS nw mw) = true ↔ ∀ j, j < 8 → badMay nr nw all non mr mw j = false := by
  rw [Bool.and_eq_true, subS_tb _ (or_set (or_set h1 h3) h4), subS_tb _ h2]
  constructor
  · rintro ⟨k1, k2⟩ j hj
    have k1 := k1 j hj; have k2 := k2 j hj
    rw [tb_or, tb_or] at k1
    simp only [badMay, hasB_nat _ hj]
    revert k1 k2
    cases tb nr.toNat j <;> cases tb all.toNat j <;> cases tb non.toNat j <;> cases tb mr.toNat j <;> cases tb nw.toNat j <;> cases tb mw.toNat j <;> simp
  · intro k
    refine ⟨fun j hj => ?_, fun j hj => ?_⟩
    · have k := k j hj
      rw [tb_or, tb_or]
      simp only [badMay, hasB_nat _ hj] at k
      revert k
      cases tb nr.toNat j <;> cases tb all.toNat j <;> cases tb non.toNat j <;> cases tb mr.toNat j <;> cases tb nw.toNat j <;> cases tb mw.toNat j <;> simp
    · have k := k j hj
      simp only [badMay, hasB_nat _ hj] at k
      revert k
      cases tb nr.toNat j <;> cases tb all.toNat j <;> cases tb non.toNat j <;> cases tb mr.toNat j <;> cases tb nw.toNat j <;> cases tb mw.toNat j <;> simp
def badClash (xr xw yr yw : Int) (j : Nat) : Bool := (hasB xw (j : Int) && (hasB yw (j : Int) || hasB yr (j : Int))) || (hasB xr (j : Int) && hasB yw (j : Int))
theorem badClash_none {xr xw yr yw : Int} (h1 : isSet xr = true) (h2 : isSet xw = true) (h3 : isSet yr = true) (h4 : isSet yw = true) :
    (meetS xw (orS yr yw) || meetS yw xr) = false ↔ ∀ j, j < 8 → badClash xr xw yr yw j = false := by
  rw [Bool.or_eq_false_iff, meetS_tb _ h2, meetS_tb _ h4]
  constructor
  · rintro ⟨k1, k2⟩ j hj
    have k1 := k1 j hj; have k2 := k2 j hj
    rw [tb_or] at k1
    simp only [badClash, hasB_nat _ hj]
    revert k1 k2
    cases tb xr.toNat j <;> cases tb xw.toNat j <;> cases tb yr.toNat j <;> cases tb yw.toNat j <;> simp
  · intro k
    refine ⟨fun j hj => ?_, fun j hj => ?_⟩
    · have k := k j hj
      rw [tb_or]
      simp only [badClash, hasB_nat _ hj] at k
      revert k
      cases tb xr.toNat j <;> cases tb xw.toNat j <;> cases tb yr.toNat j <;> cases tb yw.toNat j <;> simp
    · have k := k j hj
      simp only [badClash, hasB_nat _ hj] at k
      revert k
      cases tb xr.toNat j <;> cases tb xw.toNat j <;> cases tb yr.toNat j <;> cases tb yw.toNat j <;> simp

theorem rneeds_right (s : BSys) (h : Right s) (A : Option Addr) (c : Nat) (w : World) (hA : RdA w A s.acts) :
    Calls Try.prog 37 #[.agg #[.int .i64 s.mod, .int .i64 s.all, .int .i64 s.non, .slice A s.acts.length c]] w fun e w' =>
      e = .returned (.agg #[.int .i64 (needs s).reads, .int .i64 (needs s).writes, .bool (needs s).moves, .bool (needs s).life]) ∧ Below w.heap.size w w' :=
  rneeds_any s.mod s.all s.non s.acts h.1 h.2.2.2 (by have := h.2.2.1; omega) A c w hA

set_option maxRecDepth 20000 in
set_option maxHeartbeats 6400000 in
theorem rmay_any (m : BMod) (hm1 : isSet m.reads = true) (hm2 : isSet m.writes = true) (s : BSys) (h : Right s) (A : Option Addr) (c : Nat) (w : World) (hA : RdA w A s.acts) :
    Calls Try.prog 39 #[.agg #[.int .i64 m.reads, .int .i64 m.writes, .bool m.life], .agg #[.int .i64 s.mod, .int .i64 s.all, .int .i64 s.non, .slice A s.acts.length c]] w fun e w' =>
      e = .returned (.bool (may m s)) ∧ Below w.heap.size w w' := by
  have hs := needs_sets h
  have hB2 := (Blk.new w 40 #[.int .i64 m.reads, .int .i64 m.writes, .bool m.life]).alloc (.cells #[.int .i64 s.mod, .int .i64 s.all, .int .i64 s.non, .slice A s.acts.length c] 38)
  have hB3 := Blk.new (w.alloc (.cells #[.int .i64 m.reads, .int .i64 m.writes, .bool m.life] 40)) 38 #[.int .i64 s.mod, .int .i64 s.all, .int .i64 s.non, .slice A s.acts.length c]
  simp only [World.size_alloc] at hB3
  have hmay : Hid (may m s = (subS (orS (orS (needs s).reads s.all) s.non) m.reads && subS (needs s).writes m.writes && (m.life || !(needs s).life))) := Lib.hid rfl
  have hcall' := Lib.hid (rneeds_right s h A c)
  have hall := h.1
  have hnon := h.2.1
  have hbad := Lib.hid (badMay_none m.reads m.writes hs.1 hs.2 hall hnon)
  obtain ⟨hs1, hs2⟩ := hs
  generalize (needs s).reads = nr at *
  generalize (needs s).writes = nw at *
  generalize (needs s).moves = nm at *
  generalize (needs s).life = nl at *
  obtain ⟨mr, mw, ml⟩ := m
  simp only at *
  go_enter Try.func39, Try.ntmps39
  go_wp2_with fail
  refine (hcall'.out _ (RdA.grow hA (((Below.refl _ _).alloc (Nat.le_refl _) _).alloc (by simp) _))).mono ?_
  rintro e w1 ⟨rfl, hb1⟩
  have hbel1 : Below w.heap.size w w1 := grow_below (((Below.refl _ _).alloc (Nat.le_refl _) _).alloc (by simp) _) hb1
  have HM1 := (hB2.below hb1 hB2.lt).alloc (.cells #[.int .i64 nr, .int .i64 nw, .bool nm, .bool nl] 46)
  have HS1 := (hB3.below hb1 (by simp)).alloc (.cells #[.int .i64 nr, .int .i64 nw, .bool nm, .bool nl] 46)
  have HN1 := Blk.new w1 46 #[.int .i64 nr, .int .i64 nw, .bool nm, .bool nl]
  have hbel2 := hbel1.alloc hbel1.size (.cells #[.int .i64 nr, .int .i64 nw, .bool nm, .bool nl] 46)
  clear hB2 hB3 hb1 hcall' hA
  go_wp2_with fail
  go_loopw [9] (fun i wr => ∃ k : Nat, k ≤ 8 ∧ i = .int .i64 k ∧ Hid (∀ j, j < k → badMay nr nw s.all s.non mr mw j = false) ∧ Below w.heap.size w wr ∧ Blk wr w.heap.size 40 #[.int .i64 mr, .int .i64 mw, .bool ml] ∧
      Blk wr (w.heap.size + 1) 38 #[.int .i64 s.mod, .int .i64 s.all, .int .i64 s.non, .slice A s.acts.length c] ∧ Blk wr w1.heap.size 46 #[.int .i64 nr, .int .i64 nw, .bool nm, .bool nl]) (fun i _ => 8 - (intOf i).toNat)
  case atStart => exact ⟨0, by omega, rfl, Lib.hid (fun j hj => absurd hj (by omega)), hbel2, HM1, HS1, HN1⟩
  case round =>
    clear HM1 HS1 HN1 hbel2
    obtain ⟨k, hk, rfl, hno, hbel, HM, HS, HN⟩ := hrel
    have m0 := HM.cell 0; have m1 := HM.cell 1; have m2 := HM.cell 2
    have x0 := HS.cell 0; have x1 := HS.cell 1; have x2 := HS.cell 2; have x3 := HS.cell 3
    have n0 := HN.cell 0; have n1 := HN.cell 1; have n2 := HN.cell 2; have n3 := HN.cell 3
    simp at m0 m1 m2 x0 x1 x2 x3 n0 n1 n2 n3
    by_cases hlt : k < 8
    · go_upto_region 5 with fail
      go_cut [49] (fun s49 wx => s49 = .bool (badMay nr nw s.all s.non mr mw k) ∧ Below wr.heap.size wr wx)
      case first =>
        have hw0 : Below wr.heap.size wr wr := Below.refl _ _
        have hbv : Hid (badMay nr nw s.all s.non mr mw k = (((hasB nr (k : Int) || hasB s.all (k : Int) || hasB s.non (k : Int)) && !hasB mr (k : Int)) || (hasB nw (k : Int) && !hasB mw (k : Int)))) := Lib.hid rfl
        cases b1 : hasB nr (k : Int) <;> cases b2 : hasB s.all (k : Int) <;> cases b3 : hasB s.non (k : Int) <;> cases b4 : hasB mr (k : Int) <;> cases b5 : hasB nw (k : Int) <;> cases b6 : hasB mw (k : Int)
        all_goals (
          go_wp2_with (go_at_call 30; refine (rhas_any _ _ (by assumption) _).mono ?_; rintro e w2 ⟨rfl, hb2⟩; replace HM := HM.below hb2 HM.lt; replace HS := HS.below hb2 HS.lt; replace HN := HN.below hb2 HN.lt; replace hw0 := grow_below hw0 hb2; have m0 := HM.cell 0; have m1 := HM.cell 1; have x1 := HS.cell 1; have x2 := HS.cell 2; have n0 := HN.cell 0; have n1 := HN.cell 1; simp at m0 m1 x1 x2 n0 n1)
          go_meet
          exact ⟨by rw [hbv.out, b1, b2, b3, b4, b5, b6]; rfl, hw0⟩)
      case rest =>
        obtain ⟨rfl, hb5⟩ := hcut
        cases hq : badMay nr nw s.all s.non mr mw k
        case true =>
          have hf : Hid (may ⟨mr, mw, ml⟩ s = false) := Lib.hid (by
            rw [hmay.out]
            cases q : (subS (orS (orS nr s.all) s.non) mr && subS nw mw)
            · rfl
            · have := hbad.out.1 q k hlt
              rw [hq] at this
              cases this)
          go_wp2_with fail
          go_ret
          exact ⟨ret_bool hf.out.symm, grow_below hbel hb5⟩
        case false =>
          have hno2 : Hid (∀ j, j < k + 1 → badMay nr nw s.all s.non mr mw j = false) := Lib.hid (by
            intro j hj
            by_cases e : j = k
            · subst e; exact hq
            · exact hno.out j (by omega))
          go_wp2_with fail
          go_roundw
          case rel => exact ⟨k + 1, by omega, by go_num, hno2, grow_below hbel hb5, HM.below hb5 HM.lt, HS.below hb5 HS.lt, HN.below hb5 HN.lt⟩
          case measure => simp [intOf]; omega
    · obtain rfl : k = 8 := by omega
      have hf : Hid (may ⟨mr, mw, ml⟩ s = (ml || !nl)) := Lib.hid (by rw [hmay.out, hbad.out.2 hno.out, Bool.true_and])
      cases ml <;> cases nl
      all_goals (
        go_wp2_with fail
        go_ret
        exact ⟨ret_bool hf.out.symm, hbel⟩)
end Go.Proofs.Ytefdblaolmckmaa
