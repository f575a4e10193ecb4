/- RuleMore: who may more may this. -/
import Derived.Test.YtefdblaolmckmaaLaw4W
namespace Go.Proofs.Ytefdblaolmckmaa
open Go.RowKit
open Brood
set_option linter.unusedVariables false
set_option linter.unusedSimpArgs false

theorem subS_or {a b c : Int} (h : subS a b = true) : subS a (orS b c) = true := by
  simp only [subS, orS, beq_iff_eq, Int.toNat_natCast] at h ⊢
  refine Nat.eq_of_testBit_eq fun i => ?_
  have := congrArg (fun x => x.testBit i) h
  simp only [Nat.testBit_and, Nat.testBit_or] at this ⊢
  revert this
  cases a.toNat.testBit i <;> cases b.toNat.testBit i <;> simp
theorem subS_all {a : Int} (h : isSet a = true) : subS a 255 = true := by
  have h' := isSet_iff.1 h
  simp only [subS, beq_iff_eq]
  rw [show (255 : Int).toNat = 2 ^ 8 - 1 from rfl, Nat.and_two_pow_sub_one_eq_mod]
  exact Nat.mod_eq_of_lt (by omega)
theorem may_more {m n : BMod} {s : BSys} (h : may m s = true) : may ⟨orS m.reads n.reads, orS m.writes n.writes, m.life || n.life⟩ s = true := by
  simp only [may, Bool.and_eq_true] at h ⊢
  refine ⟨⟨subS_or h.1.1, subS_or h.1.2⟩, ?_⟩
  have := h.2
  revert this
  cases m.life <;> cases n.life <;> simp
theorem may_all {s : BSys} (h : Right s) : may ⟨255, 255, true⟩ s = true := by
  have hs := needs_sets h
  simp only [may, Bool.and_eq_true]
  exact ⟨⟨subS_all (or_set (or_set hs.1 h.1) h.2.1), subS_all hs.2⟩, by simp⟩

set_option maxRecDepth 20000 in
set_option maxHeartbeats 1600000 in
theorem ruleMore_any (s : BSys) (A : Option Addr) (c : Nat) (mr mw : Int) (ml : Bool) (nr nw : Int) (nl : Bool) (w : World) (hA : RdA w A s.acts) :
    Calls Try.prog 6 #[.agg #[.int .i64 s.mod, .int .i64 s.all, .int .i64 s.non, .slice A s.acts.length c], .agg #[.int .i64 mr, .int .i64 mw, .bool ml], .agg #[.int .i64 nr, .int .i64 nw, .bool nl]] w fun e w' => e = .returned (.bool true) ∧ Below w.heap.size w w' := by
  have hfd : ∀ (a b : Int) (w : World), (Instr.field 43 (.agg #[.int .i64 a, .int .i64 b]) 0).run Try.prog w = .ok (.int .i64 a) w := fun _ _ _ => by kernel_rfl
  have HS := ((Blk.new w 38 #[.int .i64 s.mod, .int .i64 s.all, .int .i64 s.non, .slice A s.acts.length c]).alloc (.cells #[.int .i64 mr, .int .i64 mw, .bool ml] 40)).alloc (.cells #[.int .i64 nr, .int .i64 nw, .bool nl] 40)
  have HM := (Blk.new (w.alloc (.cells #[.int .i64 s.mod, .int .i64 s.all, .int .i64 s.non, .slice A s.acts.length c] 38)) 40 #[.int .i64 mr, .int .i64 mw, .bool ml]).alloc (.cells #[.int .i64 nr, .int .i64 nw, .bool nl] 40)
  have HN := Blk.new ((w.alloc (.cells #[.int .i64 s.mod, .int .i64 s.all, .int .i64 s.non, .slice A s.acts.length c] 38)).alloc (.cells #[.int .i64 mr, .int .i64 mw, .bool ml] 40)) 40 #[.int .i64 nr, .int .i64 nw, .bool nl]
  simp only [World.size_alloc] at HM HN
  have hA1 : RdA (((w.alloc (.cells #[.int .i64 s.mod, .int .i64 s.all, .int .i64 s.non, .slice A s.acts.length c] 38)).alloc (.cells #[.int .i64 mr, .int .i64 mw, .bool ml] 40)).alloc (.cells #[.int .i64 nr, .int .i64 nw, .bool nl] 40)) A s.acts := Rd.alloc_ (Rd.alloc_ (Rd.alloc_ hA _) _) _
  have hbel : Below w.heap.size w (((w.alloc (.cells #[.int .i64 s.mod, .int .i64 s.all, .int .i64 s.non, .slice A s.acts.length c] 38)).alloc (.cells #[.int .i64 mr, .int .i64 mw, .bool ml] 40)).alloc (.cells #[.int .i64 nr, .int .i64 nw, .bool nl] 40)) := (((Below.refl _ _).alloc (Nat.le_refl _) _).alloc (by simp) _).alloc (by simp; omega) _
  go_enter Try.func6, Try.ntmps6
  go_wp2_with fail
  refine (alive4_any _).mono ?_
  rintro e w1 ⟨rfl, hb1⟩
  replace HS := HS.below hb1 HS.lt
  replace HM := HM.below hb1 HM.lt
  replace HN := HN.below hb1 HN.lt
  replace hA1 : RdA w1 A s.acts := Rd.grow hA1 hb1
  replace hbel := grow_below hbel hb1
  have s0 := HS.cell 0; have s1 := HS.cell 1; have s2 := HS.cell 2; have s3 := HS.cell 3
  simp at s0 s1 s2 s3
  go_wp2_with fail
  refine (wrong_any s A c w1 hA1).mono ?_
  rintro e w2 ⟨rfl, hb2⟩
  replace HS := HS.below hb2 HS.lt
  replace HM := HM.below hb2 HM.lt
  replace HN := HN.below hb2 HN.lt
  replace hA1 : RdA w2 A s.acts := Rd.grow hA1 hb2
  replace hbel := grow_below hbel hb2
  by_cases hw : (sysWrong s).1 = 0
  case neg =>
    go_wp2_with fail
    go_ret
    exact ⟨rfl, hbel⟩
  rw [hw]
  have hR := right_of hw
  clear s0 s1 s2 s3
  have m0 := HM.cell 0; have m1 := HM.cell 1; have m2 := HM.cell 2
  simp at m0 m1 m2
  have k0 := HN.cell 0; have k1 := HN.cell 1; have k2 := HN.cell 2
  simp at k0 k1 k2
  have r1 := rset_any mr w2
  have r2 := rset_any mw w2
  have r3 := rset_any nr w2
  have r4 := rset_any nw w2
  by_cases hm1 : isSet mr = true
  case neg =>
    rw [Bool.not_eq_true] at hm1
    rw [hm1] at r1
    go_wp2_with fail
    refine r1.mono ?_
    rintro e w3 ⟨rfl, rfl⟩
    go_wp2_with fail
    go_ret
    exact ⟨rfl, hbel⟩
  rw [hm1] at r1
  go_wp2_with fail
  refine r1.mono ?_
  rintro e w3 ⟨rfl, rfl⟩
  by_cases hm2 : isSet mw = true
  case neg =>
    rw [Bool.not_eq_true] at hm2
    rw [hm2] at r2
    go_wp2_with fail
    refine r2.mono ?_
    rintro e w3 ⟨rfl, rfl⟩
    go_wp2_with fail
    go_ret
    exact ⟨rfl, hbel⟩
  rw [hm2] at r2
  go_wp2_with fail
  refine r2.mono ?_
  rintro e w3 ⟨rfl, rfl⟩
  by_cases hn1 : isSet nr = true
  case neg =>
    rw [Bool.not_eq_true] at hn1
    rw [hn1] at r3
    go_wp2_with fail
    refine r3.mono ?_
    rintro e w3 ⟨rfl, rfl⟩
    go_wp2_with fail
    go_ret
    exact ⟨rfl, hbel⟩
  rw [hn1] at r3
  go_wp2_with fail
  refine r3.mono ?_
  rintro e w3 ⟨rfl, rfl⟩
  by_cases hn2 : isSet nw = true
  case neg =>
    rw [Bool.not_eq_true] at hn2
    rw [hn2] at r4
    go_wp2_with fail
    refine r4.mono ?_
    rintro e w3 ⟨rfl, rfl⟩
    go_wp2_with fail
    go_ret
    exact ⟨rfl, hbel⟩
  rw [hn2] at r4
  go_wp2_with fail
  refine r4.mono ?_
  rintro e w3 ⟨rfl, rfl⟩
  have o1 := bits_or_set hm1 hn1
  have o2 := bits_or_set hm2 hn2
  clear r1 r2 r3 r4
  cases ml
  case false =>
    have HM2 := HM.alloc (.cells #[.int .i64 (orS mr nr), .int .i64 (orS mw nw), .bool nl] 40)
    have HS2 := HS.alloc (.cells #[.int .i64 (orS mr nr), .int .i64 (orS mw nw), .bool nl] 40)
    have HQ := Blk.new w2 40 #[.int .i64 (orS mr nr), .int .i64 (orS mw nw), .bool nl]
    have hA2 : RdA (w2.alloc (.cells #[.int .i64 (orS mr nr), .int .i64 (orS mw nw), .bool nl] 40)) A s.acts := Rd.alloc_ hA1 _
    have hbel2 := hbel.alloc hbel.size (.cells #[.int .i64 (orS mr nr), .int .i64 (orS mw nw), .bool nl] 40)
    have hz : w.heap.size + 1 + 1 < w2.heap.size := HN.lt
    have s0 := HS2.cell 0; have s1 := HS2.cell 1; have s2 := HS2.cell 2; have s3 := HS2.cell 3
    have u0 := HM2.cell 0; have u1 := HM2.cell 1; have u2 := HM2.cell 2
    simp at s0 s1 s2 s3 u0 u1 u2
    go_wp2_with fail
    refine (may_any ⟨mr, mw, false⟩ hm1 hm2 s hR A c _ hA2).mono ?_
    rintro e w3 ⟨rfl, hb3⟩
    replace HS2 := HS2.below hb3 HS2.lt
    replace HQ := HQ.below hb3 HQ.lt
    replace hA2 : RdA w3 A s.acts := Rd.grow hA2 hb3
    replace hbel2 := grow_below hbel2 hb3
    clear s0 s1 s2 s3 u0 u1 u2 m0 m1 m2 k0 k1 k2 HM2
    have s0 := HS2.cell 0; have s1 := HS2.cell 1; have s2 := HS2.cell 2; have s3 := HS2.cell 3
    have q0 := HQ.cell 0; have q1 := HQ.cell 1; have q2 := HQ.cell 2
    simp at s0 s1 s2 s3 q0 q1 q2
    by_cases hy : may ⟨mr, mw, false⟩ s = true
    · have hy2 : may ⟨orS mr nr, orS mw nw, nl⟩ s = true := may_more (m := ⟨mr, mw, false⟩) (n := ⟨nr, nw, nl⟩) hy
      rw [hy]
      go_wp2_with fail
      refine (may_any ⟨orS mr nr, orS mw nw, nl⟩ (or_set hm1 hn1) (or_set hm2 hn2) s hR A c _ hA2).mono ?_
      rintro e w4 ⟨rfl, hb4⟩
      rw [hy2]
      replace HS2 := HS2.below hb4 HS2.lt
      replace hA2 : RdA w4 A s.acts := Rd.grow hA2 hb4
      replace hbel2 := grow_below hbel2 hb4
      clear s0 s1 s2 s3 q0 q1 q2
      have s0 := HS2.cell 0; have s1 := HS2.cell 1; have s2 := HS2.cell 2; have s3 := HS2.cell 3
      simp at s0 s1 s2 s3
      go_wp2_with fail
      refine (may_any ⟨255, 255, true⟩ (by decide) (by decide) s hR A c _ hA2).mono ?_
      rintro e w5 ⟨rfl, hb5⟩
      rw [may_all hR]
      go_wp2_with fail
      go_ret
      exact ⟨rfl, grow_below hbel2 hb5⟩
    · rw [Bool.not_eq_true] at hy
      rw [hy]
      go_wp2_with fail
      refine (may_any ⟨255, 255, true⟩ (by decide) (by decide) s hR A c _ hA2).mono ?_
      rintro e w5 ⟨rfl, hb5⟩
      rw [may_all hR]
      go_wp2_with fail
      go_ret
      exact ⟨rfl, grow_below hbel2 hb5⟩
  case true =>
    have HM2 := HM.alloc (.cells #[.int .i64 (orS mr nr), .int .i64 (orS mw nw), .bool true] 40)
    have HS2 := HS.alloc (.cells #[.int .i64 (orS mr nr), .int .i64 (orS mw nw), .bool true] 40)
    have HQ := Blk.new w2 40 #[.int .i64 (orS mr nr), .int .i64 (orS mw nw), .bool true]
    have hA2 : RdA (w2.alloc (.cells #[.int .i64 (orS mr nr), .int .i64 (orS mw nw), .bool true] 40)) A s.acts := Rd.alloc_ hA1 _
    have hbel2 := hbel.alloc hbel.size (.cells #[.int .i64 (orS mr nr), .int .i64 (orS mw nw), .bool true] 40)
    have hz : w.heap.size + 1 + 1 < w2.heap.size := HN.lt
    have s0 := HS2.cell 0; have s1 := HS2.cell 1; have s2 := HS2.cell 2; have s3 := HS2.cell 3
    have u0 := HM2.cell 0; have u1 := HM2.cell 1; have u2 := HM2.cell 2
    simp at s0 s1 s2 s3 u0 u1 u2
    go_wp2_with fail
    refine (may_any ⟨mr, mw, true⟩ hm1 hm2 s hR A c _ hA2).mono ?_
    rintro e w3 ⟨rfl, hb3⟩
    replace HS2 := HS2.below hb3 HS2.lt
    replace HQ := HQ.below hb3 HQ.lt
    replace hA2 : RdA w3 A s.acts := Rd.grow hA2 hb3
    replace hbel2 := grow_below hbel2 hb3
    clear s0 s1 s2 s3 u0 u1 u2 m0 m1 m2 k0 k1 k2 HM2
    have s0 := HS2.cell 0; have s1 := HS2.cell 1; have s2 := HS2.cell 2; have s3 := HS2.cell 3
    have q0 := HQ.cell 0; have q1 := HQ.cell 1; have q2 := HQ.cell 2
    simp at s0 s1 s2 s3 q0 q1 q2
    by_cases hy : may ⟨mr, mw, true⟩ s = true
    · have hy2 : may ⟨orS mr nr, orS mw nw, true⟩ s = true := may_more (m := ⟨mr, mw, true⟩) (n := ⟨nr, nw, nl⟩) hy
      rw [hy]
      go_wp2_with fail
      refine (may_any ⟨orS mr nr, orS mw nw, true⟩ (or_set hm1 hn1) (or_set hm2 hn2) s hR A c _ hA2).mono ?_
      rintro e w4 ⟨rfl, hb4⟩
      rw [hy2]
      replace HS2 := HS2.below hb4 HS2.lt
      replace hA2 : RdA w4 A s.acts := Rd.grow hA2 hb4
      replace hbel2 := grow_below hbel2 hb4
      clear s0 s1 s2 s3 q0 q1 q2
      have s0 := HS2.cell 0; have s1 := HS2.cell 1; have s2 := HS2.cell 2; have s3 := HS2.cell 3
      simp at s0 s1 s2 s3
      go_wp2_with fail
      refine (may_any ⟨255, 255, true⟩ (by decide) (by decide) s hR A c _ hA2).mono ?_
      rintro e w5 ⟨rfl, hb5⟩
      rw [may_all hR]
      go_wp2_with fail
      go_ret
      exact ⟨rfl, grow_below hbel2 hb5⟩
    · rw [Bool.not_eq_true] at hy
      rw [hy]
      go_wp2_with fail
      refine (may_any ⟨255, 255, true⟩ (by decide) (by decide) s hR A c _ hA2).mono ?_
      rintro e w5 ⟨rfl, hb5⟩
      rw [may_all hR]
      go_wp2_with fail
      go_ret
      exact ⟨rfl, grow_below hbel2 hb5⟩
end Go.Proofs.Ytefdblaolmckmaa
