/- The walks of rule.Needs, May, Clash. The walks of rule.May and rule.Clash. -/
import Derived.Test.YtefdblaolmckmabRuleA
namespace Go.Proofs.Ytefdblaolmckmab
open Go.RowKit
open Brood
set_option linter.unusedVariables false
set_option linter.unusedSimpArgs false
theorem i64_or_nat (a b : Nat) (ha : a < 9223372036854775808) (hb : b < 9223372036854775808) : bits .or .i64 (a : Int) (b : Int) = ((a ||| b : Nat) : Int) := by
  have ofInt_i64 : ∀ (a : Nat), a < 9223372036854775808 → (BitVec.ofInt 64 (a : Int)).toNat = a := by
    intro a ha
    rw [BitVec.ofInt_natCast, BitVec.toNat_ofNat]; exact Nat.mod_eq_of_lt (by omega)
  have hx : a ||| b < 2 ^ 63 := Nat.or_lt_two_pow (by omega) (by omega)
  show IntKind.i64.wrap ((BitVec.ofInt 64 (a : Int) ||| BitVec.ofInt 64 (b : Int)).toNat : Int) = _
  rw [BitVec.toNat_or, ofInt_i64 a ha, ofInt_i64 b hb, IntKind.wrap_i64]
  omega
theorem bits_or_set {a b : Int} (ha : isSet a = true) (hb : isSet b = true) : bits .or .i64 a b = orS a b := by
  rw [isSet_iff] at ha hb
  obtain ⟨a, rfl⟩ := nat_of ha.1
  obtain ⟨b, rfl⟩ := nat_of hb.1
  rw [i64_or_nat a b (by omega) (by omega)]
  simp [orS]
theorem or_set {a b : Int} (ha : isSet a = true) (hb : isSet b = true) : isSet (orS a b) = true := by
  rw [isSet_iff] at *
  have h1 : a.toNat < 2 ^ 8 := by omega
  have h2 : b.toNat < 2 ^ 8 := by omega
  have := Nat.or_lt_two_pow h1 h2
  unfold orS
  omega
def needV (n : BNeed) : Value := .agg #[.int .i64 n.reads, .int .i64 n.writes, .bool n.moves, .bool n.life]
theorem ok_part {all kind part src n : Int} (h : actErr all ⟨kind, part, src, n⟩ = 0) (hk : kind = 7) : isSet part = true := by
  subst hk
  cases q : isSet part with
  | true => rfl
  | false => simp [actErr, q] at h
theorem wrong_acts {all : Int} : ∀ (l : List BAct) (g : Int) (i : Nat), (wrongFrom all g i l).1 = 0 → ∀ a ∈ l, actErr all a = 0 := by
  intro l
  induction l with
  | nil => intro g i _ a ha; simp at ha
  | cons x l ih =>
    intro g i h a ha
    by_cases hx : actErr all x = 0
    · by_cases hg : goneErr g x = true
      · simp [wrongFrom, hx, hg] at h
      · have hg' : goneErr g x = false := by simpa using hg
        rw [wrongFrom_ok hx hg'] at h
        rcases List.mem_cons.1 ha with rfl | ha
        · exact hx
        · exact ih _ _ h a ha
    · simp [wrongFrom, hx] at h
section
variable (all r v part src n : Int) (m l : Bool)
theorem needAct_1 : needAct all ⟨r, v, m, l⟩ ⟨1, part, src, n⟩ = ⟨r, withS v part, m || !hasB all part, l⟩ := by simp [needAct, isOwn, isFrom]
theorem needAct_2 : needAct all ⟨r, v, m, l⟩ ⟨2, part, src, n⟩ = ⟨withS r src, withS v part, m || !hasB all part, l⟩ := by simp [needAct, isOwn, isFrom]
theorem needAct_3 : needAct all ⟨r, v, m, l⟩ ⟨3, part, src, n⟩ = ⟨withS (withS r src) part, withS v part, m || !hasB all part, l⟩ := by simp [needAct, isOwn, isFrom]
theorem needAct_4 : needAct all ⟨r, v, m, l⟩ ⟨4, part, src, n⟩ = ⟨withS r part, withS v part, m || !hasB all part, l⟩ := by simp [needAct, isOwn, isFrom]
theorem needAct_5 : needAct all ⟨r, v, m, l⟩ ⟨5, part, src, n⟩ = ⟨r, withS v part, true, l⟩ := by simp [needAct, isOwn, isFrom]
theorem needAct_6 : needAct all ⟨r, v, m, l⟩ ⟨6, part, src, n⟩ = ⟨r, v, m, true⟩ := by simp [needAct, isOwn, isFrom]
theorem needAct_7 : needAct all ⟨r, v, m, l⟩ ⟨7, part, src, n⟩ = ⟨r, orS v part, m, true⟩ := by simp [needAct, isOwn, isFrom]
end
set_option maxRecDepth 20000 in
set_option maxHeartbeats 3200000 in
theorem needs_any (mod all non : Int) (acts : List BAct) (hall : isSet all = true) (hok : ∀ a ∈ acts, actErr all a = 0) (hlen : acts.length ≤ 1000000) (A : Option Addr) (c : Nat) (w : World) (hA : RdA w A acts) :
    Calls Try.prog 49 #[.agg #[.int .i64 mod, .int .i64 all, .int .i64 non, .slice A acts.length c]] w fun e w' =>
      e = .returned (needV (acts.foldl (needAct all) ⟨0, 0, false, false⟩)) ∧ Below w.heap.size w w' := by
  go_enter Try.func49, Try.ntmps49
  go_wp2_with fail
  have B0 := ((Blk.new w 85 #[.int .i64 mod, .int .i64 all, .int .i64 non, .slice A acts.length c]).alloc (.cells #[.int .i64 0, .int .i64 0, .bool false, .bool false] 89)).alloc (.cells #[.int .i64 0, .int .i64 0, .bool false, .bool false] 89)
  have R0 := (Blk.new (w.alloc (.cells #[.int .i64 mod, .int .i64 all, .int .i64 non, .slice A acts.length c] 85)) 89 #[.int .i64 0, .int .i64 0, .bool false, .bool false]).alloc (.cells #[.int .i64 0, .int .i64 0, .bool false, .bool false] 89)
  have N0 := Blk.new ((w.alloc (.cells #[.int .i64 mod, .int .i64 all, .int .i64 non, .slice A acts.length c] 85)).alloc (.cells #[.int .i64 0, .int .i64 0, .bool false, .bool false] 89)) 89 #[.int .i64 0, .int .i64 0, .bool false, .bool false]
  simp only [World.size_alloc] at R0 N0
  go_loopw [9] (fun i wr => ∃ (k : Nat) (r v : Int) (m l : Bool), k ≤ acts.length ∧ i = .int .i64 k ∧ isSet r = true ∧ isSet v = true ∧
      Hid (acts.foldl (needAct all) ⟨0, 0, false, false⟩ = (acts.drop k).foldl (needAct all) ⟨r, v, m, l⟩) ∧
      Below w.heap.size w wr ∧ RdAB wr w.heap.size A acts ∧ Blk wr w.heap.size 85 #[.int .i64 mod, .int .i64 all, .int .i64 non, .slice A acts.length c] ∧
      Blk wr (w.heap.size + 1) 89 #[.int .i64 0, .int .i64 0, .bool false, .bool false] ∧ Blk wr (w.heap.size + 1 + 1) 89 #[.int .i64 r, .int .i64 v, .bool m, .bool l]) (fun i _ => acts.length - (intOf i).toNat)
  case atStart => exact ⟨0, 0, 0, false, false, Nat.zero_le _, rfl, by decide, by decide, Lib.hid (by simp), (((Below.refl _ _).alloc (Nat.le_refl _) _).alloc (by simp) _).alloc (by simp; omega) _, Rd.alloc (Rd.alloc (Rd.alloc hA (Nat.le_refl _) _) (by simp) _) (by simp; omega) _, B0, R0, N0⟩
  case round =>
    clear B0 R0 N0 hA
    obtain ⟨k, r, v, m, l, hk, rfl, hr, hv, heq, hbel, hA, HB, HR, HN⟩ := hrel
    have e1 := HB.cell 1; have e3 := HB.cell 3
    have n0 := HN.cell 0; have n1 := HN.cell 1; have n2 := HN.cell 2; have n3 := HN.cell 3
    have s1 := HB.lt; have s2 := HR.lt; have s3 := HN.lt
    simp at e1 e3 n0 n1 n2 n3
    by_cases hlt : k < acts.length
    · obtain ⟨b, off, rfl, hb, ha⟩ := hA.at_ hlt
      have x0 := HN.frozen 0; have x1 := HN.frozen 1; have x2 := HN.frozen 2; have x3 := HN.frozen 3
      have i0 : (0 : Int) ≤ (k : Int) := by omega
      have i1 : (k : Int) < (acts.length : Int) := by omega
      have hst := Lib.hid (drop_cons hlt)
      have hka := hok acts[k] (List.getElem_mem hlt)
      obtain ⟨hc0, hc1, hc2, hc3⟩ := ha
      generalize acts[k] = a at *
      obtain ⟨kind, part, src, n⟩ := a
      simp only at hc0 hc1 hc2 hc3
      have hkinds := kinds_of_ok hka
      have hsp := ok_part hka
      have hka' := Lib.hid hka
      have hst2 : Hid (acts.foldl (needAct all) ⟨0, 0, false, false⟩ = (acts.drop (k + 1)).foldl (needAct all) (needAct all ⟨r, v, m, l⟩ ⟨kind, part, src, n⟩)) := Lib.hid (by rw [heq.out, hst.out]; rfl)
      clear hka hst
      have hbs : w.heap.size ≤ wr.heap.size := hbel.size
      have hbne : b ≠ w.heap.size + 1 + 1 := by omega
      rcases hkinds with rfl | rfl | rfl | rfl | rfl | rfl | rfl
      · have hst3 := hst2.out
        rw [needAct_1] at hst3
        have hst4 := Lib.hid hst3
        clear hst2 hst3
        clear hsp
        cases m
        · go_wp2_with (first | (go_at_call_of 74 (Value.int IntKind.i64 v); refine (with_any _ _ hv _).mono ?_; rintro e w' ⟨rfl, rfl⟩) | (go_at_call 77; refine (has_any _ _ hall _).mono ?_; rintro e w' ⟨rfl, rfl⟩))
          go_roundw
          case rel =>
            refine ⟨k + 1, _, _, _, _, by omega, by go_num, hr, with_set hv, hst4, (((hbel.setCell (by simp; omega) _).setCell (by simp; omega) _).alloc (by simp; omega) _), (Rd.alloc (Rd.setCell (Rd.setCell hA (by simp; omega) _) (by simp; omega) _) (by simp; omega) _), by exact ((HB.far (by simp; omega) _).far (by simp; omega) _).alloc _, by exact ((HR.far (by simp) _).far (by simp) _).alloc _, ?_⟩
            have h := ((HN.set_ 1 (.int .i64 (withS v part))).set_ 2 (.bool (!hasB all part))).alloc (.cells #[.int .i64 1, .int .i64 part, .int .i64 src, .int .i64 n] 136)
            simpa using h
          case measure => simp [intOf]; omega
        · go_wp2_with (first | (go_at_call_of 74 (Value.int IntKind.i64 v); refine (with_any _ _ hv _).mono ?_; rintro e w' ⟨rfl, rfl⟩) | (go_at_call 77; refine (has_any _ _ hall _).mono ?_; rintro e w' ⟨rfl, rfl⟩))
          go_roundw
          case rel =>
            refine ⟨k + 1, _, _, _, _, by omega, by go_num, hr, with_set hv, hst4, (((hbel.setCell (by simp; omega) _).setCell (by simp; omega) _).alloc (by simp; omega) _), (Rd.alloc (Rd.setCell (Rd.setCell hA (by simp; omega) _) (by simp; omega) _) (by simp; omega) _), by exact ((HB.far (by simp; omega) _).far (by simp; omega) _).alloc _, by exact ((HR.far (by simp) _).far (by simp) _).alloc _, ?_⟩
            have h := ((HN.set_ 1 (.int .i64 (withS v part))).set_ 2 (.bool true)).alloc (.cells #[.int .i64 1, .int .i64 part, .int .i64 src, .int .i64 n] 136)
            simpa using h
          case measure => simp [intOf]; omega
      · have hst3 := hst2.out
        rw [needAct_2] at hst3
        have hst4 := Lib.hid hst3
        clear hst2 hst3
        clear hsp
        cases m
        · go_wp2_with (first | (go_at_call_of 74 (Value.int IntKind.i64 r); refine (with_any _ _ hr _).mono ?_; rintro e w' ⟨rfl, rfl⟩) | (go_at_call_of 74 (Value.int IntKind.i64 v); refine (with_any _ _ hv _).mono ?_; rintro e w' ⟨rfl, rfl⟩) | (go_at_call 77; refine (has_any _ _ hall _).mono ?_; rintro e w' ⟨rfl, rfl⟩))
          go_roundw
          case rel =>
            refine ⟨k + 1, _, _, _, _, by omega, by go_num, with_set hr, with_set hv, hst4, ((((hbel.setCell (by simp; omega) _).setCell (by simp; omega) _).setCell (by simp; omega) _).alloc (by simp; omega) _), (Rd.alloc (Rd.setCell (Rd.setCell (Rd.setCell hA (by simp; omega) _) (by simp; omega) _) (by simp; omega) _) (by simp; omega) _), by exact (((HB.far (by simp; omega) _).far (by simp; omega) _).far (by simp; omega) _).alloc _, by exact (((HR.far (by simp) _).far (by simp) _).far (by simp) _).alloc _, ?_⟩
            have h := (((HN.set_ 0 (.int .i64 (withS r src))).set_ 1 (.int .i64 (withS v part))).set_ 2 (.bool (!hasB all part))).alloc (.cells #[.int .i64 2, .int .i64 part, .int .i64 src, .int .i64 n] 136)
            simpa using h
          case measure => simp [intOf]; omega
        · go_wp2_with (first | (go_at_call_of 74 (Value.int IntKind.i64 r); refine (with_any _ _ hr _).mono ?_; rintro e w' ⟨rfl, rfl⟩) | (go_at_call_of 74 (Value.int IntKind.i64 v); refine (with_any _ _ hv _).mono ?_; rintro e w' ⟨rfl, rfl⟩) | (go_at_call 77; refine (has_any _ _ hall _).mono ?_; rintro e w' ⟨rfl, rfl⟩))
          go_roundw
          case rel =>
            refine ⟨k + 1, _, _, _, _, by omega, by go_num, with_set hr, with_set hv, hst4, ((((hbel.setCell (by simp; omega) _).setCell (by simp; omega) _).setCell (by simp; omega) _).alloc (by simp; omega) _), (Rd.alloc (Rd.setCell (Rd.setCell (Rd.setCell hA (by simp; omega) _) (by simp; omega) _) (by simp; omega) _) (by simp; omega) _), by exact (((HB.far (by simp; omega) _).far (by simp; omega) _).far (by simp; omega) _).alloc _, by exact (((HR.far (by simp) _).far (by simp) _).far (by simp) _).alloc _, ?_⟩
            have h := (((HN.set_ 0 (.int .i64 (withS r src))).set_ 1 (.int .i64 (withS v part))).set_ 2 (.bool true)).alloc (.cells #[.int .i64 2, .int .i64 part, .int .i64 src, .int .i64 n] 136)
            simpa using h
          case measure => simp [intOf]; omega
      · have hst3 := hst2.out
        rw [needAct_3] at hst3
        have hst4 := Lib.hid hst3
        clear hst2 hst3
        clear hsp
        cases m
        · go_wp2_with (first | (go_at_call_of 74 (Value.int IntKind.i64 r); refine (with_any _ _ hr _).mono ?_; rintro e w' ⟨rfl, rfl⟩) | (go_at_call_of 74 (Value.int IntKind.i64 (withS r src)); refine (with_any _ _ (with_set hr) _).mono ?_; rintro e w' ⟨rfl, rfl⟩) | (go_at_call_of 74 (Value.int IntKind.i64 v); refine (with_any _ _ hv _).mono ?_; rintro e w' ⟨rfl, rfl⟩) | (go_at_call 77; refine (has_any _ _ hall _).mono ?_; rintro e w' ⟨rfl, rfl⟩))
          go_roundw
          case rel =>
            refine ⟨k + 1, _, _, _, _, by omega, by go_num, with_set (with_set hr), with_set hv, hst4, (((((hbel.setCell (by simp; omega) _).setCell (by simp; omega) _).setCell (by simp; omega) _).setCell (by simp; omega) _).alloc (by simp; omega) _), (Rd.alloc (Rd.setCell (Rd.setCell (Rd.setCell (Rd.setCell hA (by simp; omega) _) (by simp; omega) _) (by simp; omega) _) (by simp; omega) _) (by simp; omega) _), by exact ((((HB.far (by simp; omega) _).far (by simp; omega) _).far (by simp; omega) _).far (by simp; omega) _).alloc _, by exact ((((HR.far (by simp) _).far (by simp) _).far (by simp) _).far (by simp) _).alloc _, ?_⟩
            have h := ((((HN.set_ 0 (.int .i64 (withS r src))).set_ 0 (.int .i64 (withS (withS r src) part))).set_ 1 (.int .i64 (withS v part))).set_ 2 (.bool (!hasB all part))).alloc (.cells #[.int .i64 3, .int .i64 part, .int .i64 src, .int .i64 n] 136)
            simpa using h
          case measure => simp [intOf]; omega
        · go_wp2_with (first | (go_at_call_of 74 (Value.int IntKind.i64 r); refine (with_any _ _ hr _).mono ?_; rintro e w' ⟨rfl, rfl⟩) | (go_at_call_of 74 (Value.int IntKind.i64 (withS r src)); refine (with_any _ _ (with_set hr) _).mono ?_; rintro e w' ⟨rfl, rfl⟩) | (go_at_call_of 74 (Value.int IntKind.i64 v); refine (with_any _ _ hv _).mono ?_; rintro e w' ⟨rfl, rfl⟩) | (go_at_call 77; refine (has_any _ _ hall _).mono ?_; rintro e w' ⟨rfl, rfl⟩))
          go_roundw
          case rel =>
            refine ⟨k + 1, _, _, _, _, by omega, by go_num, with_set (with_set hr), with_set hv, hst4, (((((hbel.setCell (by simp; omega) _).setCell (by simp; omega) _).setCell (by simp; omega) _).setCell (by simp; omega) _).alloc (by simp; omega) _), (Rd.alloc (Rd.setCell (Rd.setCell (Rd.setCell (Rd.setCell hA (by simp; omega) _) (by simp; omega) _) (by simp; omega) _) (by simp; omega) _) (by simp; omega) _), by exact ((((HB.far (by simp; omega) _).far (by simp; omega) _).far (by simp; omega) _).far (by simp; omega) _).alloc _, by exact ((((HR.far (by simp) _).far (by simp) _).far (by simp) _).far (by simp) _).alloc _, ?_⟩
            have h := ((((HN.set_ 0 (.int .i64 (withS r src))).set_ 0 (.int .i64 (withS (withS r src) part))).set_ 1 (.int .i64 (withS v part))).set_ 2 (.bool true)).alloc (.cells #[.int .i64 3, .int .i64 part, .int .i64 src, .int .i64 n] 136)
            simpa using h
          case measure => simp [intOf]; omega
      · have hst3 := hst2.out
        rw [needAct_4] at hst3
        have hst4 := Lib.hid hst3
        clear hst2 hst3
        clear hsp
        cases m
        · go_wp2_with (first | (go_at_call_of 74 (Value.int IntKind.i64 r); refine (with_any _ _ hr _).mono ?_; rintro e w' ⟨rfl, rfl⟩) | (go_at_call_of 74 (Value.int IntKind.i64 v); refine (with_any _ _ hv _).mono ?_; rintro e w' ⟨rfl, rfl⟩) | (go_at_call 77; refine (has_any _ _ hall _).mono ?_; rintro e w' ⟨rfl, rfl⟩))
          go_roundw
          case rel =>
            refine ⟨k + 1, _, _, _, _, by omega, by go_num, with_set hr, with_set hv, hst4, ((((hbel.setCell (by simp; omega) _).setCell (by simp; omega) _).setCell (by simp; omega) _).alloc (by simp; omega) _), (Rd.alloc (Rd.setCell (Rd.setCell (Rd.setCell hA (by simp; omega) _) (by simp; omega) _) (by simp; omega) _) (by simp; omega) _), by exact (((HB.far (by simp; omega) _).far (by simp; omega) _).far (by simp; omega) _).alloc _, by exact (((HR.far (by simp) _).far (by simp) _).far (by simp) _).alloc _, ?_⟩
            have h := (((HN.set_ 0 (.int .i64 (withS r part))).set_ 1 (.int .i64 (withS v part))).set_ 2 (.bool (!hasB all part))).alloc (.cells #[.int .i64 4, .int .i64 part, .int .i64 src, .int .i64 n] 136)
            simpa using h
          case measure => simp [intOf]; omega
        · go_wp2_with (first | (go_at_call_of 74 (Value.int IntKind.i64 r); refine (with_any _ _ hr _).mono ?_; rintro e w' ⟨rfl, rfl⟩) | (go_at_call_of 74 (Value.int IntKind.i64 v); refine (with_any _ _ hv _).mono ?_; rintro e w' ⟨rfl, rfl⟩) | (go_at_call 77; refine (has_any _ _ hall _).mono ?_; rintro e w' ⟨rfl, rfl⟩))
          go_roundw
          case rel =>
            refine ⟨k + 1, _, _, _, _, by omega, by go_num, with_set hr, with_set hv, hst4, ((((hbel.setCell (by simp; omega) _).setCell (by simp; omega) _).setCell (by simp; omega) _).alloc (by simp; omega) _), (Rd.alloc (Rd.setCell (Rd.setCell (Rd.setCell hA (by simp; omega) _) (by simp; omega) _) (by simp; omega) _) (by simp; omega) _), by exact (((HB.far (by simp; omega) _).far (by simp; omega) _).far (by simp; omega) _).alloc _, by exact (((HR.far (by simp) _).far (by simp) _).far (by simp) _).alloc _, ?_⟩
            have h := (((HN.set_ 0 (.int .i64 (withS r part))).set_ 1 (.int .i64 (withS v part))).set_ 2 (.bool true)).alloc (.cells #[.int .i64 4, .int .i64 part, .int .i64 src, .int .i64 n] 136)
            simpa using h
          case measure => simp [intOf]; omega
      · have hst3 := hst2.out
        rw [needAct_5] at hst3
        have hst4 := Lib.hid hst3
        clear hst2 hst3
        clear hsp
        cases m
        · go_wp2_with (first | (go_at_call_of 74 (Value.int IntKind.i64 v); refine (with_any _ _ hv _).mono ?_; rintro e w' ⟨rfl, rfl⟩))
          go_roundw
          case rel =>
            refine ⟨k + 1, _, _, _, _, by omega, by go_num, hr, with_set hv, hst4, (((hbel.setCell (by simp; omega) _).setCell (by simp; omega) _).alloc (by simp; omega) _), (Rd.alloc (Rd.setCell (Rd.setCell hA (by simp; omega) _) (by simp; omega) _) (by simp; omega) _), by exact ((HB.far (by simp; omega) _).far (by simp; omega) _).alloc _, by exact ((HR.far (by simp) _).far (by simp) _).alloc _, ?_⟩
            have h := ((HN.set_ 1 (.int .i64 (withS v part))).set_ 2 (.bool true)).alloc (.cells #[.int .i64 5, .int .i64 part, .int .i64 src, .int .i64 n] 136)
            simpa using h
          case measure => simp [intOf]; omega
        · go_wp2_with (first | (go_at_call_of 74 (Value.int IntKind.i64 v); refine (with_any _ _ hv _).mono ?_; rintro e w' ⟨rfl, rfl⟩))
          go_roundw
          case rel =>
            refine ⟨k + 1, _, _, _, _, by omega, by go_num, hr, with_set hv, hst4, (((hbel.setCell (by simp; omega) _).setCell (by simp; omega) _).alloc (by simp; omega) _), (Rd.alloc (Rd.setCell (Rd.setCell hA (by simp; omega) _) (by simp; omega) _) (by simp; omega) _), by exact ((HB.far (by simp; omega) _).far (by simp; omega) _).alloc _, by exact ((HR.far (by simp) _).far (by simp) _).alloc _, ?_⟩
            have h := ((HN.set_ 1 (.int .i64 (withS v part))).set_ 2 (.bool true)).alloc (.cells #[.int .i64 5, .int .i64 part, .int .i64 src, .int .i64 n] 136)
            simpa using h
          case measure => simp [intOf]; omega
      · have hst3 := hst2.out
        rw [needAct_6] at hst3
        have hst4 := Lib.hid hst3
        clear hst2 hst3
        clear hsp
        go_wp2_with (fail)
        go_roundw
        case rel =>
          refine ⟨k + 1, _, _, _, _, by omega, by go_num, hr, hv, hst4, ((hbel.setCell (by simp; omega) _).alloc (by simp; omega) _), (Rd.alloc (Rd.setCell hA (by simp; omega) _) (by simp; omega) _), by exact (HB.far (by simp; omega) _).alloc _, by exact (HR.far (by simp) _).alloc _, ?_⟩
          have h := (HN.set_ 3 (.bool true)).alloc (.cells #[.int .i64 6, .int .i64 part, .int .i64 src, .int .i64 n] 136)
          simpa using h
        case measure => simp [intOf]; omega
      · have hst3 := hst2.out
        rw [needAct_7] at hst3
        have hst4 := Lib.hid hst3
        clear hst2 hst3
        have hob := bits_or_set hv (hsp rfl)
        have hos := or_set hv (hsp rfl)
        clear hsp
        go_wp2_with (fail)
        go_roundw
        case rel =>
          refine ⟨k + 1, _, _, _, _, by omega, by go_num, hr, hos, hst4, (((hbel.setCell (by simp; omega) _).setCell (by simp; omega) _).alloc (by simp; omega) _), (Rd.alloc (Rd.setCell (Rd.setCell hA (by simp; omega) _) (by simp; omega) _) (by simp; omega) _), by exact ((HB.far (by simp; omega) _).far (by simp; omega) _).alloc _, by exact ((HR.far (by simp) _).far (by simp) _).alloc _, ?_⟩
          have h := ((HN.set_ 3 (.bool true)).set_ 1 (.int .i64 (orS v part))).alloc (.cells #[.int .i64 7, .int .i64 part, .int .i64 src, .int .i64 n] 136)
          simpa using h
        case measure => simp [intOf]; omega
    · obtain rfl : k = acts.length := by omega
      have r0 := HR.cell 0; have r1 := HR.cell 1; have r2 := HR.cell 2; have r3 := HR.cell 3
      have y0 := HR.frozen 0; have y1 := HR.frozen 1; have y2 := HR.frozen 2; have y3 := HR.frozen 3
      simp at r0 r1 r2 r3
      go_wp2_with fail
      refine bodyPost_ret (v := .agg #[.int .i64 r, .int .i64 v, .bool m, .bool l]) (by simp [results, Try.results49, go_sem, r0, r1, r2, r3, y0, y1, y2, y3]) rfl ⟨?_, ?_⟩
      · rw [heq.out]
        simp [needV]
      · exact (((hbel.setCell (by simp) _).setCell (by simp) _).setCell (by simp) _).setCell (by simp) _
end Go.Proofs.Ytefdblaolmckmab

namespace Go.Proofs.Ytefdblaolmckmab
open Go.RowKit
open Brood
set_option linter.unusedVariables false
set_option linter.unusedSimpArgs false
def Right (s : BSys) : Prop := isSet s.all = true ∧ isSet s.non = true ∧ s.acts.length ≤ 8 ∧ ∀ a ∈ s.acts, actErr s.all a = 0
theorem right_of {s : BSys} (h : (sysWrong s).1 = 0) : Right s := by
  unfold sysWrong at h
  split at h
  · rename_i hh
    split at h
    · simp at h
    · simp only [sysHead, Bool.and_eq_true] at hh
      exact ⟨hh.1.2, hh.2, by omega, wrong_acts _ _ _ h⟩
  · simp at h
theorem need_sets {all : Int} : ∀ (l : List BAct) (n : BNeed), (∀ a ∈ l, actErr all a = 0) → isSet n.reads = true → isSet n.writes = true →
    isSet (l.foldl (needAct all) n).reads = true ∧ isSet (l.foldl (needAct all) n).writes = true := by
  intro l
  induction l with
  | nil => intro n _ h1 h2; exact ⟨h1, h2⟩
  | cons a l ih =>
    intro n hok h1 h2
    rw [List.foldl_cons]
    refine ih _ (fun x hx => hok x (by simp [hx])) ?_ ?_
    · unfold needAct
      split
      · exact h1
      · split
        · exact h1
        · simp only
          split <;> split <;> first | exact with_set (with_set h1) | exact with_set h1 | exact h1
    · have ha := hok a (by simp)
      unfold needAct
      split
      · exact h2
      · split
        · rename_i h7
          obtain ⟨kind, part, src, nn⟩ := a
          exact or_set h2 (ok_part ha h7)
        · exact with_set h2
theorem needs_sets {s : BSys} (h : Right s) : isSet (needs s).reads = true ∧ isSet (needs s).writes = true :=
  need_sets _ _ h.2.2.2 (by decide) (by decide)
theorem needs_right (s : BSys) (h : Right s) (A : Option Addr) (c : Nat) (w : World) (hA : RdA w A s.acts) :
    Calls Try.prog 49 #[.agg #[.int .i64 s.mod, .int .i64 s.all, .int .i64 s.non, .slice A s.acts.length c]] w fun e w' =>
      e = .returned (.agg #[.int .i64 (needs s).reads, .int .i64 (needs s).writes, .bool (needs s).moves, .bool (needs s).life]) ∧ Below w.heap.size w w' :=
  needs_any s.mod s.all s.non s.acts h.1 h.2.2.2 (by have := h.2.2.1; omega) A c w hA
end Go.Proofs.Ytefdblaolmckmab
