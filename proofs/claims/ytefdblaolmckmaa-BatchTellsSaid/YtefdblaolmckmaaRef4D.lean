/- The walk of the reference's Needs of a system. -/
import Derived.Test.YtefdblaolmckmaaRef4C
import Derived.Test.YtefdblaolmckmaaRuleN
import Derived.Test.YtefdblaolmckmaaVals2
namespace Go.Proofs.Ytefdblaolmckmaa
open Go.RowKit
open Brood
set_option linter.unusedVariables false
set_option linter.unusedSimpArgs false

theorem num_tb : ∀ a, a < 256 → numB (tb a) = a := by decide +kernel
theorem num_of_set {r : Int} (h : isSet r = true) : ((numB (tb r.toNat) : Nat) : Int) = r := by
  have h' := isSet_iff.1 h
  rw [num_tb _ (by omega)]
  omega
theorem tb_or (v p : Int) (j : Nat) : tb (orS v p).toNat j = (tb v.toNat j || tb p.toNat j) := by
  simp [orS, tb, Nat.testBit_or]
/-- Writes with the first k parts of one more set. -/
def orTo (v p : Int) (k : Nat) (j : Nat) : Bool := tb v.toNat j || (decide (j < k) && tb p.toNat j)
theorem orTo_zero (v p : Int) : arr8 (orTo v p 0) = arr8 (tb v.toNat) := arr8_congr fun j _ => by simp [orTo]
theorem orTo_all (v p : Int) : arr8 (orTo v p 8) = arr8 (tb (orS v p).toNat) := arr8_congr fun j hj => by simp [orTo, hj, tb_or]
theorem orTo_at (v p : Int) (k : Nat) : orTo v p k k = tb v.toNat k := by simp [orTo]
theorem orTo_step (v p : Int) {k : Nat} (hk : k < 8) : (arr8 (orTo v p k)).setIfInBounds k (.bool (tb v.toNat k || tb p.toNat k)) = arr8 (orTo v p (k + 1)) := by
  rw [arr8_put _ hk]
  refine arr8_congr fun j _ => ?_
  by_cases e : j = k
  · subst e; simp [orTo]
  · have : (j < k) ↔ (j < k + 1) := by omega
    simp [orTo, e, this]


/-- What stands in memory while the reference's Needs walks. -/
structure NeedSt (w wr : World) (A : Option Addr) (mod all non : Int) (acts : List BAct) (c : Nat) (rs vs : Array Value) (m l : Bool) : Prop where
  bel : Below w.heap.size w wr
  rd : RdAB wr w.heap.size A acts
  B : Blk wr w.heap.size 38 #[.int .i64 mod, .int .i64 all, .int .i64 non, .slice A acts.length c]
  Z : Blk wr (w.heap.size + 1) 46 #[.int .i64 0, .int .i64 0, .bool false, .bool false]
  R : Blk wr (w.heap.size + 1 + 1) 30 rs
  V : Blk wr (w.heap.size + 1 + 1 + 1) 30 vs
  N : Blk wr (w.heap.size + 1 + 1 + 1 + 1) 46 #[.int .i64 0, .int .i64 0, .bool m, .bool l]
section
variable {w wr wn : World} {A : Option Addr} {mod all non : Int} {acts : List BAct} {c : Nat} {rs vs : Array Value} {m l : Bool}
theorem NeedSt.alloc (h : NeedSt w wr A mod all non acts c rs vs m l) (o : Obj) : NeedSt w (wr.alloc o) A mod all non acts c rs vs m l :=
  ⟨h.bel.alloc h.bel.size o, Rd.alloc h.rd h.bel.size o, h.B.alloc o, h.Z.alloc o, h.R.alloc o, h.V.alloc o, h.N.alloc o⟩
theorem NeedSt.grow (h : NeedSt w wr A mod all non acts c rs vs m l) (hb : Below wr.heap.size wr wn) : NeedSt w wn A mod all non acts c rs vs m l :=
  ⟨grow_below h.bel hb, Rd.under h.rd hb h.bel.size, h.B.below hb h.B.lt, h.Z.below hb h.Z.lt, h.R.below hb h.R.lt, h.V.below hb h.V.lt, h.N.below hb h.N.lt⟩
theorem NeedSt.drew (h : NeedSt w wr A mod all non acts c rs vs m l) : NeedSt w wr.drew A mod all non acts c rs vs m l :=
  ⟨h.bel.drew, h.rd, h.B.drew, h.Z.drew, h.R.drew, h.V.drew, h.N.drew⟩
theorem NeedSt.setR (h : NeedSt w wr A mod all non acts c rs vs m l) (k : Nat) (u : Value) : NeedSt w (wr.setCell ⟨w.heap.size + 1 + 1, k, none⟩ u) A mod all non acts c (rs.setIfInBounds k u) vs m l :=
  ⟨h.bel.setCell (by simp <;> omega) _, Rd.setCell h.rd (by simp <;> omega) _, h.B.far (by simp <;> omega) _, h.Z.far (by simp <;> omega) _, h.R.set_ k u, h.V.far (by simp <;> omega) _, h.N.far (by simp <;> omega) _⟩
theorem NeedSt.setV (h : NeedSt w wr A mod all non acts c rs vs m l) (k : Nat) (u : Value) : NeedSt w (wr.setCell ⟨w.heap.size + 1 + 1 + 1, k, none⟩ u) A mod all non acts c rs (vs.setIfInBounds k u) m l :=
  ⟨h.bel.setCell (by simp <;> omega) _, Rd.setCell h.rd (by simp <;> omega) _, h.B.far (by simp <;> omega) _, h.Z.far (by simp <;> omega) _, h.R.far (by simp <;> omega) _, h.V.set_ k u, h.N.far (by simp <;> omega) _⟩
theorem NeedSt.setM (h : NeedSt w wr A mod all non acts c rs vs m l) (b : Bool) : NeedSt w (wr.setCell ⟨w.heap.size + 1 + 1 + 1 + 1, 2, none⟩ (.bool b)) A mod all non acts c rs vs b l :=
  ⟨h.bel.setCell (by simp <;> omega) _, Rd.setCell h.rd (by simp <;> omega) _, h.B.far (by simp <;> omega) _, h.Z.far (by simp <;> omega) _, h.R.far (by simp <;> omega) _, h.V.far (by simp <;> omega) _, h.N.set_ 2 (.bool b)⟩
theorem NeedSt.setL (h : NeedSt w wr A mod all non acts c rs vs m l) (b : Bool) : NeedSt w (wr.setCell ⟨w.heap.size + 1 + 1 + 1 + 1, 3, none⟩ (.bool b)) A mod all non acts c rs vs m b :=
  ⟨h.bel.setCell (by simp <;> omega) _, Rd.setCell h.rd (by simp <;> omega) _, h.B.far (by simp <;> omega) _, h.Z.far (by simp <;> omega) _, h.R.far (by simp <;> omega) _, h.V.far (by simp <;> omega) _, h.N.set_ 3 (.bool b)⟩
end

set_option maxRecDepth 20000 in
set_option maxHeartbeats 6400000 in
theorem rneeds_any (mod all non : Int) (acts : List BAct) (hall : isSet all = true) (hok : ∀ a ∈ acts, actErr all a = 0) (hlen : acts.length ≤ 1000000) (A : Option Addr) (c : Nat) (w : World) (hA : RdA w A acts) :
    Calls Try.prog 37 #[.agg #[.int .i64 mod, .int .i64 all, .int .i64 non, .slice A acts.length c]] w fun e w' =>
      e = .returned (needV (acts.foldl (needAct all) ⟨0, 0, false, false⟩)) ∧ Below w.heap.size w w' := by
  have z8 : arr8 (tb (0 : Int).toNat) = #[.bool false, .bool false, .bool false, .bool false, .bool false, .bool false, .bool false, .bool false] := by simp [arr8, tb]
  go_enter Try.func37, Try.ntmps37
  go_wp2_with fail
  go_loopw [13] (fun i wr => ∃ (k : Nat) (r v : Int) (m l : Bool), k ≤ acts.length ∧ i = .int .i64 k ∧ isSet r = true ∧ isSet v = true ∧
      Hid (acts.foldl (needAct all) ⟨0, 0, false, false⟩ = (acts.drop k).foldl (needAct all) ⟨r, v, m, l⟩) ∧
      NeedSt w wr A mod all non acts c (arr8 (tb r.toNat)) (arr8 (tb v.toNat)) m l) (fun i _ => acts.length - (intOf i).toNat)
  case atStart =>
    refine ⟨0, 0, 0, false, false, Nat.zero_le _, rfl, by decide, by decide, Lib.hid (by simp), ?_⟩
    rw [z8]
    refine ⟨((((Below.refl _ _).alloc (Nat.le_refl _) _).alloc (by simp) _).alloc (by simp; omega) _).alloc (by simp; omega) _ |>.alloc (by simp; omega) _,
      Rd.alloc (Rd.alloc (Rd.alloc (Rd.alloc (Rd.alloc hA (Nat.le_refl _) _) (by simp) _) (by simp; omega) _) (by simp; omega) _) (by simp; omega) _,
      ((((Blk.new _ _ _).alloc _).alloc _).alloc _).alloc _, ?_, ?_, ?_, ?_⟩
    · have h := (((Blk.new (w.alloc (.cells #[.int .i64 mod, .int .i64 all, .int .i64 non, .slice A acts.length c] 38)) 46 #[.int .i64 0, .int .i64 0, .bool false, .bool false]).alloc (.cells #[.bool false, .bool false, .bool false, .bool false, .bool false, .bool false, .bool false, .bool false] 30)).alloc (.cells #[.bool false, .bool false, .bool false, .bool false, .bool false, .bool false, .bool false, .bool false] 30)).alloc (.cells #[.int .i64 0, .int .i64 0, .bool false, .bool false] 46)
      simpa only [World.size_alloc] using h
    · have h := ((Blk.new ((w.alloc (.cells #[.int .i64 mod, .int .i64 all, .int .i64 non, .slice A acts.length c] 38)).alloc (.cells #[.int .i64 0, .int .i64 0, .bool false, .bool false] 46)) 30 #[.bool false, .bool false, .bool false, .bool false, .bool false, .bool false, .bool false, .bool false]).alloc (.cells #[.bool false, .bool false, .bool false, .bool false, .bool false, .bool false, .bool false, .bool false] 30)).alloc (.cells #[.int .i64 0, .int .i64 0, .bool false, .bool false] 46)
      simpa only [World.size_alloc] using h
    · have h := (Blk.new (((w.alloc (.cells #[.int .i64 mod, .int .i64 all, .int .i64 non, .slice A acts.length c] 38)).alloc (.cells #[.int .i64 0, .int .i64 0, .bool false, .bool false] 46)).alloc (.cells #[.bool false, .bool false, .bool false, .bool false, .bool false, .bool false, .bool false, .bool false] 30)) 30 #[.bool false, .bool false, .bool false, .bool false, .bool false, .bool false, .bool false, .bool false]).alloc (.cells #[.int .i64 0, .int .i64 0, .bool false, .bool false] 46)
      simpa only [World.size_alloc] using h
    · have h := Blk.new ((((w.alloc (.cells #[.int .i64 mod, .int .i64 all, .int .i64 non, .slice A acts.length c] 38)).alloc (.cells #[.int .i64 0, .int .i64 0, .bool false, .bool false] 46)).alloc (.cells #[.bool false, .bool false, .bool false, .bool false, .bool false, .bool false, .bool false, .bool false] 30)).alloc (.cells #[.bool false, .bool false, .bool false, .bool false, .bool false, .bool false, .bool false, .bool false] 30)) 46 #[.int .i64 0, .int .i64 0, .bool false, .bool false]
      simpa only [World.size_alloc] using h
  case round =>
    clear hA z8
    obtain ⟨k, r, v, m, l, hk, rfl, hr, hv, heq, hst0⟩ := hrel
    have s1 := hst0.B.lt; have s2 := hst0.Z.lt; have s3 := hst0.R.lt; have s4 := hst0.V.lt; have s5 := hst0.N.lt
    by_cases hlt : k < acts.length
    · obtain ⟨b, off, rfl, hb, ha⟩ := hst0.rd.at_ hlt
      have i0 : (0 : Int) ≤ (k : Int) := by omega
      have i1 : (k : Int) < (acts.length : Int) := by omega
      have hst := Lib.hid (drop_cons hlt)
      have hka := hok acts[k] (List.getElem_mem hlt)
      obtain ⟨hc0, hc1, hc2, hc3⟩ := ha
      generalize acts[k] = a at *
      obtain ⟨kind, part, src, n⟩ := a
      simp only at hc0 hc1 hc2 hc3
      have hkinds := kinds_of_ok hka
      have hsp := ok_part hka
      have hpart := part_of_ok hka
      have hst2 : Hid (acts.foldl (needAct all) ⟨0, 0, false, false⟩ = (acts.drop (k + 1)).foldl (needAct all) (needAct all ⟨r, v, m, l⟩ ⟨kind, part, src, n⟩)) := Lib.hid (by rw [heq.out, hst.out]; rfl)
      have hsrc : kind = 2 ∨ kind = 3 → isPart src = true := by
        intro hk23
        cases q : isPart src with
        | true => rfl
        | false => rcases hk23 with rfl | rfl <;> simp [actErr, isFrom, isOwn, isWrite, q] at hka
      have hown : kind = 3 → hasB all part = true := by
        rintro rfl
        have h1 := hsrc (.inr rfl)
        have h2 := hpart (by decide)
        cases q : hasB all part with
        | true => rfl
        | false => simp [actErr, isFrom, isOwn, isWrite, h1, h2, q] at hka
      clear hka hst heq
      rcases hkinds with rfl | rfl | rfl | rfl | rfl | rfl | rfl
      · have hst3 := hst2.out
        rw [needAct_1] at hst3
        have hst4 := Lib.hid hst3
        obtain ⟨p0, p1⟩ := isPart_iff.1 (hpart (by decide))
        obtain ⟨p, rfl⟩ := nat_of p0
        have hp8 : p < 8 := by omega
        clear hst2 hst3 hsp hpart hsrc
        have e1 := hst0.B.cell 1; have n2 := hst0.N.cell 2; have y2 := hst0.N.frozen 2
        simp at e1 n2
        have vc := hst0.V.cell p; have vz := hst0.V.frozen p
        rw [arr8_get _ hp8] at vc
        go_wp2_with fail
        refine (rhas_any all (p : Int) hall _).mono ?_
        rintro e w1 ⟨rfl, hb1⟩
        have st1 := ((hst0.setV p (.bool true)).alloc (.cells #[.int .i64 1, .int .i64 (p : Int), .int .i64 src, .int .i64 n] 91)).grow hb1
        have HA : Blk w1 wr.heap.size 91 #[.int .i64 1, .int .i64 (p : Int), .int .i64 src, .int .i64 n] := by
          have h := (Blk.new (wr.setCell ⟨w.heap.size + 1 + 1 + 1, p, none⟩ (.bool true)) 91 #[.int .i64 1, .int .i64 (p : Int), .int .i64 src, .int .i64 n]).below hb1 (by simp)
          simpa using h
        rw [arr_with v hp8] at st1
        have a0 := HA.cell 0; have a1 := HA.cell 1; have a2 := HA.cell 2
        simp at a0 a1 a2
        have hw1 := HA.lt
        clear hb1 hc0 hc1 hc2 hc3 e1 n2 y2 vc vz
        have t1 := st1.B.lt; have t2 := st1.Z.lt; have t3 := st1.R.lt; have t4 := st1.V.lt; have t5 := st1.N.lt
        have e1 := st1.B.cell 1; have n2 := st1.N.cell 2; have y2 := st1.N.frozen 2
        simp at e1 n2
        cases hm : hasB all (p : Int)
        case false =>
          rw [hm] at hst4
          simp only [Bool.not_false, Bool.not_true, Bool.or_true, Bool.or_false] at hst4
          go_wp2_with fail
          go_roundw
          case rel =>
            have h := (st1.setM true)
            exact ⟨k + 1, _, _, _, _, by omega, by go_num, hr, with_set hv, hst4, h⟩
          case measure => simp [intOf]; omega
        case true =>
          rw [hm] at hst4
          simp only [Bool.not_false, Bool.not_true, Bool.or_true, Bool.or_false] at hst4
          go_wp2_with fail
          go_roundw
          case rel =>
            have h := st1
            exact ⟨k + 1, _, _, _, _, by omega, by go_num, hr, with_set hv, hst4, h⟩
          case measure => simp [intOf]; omega
      · have hst3 := hst2.out
        rw [needAct_2] at hst3
        have hst4 := Lib.hid hst3
        obtain ⟨p0, p1⟩ := isPart_iff.1 (hpart (by decide))
        obtain ⟨p, rfl⟩ := nat_of p0
        have hp8 : p < 8 := by omega
        obtain ⟨q0, q1⟩ := isPart_iff.1 (hsrc (by decide))
        obtain ⟨q, rfl⟩ := nat_of q0
        have hq8 : q < 8 := by omega
        clear hst2 hst3 hsp hpart hsrc
        have e1 := hst0.B.cell 1; have n2 := hst0.N.cell 2; have y2 := hst0.N.frozen 2
        simp at e1 n2
        have vc := hst0.V.cell p; have vz := hst0.V.frozen p
        rw [arr8_get _ hp8] at vc
        go_wp2_with fail
        refine (rhas_any all (p : Int) hall _).mono ?_
        rintro e w1 ⟨rfl, hb1⟩
        have st1 := ((hst0.setV p (.bool true)).alloc (.cells #[.int .i64 2, .int .i64 (p : Int), .int .i64 (q : Int), .int .i64 n] 91)).grow hb1
        have HA : Blk w1 wr.heap.size 91 #[.int .i64 2, .int .i64 (p : Int), .int .i64 (q : Int), .int .i64 n] := by
          have h := (Blk.new (wr.setCell ⟨w.heap.size + 1 + 1 + 1, p, none⟩ (.bool true)) 91 #[.int .i64 2, .int .i64 (p : Int), .int .i64 (q : Int), .int .i64 n]).below hb1 (by simp)
          simpa using h
        rw [arr_with v hp8] at st1
        have a0 := HA.cell 0; have a1 := HA.cell 1; have a2 := HA.cell 2
        simp at a0 a1 a2
        have hw1 := HA.lt
        clear hb1 hc0 hc1 hc2 hc3 e1 n2 y2 vc vz
        have t1 := st1.B.lt; have t2 := st1.Z.lt; have t3 := st1.R.lt; have t4 := st1.V.lt; have t5 := st1.N.lt
        have e1 := st1.B.cell 1; have n2 := st1.N.cell 2; have y2 := st1.N.frozen 2
        simp at e1 n2
        have rc := st1.R.cell q; have rz := st1.R.frozen q
        rw [arr8_get _ hq8] at rc
        cases hm : hasB all (p : Int)
        case false =>
          rw [hm] at hst4
          simp only [Bool.not_false, Bool.not_true, Bool.or_true, Bool.or_false] at hst4
          go_wp2_with fail
          go_roundw
          case rel =>
            have h := ((st1.setM true).setR q (.bool true))
            rw [arr_with r hq8] at h
            exact ⟨k + 1, _, _, _, _, by omega, by go_num, (with_set hr), with_set hv, hst4, h⟩
          case measure => simp [intOf]; omega
        case true =>
          rw [hm] at hst4
          simp only [Bool.not_false, Bool.not_true, Bool.or_true, Bool.or_false] at hst4
          go_wp2_with fail
          go_roundw
          case rel =>
            have h := (st1.setR q (.bool true))
            rw [arr_with r hq8] at h
            exact ⟨k + 1, _, _, _, _, by omega, by go_num, (with_set hr), with_set hv, hst4, h⟩
          case measure => simp [intOf]; omega
      · have hst3 := hst2.out
        rw [needAct_3] at hst3
        have hst4 := Lib.hid hst3
        obtain ⟨p0, p1⟩ := isPart_iff.1 (hpart (by decide))
        obtain ⟨p, rfl⟩ := nat_of p0
        have hp8 : p < 8 := by omega
        obtain ⟨q0, q1⟩ := isPart_iff.1 (hsrc (by decide))
        obtain ⟨q, rfl⟩ := nat_of q0
        have hq8 : q < 8 := by omega
        clear hst2 hst3 hsp hpart hsrc
        have e1 := hst0.B.cell 1; have n2 := hst0.N.cell 2; have y2 := hst0.N.frozen 2
        simp at e1 n2
        have vc := hst0.V.cell p; have vz := hst0.V.frozen p
        rw [arr8_get _ hp8] at vc
        go_wp2_with fail
        refine (rhas_any all (p : Int) hall _).mono ?_
        rintro e w1 ⟨rfl, hb1⟩
        have st1 := ((hst0.setV p (.bool true)).alloc (.cells #[.int .i64 3, .int .i64 (p : Int), .int .i64 (q : Int), .int .i64 n] 91)).grow hb1
        have HA : Blk w1 wr.heap.size 91 #[.int .i64 3, .int .i64 (p : Int), .int .i64 (q : Int), .int .i64 n] := by
          have h := (Blk.new (wr.setCell ⟨w.heap.size + 1 + 1 + 1, p, none⟩ (.bool true)) 91 #[.int .i64 3, .int .i64 (p : Int), .int .i64 (q : Int), .int .i64 n]).below hb1 (by simp)
          simpa using h
        rw [arr_with v hp8] at st1
        have a0 := HA.cell 0; have a1 := HA.cell 1; have a2 := HA.cell 2
        simp at a0 a1 a2
        have hw1 := HA.lt
        clear hb1 hc0 hc1 hc2 hc3 e1 n2 y2 vc vz
        have t1 := st1.B.lt; have t2 := st1.Z.lt; have t3 := st1.R.lt; have t4 := st1.V.lt; have t5 := st1.N.lt
        have e1 := st1.B.cell 1; have n2 := st1.N.cell 2; have y2 := st1.N.frozen 2
        simp at e1 n2
        have rc := st1.R.cell q; have rz := st1.R.frozen q
        rw [arr8_get _ hq8] at rc
        have oc := st1.R.cell p; have oz := st1.R.frozen p
        rw [arr8_get _ hp8] at oc
        cases hm : hasB all (p : Int)
        case false => exact absurd (hown trivial) (by rw [hm]; decide)
        case true =>
          rw [hm] at hst4
          simp only [Bool.not_false, Bool.not_true, Bool.or_true, Bool.or_false] at hst4
          have oc' := (st1.setR q (.bool true)).R.cell p
          rw [arr_with r hq8, arr8_get _ hp8] at oc'
          clear oc
          go_wp2_with fail
          go_roundw
          case rel =>
            have h := ((st1.setR q (.bool true)).setR p (.bool true))
            rw [arr_with r hq8, arr_with _ hp8] at h
            exact ⟨k + 1, _, _, _, _, by omega, by go_num, (with_set (with_set hr)), with_set hv, hst4, h⟩
          case measure => simp [intOf]; omega
      · have hst3 := hst2.out
        rw [needAct_4] at hst3
        have hst4 := Lib.hid hst3
        obtain ⟨p0, p1⟩ := isPart_iff.1 (hpart (by decide))
        obtain ⟨p, rfl⟩ := nat_of p0
        have hp8 : p < 8 := by omega
        clear hst2 hst3 hsp hpart hsrc
        have e1 := hst0.B.cell 1; have n2 := hst0.N.cell 2; have y2 := hst0.N.frozen 2
        simp at e1 n2
        have vc := hst0.V.cell p; have vz := hst0.V.frozen p
        rw [arr8_get _ hp8] at vc
        go_wp2_with fail
        refine (rhas_any all (p : Int) hall _).mono ?_
        rintro e w1 ⟨rfl, hb1⟩
        have st1 := ((hst0.setV p (.bool true)).alloc (.cells #[.int .i64 4, .int .i64 (p : Int), .int .i64 src, .int .i64 n] 91)).grow hb1
        have HA : Blk w1 wr.heap.size 91 #[.int .i64 4, .int .i64 (p : Int), .int .i64 src, .int .i64 n] := by
          have h := (Blk.new (wr.setCell ⟨w.heap.size + 1 + 1 + 1, p, none⟩ (.bool true)) 91 #[.int .i64 4, .int .i64 (p : Int), .int .i64 src, .int .i64 n]).below hb1 (by simp)
          simpa using h
        rw [arr_with v hp8] at st1
        have a0 := HA.cell 0; have a1 := HA.cell 1; have a2 := HA.cell 2
        simp at a0 a1 a2
        have hw1 := HA.lt
        clear hb1 hc0 hc1 hc2 hc3 e1 n2 y2 vc vz
        have t1 := st1.B.lt; have t2 := st1.Z.lt; have t3 := st1.R.lt; have t4 := st1.V.lt; have t5 := st1.N.lt
        have e1 := st1.B.cell 1; have n2 := st1.N.cell 2; have y2 := st1.N.frozen 2
        simp at e1 n2
        have oc := st1.R.cell p; have oz := st1.R.frozen p
        rw [arr8_get _ hp8] at oc
        cases hm : hasB all (p : Int)
        case false =>
          rw [hm] at hst4
          simp only [Bool.not_false, Bool.not_true, Bool.or_true, Bool.or_false] at hst4
          go_wp2_with fail
          go_roundw
          case rel =>
            have h := ((st1.setM true).setR p (.bool true))
            rw [arr_with _ hp8] at h
            exact ⟨k + 1, _, _, _, _, by omega, by go_num, (with_set hr), with_set hv, hst4, h⟩
          case measure => simp [intOf]; omega
        case true =>
          rw [hm] at hst4
          simp only [Bool.not_false, Bool.not_true, Bool.or_true, Bool.or_false] at hst4
          go_wp2_with fail
          go_roundw
          case rel =>
            have h := (st1.setR p (.bool true))
            rw [arr_with _ hp8] at h
            exact ⟨k + 1, _, _, _, _, by omega, by go_num, (with_set hr), with_set hv, hst4, h⟩
          case measure => simp [intOf]; omega
      · have hst3 := hst2.out
        rw [needAct_5] at hst3
        have hst4 := Lib.hid hst3
        obtain ⟨p0, p1⟩ := isPart_iff.1 (hpart (by decide))
        obtain ⟨p, rfl⟩ := nat_of p0
        have hp8 : p < 8 := by omega
        clear hst2 hst3 hsp hpart hsrc
        have e1 := hst0.B.cell 1; have n2 := hst0.N.cell 2; have y2 := hst0.N.frozen 2
        simp at e1 n2
        have vc := hst0.V.cell p; have vz := hst0.V.frozen p
        rw [arr8_get _ hp8] at vc
        go_wp2_with fail
        go_roundw
        case rel =>
          have h := ((hst0.setV p (.bool true)).setM true).alloc (.cells #[.int .i64 5, .int .i64 (p : Int), .int .i64 src, .int .i64 n] 91)
          rw [arr_with v hp8] at h
          exact ⟨k + 1, _, _, _, _, by omega, by go_num, hr, with_set hv, hst4, h⟩
        case measure => simp [intOf]; omega
      · have hst3 := hst2.out
        rw [needAct_6] at hst3
        have hst4 := Lib.hid hst3
        clear hst2 hst3 hsp hpart hsrc
        have n3 := hst0.N.cell 3; have y3 := hst0.N.frozen 3
        simp at n3
        go_wp2_with fail
        go_roundw
        case rel => exact ⟨k + 1, _, _, _, _, by omega, by go_num, hr, hv, hst4, (hst0.setL true).alloc (.cells #[.int .i64 6, .int .i64 part, .int .i64 src, .int .i64 n] 91)⟩
        case measure => simp [intOf]; omega
      · have hst3 := hst2.out
        rw [needAct_7] at hst3
        have hst4 := Lib.hid hst3
        have hps := hsp rfl
        clear hst2 hst3 hsp hpart hsrc
        obtain ⟨p, rfl⟩ := nat_of (isSet_iff.1 hps).1
        have hp256 : p < 256 := by have := (isSet_iff.1 hps).2; omega
        have n3 := hst0.N.cell 3; have y3 := hst0.N.frozen 3
        simp at n3
        go_wp2_with fail
        refine (rbits_any p hp256 _).mono ?_
        rintro e w1 ⟨rfl, hb1⟩
        have st1 := ((hst0.setL true).alloc (.cells #[.int .i64 7, .int .i64 (p : Int), .int .i64 src, .int .i64 n] 91)).grow hb1
        clear hb1 hc0 hc1 hc2 hc3 n3 y3 hst0
        obtain ⟨wo, rfl⟩ : ∃ wo : World, wo = wr := ⟨_, rfl⟩
        go_wp2_with fail
        go_loopw [66] (fun j wr => ∃ q : Nat, q ≤ 8 ∧ j = .int .i64 q ∧ NeedSt w wr (some ⟨b, off, none⟩) mod all non acts c (arr8 (tb r.toNat)) (arr8 (orTo v (p : Int) q)) m true) (fun j _ => 8 - (intOf j).toNat)
        case atStart => exact ⟨0, by omega, rfl, by rw [orTo_zero]; exact st1⟩
        case round =>
          clear st1
          obtain ⟨q, hq, rfl, st⟩ := hrel
          have t1 := st.B.lt; have t2 := st.Z.lt; have t3 := st.R.lt; have t4 := st.V.lt; have t5 := st.N.lt
          by_cases hq8 : q < 8
          · have hix := bits_at p hq8
            have vc := st.V.cell q; have vz := st.V.frozen q
            rw [arr8_get _ hq8, orTo_at] at vc
            have hor := Lib.hid (orTo_step v (p : Int) hq8)
            cases hb1 : tb v.toNat q
            case false =>
              rw [hb1] at vc
              go_wp2_with fail
              go_roundw
              case rel =>
                have h := st.setV q (.bool (tb v.toNat q || tb p q))
                rw [hb1, Bool.false_or] at h
                refine ⟨q + 1, by omega, by go_num, ?_⟩
                have h2 := hor.out
                rw [hb1, Bool.false_or, Int.toNat_natCast] at h2
                rw [h2] at h
                exact h
              case measure => simp [intOf]; omega
            case true =>
              rw [hb1] at vc
              go_wp2_with fail
              go_roundw
              case rel =>
                refine ⟨q + 1, by omega, by go_num, ?_⟩
                have h := st.setV q (.bool true)
                have h2 := hor.out
                rw [hb1, Bool.true_or] at h2
                rw [h2] at h
                exact h
              case measure => simp [intOf]; omega
          · obtain rfl : q = 8 := by omega
            rw [orTo_all] at st
            go_wp2_with fail
            go_roundw
            case rel => exact ⟨k + 1, _, _, _, _, by omega, by go_num, hr, or_set hv hps, hst4, st⟩
            case measure => simp [intOf]; omega
    · obtain rfl : k = acts.length := by omega
      have heq2 : Hid (acts.foldl (needAct all) ⟨0, 0, false, false⟩ = ⟨r, v, m, l⟩) := Lib.hid (by rw [heq.out]; simp)
      have hnr := num_of_set hr
      have hnv := num_of_set hv
      clear heq
      go_upto_region 24 with fail
      refine wp_region_known mixed (by rfl) (by rfl) (fun j => match j with
        | 0 => .agg (arr8 (tb r.toNat)) | 1 => .int .i64 r | 2 => .agg (arr8 (tb v.toNat)) | 3 => .int .i64 v
        | 4 => .pointer (some ⟨w.heap.size + 1 + 1 + 1 + 1, 0, none⟩) | 6 => .pointer (some ⟨w.heap.size + 1 + 1 + 1 + 1, 1, none⟩) | _ => undef)
        (fun g w' => Below w.heap.size w w' ∧ Blk w' (w.heap.size + 1) 46 #[.int .i64 0, .int .i64 0, .bool false, .bool false] ∧ Blk w' (w.heap.size + 1 + 1) 30 (arr8 (tb r.toNat)) ∧ Blk w' (w.heap.size + 1 + 1 + 1) 30 (arr8 (tb v.toNat)) ∧
          Blk w' (w.heap.size + 1 + 1 + 1 + 1) 46 #[.int .i64 (if g 5 then r else 0), .int .i64 (if g 7 then v else 0), .bool m, .bool l]) ?_ ?_ ?_
      · exact ⟨hst0.bel.drew, hst0.Z.drew, hst0.R.drew, hst0.V.drew, by simpa using hst0.N.drew⟩
      · rintro w' g ⟨hbel, hZ, hR, hV, hN⟩ hg
        rw [hg 5 (by decide), hg 7 (by decide), if_pos rfl, if_pos rfl] at hN
        have n0 := hN.cell 0; have n1 := hN.cell 1; have n2 := hN.cell 2; have n3 := hN.cell 3
        have x0 := hZ.cell 0; have x1 := hZ.cell 1; have x2 := hZ.cell 2; have x3 := hZ.cell 3
        have y0 := hZ.frozen 0; have y1 := hZ.frozen 1; have y2 := hZ.frozen 2; have y3 := hZ.frozen 3
        simp at n0 n1 n2 n3 x0 x1 x2 x3
        simp only [putAll]
        go_wp2_with fail
        refine bodyPost_ret (v := needV ⟨r, v, m, l⟩) (by simp [results, Try.results37, go_sem, needV, x0, x1, x2, x3, y0, y1, y2, y3]) rfl ⟨?_, ?_⟩
        · rw [heq2.out]
        · exact (((hbel.setCell (by simp) _).setCell (by simp) _).setCell (by simp) _).setCell (by simp) _
      · rintro i o ho g act w' ⟨hbel, hZ, hR, hV, hN⟩ hgi hd hv' hwas K hK
        have e3 := hwas 3 rfl
        have e4 := hwas 4 rfl
        have e5 := hwas 5 rfl
        simp at e3 e4 e5
        have hi : i < 8 := lt_of_some ho
        match i, hi, ho with
        | 0, _, ho =>
          obtain rfl := Option.some.inj ho
          have c0 := hR.cell 0; have c1 := hR.cell 1; have c2 := hR.cell 2; have c3 := hR.cell 3; have c4 := hR.cell 4; have c5 := hR.cell 5; have c6 := hR.cell 6; have c7 := hR.cell 7
          rw [arr8_get _ (by omega)] at c0 c1 c2 c3 c4 c5 c6 c7
          go_simp
          exact hK _ ⟨hbel, hZ, hR, hV, by simpa [upd] using hN⟩
        | 1, _, ho =>
          obtain rfl := Option.some.inj ho
          have v0 := hv' 0 80 rfl (by simpa [Region.binds] using hd)
          simp only at v0
          go_simp
          refine (rnum_any (tb r.toNat) w').mono ?_
          rintro e w'' ⟨rfl, hb''⟩
          rw [hnr]
          exact hK _ ⟨grow_below hbel hb'', hZ.below hb'' hZ.lt, hR.below hb'' hR.lt, hV.below hb'' hV.lt, by have h := hN.below hb'' hN.lt; simpa [upd] using h⟩
        | 2, _, ho =>
          obtain rfl := Option.some.inj ho
          have c0 := hV.cell 0; have c1 := hV.cell 1; have c2 := hV.cell 2; have c3 := hV.cell 3; have c4 := hV.cell 4; have c5 := hV.cell 5; have c6 := hV.cell 6; have c7 := hV.cell 7
          rw [arr8_get _ (by omega)] at c0 c1 c2 c3 c4 c5 c6 c7
          go_simp
          exact hK _ ⟨hbel, hZ, hR, hV, by simpa [upd] using hN⟩
        | 3, _, ho =>
          obtain rfl := Option.some.inj ho
          have v0 := hv' 2 82 rfl (by simp [Region.binds] at hd; simp [hd])
          simp only at v0
          go_simp
          refine (rnum_any (tb v.toNat) w').mono ?_
          rintro e w'' ⟨rfl, hb''⟩
          rw [hnv]
          exact hK _ ⟨grow_below hbel hb'', hZ.below hb'' hZ.lt, hR.below hb'' hR.lt, hV.below hb'' hV.lt, by have h := hN.below hb'' hN.lt; simpa [upd] using h⟩
        | 4, _, ho =>
          obtain rfl := Option.some.inj ho
          go_simp
          exact hK _ ⟨hbel, hZ, hR, hV, by simpa [upd] using hN⟩
        | 5, _, ho =>
          obtain rfl := Option.some.inj ho
          have v0 := hv' 4 84 rfl (by simp [Region.binds] at hd; simp [hd])
          have v1 := hv' 1 81 rfl (by simp [Region.binds] at hd; simp [hd])
          simp only at v0 v1
          have n0 := hN.cell 0; have y0 := hN.frozen 0
          simp at n0
          go_simp
          exact hK _ ⟨hbel.setCell (by simp; omega) _, hZ.far (by simp <;> omega) _, hR.far (by simp <;> omega) _, hV.far (by simp <;> omega) _, by have h := hN.set_ 0 (.int .i64 r); simpa [upd] using h⟩
        | 6, _, ho =>
          obtain rfl := Option.some.inj ho
          go_simp
          exact hK _ ⟨hbel, hZ, hR, hV, by simpa [upd] using hN⟩
        | 7, _, ho =>
          obtain rfl := Option.some.inj ho
          have v0 := hv' 6 85 rfl (by simp [Region.binds] at hd; simp [hd])
          have v1 := hv' 3 83 rfl (by simp [Region.binds] at hd; simp [hd])
          simp only at v0 v1
          have n0 := hN.cell 1; have y0 := hN.frozen 1
          simp at n0
          go_simp
          exact hK _ ⟨hbel.setCell (by simp; omega) _, hZ.far (by simp <;> omega) _, hR.far (by simp <;> omega) _, hV.far (by simp <;> omega) _, by have h := hN.set_ 1 (.int .i64 v); simpa [upd] using h⟩
end Go.Proofs.Ytefdblaolmckmaa
