/- The walk of the reference's Clash. -/
import Derived.Test.YtefdblaolmckmaaRef4E
namespace Go.Proofs.Ytefdblaolmckmaa
open Go.RowKit
open Brood
set_option linter.unusedVariables false
set_option linter.unusedSimpArgs false

theorem rneeds_enter (v : Value) (W : World) : (callFunc 37 #[v]).run Try.prog W = .ok (.enter 37 #[v]) W := by kernel_rfl

set_option maxRecDepth 20000 in
set_option maxHeartbeats 6400000 in
theorem rclash_any (s t : BSys) (hs : Right s) (ht : Right t) (A A' : Option Addr) (c c' : Nat) (w : World) (hA : RdA w A s.acts) (hA' : RdA w A' t.acts) :
    Calls Try.prog 41 #[.agg #[.int .i64 s.mod, .int .i64 s.all, .int .i64 s.non, .slice A s.acts.length c], .agg #[.int .i64 t.mod, .int .i64 t.all, .int .i64 t.non, .slice A' t.acts.length c']] w fun e w' =>
      e = .returned (.bool (clash s t)) ∧ Below w.heap.size w w' := by
  have H2 := ((Blk.new w 38 #[.int .i64 s.mod, .int .i64 s.all, .int .i64 s.non, .slice A s.acts.length c]).alloc (.cells #[.int .i64 t.mod, .int .i64 t.all, .int .i64 t.non, .slice A' t.acts.length c'] 38))
  have H3 := (Blk.new (w.alloc (.cells #[.int .i64 s.mod, .int .i64 s.all, .int .i64 s.non, .slice A s.acts.length c] 38)) 38 #[.int .i64 t.mod, .int .i64 t.all, .int .i64 t.non, .slice A' t.acts.length c'])
  simp only [World.size_alloc] at H3
  have hA0 : RdA ((w.alloc (.cells #[.int .i64 s.mod, .int .i64 s.all, .int .i64 s.non, .slice A s.acts.length c] 38)).alloc (.cells #[.int .i64 t.mod, .int .i64 t.all, .int .i64 t.non, .slice A' t.acts.length c'] 38)) A s.acts := Rd.alloc_ (Rd.alloc_ hA _) _
  have hA1 : RdA ((w.alloc (.cells #[.int .i64 s.mod, .int .i64 s.all, .int .i64 s.non, .slice A s.acts.length c] 38)).alloc (.cells #[.int .i64 t.mod, .int .i64 t.all, .int .i64 t.non, .slice A' t.acts.length c'] 38)) A' t.acts := Rd.alloc_ (Rd.alloc_ hA' _) _
  have hb0 : Below w.heap.size w ((w.alloc (.cells #[.int .i64 s.mod, .int .i64 s.all, .int .i64 s.non, .slice A s.acts.length c] 38)).alloc (.cells #[.int .i64 t.mod, .int .i64 t.all, .int .i64 t.non, .slice A' t.acts.length c'] 38)) := ((Below.refl _ _).alloc (Nat.le_refl _) _).alloc (by simp) _
  have hns := needs_sets hs
  have hnt := needs_sets ht
  go_enter Try.func41, Try.ntmps41
  go_upto_region 1 with fail
  go_cut [5, 6] (fun s5 s6 wx => ∃ g g' : Nat, s5 = .pointer (some ⟨g, 0, none⟩) ∧ s6 = .pointer (some ⟨g', 0, none⟩) ∧ Below w.heap.size w wx ∧
      Blk wx g 46 #[.int .i64 (needs s).reads, .int .i64 (needs s).writes, .bool (needs s).moves, .bool (needs s).life] ∧
      Blk wx g' 46 #[.int .i64 (needs t).reads, .int .i64 (needs t).writes, .bool (needs t).moves, .bool (needs t).life])
  case first =>
    refine two_calls 8 9 10 11 5 6 2 3 37 _ _ _ _ _ _ _ _ _ _ s.mod s.all s.non (.slice A s.acts.length c) t.mod t.all t.non (.slice A' t.acts.length c') _ _ _ _ _ _ _ _ w.heap.size (w.heap.size + 1) rneeds_enter (by decide) (by simp) rfl rfl H2 H3
      (fun W hW => rneeds_right s hs A c W (RdA.grow hA0 hW)) (fun W hW => rneeds_right t ht A' c' W (RdA.grow hA1 hW)) ?_
    intro g g' W hW hg hg'
    go_wp2_with fail
    go_meet
    exact ⟨g, g', rfl, rfl, hb0.trans (hW.mono hb0.size), hg, hg'⟩
  case rest =>
    obtain ⟨g, g', rfl, rfl, hbel, hg, hg'⟩ := hcut
    clear H2 H3 hA0 hA1 hb0
    have hcl : Hid (clash s t = ((needs s).moves || (needs t).moves || (needs s).life || (needs t).life || meetS (needs s).writes (orS (needs t).reads (needs t).writes) || meetS (needs t).writes (needs s).reads)) := Lib.hid rfl
    have hbad := Lib.hid (badClash_none hns.1 hns.2 hnt.1 hnt.2)
    obtain ⟨hx1, hx2⟩ := hns
    obtain ⟨hy1, hy2⟩ := hnt
    generalize needs s = x at *
    generalize needs t = y at *
    obtain ⟨xr, xw, xm, xl⟩ := x
    obtain ⟨yr, yw, ym, yl⟩ := y
    simp only at *
    go_wp2_with fail
    go_loopw [12] (fun i wr => ∃ k : Nat, k ≤ 8 ∧ i = .int .i64 k ∧ Hid (∀ j, j < k → badClash xr xw yr yw j = false) ∧ Below w.heap.size w wr ∧ Blk wr g 46 #[.int .i64 xr, .int .i64 xw, .bool xm, .bool xl] ∧
        Blk wr g' 46 #[.int .i64 yr, .int .i64 yw, .bool ym, .bool yl]) (fun i _ => 8 - (intOf i).toNat)
    case atStart => exact ⟨0, by omega, rfl, Lib.hid (fun j hj => absurd hj (by omega)), hbel, hg, hg'⟩
    case round =>
      clear hg hg' hbel
      obtain ⟨k, hk, rfl, hno, hbel, HX, HY⟩ := hrel
      have x0 := HX.cell 0; have x1 := HX.cell 1; have x2 := HX.cell 2; have x3 := HX.cell 3
      have y0 := HY.cell 0; have y1 := HY.cell 1; have y2 := HY.cell 2; have y3 := HY.cell 3
      simp at x0 x1 x2 x3 y0 y1 y2 y3
      by_cases hlt : k < 8
      · go_upto_region 5 with fail
        go_cut [42] (fun s42 wx => s42 = .bool (badClash xr xw yr yw k) ∧ Below wr.heap.size wr wx)
        case first =>
          have hw0 : Below wr.heap.size wr wr := Below.refl _ _
          have hbv : Hid (badClash xr xw yr yw k = ((hasB xw (k : Int) && (hasB yw (k : Int) || hasB yr (k : Int))) || (hasB xr (k : Int) && hasB yw (k : Int)))) := Lib.hid rfl
          cases b1 : hasB xw (k : Int) <;> cases b2 : hasB yw (k : Int) <;> cases b3 : hasB yr (k : Int) <;> cases b4 : hasB xr (k : Int)
          all_goals (
            go_wp2_with (go_at_call 30; refine (rhas_any _ _ (by assumption) _).mono ?_; rintro e w2 ⟨rfl, hb2⟩; replace HX := HX.below hb2 HX.lt; replace HY := HY.below hb2 HY.lt; replace hw0 := grow_below hw0 hb2; have x0 := HX.cell 0; have x1 := HX.cell 1; have y0 := HY.cell 0; have y1 := HY.cell 1; simp at x0 x1 y0 y1)
            go_meet
            exact ⟨by rw [hbv.out, b1, b2, b3, b4]; rfl, hw0⟩)
        case rest =>
          obtain ⟨rfl, hb5⟩ := hcut
          cases hq : badClash xr xw yr yw k
          case true =>
            have hf : Hid (clash s t = true) := Lib.hid (by
              rw [hcl.out, Bool.or_assoc]
              cases q : (meetS xw (orS yr yw) || meetS yw xr)
              · have := hbad.out.1 q k hlt
                rw [hq] at this
                cases this
              · simp)
            go_wp2_with fail
            go_ret
            exact ⟨ret_bool hf.out.symm, grow_below hbel hb5⟩
          case false =>
            have hno2 : Hid (∀ j, j < k + 1 → badClash xr xw yr yw j = false) := Lib.hid (by
              intro j hj
              by_cases e : j = k
              · subst e; exact hq
              · exact hno.out j (by omega))
            go_wp2_with fail
            go_roundw
            case rel => exact ⟨k + 1, by omega, by go_num, hno2, grow_below hbel hb5, HX.below hb5 HX.lt, HY.below hb5 HY.lt⟩
            case measure => simp [intOf]; omega
      · obtain rfl : k = 8 := by omega
        have hf : Hid (clash s t = (xm || xl || ym || yl)) := Lib.hid (by
          rw [hcl.out, Bool.or_assoc, hbad.out.2 hno.out, Bool.or_false]
          cases xm <;> cases xl <;> cases ym <;> cases yl <;> rfl)
        cases xm <;> cases xl <;> cases ym <;> cases yl
        all_goals (
          go_wp2_with fail
          go_ret
          exact ⟨ret_bool hf.out.symm, hbel⟩)
end Go.Proofs.Ytefdblaolmckmaa
