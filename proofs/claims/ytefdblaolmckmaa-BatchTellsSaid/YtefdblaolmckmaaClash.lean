/- The walk of rule.Clash. -/
import Derived.Test.YtefdblaolmckmaaTwo
namespace Go.Proofs.Ytefdblaolmckmaa
open Go.RowKit
open Brood
set_option linter.unusedVariables false
set_option linter.unusedSimpArgs false

theorem needs_enter (v : Value) (W : World) : (callFunc 36 #[v]).run Try.prog W = .ok (.enter 36 #[v]) W := by kernel_rfl

theorem clash_val {x y : BNeed} : (x.moves || y.moves || x.life || y.life || meetS x.writes (orS y.reads y.writes) || meetS y.writes x.reads) = clashN x y := rfl

set_option maxRecDepth 20000 in
set_option maxHeartbeats 3200000 in
theorem clash_any (s t : BSys) (hs : Right s) (ht : Right t) (A A' : Option Addr) (c c' : Nat) (w : World) (hA : RdA w A s.acts) (hA' : RdA w A' t.acts) :
    Calls Try.prog 40 #[.agg #[.int .i64 s.mod, .int .i64 s.all, .int .i64 s.non, .slice A s.acts.length c], .agg #[.int .i64 t.mod, .int .i64 t.all, .int .i64 t.non, .slice A' t.acts.length c']] w fun e w' =>
      e = .returned (.bool (clash s t)) ∧ Below w.heap.size w w' := by
  have H2 := ((Blk.new w 38 #[.int .i64 s.mod, .int .i64 s.all, .int .i64 s.non, .slice A s.acts.length c]).alloc (.cells #[.int .i64 t.mod, .int .i64 t.all, .int .i64 t.non, .slice A' t.acts.length c'] 38))
  have H3 := (Blk.new (w.alloc (.cells #[.int .i64 s.mod, .int .i64 s.all, .int .i64 s.non, .slice A s.acts.length c] 38)) 38 #[.int .i64 t.mod, .int .i64 t.all, .int .i64 t.non, .slice A' t.acts.length c'])
  simp only [World.size_alloc] at H3
  have hA0 : RdA ((w.alloc (.cells #[.int .i64 s.mod, .int .i64 s.all, .int .i64 s.non, .slice A s.acts.length c] 38)).alloc (.cells #[.int .i64 t.mod, .int .i64 t.all, .int .i64 t.non, .slice A' t.acts.length c'] 38)) A s.acts := Rd.alloc_ (Rd.alloc_ hA _) _
  have hA1 : RdA ((w.alloc (.cells #[.int .i64 s.mod, .int .i64 s.all, .int .i64 s.non, .slice A s.acts.length c] 38)).alloc (.cells #[.int .i64 t.mod, .int .i64 t.all, .int .i64 t.non, .slice A' t.acts.length c'] 38)) A' t.acts := Rd.alloc_ (Rd.alloc_ hA' _) _
  have hb0 : Below w.heap.size w ((w.alloc (.cells #[.int .i64 s.mod, .int .i64 s.all, .int .i64 s.non, .slice A s.acts.length c] 38)).alloc (.cells #[.int .i64 t.mod, .int .i64 t.all, .int .i64 t.non, .slice A' t.acts.length c'] 38)) := ((Below.refl _ _).alloc (Nat.le_refl _) _).alloc (by simp) _
  have hns := needs_sets hs
  have hnt := needs_sets ht
  go_enter Try.func40, Try.ntmps40
  go_upto_region 1 with fail
  go_cut [5, 6] (fun s5 s6 wx => ∃ g g' : Nat, s5 = .pointer (some ⟨g, 0, none⟩) ∧ s6 = .pointer (some ⟨g', 0, none⟩) ∧ Below w.heap.size w wx ∧
      Blk wx g 46 #[.int .i64 (needs s).reads, .int .i64 (needs s).writes, .bool (needs s).moves, .bool (needs s).life] ∧
      Blk wx g' 46 #[.int .i64 (needs t).reads, .int .i64 (needs t).writes, .bool (needs t).moves, .bool (needs t).life])
  case first =>
    refine two_calls 7 8 9 10 5 6 2 3 36 _ _ _ _ _ _ _ _ _ _ s.mod s.all s.non (.slice A s.acts.length c) t.mod t.all t.non (.slice A' t.acts.length c') _ _ _ _ _ _ _ _ w.heap.size (w.heap.size + 1) needs_enter (by decide) (by simp) rfl rfl H2 H3
      (fun W hW => needs_right s hs A c W (RdA.grow hA0 hW)) (fun W hW => needs_right t ht A' c' W (RdA.grow hA1 hW)) ?_
    intro g g' W hW hg hg'
    go_wp2_with fail
    go_meet
    exact ⟨g, g', rfl, rfl, hb0.trans (hW.mono hb0.size), hg, hg'⟩
  case rest =>
    obtain ⟨g, g', rfl, rfl, hbel, hg, hg'⟩ := hcut
    clear H2 H3 hA0 hA1 hb0
    have g0 := hg.cell 0; have g1 := hg.cell 1; have g2 := hg.cell 2; have g3 := hg.cell 3
    have k0 := hg'.cell 0; have k1 := hg'.cell 1; have k2 := hg'.cell 2; have k3 := hg'.cell 3
    simp at g0 g1 g2 g3 k0 k1 k2 k3
    have q1 := bits_or_set hnt.1 hnt.2
    have q2 := Lib.hid (bits_meetS hns.2 (or_set hnt.1 hnt.2))
    have q3 := Lib.hid (bits_meetS hnt.2 hns.1)
    have hcl : Hid (clash s t = ((needs s).moves || (needs t).moves || (needs s).life || (needs t).life || meetS (needs s).writes (orS (needs t).reads (needs t).writes) || meetS (needs t).writes (needs s).reads)) := Lib.hid rfl
    generalize needs s = x at *
    generalize needs t = y at *
    obtain ⟨xr, xw, xm, xl⟩ := x
    obtain ⟨yr, yw, ym, yl⟩ := y
    simp only at *
    cases xm <;> cases ym <;> cases xl <;> cases yl
    all_goals first
      | (go_wp2_with fail; go_ret; exact ⟨ret_bool (by rw [hcl.out]; rfl), hbel⟩)
      | (cases b1 : meetS xw (orS yr yw) <;> cases b2 : meetS yw xr
         all_goals (
           have q2' := q2.out
           have q3' := q3.out
           rw [b1] at q2'
           rw [b2] at q3'
           go_wp2_with fail
           go_ret
           exact ⟨ret_bool (by rw [hcl.out, b1, b2]; rfl), hbel⟩))
end Go.Proofs.Ytefdblaolmckmaa
