/- Slices of systems in memory; what is wrong with them: the program's walk and the document's. A slice of systems that comes in, read as plain data. -/
import Derived.Test.YtefdblaolmckmacBRunA7ToRunR
import Derived.Test.YtefdblaolmckmacRuleA
import Derived.Test.YtefdblaolmckmacBRowToInv
import Derived.Test.YtefdblaolmckmacBSpecOToSpecR
namespace Go.Proofs.Ytefdblaolmckmac
open Go.RowKit
open Brood
set_option linter.unusedVariables false
set_option linter.unusedSimpArgs false
set_option maxRecDepth 20000 in
set_option maxHeartbeats 3200000 in
theorem bwrong_any (l : List SysIn) (A : Option Addr) (c : Nat) (w : World) (hA : RdS w w.heap.size A l) :
    Calls Try.prog 14 #[.slice A l.length c] w fun e w' =>
      e = .returned (.agg #[.int .i64 (batchWrong (sysOf l)).1, .int .i64 (batchWrong (sysOf l)).2]) ∧ Below w.heap.size w w' := by
  by_cases hlen : 12 < l.length
  · have hr : Hid (batchWrong (sysOf l) = (4, 0)) := Lib.hid (by simp [batchWrong, sysOf_length, hlen])
    go_enter Try.func14, Try.ntmps14
    go_wp2_with fail
    refine bodyPost_ret (v := .agg #[.int .i64 4, .int .i64 0]) (by simp [results, Try.results14, go_sem]) rfl ⟨by rw [hr.out], ?_⟩
    exact (Below.refl _ _).alloc (Nat.le_refl _) _
  · have hr : Hid (batchWrong (sysOf l) = wrongsFrom 0 (sysOf l)) := Lib.hid (by simp [batchWrong, sysOf_length, hlen])
    go_enter Try.func14, Try.ntmps14
    go_wp2_with fail
    go_loopw [12] (fun i wr => ∃ k : Nat, k ≤ l.length ∧ i = .int .i64 k ∧ Hid (wrongsFrom 0 (sysOf l) = wrongsFrom k ((sysOf l).drop k)) ∧ Below w.heap.size w wr ∧ RdS wr w.heap.size A l ∧
      Blk wr w.heap.size 33 #[.int .i64 0, .int .i64 0]) (fun i _ => l.length - (intOf i).toNat)
    case atStart => exact ⟨0, Nat.zero_le _, rfl, Lib.hid (by simp), (Below.refl _ _).alloc (Nat.le_refl _) _, hA.alloc (Nat.le_refl _) _, Blk.new _ _ _⟩
    case round =>
      clear hA
      obtain ⟨k, hk, rfl, heq, hbel, hA, HF⟩ := hrel
      have f0 := HF.cell 0; have f1 := HF.cell 1; have z0 := HF.frozen 0; have z1 := HF.frozen 1
      simp at f0 f1
      have s1 := HF.lt
      have hbs := hbel.size
      by_cases hlt : k < l.length
      · obtain ⟨b, off, rfl, hb, hc0, hc1, hc2, hc3⟩ := hA.at_ hlt
        have hact := hA.acts l[k] (List.getElem_mem hlt)
        have hst := Lib.hid (sysOf_drop hlt)
        generalize l[k] = x at *
        obtain ⟨s, sA, sc⟩ := x
        simp only at hc0 hc1 hc2 hc3 hact hst
        have i0 : (0 : Int) ≤ (k : Int) := by omega
        have i1 : (k : Int) < (l.length : Int) := by omega
        go_wp2_with fail
        refine (wrong_any s sA sc _ (Rd.more (Rd.alloc hact hbs _) (by simp; omega))).mono ?_
        rintro e w1 ⟨rfl, hb1⟩
        have HF1 := (HF.alloc (.cells #[.int .i64 s.mod, .int .i64 s.all, .int .i64 s.non, .slice sA s.acts.length sc] 43)).below hb1 (by simp; omega)
        have hA1 := (hA.alloc hbs (.cells #[.int .i64 s.mod, .int .i64 s.all, .int .i64 s.non, .slice sA s.acts.length sc] 43)).under hb1 (by simp; omega)
        have hbel1 := (hbel.alloc hbs (.cells #[.int .i64 s.mod, .int .i64 s.all, .int .i64 s.non, .slice sA s.acts.length sc] 43)).trans (hb1.mono (by simp; omega))
        clear hb1 hc0 hc1 hc2 hc3 f0 f1 z0 z1 hact HF hA hbel
        have f0 := HF1.cell 0; have f1 := HF1.cell 1; have z0 := HF1.frozen 0; have z1 := HF1.frozen 1
        simp at f0 f1
        have s2 := HF1.lt
        cases hx : (decide ((sysWrong s).1 = 0)) with
        | false =>
          have hx1 := of_decide_eq_false hx
          have hx' : ((sysWrong s).1 != 0) = true := by simpa using hx1
          have hx2 := Lib.hid hx1
          clear hx hx1
          have HR := ((HF1.set_ 0 (.int .i64 (sysWrong s).1)).set_ 1 (.int .i64 (k : Int))).alloc (.cells #[.int .i64 (sysWrong s).1, .int .i64 (sysWrong s).2] 33)
          have r0 := HR.cell 0; have r1 := HR.cell 1
          simp at r0 r1
          go_wp2_with fail
          refine bodyPost_ret (v := .agg #[.int .i64 (sysWrong s).1, .int .i64 (k : Int)]) (by simp [results, r0, r1, Try.results14, go_sem, f0, f1, z0, z1]) rfl ⟨?_, ?_⟩
          · rw [hr.out, heq.out, hst.out, wrongsFrom, if_pos hx2.out]
          · exact ((hbel1.setCell (by simp) _).setCell (by simp) _).alloc (by simp; omega) _
        | true =>
          have hx1 := of_decide_eq_true hx
          have hx' : ((sysWrong s).1 != 0) = false := by simpa using hx1
          have hnext : Hid (wrongsFrom 0 (sysOf l) = wrongsFrom (k + 1) ((sysOf l).drop (k + 1))) := Lib.hid (by rw [heq.out, hst.out, wrongsFrom, if_neg (by simpa using hx1)])
          clear hx hx1
          go_wp2_with fail
          go_roundw
          case rel => exact ⟨k + 1, by omega, by go_num, hnext, hbel1.alloc (by omega) _, hA1.alloc (by omega) _, HF1.alloc _⟩
          case measure => simp [intOf]; omega
      · obtain rfl : k = l.length := by omega
        go_wp2_with fail
        refine bodyPost_ret (v := .agg #[.int .i64 0, .int .i64 0]) (by simp [results, Try.results14, go_sem, f0, f1, z0, z1]) rfl ⟨?_, ?_⟩
        · rw [hr.out, heq.out, ← sysOf_length, List.drop_length]; rfl
        · exact (hbel.setCell (by simp) _).setCell (by simp) _
end Go.Proofs.Ytefdblaolmckmac

namespace Go.Proofs.Ytefdblaolmckmac
open Go.ChangeShapes Go.WideShapes Go.ChangeAt Go.RowKit Go.Deep
open Brood
set_option linter.unusedVariables false
set_option linter.unusedSimpArgs false
section
variable {H : Type} {enc : TypeId × Value → H} {w : World} {base : Nat} {spare : Nat → Bool} {held : Bool}
set_option maxRecDepth 100000 in
theorem open_sys_cells {fuel : Nat} {cs : List Value} {x : DataW H × List MemPlace} (hlen : cs.length = 4) (hf : DataW.trod enc Try.prog w base spare held fuel 43 cs = some x) :
    ∃ y : SysIn, cs = sysCells y ∧ RdAB w w.heap.size y.A y.s.acts := by
  match cs, hlen with
  | [c0, c1, c2, c3], _ =>
    obtain ⟨xs, n, _, _, _, hxl, hg⟩ := DataW.trod_struct Try.underlying43 hf
    have g0 := fld hg 0 _ rfl 3 0 1 rfl rfl cInt; have g1 := fld hg 1 _ rfl 40 1 2 rfl rfl cFilter; have g2 := fld hg 2 _ rfl 41 3 1 rfl rfl cActs
    match xs, hxl with
    | [y0, y1, y2], _ =>
      obtain ⟨mod, e0, _, _⟩ := DataW.trod_int Try.underlying3 g0
      obtain ⟨xs', n', _, _, _, hxl', hg'⟩ := DataW.trod_struct Try.underlying40 g1
      have k0 := fld hg' 0 _ rfl 3 0 1 rfl rfl cInt; have k1 := fld hg' 1 _ rfl 3 1 1 rfl rfl cInt
      match xs', hxl' with
      | [z0, z1], _ =>
        obtain ⟨all, e1, _, _⟩ := DataW.trod_int Try.underlying3 k0
        obtain ⟨non, e2, _, _⟩ := DataW.trod_int Try.underlying3 k1
        obtain ⟨A, cap, acts, e3, h1, h2, hrd⟩ := open_acts g2
        simp at e0 e1 e2 e3
        subst e0 e1 e2 e3
        exact ⟨⟨⟨mod, all, non, acts⟩, A, cap⟩, rfl, hrd⟩
set_option maxRecDepth 100000 in
theorem open_systems {r : Reach} {b0 : Nat} {v : Value} {d : DataW H} {p : List MemPlace} (hok : Value.okWide Try.prog w r b0 26 v) (h : DataW.Trod enc Try.prog w base spare held 26 v d p) :
    ∃ (l : List SysIn) (A : Option Addr) (c : Nat), v = .slice A l.length c ∧ RdS w w.heap.size A l := by
  obtain ⟨fuel, hf⟩ := h
  obtain ⟨A, len, cap, l, css, hv, hl, hcl, h1, h2, hc4, hR, hrd⟩ := open_list (m := 4) (α := SysIn) ⟨⟨0, 0, 0, []⟩, none, 0⟩ (fun c a => c = sysCells a ∧ RdAB w w.heap.size a.A a.s.acts) Try.underlying26 (by kernel_rfl) (by omega) (by
    intro n cs' y hlen hy
    exact open_sys_cells hlen hy) hf
  subst hl
  have hvv : v = .slice A l.length cap := by
    simp only [Value.okWide, Try.underlying26, Cell.okWide] at hok
    cases v with
    | agg cells => simp [Cell.ok, Try.underlying26] at hok
    | slice A' n' c' => simpa [Value.cells] using hv
    | _ => simp [Value.cells] at hv
  refine ⟨l, A, cap, hvv, ?_, ?_⟩
  · rw [← flat_of hcl (fun i c a h1 h2 => (hR i c a h1 h2).1)]; exact hrd
  · intro x hx
    obtain ⟨i, hi⟩ := List.getElem?_of_mem hx
    have hlt : i < css.length := by rw [hcl]; exact (List.getElem?_eq_some_iff.1 hi).1
    exact (hR i css[i] x (List.getElem?_eq_getElem hlt) hi).2
end
end Go.Proofs.Ytefdblaolmckmac
