/- Slices of systems in memory; what is wrong with them: the program's walk and the document's. -/
import Derived.Test.YtefdblaolmckmaaSpecC
import Derived.Test.YtefdblaolmckmaaRef4C
namespace Go.Proofs.Ytefdblaolmckmaa
open Go.RowKit
open Brood
set_option linter.unusedVariables false
set_option linter.unusedSimpArgs false

/-- A system as it lies in memory. -/
structure SysIn where
  s : BSys
  A : Option Addr
  c : Nat
def sysCells (x : SysIn) : List Value := [.int .i64 x.s.mod, .int .i64 x.s.all, .int .i64 x.s.non, .slice x.A x.s.acts.length x.c]
def sysV (x : SysIn) : Value := .agg #[.int .i64 x.s.mod, .int .i64 x.s.all, .int .i64 x.s.non, .slice x.A x.s.acts.length x.c]
/-- A slice of systems that reads as l, all of it below block B. -/
structure RdS (w : World) (B : Nat) (A : Option Addr) (l : List SysIn) : Prop where
  cells : Rd w B 4 A l.length (l.flatMap sysCells)
  acts : ∀ x ∈ l, RdAB w B x.A x.s.acts
section
variable {w w' : World} {B : Nat} {A : Option Addr} {l : List SysIn}
theorem RdS.keep (h : RdS w B A l) (hk : ∀ p : Addr, p.block < B → w'.cell? p = w.cell? p) : RdS w' B A l :=
  ⟨h.cells.keep hk, fun x hx => Rd.keep (h.acts x hx) hk⟩
theorem RdS.under (h : RdS w B A l) {C : Nat} (hb : Below C w w') (hC : B ≤ C) : RdS w' B A l := h.keep fun _ hp => hb.cell (by omega)
theorem RdS.alloc (h : RdS w B A l) (hB : B ≤ w.heap.size) (o : Obj) : RdS (w.alloc o) B A l := h.keep fun p hp => World.cell?_alloc_lt w o p (by omega)
theorem RdS.setCell (h : RdS w B A l) {p : Addr} (hB : B ≤ p.block) (u : Value) : RdS (w.setCell p u) B A l :=
  h.keep fun q hq => World.cell?_setCell_other w p q u (fun e => by subst e; omega)
theorem RdS.more (h : RdS w B A l) {C : Nat} (hB : B ≤ C) : RdS w C A l := ⟨h.cells.more hB, fun x hx => Rd.more (h.acts x hx) hB⟩
theorem RdS.drew (h : RdS w B A l) : RdS w.drew B A l := ⟨h.cells, h.acts⟩
theorem RdS.drewN (h : RdS w B A l) (n : Nat) : RdS (w.drewN n) B A l := ⟨h.cells, h.acts⟩
theorem RdS.at_ (h : RdS w B A l) {k : Nat} (hk : k < l.length) :
    ∃ b off, A = some ⟨b, off, none⟩ ∧ b < B ∧ w.cell? ⟨b, off + k * 4, none⟩ = some (.int .i64 l[k].s.mod) ∧ w.cell? ⟨b, off + k * 4 + 1, none⟩ = some (.int .i64 l[k].s.all) ∧
      w.cell? ⟨b, off + k * 4 + 2, none⟩ = some (.int .i64 l[k].s.non) ∧ w.cell? ⟨b, off + k * 4 + 3, none⟩ = some (.slice l[k].A l[k].s.acts.length l[k].c) := by
  obtain ⟨b, off, e, hb, hc⟩ := h.cells.2 (by omega)
  have hf : ∀ x, (sysCells x).length = 4 := fun _ => rfl
  refine ⟨b, off, e, hb, ?_, ?_, ?_, ?_⟩
  · have := hc (k * 4 + 0) _ (flat_get hf l k hk 0 (by omega)); simpa using this
  · have := hc (k * 4 + 1) _ (flat_get hf l k hk 1 (by omega)); simpa [Nat.add_assoc] using this
  · have := hc (k * 4 + 2) _ (flat_get hf l k hk 2 (by omega)); simpa [Nat.add_assoc] using this
  · have := hc (k * 4 + 3) _ (flat_get hf l k hk 3 (by omega)); simpa [Nat.add_assoc] using this
end
def sysOf (l : List SysIn) : List BSys := l.map (·.s)
theorem sysOf_length (l : List SysIn) : (sysOf l).length = l.length := by simp [sysOf]
theorem sysOf_drop {l : List SysIn} {k : Nat} (h : k < l.length) : (sysOf l).drop k = l[k].s :: (sysOf l).drop (k + 1) := by
  unfold sysOf
  rw [← List.map_drop, ← List.map_drop, drop_cons h, List.map_cons]

set_option maxRecDepth 20000 in
set_option maxHeartbeats 3200000 in
theorem bwrong_any (l : List SysIn) (A : Option Addr) (c : Nat) (w : World) (hA : RdS w w.heap.size A l) :
    Calls Try.prog 45 #[.slice A l.length c] w fun e w' =>
      e = .returned (.agg #[.int .i64 (batchWrong (sysOf l)).1, .int .i64 (batchWrong (sysOf l)).2]) ∧ Below w.heap.size w w' := by
  by_cases hlen : 12 < l.length
  · have hr : Hid (batchWrong (sysOf l) = (4, 0)) := Lib.hid (by simp [batchWrong, sysOf_length, hlen])
    go_enter Try.func45, Try.ntmps45
    go_wp2_with fail
    refine bodyPost_ret (v := .agg #[.int .i64 4, .int .i64 0]) (by simp [results, Try.results45, go_sem]) rfl ⟨by rw [hr.out], ?_⟩
    exact (Below.refl _ _).alloc (Nat.le_refl _) _
  · have hr : Hid (batchWrong (sysOf l) = wrongsFrom 0 (sysOf l)) := Lib.hid (by simp [batchWrong, sysOf_length, hlen])
    go_enter Try.func45, Try.ntmps45
    go_wp2_with fail
    go_loopw [12] (fun i wr => ∃ k : Nat, k ≤ l.length ∧ i = .int .i64 k ∧ Hid (wrongsFrom 0 (sysOf l) = wrongsFrom k ((sysOf l).drop k)) ∧ Below w.heap.size w wr ∧ RdS wr w.heap.size A l ∧
      Blk wr w.heap.size 43 #[.int .i64 0, .int .i64 0]) (fun i _ => l.length - (intOf i).toNat)
    case atStart => exact ⟨0, Nat.zero_le _, rfl, Lib.hid (by simp), (Below.refl _ _).alloc (Nat.le_refl _) _, hA.alloc (Nat.le_refl _) _, Blk.new _ _ _⟩
    case round =>
      clear hA
      obtain ⟨k, hk, rfl, heq, hbel, hA, HF⟩ := hrel
      have f0 := HF.cell 0; have f1 := HF.cell 1; have z0 := HF.frozen 0; have z1 := HF.frozen 1
      simp at f0 f1
      have s1 := HF.lt
      have hbs := hbel.size
      by_cases hlt : k < l.length
      · obtain ⟨b, off, rfl, hb, hc0, hc1, hc2, hc3⟩ := hA.at_ hlt
        have hact := hA.acts l[k] (List.getElem_mem hlt)
        have hst := Lib.hid (sysOf_drop hlt)
        generalize l[k] = x at *
        obtain ⟨s, sA, sc⟩ := x
        simp only at hc0 hc1 hc2 hc3 hact hst
        have i0 : (0 : Int) ≤ (k : Int) := by omega
        have i1 : (k : Int) < (l.length : Int) := by omega
        go_wp2_with fail
        refine (wrong_any s sA sc _ (Rd.more (Rd.alloc hact hbs _) (by simp; omega))).mono ?_
        rintro e w1 ⟨rfl, hb1⟩
        have HF1 := (HF.alloc (.cells #[.int .i64 s.mod, .int .i64 s.all, .int .i64 s.non, .slice sA s.acts.length sc] 38)).below hb1 (by simp; omega)
        have hA1 := (hA.alloc hbs (.cells #[.int .i64 s.mod, .int .i64 s.all, .int .i64 s.non, .slice sA s.acts.length sc] 38)).under hb1 (by simp; omega)
        have hbel1 := (hbel.alloc hbs (.cells #[.int .i64 s.mod, .int .i64 s.all, .int .i64 s.non, .slice sA s.acts.length sc] 38)).trans (hb1.mono (by simp; omega))
        clear hb1 hc0 hc1 hc2 hc3 f0 f1 z0 z1 hact HF hA hbel
        have f0 := HF1.cell 0; have f1 := HF1.cell 1; have z0 := HF1.frozen 0; have z1 := HF1.frozen 1
        simp at f0 f1
        have s2 := HF1.lt
        cases hx : (decide ((sysWrong s).1 = 0)) with
        | false =>
          have hx1 := of_decide_eq_false hx
          have hx' : ((sysWrong s).1 != 0) = true := by simpa using hx1
          have hx2 := Lib.hid hx1
          clear hx hx1
          have HR := ((HF1.set_ 0 (.int .i64 (sysWrong s).1)).set_ 1 (.int .i64 (k : Int))).alloc (.cells #[.int .i64 (sysWrong s).1, .int .i64 (sysWrong s).2] 43)
          have r0 := HR.cell 0; have r1 := HR.cell 1
          simp at r0 r1
          go_wp2_with fail
          refine bodyPost_ret (v := .agg #[.int .i64 (sysWrong s).1, .int .i64 (k : Int)]) (by simp [results, r0, r1, Try.results45, go_sem, f0, f1, z0, z1]) rfl ⟨?_, ?_⟩
          · rw [hr.out, heq.out, hst.out, wrongsFrom, if_pos hx2.out]
          · exact ((hbel1.setCell (by simp) _).setCell (by simp) _).alloc (by simp; omega) _
        | true =>
          have hx1 := of_decide_eq_true hx
          have hx' : ((sysWrong s).1 != 0) = false := by simpa using hx1
          have hnext : Hid (wrongsFrom 0 (sysOf l) = wrongsFrom (k + 1) ((sysOf l).drop (k + 1))) := Lib.hid (by rw [heq.out, hst.out, wrongsFrom, if_neg (by simpa using hx1)])
          clear hx hx1
          go_wp2_with fail
          go_roundw
          case rel => exact ⟨k + 1, by omega, by go_num, hnext, hbel1.alloc (by omega) _, hA1.alloc (by omega) _, HF1.alloc _⟩
          case measure => simp [intOf]; omega
      · obtain rfl : k = l.length := by omega
        go_wp2_with fail
        refine bodyPost_ret (v := .agg #[.int .i64 0, .int .i64 0]) (by simp [results, Try.results45, go_sem, f0, f1, z0, z1]) rfl ⟨?_, ?_⟩
        · rw [hr.out, heq.out, ← sysOf_length, List.drop_length]; rfl
        · exact (hbel.setCell (by simp) _).setCell (by simp) _

set_option maxRecDepth 20000 in
set_option maxHeartbeats 3200000 in
theorem rwrongs_any (l : List SysIn) (A : Option Addr) (c : Nat) (w : World) (hA : RdS w w.heap.size A l) :
    Calls Try.prog 46 #[.slice A l.length c] w fun e w' =>
      e = .returned (.agg #[.int .i64 (batchWrong (sysOf l)).1, .int .i64 (batchWrong (sysOf l)).2]) ∧ Below w.heap.size w w' := by
  by_cases hlen : 12 < l.length
  · have hr : Hid (batchWrong (sysOf l) = (4, 0)) := Lib.hid (by simp [batchWrong, sysOf_length, hlen])
    go_enter Try.func46, Try.ntmps46
    go_wp2_with fail
    refine bodyPost_ret (v := .agg #[.int .i64 4, .int .i64 0]) (by simp [results, Try.results46, go_sem]) rfl ⟨by rw [hr.out], ?_⟩
    exact (Below.refl _ _).alloc (Nat.le_refl _) _
  · have hr : Hid (batchWrong (sysOf l) = wrongsFrom 0 (sysOf l)) := Lib.hid (by simp [batchWrong, sysOf_length, hlen])
    go_enter Try.func46, Try.ntmps46
    go_wp2_with fail
    go_loopw [12] (fun i wr => ∃ k : Nat, k ≤ l.length ∧ i = .int .i64 k ∧ Hid (wrongsFrom 0 (sysOf l) = wrongsFrom k ((sysOf l).drop k)) ∧ Below w.heap.size w wr ∧ RdS wr w.heap.size A l ∧
      Blk wr w.heap.size 43 #[.int .i64 0, .int .i64 0]) (fun i _ => l.length - (intOf i).toNat)
    case atStart => exact ⟨0, Nat.zero_le _, rfl, Lib.hid (by simp), (Below.refl _ _).alloc (Nat.le_refl _) _, hA.alloc (Nat.le_refl _) _, Blk.new _ _ _⟩
    case round =>
      clear hA
      obtain ⟨k, hk, rfl, heq, hbel, hA, HF⟩ := hrel
      have f0 := HF.cell 0; have f1 := HF.cell 1; have z0 := HF.frozen 0; have z1 := HF.frozen 1
      simp at f0 f1
      have s1 := HF.lt
      have hbs := hbel.size
      by_cases hlt : k < l.length
      · obtain ⟨b, off, rfl, hb, hc0, hc1, hc2, hc3⟩ := hA.at_ hlt
        have hact := hA.acts l[k] (List.getElem_mem hlt)
        have hst := Lib.hid (sysOf_drop hlt)
        generalize l[k] = x at *
        obtain ⟨s, sA, sc⟩ := x
        simp only at hc0 hc1 hc2 hc3 hact hst
        have i0 : (0 : Int) ≤ (k : Int) := by omega
        have i1 : (k : Int) < (l.length : Int) := by omega
        go_wp2_with fail
        refine (rwrong_any s sA sc _ (Rd.more (Rd.alloc hact hbs _) (by simp; omega))).mono ?_
        rintro e w1 ⟨rfl, hb1⟩
        have HF1 := (HF.alloc (.cells #[.int .i64 s.mod, .int .i64 s.all, .int .i64 s.non, .slice sA s.acts.length sc] 38)).below hb1 (by simp; omega)
        have hA1 := (hA.alloc hbs (.cells #[.int .i64 s.mod, .int .i64 s.all, .int .i64 s.non, .slice sA s.acts.length sc] 38)).under hb1 (by simp; omega)
        have hbel1 := (hbel.alloc hbs (.cells #[.int .i64 s.mod, .int .i64 s.all, .int .i64 s.non, .slice sA s.acts.length sc] 38)).trans (hb1.mono (by simp; omega))
        clear hb1 hc0 hc1 hc2 hc3 f0 f1 z0 z1 hact HF hA hbel
        have f0 := HF1.cell 0; have f1 := HF1.cell 1; have z0 := HF1.frozen 0; have z1 := HF1.frozen 1
        simp at f0 f1
        have s2 := HF1.lt
        cases hx : (decide ((sysWrong s).1 = 0)) with
        | false =>
          have hx1 := of_decide_eq_false hx
          have hx' : ((sysWrong s).1 != 0) = true := by simpa using hx1
          have hx2 := Lib.hid hx1
          clear hx hx1
          have HR := ((HF1.set_ 0 (.int .i64 (sysWrong s).1)).set_ 1 (.int .i64 (k : Int))).alloc (.cells #[.int .i64 (sysWrong s).1, .int .i64 (sysWrong s).2] 43)
          have r0 := HR.cell 0; have r1 := HR.cell 1
          simp at r0 r1
          go_wp2_with fail
          refine bodyPost_ret (v := .agg #[.int .i64 (sysWrong s).1, .int .i64 (k : Int)]) (by simp [results, r0, r1, Try.results46, go_sem, f0, f1, z0, z1]) rfl ⟨?_, ?_⟩
          · rw [hr.out, heq.out, hst.out, wrongsFrom, if_pos hx2.out]
          · exact ((hbel1.setCell (by simp) _).setCell (by simp) _).alloc (by simp; omega) _
        | true =>
          have hx1 := of_decide_eq_true hx
          have hx' : ((sysWrong s).1 != 0) = false := by simpa using hx1
          have hnext : Hid (wrongsFrom 0 (sysOf l) = wrongsFrom (k + 1) ((sysOf l).drop (k + 1))) := Lib.hid (by rw [heq.out, hst.out, wrongsFrom, if_neg (by simpa using hx1)])
          clear hx hx1
          go_wp2_with fail
          go_roundw
          case rel => exact ⟨k + 1, by omega, by go_num, hnext, hbel1.alloc (by omega) _, hA1.alloc (by omega) _, HF1.alloc _⟩
          case measure => simp [intOf]; omega
      · obtain rfl : k = l.length := by omega
        go_wp2_with fail
        refine bodyPost_ret (v := .agg #[.int .i64 0, .int .i64 0]) (by simp [results, Try.results46, go_sem, f0, f1, z0, z1]) rfl ⟨?_, ?_⟩
        · rw [hr.out, heq.out, ← sysOf_length, List.drop_length]; rfl
        · exact (hbel.setCell (by simp) _).setCell (by simp) _
end Go.Proofs.Ytefdblaolmckmaa
