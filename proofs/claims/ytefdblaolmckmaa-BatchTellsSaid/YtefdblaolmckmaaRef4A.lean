/- The walk of the reference's WrongAct. -/
import Derived.Test.YtefdblaolmckmaaRefW
import Derived.Test.YtefdblaolmckmaaSpecB
namespace Go.Proofs.Ytefdblaolmckmaa
open Go.RowKit
open Brood
set_option linter.unusedVariables false
set_option linter.unusedSimpArgs false

def actV (a : BAct) : Value := .agg #[.int .i64 a.kind, .int .i64 a.part, .int .i64 a.src, .int .i64 a.n]
def rAct (all : Int) (b : Nat → Bool) (a : BAct) : Int :=
  if actErr all a ≠ 0 then actErr all a
  else if (isFrom a && b a.src.toNat) || (isOwn a && b a.part.toNat) then 7 else 0

set_option maxRecDepth 20000 in
set_option maxHeartbeats 1600000 in
theorem rAct_6 (all non part src n : Int) (b : Nat → Bool) (w : World) :
    Calls Try.prog 61 #[.agg #[.int .i64 all, .int .i64 non], actV ⟨6, part, src, n⟩, .agg (arr8 b)] w fun e w' => e = .returned (.int .i64 0) ∧ Below w.heap.size w w' := by
  unfold actV arr8
  go_enter Try.func61, Try.ntmps61
  go_wp2_with fail
  go_ret
  exact ⟨rfl, (((Below.refl _ _).alloc (Nat.le_refl _) _).alloc (by simp) _).alloc (by simp; omega) _⟩
set_option maxRecDepth 20000 in
set_option maxHeartbeats 1600000 in
theorem rAct_1 (all non part src n : Int) (b : Nat → Bool) (w : World) :
    Calls Try.prog 61 #[.agg #[.int .i64 all, .int .i64 non], actV ⟨1, part, src, n⟩, .agg (arr8 b)] w fun e w' => e = .returned (.int .i64 (if isVal n && isPart part then 0 else 3)) ∧ Below w.heap.size w w' := by
  have hbel : Below w.heap.size w (((w.alloc (.cells #[.int .i64 all, .int .i64 non] 26)).alloc (.cells #[.int .i64 1, .int .i64 part, .int .i64 src, .int .i64 n] 91)).alloc (.cells (arr8 b) 30)) := (((Below.refl _ _).alloc (Nat.le_refl _) _).alloc (by simp) _).alloc (by simp; omega) _
  unfold actV
  unfold arr8 at *
  go_enter Try.func61, Try.ntmps61
  go_wp2_with fail
  refine (rvalue_any _ _).mono ?_
  rintro e w1 ⟨rfl, rfl⟩
  cases hv : isVal n
  · go_wp2_with fail
    all_goals (go_ret; exact ⟨rfl, hbel⟩)
  by_cases hp0 : part < 0
  · have hp : isPart part = false := isPart_false.2 (.inl hp0)
    go_wp2_with fail
    all_goals (go_ret; exact ⟨ret_int (by simp [hp]), hbel⟩)
  by_cases hp1 : 7 < part
  · have hp : isPart part = false := isPart_false.2 (.inr (by omega))
    go_wp2_with fail
    all_goals (go_ret; exact ⟨ret_int (by simp [hp]), hbel⟩)
  have hp : isPart part = true := isPart_iff.2 ⟨by omega, by omega⟩
  go_wp2_with fail
  all_goals (go_ret; exact ⟨ret_int (by simp [hp]), hbel⟩)
set_option maxRecDepth 20000 in
set_option maxHeartbeats 1600000 in
theorem rAct_5 (all non part src n : Int) (b : Nat → Bool) (w : World) :
    Calls Try.prog 61 #[.agg #[.int .i64 all, .int .i64 non], actV ⟨5, part, src, n⟩, .agg (arr8 b)] w fun e w' => e = .returned (.int .i64 (if isPart part then 0 else 3)) ∧ Below w.heap.size w w' := by
  have hbel : Below w.heap.size w (((w.alloc (.cells #[.int .i64 all, .int .i64 non] 26)).alloc (.cells #[.int .i64 5, .int .i64 part, .int .i64 src, .int .i64 n] 91)).alloc (.cells (arr8 b) 30)) := (((Below.refl _ _).alloc (Nat.le_refl _) _).alloc (by simp) _).alloc (by simp; omega) _
  unfold actV
  unfold arr8 at *
  go_enter Try.func61, Try.ntmps61
  by_cases hp0 : part < 0
  · have hp : isPart part = false := isPart_false.2 (.inl hp0)
    go_wp2_with fail
    all_goals (go_ret; exact ⟨ret_int (by simp [hp]), hbel⟩)
  by_cases hp1 : 7 < part
  · have hp : isPart part = false := isPart_false.2 (.inr (by omega))
    go_wp2_with fail
    all_goals (go_ret; exact ⟨ret_int (by simp [hp]), hbel⟩)
  have hp : isPart part = true := isPart_iff.2 ⟨by omega, by omega⟩
  go_wp2_with fail
  all_goals (go_ret; exact ⟨ret_int (by simp [hp]), hbel⟩)
set_option maxRecDepth 20000 in
set_option maxHeartbeats 1600000 in
theorem rAct_7 (all non part src n : Int) (b : Nat → Bool) (w : World) :
    Calls Try.prog 61 #[.agg #[.int .i64 all, .int .i64 non], actV ⟨7, part, src, n⟩, .agg (arr8 b)] w fun e w' => e = .returned (.int .i64 (if isSet part && isVal n then 0 else 3)) ∧ Below w.heap.size w w' := by
  have hbel : Below w.heap.size w (((w.alloc (.cells #[.int .i64 all, .int .i64 non] 26)).alloc (.cells #[.int .i64 7, .int .i64 part, .int .i64 src, .int .i64 n] 91)).alloc (.cells (arr8 b) 30)) := (((Below.refl _ _).alloc (Nat.le_refl _) _).alloc (by simp) _).alloc (by simp; omega) _
  unfold actV
  unfold arr8 at *
  go_enter Try.func61, Try.ntmps61
  go_wp2_with fail
  refine (rset_any _ _).mono ?_
  rintro e w1 ⟨rfl, rfl⟩
  cases hs : isSet part
  · go_wp2_with fail
    all_goals (go_ret; exact ⟨rfl, hbel⟩)
  go_wp2_with fail
  refine (rvalue_any _ _).mono ?_
  rintro e w1 ⟨rfl, rfl⟩
  cases hv : isVal n
  · go_wp2_with fail
    all_goals (go_ret; exact ⟨rfl, hbel⟩)
  go_wp2_with fail
  all_goals (go_ret; exact ⟨rfl, hbel⟩)
set_option maxRecDepth 20000 in
set_option maxHeartbeats 1600000 in
theorem rAct_0 (all non part src n : Int) (kind : Int) (k1 : ¬ kind = 1) (k2 : ¬ kind = 2) (k3 : ¬ kind = 3) (k4 : ¬ kind = 4) (k5 : ¬ kind = 5) (k6 : ¬ kind = 6) (k7 : ¬ kind = 7) (b : Nat → Bool) (w : World) :
    Calls Try.prog 61 #[.agg #[.int .i64 all, .int .i64 non], actV ⟨kind, part, src, n⟩, .agg (arr8 b)] w fun e w' => e = .returned (.int .i64 (1)) ∧ Below w.heap.size w w' := by
  have hbel : Below w.heap.size w (((w.alloc (.cells #[.int .i64 all, .int .i64 non] 26)).alloc (.cells #[.int .i64 kind, .int .i64 part, .int .i64 src, .int .i64 n] 91)).alloc (.cells (arr8 b) 30)) := (((Below.refl _ _).alloc (Nat.le_refl _) _).alloc (by simp) _).alloc (by simp; omega) _
  unfold actV
  unfold arr8 at *
  go_enter Try.func61, Try.ntmps61
  go_wp2_with fail
  all_goals (go_ret; exact ⟨rfl, hbel⟩)
set_option maxRecDepth 20000 in
set_option maxHeartbeats 1600000 in
theorem rAct_4 (all non part src n : Int) (hall : isSet all = true) (b : Nat → Bool) (w : World) :
    Calls Try.prog 61 #[.agg #[.int .i64 all, .int .i64 non], actV ⟨4, part, src, n⟩, .agg (arr8 b)] w fun e w' => e = .returned (.int .i64 (if isVal n && isPart part then (if hasB all part && !b part.toNat then 0 else 7) else 3)) ∧ Below w.heap.size w w' := by
  have hbel : Below w.heap.size w (((w.alloc (.cells #[.int .i64 all, .int .i64 non] 26)).alloc (.cells #[.int .i64 4, .int .i64 part, .int .i64 src, .int .i64 n] 91)).alloc (.cells (arr8 b) 30)) := (((Below.refl _ _).alloc (Nat.le_refl _) _).alloc (by simp) _).alloc (by simp; omega) _
  have HF := ((Blk.new w 26 #[.int .i64 all, .int .i64 non]).alloc (.cells #[.int .i64 4, .int .i64 part, .int .i64 src, .int .i64 n] 91)).alloc (.cells (arr8 b) 30)
  have HA := (Blk.new (w.alloc (.cells #[.int .i64 all, .int .i64 non] 26)) 91 #[.int .i64 4, .int .i64 part, .int .i64 src, .int .i64 n]).alloc (.cells (arr8 b) 30)
  have HG := Blk.new ((w.alloc (.cells #[.int .i64 all, .int .i64 non] 26)).alloc (.cells #[.int .i64 4, .int .i64 part, .int .i64 src, .int .i64 n] 91)) 30 (arr8 b)
  simp only [World.size_alloc] at HA HG
  unfold actV
  go_enter Try.func61, Try.ntmps61
  go_wp2_with fail
  refine (rvalue_any _ _).mono ?_
  rintro e w1 ⟨rfl, rfl⟩
  cases hv : isVal n
  · go_wp2_with fail
    all_goals (go_ret; exact ⟨rfl, hbel⟩)
  by_cases hp0 : part < 0
  · have hp : isPart part = false := isPart_false.2 (.inl hp0)
    go_wp2_with fail
    all_goals (go_ret; exact ⟨ret_int (by simp [hp]), hbel⟩)
  by_cases hp1 : 7 < part
  · have hp : isPart part = false := isPart_false.2 (.inr (by omega))
    go_wp2_with fail
    all_goals (go_ret; exact ⟨ret_int (by simp [hp]), hbel⟩)
  have hp : isPart part = true := isPart_iff.2 ⟨by omega, by omega⟩
  go_wp2_with fail
  refine (rhas_any all part hall _).mono ?_
  rintro e w2 ⟨rfl, hb2⟩
  replace hbel := grow_below hbel hb2
  cases hh : hasB all part
  · go_wp2_with fail
    all_goals (go_ret; exact ⟨ret_int (by simp [hp]), hbel⟩)
  obtain ⟨k, rfl⟩ := nat_of (show 0 ≤ part by omega)
  have hk : k < 8 := by omega
  replace HA := HA.below hb2 HA.lt
  replace HG := HG.below hb2 HG.lt
  have a1 := HA.cell 1
  have gk := HG.cell k
  rw [arr8_get b hk] at gk
  simp at a1
  cases hg : b k <;> rw [hg] at gk
  · go_wp2_with fail
    all_goals (go_ret; exact ⟨ret_int (by simp [hp, hg]), hbel⟩)
  · go_wp2_with fail
    all_goals (go_ret; exact ⟨ret_int (by simp [hp, hg]), hbel⟩)
set_option maxRecDepth 20000 in
set_option maxHeartbeats 1600000 in
theorem rAct_2 (all non part src n : Int) (hall : isSet all = true) (b : Nat → Bool) (w : World) :
    Calls Try.prog 61 #[.agg #[.int .i64 all, .int .i64 non], actV ⟨2, part, src, n⟩, .agg (arr8 b)] w fun e w' => e = .returned (.int .i64 (if isPart src && isPart part then (if hasB all src && !b src.toNat then 0 else 7) else 3)) ∧ Below w.heap.size w w' := by
  have hbel : Below w.heap.size w (((w.alloc (.cells #[.int .i64 all, .int .i64 non] 26)).alloc (.cells #[.int .i64 2, .int .i64 part, .int .i64 src, .int .i64 n] 91)).alloc (.cells (arr8 b) 30)) := (((Below.refl _ _).alloc (Nat.le_refl _) _).alloc (by simp) _).alloc (by simp; omega) _
  have HF := ((Blk.new w 26 #[.int .i64 all, .int .i64 non]).alloc (.cells #[.int .i64 2, .int .i64 part, .int .i64 src, .int .i64 n] 91)).alloc (.cells (arr8 b) 30)
  have HA := (Blk.new (w.alloc (.cells #[.int .i64 all, .int .i64 non] 26)) 91 #[.int .i64 2, .int .i64 part, .int .i64 src, .int .i64 n]).alloc (.cells (arr8 b) 30)
  have HG := Blk.new ((w.alloc (.cells #[.int .i64 all, .int .i64 non] 26)).alloc (.cells #[.int .i64 2, .int .i64 part, .int .i64 src, .int .i64 n] 91)) 30 (arr8 b)
  simp only [World.size_alloc] at HA HG
  unfold actV
  go_enter Try.func61, Try.ntmps61
  by_cases hq0 : src < 0
  · have hq : isPart src = false := isPart_false.2 (.inl hq0)
    go_wp2_with fail
    all_goals (go_ret; exact ⟨ret_int (by simp [hq]), hbel⟩)
  by_cases hq1 : 7 < src
  · have hq : isPart src = false := isPart_false.2 (.inr (by omega))
    go_wp2_with fail
    all_goals (go_ret; exact ⟨ret_int (by simp [hq]), hbel⟩)
  have hq : isPart src = true := isPart_iff.2 ⟨by omega, by omega⟩
  by_cases hp0 : part < 0
  · have hp : isPart part = false := isPart_false.2 (.inl hp0)
    go_wp2_with fail
    all_goals (go_ret; exact ⟨ret_int (by simp [hp]), hbel⟩)
  by_cases hp1 : 7 < part
  · have hp : isPart part = false := isPart_false.2 (.inr (by omega))
    go_wp2_with fail
    all_goals (go_ret; exact ⟨ret_int (by simp [hp]), hbel⟩)
  have hp : isPart part = true := isPart_iff.2 ⟨by omega, by omega⟩
  go_wp2_with fail
  refine (rhas_any all src hall _).mono ?_
  rintro e w2 ⟨rfl, hb2⟩
  replace hbel := grow_below hbel hb2
  cases hh : hasB all src
  · go_wp2_with fail
    all_goals (go_ret; exact ⟨ret_int (by simp [hp, hq]), hbel⟩)
  obtain ⟨k, rfl⟩ := nat_of (show 0 ≤ src by omega)
  have hk : k < 8 := by omega
  replace HA := HA.below hb2 HA.lt
  replace HG := HG.below hb2 HG.lt
  have a1 := HA.cell 2
  have gk := HG.cell k
  rw [arr8_get b hk] at gk
  simp at a1
  cases hg : b k <;> rw [hg] at gk
  · go_wp2_with fail
    all_goals (go_ret; exact ⟨ret_int (by simp [hp, hq, hg]), hbel⟩)
  · go_wp2_with fail
    all_goals (go_ret; exact ⟨ret_int (by simp [hp, hq, hg]), hbel⟩)
set_option maxRecDepth 20000 in
set_option maxHeartbeats 1600000 in
theorem rAct_3 (all non part src n : Int) (hall : isSet all = true) (b : Nat → Bool) (w : World) :
    Calls Try.prog 61 #[.agg #[.int .i64 all, .int .i64 non], actV ⟨3, part, src, n⟩, .agg (arr8 b)] w fun e w' => e = .returned (.int .i64 (if isPart src && isPart part then (if (hasB all src && !b src.toNat) && (hasB all part && !b part.toNat) then 0 else 7) else 3)) ∧ Below w.heap.size w w' := by
  have hbel : Below w.heap.size w (((w.alloc (.cells #[.int .i64 all, .int .i64 non] 26)).alloc (.cells #[.int .i64 3, .int .i64 part, .int .i64 src, .int .i64 n] 91)).alloc (.cells (arr8 b) 30)) := (((Below.refl _ _).alloc (Nat.le_refl _) _).alloc (by simp) _).alloc (by simp; omega) _
  have HF := ((Blk.new w 26 #[.int .i64 all, .int .i64 non]).alloc (.cells #[.int .i64 3, .int .i64 part, .int .i64 src, .int .i64 n] 91)).alloc (.cells (arr8 b) 30)
  have HA := (Blk.new (w.alloc (.cells #[.int .i64 all, .int .i64 non] 26)) 91 #[.int .i64 3, .int .i64 part, .int .i64 src, .int .i64 n]).alloc (.cells (arr8 b) 30)
  have HG := Blk.new ((w.alloc (.cells #[.int .i64 all, .int .i64 non] 26)).alloc (.cells #[.int .i64 3, .int .i64 part, .int .i64 src, .int .i64 n] 91)) 30 (arr8 b)
  simp only [World.size_alloc] at HA HG
  unfold actV
  go_enter Try.func61, Try.ntmps61
  by_cases hq0 : src < 0
  · have hq : isPart src = false := isPart_false.2 (.inl hq0)
    go_wp2_with fail
    all_goals (go_ret; exact ⟨ret_int (by simp [hq]), hbel⟩)
  by_cases hq1 : 7 < src
  · have hq : isPart src = false := isPart_false.2 (.inr (by omega))
    go_wp2_with fail
    all_goals (go_ret; exact ⟨ret_int (by simp [hq]), hbel⟩)
  have hq : isPart src = true := isPart_iff.2 ⟨by omega, by omega⟩
  by_cases hp0 : part < 0
  · have hp : isPart part = false := isPart_false.2 (.inl hp0)
    go_wp2_with fail
    all_goals (go_ret; exact ⟨ret_int (by simp [hp]), hbel⟩)
  by_cases hp1 : 7 < part
  · have hp : isPart part = false := isPart_false.2 (.inr (by omega))
    go_wp2_with fail
    all_goals (go_ret; exact ⟨ret_int (by simp [hp]), hbel⟩)
  have hp : isPart part = true := isPart_iff.2 ⟨by omega, by omega⟩
  go_wp2_with fail
  refine (rhas_any all src hall _).mono ?_
  rintro e w2 ⟨rfl, hb2⟩
  replace hbel := grow_below hbel hb2
  cases hh : hasB all src
  · go_wp2_with fail
    all_goals (go_ret; exact ⟨ret_int (by simp [hp, hq]), hbel⟩)
  obtain ⟨k, rfl⟩ := nat_of (show 0 ≤ src by omega)
  have hk : k < 8 := by omega
  replace HA := HA.below hb2 HA.lt
  replace HG := HG.below hb2 HG.lt
  have a1 := HA.cell 2
  have gk := HG.cell k
  rw [arr8_get b hk] at gk
  simp at a1
  have hbz := HF
  cases hg : b k <;> rw [hg] at gk
  case true =>
    go_wp2_with fail
    all_goals (go_ret; exact ⟨ret_int (by simp [hp, hq, hg]), hbel⟩)
  replace HF := HF.below hb2 HF.lt
  have f0 := HF.cell 0
  have a2 := HA.cell 1
  simp at f0 a2
  go_wp2_with fail
  refine (rhas_any all part hall _).mono ?_
  rintro e w3 ⟨rfl, hb3⟩
  replace hbel := grow_below hbel hb3
  clear f0 a1 a2 gk
  cases hh' : hasB all part
  · go_wp2_with fail
    all_goals (go_ret; exact ⟨ret_int (by simp [hp, hq, hg]), hbel⟩)
  obtain ⟨q, rfl⟩ := nat_of (show 0 ≤ part by omega)
  have hk' : q < 8 := by omega
  replace HA := HA.below hb3 HA.lt
  replace HG := HG.below hb3 HG.lt
  have a1 := HA.cell 1
  have gk := HG.cell q
  rw [arr8_get b hk'] at gk
  simp at a1
  cases hg' : b q <;> rw [hg'] at gk
  · go_wp2_with fail
    all_goals (go_ret; exact ⟨ret_int (by simp [hp, hq, hg, hg']), hbel⟩)
  · go_wp2_with fail
    all_goals (go_ret; exact ⟨ret_int (by simp [hp, hq, hg, hg']), hbel⟩)
end Go.Proofs.Ytefdblaolmckmaa
