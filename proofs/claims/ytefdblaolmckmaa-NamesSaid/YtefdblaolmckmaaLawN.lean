/- The walk of Names. -/
import Derived.Test.YtefdblaolmckmaaRefW
import Derived.BigQuiet
namespace Go.Proofs.Ytefdblaolmckmaa
open Go.RowKit
open Brood
set_option linter.unusedVariables false
set_option linter.unusedSimpArgs false

def eCells : Array Value := #[.int .i64 0, .int .i64 1, .int .i64 2, .int .i64 3, .int .i64 4, .int .i64 5, .int .i64 6, .int .i64 7, .int .i64 8]
def nCells : Array Value := #[.int .i64 8, .int .i64 255, .int .i64 1000000, .int .i64 60, .int .i64 1000, .int .i64 1, .int .i64 2, .int .i64 3, .int .i64 4, .int .i64 5, .int .i64 6, .int .i64 7, .int .i64 6, .int .i64 12, .int .i64 8, .int .i64 1, .int .i64 2, .int .i64 3, .int .i64 4, .int .i64 5, .int .i64 6, .int .i64 7, .int .i64 80]
theorem eCells_at {k : Nat} (h : k < 9) : eCells[k]? = some (.int .i64 (k : Int)) := by
  match k, h with
  | 0, _ | 1, _ | 2, _ | 3, _ | 4, _ | 5, _ | 6, _ | 7, _ | 8, _ => rfl
theorem nCells_all : ∀ k, k < 23 → (match nCells[k]? with | some (.int .i64 _) => true | _ => false) = true := by decide
theorem nCells_at {k : Nat} (h : k < 23) : ∃ z : Int, nCells[k]? = some (.int .i64 z) := by
  have := nCells_all k h
  revert this
  split
  · rename_i z e; exact fun _ => ⟨z, e⟩
  · intro h; cases h

set_option maxRecDepth 20000 in
set_option maxHeartbeats 3200000 in
theorem names_any (w : World) :
    Calls Try.prog 11 #[] w fun e w' => e = .returned (.bool true) ∧ Below w.heap.size w w' := by
  go_enter Try.func11, Try.ntmps11
  go_wp2_with fail
  go_loopw [10] (fun i wr => ∃ k : Nat, k ≤ 9 ∧ i = .int .i64 k ∧ Below w.heap.size w wr ∧ Blk wr w.heap.size 41 eCells) (fun i _ => 9 - (intOf i).toNat)
  case atStart => exact ⟨0, by omega, rfl, (Below.refl _ _).alloc (Nat.le_refl _) _, Blk.new _ _ _⟩
  case round =>
    obtain ⟨k, hk, rfl, hbel, HB⟩ := hrel
    by_cases hlt : k < 9
    · have hc := HB.cell k
      rw [eCells_at hlt] at hc
      go_wp2_with fail
      go_roundw
      case rel => exact ⟨k + 1, by omega, by go_num, hbel, HB⟩
      case measure => simp [intOf]; omega
    · obtain rfl : k = 9 := by omega
      clear HB
      have hs0 := hbel.size
      go_wp2_with fail
      obtain ⟨wo, hwo⟩ : ∃ wo : World, wo = wr := ⟨_, rfl⟩
      rw [← hwo]
      have hbo : Below w.heap.size w wo := by rw [hwo]; exact hbel
      clear hbel hwo hs0
      go_loopw [23] (fun i wr => ∃ k : Nat, k ≤ 23 ∧ i = .int .i64 k ∧ Below w.heap.size w wr ∧ Blk wr wo.heap.size 3 nCells ∧ Blk wr (wo.heap.size + 1) 3 nCells) (fun i _ => 23 - (intOf i).toNat)
      case atStart =>
        refine ⟨0, by omega, rfl, (hbo.alloc hbo.size _).alloc (by have := hbo.size; simp; omega) _, (Blk.new _ _ _).alloc _, ?_⟩
        have h := Blk.new (wo.alloc (.cells nCells 3)) 3 nCells
        rw [World.size_alloc] at h
        exact h
      case round =>
        obtain ⟨k, hk, rfl, hbel, HB, HB'⟩ := hrel
        by_cases hlt : k < 23
        · obtain ⟨z, hz⟩ := nCells_at hlt
          have hc := HB.cell k
          have hc' := HB'.cell k
          rw [hz] at hc hc'
          clear hz
          go_wp2_with fail
          go_quiet (fail)
          go_wp2_with fail
          go_roundw
          case rel => exact ⟨k + 1, by omega, by go_num, below_drewN hbel _, HB, HB'⟩
          case measure => simp [intOf]; omega
        · obtain rfl : k = 23 := by omega
          go_wp2_with fail
          go_ret
          exact ⟨rfl, hbel⟩
end Go.Proofs.Ytefdblaolmckmaa
