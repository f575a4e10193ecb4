/- The walk of the reference's SameLists, of lists that are alike. -/
import Derived.Test.YtefdblaolmckmaaConcat
import Derived.BigQuiet
import Derived.Deep.DeepCutAuto
import Derived.Deep.QuietTactic
namespace Go.Proofs.Ytefdblaolmckmaa
open Go.RowKit
set_option linter.unusedVariables false
set_option linter.unusedSimpArgs false

set_option maxRecDepth 20000 in
set_option maxHeartbeats 6400000 in
theorem same_any (A A' : Option Addr) (c c' : Nat) (us us' : List Value) (rows : List (List Int)) (hlen : rows.length ≤ 1000) (hrow : ∀ r ∈ rows, r.length ≤ 1000) (w : World) (hA : RdLL w w.heap.size A us rows) (hA' : RdLL w w.heap.size A' us' rows) :
    Calls Try.prog 47 #[.slice A rows.length c, .slice A' rows.length c'] w fun e w' => e = .returned (.bool true) ∧ Below w.heap.size w w' := by
  go_enter Try.func47, Try.ntmps47
  go_wp2_with fail
  go_loopw [14] (fun i wr => ∃ k : Nat, k ≤ rows.length ∧ i = .int .i64 k ∧ Below w.heap.size w wr) (fun i _ => rows.length - (intOf i).toNat)
  case atStart => exact ⟨0, by omega, rfl, Below.refl _ _⟩
  case round =>
    obtain ⟨k, hk, rfl, hbel⟩ := hrel
    by_cases hlt : k < rows.length
    · obtain ⟨b, off, D, d, rfl, hb, hc, _, hd, hr⟩ := (hA.under hbel (Nat.le_refl _)).at_ hlt
      obtain ⟨b', off', D', d', rfl, hb', hc', _, hd', hr'⟩ := (hA'.under hbel (Nat.le_refl _)).at_ hlt
      have hrl := hrow rows[k] (List.getElem_mem hlt)
      clear hA hA'
      generalize rows[k] = r at *
      have i0 : (0 : Int) ≤ (k : Int) := by omega
      have i1 : (k : Int) < (rows.length : Int) := by omega
      go_upto_region 6 with fail
      go_cut [27] (fun s27 wx => s27 = .bool false ∧ ∃ n, wx = wr.drewN n)
      case first =>
        go_quiet (fail)
        go_wp2_with fail
        go_meet
        exact ⟨rfl, _, rfl⟩
      case rest =>
        obtain ⟨rfl, n, rfl⟩ := hcut
        have hbel2 := below_drewN hbel n
        go_wp2_with fail
        obtain ⟨wo, rfl⟩ : ∃ wo : World, wo = wr := ⟨_, rfl⟩
        have hso := hbel.size
        go_loopw [33] (fun i wx => ∃ q : Nat, q ≤ r.length ∧ i = .int .i64 q ∧ Below wo.heap.size wo wx ∧ Below w.heap.size w wx) (fun i _ => r.length - (intOf i).toNat)
        case atStart => exact ⟨0, by omega, rfl, below_drewN (Below.refl _ _) n, hbel2⟩
        case round =>
          obtain ⟨q, hq, rfl, hbi, hbw⟩ := hrel
          by_cases hlt2 : q < r.length
          · obtain ⟨b2, off2, rfl, hb2, hcq⟩ := (hr.under hbi hso).2 (by omega)
            obtain ⟨b3, off3, rfl, hb3, hcq'⟩ := (hr'.under hbi hso).2 (by omega)
            have v1 := hcq q _ (ints_get hlt2)
            have v2 := hcq' q _ (ints_get hlt2)
            replace hc := (hbi.cell (p := ⟨b, off + k, none⟩) (by simp only; omega)).trans hc
            replace hc' := (hbi.cell (p := ⟨b', off' + k, none⟩) (by simp only; omega)).trans hc'
            clear hcq hcq' hr hr'
            generalize r[q] = z at *
            have j0 : (0 : Int) ≤ (q : Int) := by omega
            have j1 : (q : Int) < (r.length : Int) := by omega
            go_upto_region 11 with fail
            go_cut [50] (fun s50 wx => s50 = .bool false ∧ ∃ n, wx = wr.drewN n)
            case first =>
              go_quiet (fail)
              go_wp2_with fail
              go_meet
              exact ⟨rfl, _, rfl⟩
            case rest =>
              obtain ⟨rfl, m, rfl⟩ := hcut
              go_wp2_with fail
              go_roundw
              case rel => exact ⟨q + 1, by omega, by go_num, below_drewN hbi m, below_drewN hbw m⟩
              case measure => simp [intOf]; omega
          · obtain rfl : q = r.length := by omega
            go_wp2_with fail
            go_roundw
            case rel => exact ⟨k + 1, by omega, by go_num, hbw⟩
            case measure => simp [intOf]; omega
    · obtain rfl : k = rows.length := by omega
      go_wp2_with fail
      go_ret
      exact ⟨rfl, hbel⟩
end Go.Proofs.Ytefdblaolmckmaa
