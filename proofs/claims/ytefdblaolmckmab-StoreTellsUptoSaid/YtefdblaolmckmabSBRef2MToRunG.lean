/- The walk of store.Match at right stores. The walk of store.Get at right stores. What a change of a store answers, as the plain world's. Right stores: small, and read again by the next call. -/
import Derived.Test.YtefdblaolmckmabSBStoFToPlainM
import Derived.Test.YtefdblaolmckmabSBSortTBToRefW
import Derived.Test.YtefdblaolmckmabSBSpecOToSpecR
import Derived.Test.YtefdblaolmckmabSBRowToInv
import Derived.Test.YtefdblaolmckmabSBStoMToStoQ
import Derived.Test.YtefdblaolmckmabSStoS
namespace Go.Proofs.Ytefdblaolmckmab
open Go.RowKit
open Brood
set_option linter.unusedVariables false
set_option linter.unusedSimpArgs false
end Go.Proofs.Ytefdblaolmckmab

namespace Go.Proofs.Ytefdblaolmckmab
open Go.RowKit
open Brood
set_option linter.unusedVariables false
set_option linter.unusedSimpArgs false
end Go.Proofs.Ytefdblaolmckmab

namespace Go.Proofs.Ytefdblaolmckmab
open Brood
set_option linter.unusedVariables false
set_option linter.unusedSimpArgs false
theorem erase_keep {rows : List BRow} (hr : Rise rows) {i g : Int} {m : Nat} (h : findR i g rows = some m) : rows.eraseIdx m = keepR (isB i g) rows := by
  obtain ⟨hm, hb⟩ := findR_spec h
  have e1 := isB_iff.1 hb
  refine rise_unique (rise_sub hr (List.eraseIdx_sublist _ _)) (rise_sub hr List.filter_sublist) ?_
  have h1 := (eraseIdx_perm hm).filter (fun r => !isB i g r)
  have h2 : (rows[m] :: rows.eraseIdx m).filter (fun r => !isB i g r) = rows.eraseIdx m := by
    rw [List.filter_cons, hb]
    simp only [Bool.not_true, Bool.false_eq_true, if_false]
    rw [List.filter_eq_self]
    intro q hq
    have := erase_ne hr hm q hq
    cases hq2 : isB i g q with
    | false => rfl
    | true => exact absurd ((isB_iff.1 hq2).1.trans e1.1.symm) this
  rw [h2] at h1
  exact h1.symm
theorem chgW_put {rows : List BRow} {gens : List Int} (hw : RightW rows gens) (i g : Int) (fr : BRow → BRow × Int) :
    chgW rows gens i g (fun r => ((fr r).1, true, (fr r).2)) = ⟨tabsW (changeV rows gens i g fr).rows, (changeV rows gens i g fr).gens, (changeV rows gens i g fr).err⟩ := by
  unfold chgW changeV
  rw [if_neg (by rw [(right_iff rows gens).2 hw]; simp)]
  cases findR i g rows with
  | none => rfl
  | some m =>
    dsimp only
    cases rows[m]? with
    | none => rfl
    | some r =>
      dsimp only
      by_cases he : (fr r).2 = 0
      · simp [he]
      · rw [if_pos he, if_pos he]; rfl
theorem chgW_kill {rows : List BRow} {gens : List Int} (hw : RightW rows gens) (i g : Int) :
    chgW rows gens i g keep3 = ⟨tabsW (killV rows gens i g).rows, (killV rows gens i g).gens, (killV rows gens i g).err⟩ := by
  cases hf : findR i g rows with
  | none =>
    have hk : killV rows gens i g = ⟨[], [], 5⟩ := by
      have hc : changeV rows gens i g keepF = ⟨[], [], 5⟩ := by
        unfold changeV
        rw [if_neg (by rw [(right_iff rows gens).2 hw]; simp), hf]
      unfold killV
      rw [hc]
      rfl
    rw [hk]
    unfold chgW
    rw [hf]
    rfl
  | some m =>
    obtain ⟨hm, hb⟩ := findR_spec hf
    have hk : killV rows gens i g = ⟨keepR (isB i g) rows, gens, 0⟩ := by
      have hc : changeV rows gens i g keepF = ⟨rows, gens, 0⟩ := by
        unfold changeV
        rw [if_neg (by rw [(right_iff rows gens).2 hw]; simp), hf]
        dsimp only
        rw [List.getElem?_eq_getElem hm]
        simp [keepF]
      unfold killV
      rw [hc]
      rfl
    rw [hk]
    unfold chgW
    rw [hf]
    dsimp only
    rw [List.getElem?_eq_getElem hm]
    simp [keep3, erase_keep hw.rise hf]
end Go.Proofs.Ytefdblaolmckmab

namespace Go.Proofs.Ytefdblaolmckmab
open Go.RowKit
open Brood
set_option linter.unusedVariables false
set_option linter.unusedSimpArgs false
theorem right_small {l : List TabIn} {rows : List BRow} {gens : List Int} (hw : RightW rows gens) (hfit : l.map tabOf = tabsW rows) : StSmall l gens := by
  have hlen : l.length = (ofG rows).length := fit_len (G := ofG rows) hfit
  have hl := right_len hw
  have hg := hw.len
  refine ⟨by omega, ?_, ?_, by omega⟩
  · intro t ht
    obtain ⟨k, hk, rfl⟩ := List.getElem_of_mem ht
    have hkG : k < (ofG rows).length := by omega
    have hF := fit_at (G := ofG rows) hfit hk hkG
    have h1 := hl.2.1 _ (List.getElem_mem hkG)
    refine ⟨by rw [hF.len]; omega, by rw [hF.clen]; have := listS_len (ofG rows)[k].h; omega, ?_⟩
    intro c hc
    obtain ⟨j, hj, rfl⟩ := List.getElem_of_mem hc
    have := hF.col hj (by rw [← hF.clen]; exact hj)
    rw [this, colOf_len]
    omega
  · rw [← flat_sum, hfit]
    show (flatG (((ofG rows).map tabG).map grpOf)).length ≤ _
    rw [hw.rep.back]
    omega
theorem GotSt.rd {w w' : World} {v : Value} {T : List BTab} {gens : List Int} (h : GotSt w w' v T gens) : ∃ A c l Ag cg, v = .agg #[.slice A l.length c, .slice Ag gens.length cg] ∧ l.map tabOf = T ∧ RdSt w' w'.heap.size ⟨A, c, l, Ag, cg, gens⟩ := by
  obtain ⟨A, c, l, Ag, cg, rfl, hl, h⟩ := h
  obtain ⟨h1, h2⟩ := h.rdT (A := A) (c := c) (l := l) (fun p hp => .tail _ hp)
  have ho : w'.ownsRow w.heap.size 3 1 (.slice Ag gens.length cg) gens.length (ints gens) := h.all _ (.head _)
  exact ⟨A, c, l, Ag, cg, rfl, hl, ⟨h1, Rd.of_own ho, h2, fun e => by
    have := holds_nil ho e
    exact ⟨this.1, List.eq_nil_of_length_eq_zero this.2⟩⟩⟩
theorem spawnT_right {rows : List BRow} {gens : List Int} (hw : RightW rows gens) (has n : Int) : spawnT (tabsW rows) gens has n = ⟨tabsW (spawnV rows gens has n).rows, (spawnV rows gens has n).gens, (spawnV rows gens has n).i, (spawnV rows gens has n).g, (spawnV rows gens has n).err⟩ := by
  unfold spawnT
  rw [hw.store, if_neg (by simp), hw.worldT]
theorem putT_right {rows : List BRow} {gens : List Int} (hw : RightW rows gens) (i g part n : Int) : chgT (tabsW rows) gens i g (put3 part n) = ⟨tabsW (putV rows gens i g part n).rows, (putV rows gens i g part n).gens, (putV rows gens i g part n).err⟩ := by
  unfold chgT
  rw [hw.store, if_neg (by simp), hw.worldT]
  exact chgW_put hw i g (putF part n)
theorem dropT_right {rows : List BRow} {gens : List Int} (hw : RightW rows gens) (i g part : Int) : chgT (tabsW rows) gens i g (drop3 part) = ⟨tabsW (dropV rows gens i g part).rows, (dropV rows gens i g part).gens, (dropV rows gens i g part).err⟩ := by
  unfold chgT
  rw [hw.store, if_neg (by simp), hw.worldT]
  exact chgW_put hw i g (dropF part)
theorem killT_right {rows : List BRow} {gens : List Int} (hw : RightW rows gens) (i g : Int) : chgT (tabsW rows) gens i g keep3 = ⟨tabsW (killV rows gens i g).rows, (killV rows gens i g).gens, (killV rows gens i g).err⟩ := by
  unfold chgT
  rw [hw.store, if_neg (by simp), hw.worldT]
  exact chgW_kill hw i g
end Go.Proofs.Ytefdblaolmckmab
