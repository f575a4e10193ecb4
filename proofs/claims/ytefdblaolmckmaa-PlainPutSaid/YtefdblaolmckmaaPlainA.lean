/- Worlds in memory; the walks of plain.gens and row. -/
import Derived.Test.YtefdblaolmckmaaSpecP
import Derived.Test.YtefdblaolmckmaaRuleA
namespace Go.Proofs.Ytefdblaolmckmaa
open Go.RowKit
open Brood
set_option linter.unusedVariables false
set_option linter.unusedSimpArgs false

def rowCells (r : BRow) : List Value := [.int .i64 r.idx, .int .i64 r.gen, .int .i64 r.has] ++ ints r.vals
theorem rowCells_length (r : BRow) : (rowCells r).length = 11 := by simp [rowCells, ints, r.h8]
/-- A slice of rows, and one of ints, below block B. -/
def RdR (w : World) (B : Nat) (A : Option Addr) (rows : List BRow) : Prop := Rd w B 11 A rows.length (rows.flatMap rowCells)
def RdG (w : World) (B : Nat) (A : Option Addr) (zs : List Int) : Prop := Rd w B 1 A zs.length (ints zs)
/-- At this place a row lies. -/
def RowAt (w : World) (b o : Nat) (r : BRow) : Prop := ∀ j u, (rowCells r)[j]? = some u → w.cell? ⟨b, o + j, none⟩ = some u
theorem RdR.at_ {w : World} {B : Nat} {A : Option Addr} {rows : List BRow} (h : RdR w B A rows) {k : Nat} (hk : k < rows.length) :
    ∃ b off, A = some ⟨b, off, none⟩ ∧ b < B ∧ RowAt w b (off + k * 11) rows[k] := by
  obtain ⟨b, off, e, hb, hc⟩ := h.2 (by omega)
  refine ⟨b, off, e, hb, fun j u hu => ?_⟩
  have hj : j < 11 := by rw [← rowCells_length rows[k]]; exact (List.getElem?_eq_some_iff.1 hu).1
  have := hc (k * 11 + j) u ((flat_get rowCells_length rows k hk j hj).trans hu)
  rwa [← Nat.add_assoc] at this
theorem RdG.at_ {w : World} {B : Nat} {A : Option Addr} {zs : List Int} (h : RdG w B A zs) {k : Nat} (hk : k < zs.length) :
    ∃ b off, A = some ⟨b, off, none⟩ ∧ b < B ∧ w.cell? ⟨b, off + k, none⟩ = some (.int .i64 zs[k]) := by
  obtain ⟨b, off, e, hb, hc⟩ := h.2 (by omega)
  exact ⟨b, off, e, hb, hc k _ (ints_get hk)⟩
theorem RowAt.below {w w' : World} {b o : Nat} {r : BRow} (h : RowAt w b o r) {B : Nat} (hb : Below B w w') (hB : b < B) : RowAt w' b o r := fun j u hu => (hb.cell (by simpa using hB)).trans (h j u hu)
theorem RowAt.head {w : World} {b o : Nat} {r : BRow} (h : RowAt w b o r) : w.cell? ⟨b, o, none⟩ = some (.int .i64 r.idx) ∧ w.cell? ⟨b, o + 1, none⟩ = some (.int .i64 r.gen) ∧ w.cell? ⟨b, o + 2, none⟩ = some (.int .i64 r.has) :=
  ⟨h 0 _ rfl, h 1 _ rfl, h 2 _ rfl⟩
theorem RowAt.val {w : World} {b o : Nat} {r : BRow} (h : RowAt w b o r) {k : Nat} (hk : k < 8) : w.cell? ⟨b, o + 3 + k, none⟩ = some (.int .i64 (r.vals[k]'(by rw [r.h8]; exact hk))) := by
  have := h (3 + k) (.int .i64 (r.vals[k]'(by rw [r.h8]; exact hk))) (by
    unfold rowCells
    rw [List.getElem?_append_right (by simp), show 3 + k - [Value.int IntKind.i64 r.idx, Value.int IntKind.i64 r.gen, Value.int IntKind.i64 r.has].length = k by simp]
    exact ints_get (by rw [r.h8]; exact hk))
  rwa [← Nat.add_assoc] at this

set_option maxRecDepth 20000 in
set_option maxHeartbeats 3200000 in
theorem gens_any (zs : List Int) (A : Option Addr) (c : Nat) (w : World) (hA : RdG w w.heap.size A zs) :
    Calls Try.prog 76 #[.slice A zs.length c] w fun e w' => e = .returned (.agg #[.int .i64 (gensErr zs).1, .int .i64 (gensErr zs).2]) ∧ Below w.heap.size w w' := by
  by_cases hlen : 60 < zs.length
  · have hr : Hid (gensErr zs = (4, 0)) := Lib.hid (by simp [gensErr, hlen])
    go_enter Try.func76, Try.ntmps76
    go_wp2_with fail
    refine bodyPost_ret (v := .agg #[.int .i64 4, .int .i64 0]) (by simp [results, Try.results76, go_sem]) rfl ⟨by rw [hr.out], ?_⟩
    exact (Below.refl _ _).alloc (Nat.le_refl _) _
  · have hr : Hid (gensErr zs = gensFrom 0 zs) := Lib.hid (by simp [gensErr, hlen])
    go_enter Try.func76, Try.ntmps76
    go_wp2_with fail
    go_loopw [11] (fun i wr => ∃ k : Nat, k ≤ zs.length ∧ i = .int .i64 k ∧ Hid (gensFrom 0 zs = gensFrom k (zs.drop k)) ∧ Below w.heap.size w wr ∧ RdG wr w.heap.size A zs ∧ Blk wr w.heap.size 43 #[.int .i64 0, .int .i64 0]) (fun i _ => zs.length - (intOf i).toNat)
    case atStart => exact ⟨0, by omega, rfl, Lib.hid (by simp), (Below.refl _ _).alloc (Nat.le_refl _) _, Rd.alloc hA (Nat.le_refl _) _, Blk.new _ _ _⟩
    case round =>
      clear hA
      obtain ⟨k, hk, rfl, heq, hbel, hA, HF⟩ := hrel
      have f0 := HF.cell 0; have f1 := HF.cell 1; have z0 := HF.frozen 0; have z1 := HF.frozen 1
      simp at f0 f1
      have s1 := HF.lt
      by_cases hlt : k < zs.length
      · obtain ⟨b, off, rfl, hb, hc⟩ := hA.at_ hlt
        have hst := Lib.hid (drop_cons hlt)
        generalize zs[k] = n at *
        have i0 : (0 : Int) ≤ (k : Int) := by omega
        have i1 : (k : Int) < (zs.length : Int) := by omega
        have HQ := (HF.set_ 0 (.int .i64 3)).set_ 1 (.int .i64 (k : Int))
        have r0 := HQ.cell 0; have r1 := HQ.cell 1
        simp at r0 r1
        by_cases h1 : n < 1
        · go_wp2_with fail
          refine bodyPost_ret (v := .agg #[.int .i64 3, .int .i64 (k : Int)]) (by simp [results, Try.results76, go_sem, r0, r1]) rfl ⟨?_, (hbel.setCell (by simp) _).setCell (by simp) _⟩
          rw [hr.out, heq.out, hst.out, gensFrom, if_pos (.inl h1)]
        by_cases h2 : 1000 < n
        · go_wp2_with fail
          refine bodyPost_ret (v := .agg #[.int .i64 3, .int .i64 (k : Int)]) (by simp [results, Try.results76, go_sem, r0, r1]) rfl ⟨?_, (hbel.setCell (by simp) _).setCell (by simp) _⟩
          rw [hr.out, heq.out, hst.out, gensFrom, if_pos (.inr h2)]
        have hnext : Hid (gensFrom 0 zs = gensFrom (k + 1) (zs.drop (k + 1))) := Lib.hid (by rw [heq.out, hst.out, gensFrom, if_neg (by omega)])
        go_wp2_with fail
        go_roundw
        case rel => exact ⟨k + 1, by omega, by go_num, hnext, hbel, hA, HF⟩
        case measure => simp [intOf]; omega
      · obtain rfl : k = zs.length := by omega
        have HQ := (HF.set_ 0 (.int .i64 0)).set_ 1 (.int .i64 0)
        have r0 := HQ.cell 0; have r1 := HQ.cell 1
        simp at r0 r1
        go_wp2_with fail
        refine bodyPost_ret (v := .agg #[.int .i64 0, .int .i64 0]) (by simp [results, Try.results76, go_sem, r0, r1]) rfl ⟨?_, (hbel.setCell (by simp) _).setCell (by simp) _⟩
        rw [hr.out, heq.out, List.drop_length]; rfl
end Go.Proofs.Ytefdblaolmckmaa
