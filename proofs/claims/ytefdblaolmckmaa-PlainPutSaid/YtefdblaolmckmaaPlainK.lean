/- The walks of cmp.Compare and slices.BinarySearchFunc at rows. -/
import Derived.Test.YtefdblaolmckmaaInsR
namespace Go.Proofs.Ytefdblaolmckmaa
open Go.RowKit
open Brood
set_option linter.unusedVariables false
set_option linter.unusedSimpArgs false

theorem insert_any (rows : List BRow) (r : BRow) (k : Nat) (hk : k ≤ rows.length) (hlen : rows.length ≤ 1000000) (v : Value) (base vb : Nat) (w : World) (hb : base ≤ w.heap.size) (hne : v.ownBlock ≠ some vb)
    (hown : w.ownsRow base 82 11 v rows.length (rows.flatMap rowCells)) (hv : Blk w vb 82 (rowCells r).toArray) :
    Calls Try.prog 71 #[v, .int .i64 (k : Int), .slice (some ⟨vb, 0, none⟩) 1 1] w fun e w' => ∃ v', e = .returned v' ∧ w'.ownsRow base 82 11 v' (rows.length + 1) ((insRow rows k r).flatMap rowCells) ∧ w.grownBy w' v.ownBlock ∧ ∀ q, v'.ownBlock = some q → v.ownBlock = some q ∨ w.heap.size ≤ q := by
  rw [insRow_cells]
  exact insR_any rows.length _ _ (rows_one rows) (rowCells_one r) (rowCells_length r) k hk (by omega) v base vb w hb hne hown hv

def cmpI (a b : Int) : Int := if a < b then -1 else if b < a then 1 else 0
def posOf (x : Int) : List BRow → Nat
  | [] => 0
  | r :: l => if r.idx < x then posOf x l + 1 else 0
theorem posOf_le (x : Int) : ∀ rows : List BRow, posOf x rows ≤ rows.length
  | [] => Nat.le_refl _
  | r :: l => by
    have := posOf_le x l
    rw [posOf, List.length_cons]
    split <;> omega
theorem posOf_eq {x : Int} : ∀ {rows : List BRow} {i : Nat}, i ≤ rows.length → (∀ t (ht : t < rows.length), t < i → rows[t].idx < x) → (∀ t (ht : t < rows.length), i ≤ t → ¬ rows[t].idx < x) → posOf x rows = i
  | [], i, h, _, _ => by simp at h; subst h; rfl
  | r :: l, 0, _, _, h2 => by
    have := h2 0 (by simp) (Nat.le_refl _)
    rw [posOf, if_neg (by simpa using this)]
  | r :: l, i + 1, h, h1, h2 => by
    have h0 := h1 0 (by simp) (by omega)
    rw [posOf, if_pos (by simpa using h0), posOf_eq (i := i) (by simpa using h) (fun t ht hti => h1 (t + 1) (by simp; omega) (by omega)) (fun t ht hti => h2 (t + 1) (by simp; omega) (by omega))]
/-- Rows rise by number. -/
def Rise (rows : List BRow) : Prop := ∀ i j (hi : i < rows.length) (hj : j < rows.length), i < j → rows[i].idx < rows[j].idx

set_option maxRecDepth 20000 in
set_option maxHeartbeats 1600000 in
theorem cmp_any (a b : Int) (w : World) : Calls Try.prog 70 #[.int .i64 a, .int .i64 b] w fun e w' => e = .returned (.int .i64 (cmpI a b)) ∧ w' = w := by
  by_cases h1 : a < b
  · have hr : Hid (cmpI a b = -1) := Lib.hid (by simp [cmpI, h1])
    go_enter Try.func70, Try.ntmps70
    go_wp2
    go_ret
    exact ⟨ret_int hr.out.symm, rfl⟩
  · by_cases h2 : b < a
    · have hr : Hid (cmpI a b = 1) := Lib.hid (by simp [cmpI, h1, h2])
      go_enter Try.func70, Try.ntmps70
      go_wp2
      go_ret
      exact ⟨ret_int hr.out.symm, rfl⟩
    · have hr : Hid (cmpI a b = 0) := Lib.hid (by simp [cmpI, h1, h2])
      go_enter Try.func70, Try.ntmps70
      go_wp2
      go_ret
      exact ⟨ret_int hr.out.symm, rfl⟩

set_option maxRecDepth 20000 in
set_option maxHeartbeats 1600000 in
theorem cmpRow_any (r : BRow) (x : Int) (w : World) : Calls Try.prog 69 #[rowV r, .int .i64 x] w fun e w' => e = .returned (.int .i64 (cmpI r.idx x)) ∧ Below w.heap.size w w' := by
  obtain ⟨idx, gen, has, vals, h8⟩ := r
  obtain ⟨a0, a1, a2, a3, a4, a5, a6, a7, rfl⟩ := vals_eight h8
  have hrv : rowV ⟨idx, gen, has, [a0, a1, a2, a3, a4, a5, a6, a7], h8⟩ = .agg #[.int .i64 idx, .int .i64 gen, .int .i64 has, .int .i64 a0, .int .i64 a1, .int .i64 a2, .int .i64 a3, .int .i64 a4, .int .i64 a5, .int .i64 a6, .int .i64 a7] := rfl
  rw [hrv]
  go_enter Try.func69, Try.ntmps69
  go_wp2_with fail
  refine (cmp_any idx x _).mono ?_
  rintro e w' ⟨rfl, rfl⟩
  go_wp2_with fail
  go_ret
  exact ⟨rfl, (Below.refl _ _).alloc (Nat.le_refl _) _⟩

set_option maxRecDepth 20000 in
set_option maxHeartbeats 6400000 in
theorem search_any (rows : List BRow) (A : Option Addr) (c : Nat) (x : Int) (hlen : rows.length ≤ 1000000) (hrise : Rise rows) (w : World) (hR : RdR w w.heap.size A rows) :
    Calls Try.prog 68 #[.slice A rows.length c, .int .i64 x, .func (.func 69) #[] #[]] w fun e w' => ∃ fb, e = .returned (.tuple #[.int .i64 (posOf x rows : Nat), .bool fb]) ∧ Below w.heap.size w w' := by
  have hri := Lib.hid hrise
  clear hrise
  go_enter Try.func68, Try.ntmps68
  go_wp2_with fail
  go_loopw [9, 10] (fun s9 s10 wr => ∃ lo hi : Nat, s9 = .int .i64 lo ∧ s10 = .int .i64 hi ∧ lo ≤ hi ∧ hi ≤ rows.length ∧ Below w.heap.size w wr ∧
    Hid ((∀ t (ht : t < rows.length), t < lo → rows[t].idx < x) ∧ (∀ t (ht : t < rows.length), hi ≤ t → x ≤ rows[t].idx))) (fun s9 s10 _ => (intOf s10).toNat - (intOf s9).toNat)
  case atStart => exact ⟨0, rows.length, rfl, rfl, Nat.zero_le _, Nat.le_refl _, Below.refl _ _, Lib.hid ⟨fun t _ ht => absurd ht (Nat.not_lt_zero _), fun t h1 h2 => by omega⟩⟩
  case round =>
    obtain ⟨lo, hi, rfl, rfl, hlh, hin, hbel, hinv⟩ := hrel
    have hR1 : RdR wr w.heap.size A rows := Rd.under hR hbel (Nat.le_refl _)
    by_cases hlt : lo < hi
    · have hm : (lo + hi) / 2 < rows.length := by omega
      obtain ⟨b1, off, rfl, hb1, hrow⟩ := hR1.at_ hm
      have hcall := cmpRow_any rows[(lo + hi) / 2] x wr
      have hyes : Hid (rows[(lo + hi) / 2].idx < x → ((∀ t (ht : t < rows.length), t < (lo + hi) / 2 + 1 → rows[t].idx < x) ∧ (∀ t (ht : t < rows.length), hi ≤ t → x ≤ rows[t].idx))) := Lib.hid (fun h => ⟨fun t ht htm => by
        rcases Nat.lt_or_ge t ((lo + hi) / 2) with h' | h'
        · exact Int.lt_trans (hri.out t _ ht hm h') h
        · obtain rfl : t = (lo + hi) / 2 := by omega
          exact h, hinv.out.2⟩)
      have hno : Hid (x ≤ rows[(lo + hi) / 2].idx → ((∀ t (ht : t < rows.length), t < lo → rows[t].idx < x) ∧ (∀ t (ht : t < rows.length), (lo + hi) / 2 ≤ t → x ≤ rows[t].idx))) := Lib.hid (fun h => ⟨hinv.out.1, fun t ht htm => by
        rcases Nat.lt_or_ge ((lo + hi) / 2) t with h' | h'
        · have := hri.out _ t hm ht h'
          omega
        · obtain rfl : t = (lo + hi) / 2 := by omega
          exact h⟩)
      have hgap1 : (hi : Nat) - ((lo + hi) / 2 + 1) < hi - lo := by omega
      have hgap2 : ((lo + hi) / 2) - lo < hi - lo := by omega
      generalize rows[(lo + hi) / 2] = r at *
      have i0 : (0 : Int) ≤ ((lo : Int) + (hi : Int)) / 2 := by omega
      have i1 : ((lo : Int) + (hi : Int)) / 2 < (rows.length : Int) := by omega
      obtain ⟨c0, c1, c2⟩ := hrow.head
      obtain ⟨C, hC⟩ : ∃ C, C = cmpI r.idx x := ⟨_, rfl⟩
      rw [← hC] at hcall
      have hCh : Hid (C < 0 ↔ r.idx < x) := Lib.hid (by rw [hC]; unfold cmpI; split <;> (try split) <;> simp <;> omega)
      clear hC
      obtain ⟨idx, gen, has, vals, h8⟩ := r
      obtain ⟨a0, a1, a2, a3, a4, a5, a6, a7, rfl⟩ := vals_eight h8
      have v0 := hrow 3 (.int .i64 a0) rfl; have v1 := hrow 4 (.int .i64 a1) rfl; have v2 := hrow 5 (.int .i64 a2) rfl; have v3 := hrow 6 (.int .i64 a3) rfl; have v4 := hrow 7 (.int .i64 a4) rfl; have v5 := hrow 8 (.int .i64 a5) rfl; have v6 := hrow 9 (.int .i64 a6) rfl; have v7 := hrow 10 (.int .i64 a7) rfl
      simp only at c0 c1 c2
      have hrv : rowV ⟨idx, gen, has, [a0, a1, a2, a3, a4, a5, a6, a7], h8⟩ = .agg #[.int .i64 idx, .int .i64 gen, .int .i64 has, .int .i64 a0, .int .i64 a1, .int .i64 a2, .int .i64 a3, .int .i64 a4, .int .i64 a5, .int .i64 a6, .int .i64 a7] := rfl
      rw [hrv] at hcall
      have hcallh := Lib.hid hcall
      clear hcall hrv hrow
      go_wp2_with fail
      refine hcallh.out.mono ?_
      rintro e w1 ⟨rfl, hb2⟩
      by_cases hlt2 : idx < x
      · have hCn : C < 0 := hCh.out.2 hlt2
        have hinv2 := Lib.hid (hyes.out hlt2)
        clear hyes hno hinv hcallh
        go_wp2_with fail
        go_roundw
        case rel => exact ⟨(lo + hi) / 2 + 1, hi, by go_num, rfl, by omega, hin, grow_below hbel hb2, hinv2⟩
        case measure => simp [intOf]; omega
      · have hCn : ¬ C < 0 := fun h => hlt2 (hCh.out.1 h)
        have hinv2 := Lib.hid (hno.out (by omega))
        clear hyes hno hinv hcallh
        go_wp2_with fail
        go_roundw
        case rel => exact ⟨lo, (lo + hi) / 2, rfl, by go_num, by omega, by omega, grow_below hbel hb2, hinv2⟩
        case measure => simp [intOf]; omega
    · obtain rfl : hi = lo := by omega
      have hpos : Hid (posOf x rows = hi) := Lib.hid (posOf_eq hin (fun t ht h => hinv.out.1 t ht h) (fun t ht h => by have := hinv.out.2 t ht h; omega))
      clear hinv hri
      by_cases hn : hi < rows.length
      · obtain ⟨b1, off, rfl, hb1, hrow⟩ := hR1.at_ hn
        have hcall := cmpRow_any rows[hi] x wr
        generalize rows[hi] = r at *
        have i0 : (0 : Int) ≤ (hi : Int) := by omega
        have i1 : (hi : Int) < (rows.length : Int) := by omega
        obtain ⟨c0, c1, c2⟩ := hrow.head
        generalize cmpI r.idx x = C at hcall
        obtain ⟨idx, gen, has, vals, h8⟩ := r
        obtain ⟨a0, a1, a2, a3, a4, a5, a6, a7, rfl⟩ := vals_eight h8
        have v0 := hrow 3 (.int .i64 a0) rfl; have v1 := hrow 4 (.int .i64 a1) rfl; have v2 := hrow 5 (.int .i64 a2) rfl; have v3 := hrow 6 (.int .i64 a3) rfl; have v4 := hrow 7 (.int .i64 a4) rfl; have v5 := hrow 8 (.int .i64 a5) rfl; have v6 := hrow 9 (.int .i64 a6) rfl; have v7 := hrow 10 (.int .i64 a7) rfl
        simp only at c0 c1 c2
        have hrv : rowV ⟨idx, gen, has, [a0, a1, a2, a3, a4, a5, a6, a7], h8⟩ = .agg #[.int .i64 idx, .int .i64 gen, .int .i64 has, .int .i64 a0, .int .i64 a1, .int .i64 a2, .int .i64 a3, .int .i64 a4, .int .i64 a5, .int .i64 a6, .int .i64 a7] := rfl
        rw [hrv] at hcall
        have hcallh := Lib.hid hcall
        clear hcall hrv hrow
        go_wp2_with fail
        refine hcallh.out.mono ?_
        rintro e w1 ⟨rfl, hb2⟩
        go_wp2_with fail
        refine bodyPost_ret (v := .tuple #[.int .i64 (hi : Int), .bool (C == 0)]) (by simp [results, Try.results68, go_sem]) rfl ⟨C == 0, by rw [hpos.out], grow_below hbel hb2⟩
      · go_wp2_with fail
        refine bodyPost_ret (v := .tuple #[.int .i64 (hi : Int), .bool false]) (by simp [results, Try.results68, go_sem]) rfl ⟨false, by rw [hpos.out], hbel⟩
end Go.Proofs.Ytefdblaolmckmaa
