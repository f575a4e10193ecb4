/- BatchTells: the program's batches are the document's. -/
import Derived.Test.YtefdblaolmckmaaRefBat
import Derived.Test.YtefdblaolmckmaaSame
namespace Go.Proofs.Ytefdblaolmckmaa
open Go.RowKit
open Brood
set_option linter.unusedVariables false
set_option linter.unusedSimpArgs false

theorem rowsI_flat (rows : List (List Nat)) : (rowsI rows).flatten = natsI rows.flatten := by
  simp only [rowsI, natsI, List.map_flatten]
  rfl
theorem makeV_bound (ss : List BSys) : (makeV ss).1.length ≤ 12 ∧ (makeV ss).1.flatten.length ≤ 12 := by
  unfold makeV
  split
  · simp
  · rename_i h
    have h0 : (batchWrong ss).1 = 0 := by simpa using h
    have hlen : ss.length ≤ 12 := by
      rcases Nat.lt_or_ge 12 ss.length with h' | h'
      · have : batchWrong ss = (4, 0) := by simp [batchWrong, h']
        rw [this] at h0; cases h0
      · exact h'
    have hl := lev_rows ss
    have h1 := hl.perm.length_eq
    rw [List.length_range] at h1
    have h2 := rows_le_flat _ hl.ne
    simp only
    omega
theorem row_le_flat {rows : List (List Int)} {r : List Int} (h : r ∈ rows) : r.length ≤ rows.flatten.length := by
  induction rows with
  | nil => cases h
  | cons x rows ih =>
    rw [List.flatten_cons, List.length_append]
    rcases List.mem_cons.1 h with rfl | h
    · omega
    · have := ih h; omega
theorem RdLL.one {w : World} {B : Nat} {A' : Option Addr} {c' : Nat} {zs : List Int} (hn : A' = none → c' = 0) (hc : zs.length ≤ c') (h : Rd w B 1 A' zs.length (ints zs)) (hB : B ≤ w.heap.size) :
    RdLL (w.alloc (.cells #[.slice A' zs.length c'] 32)) (w.heap.size + 1) (some ⟨w.heap.size, 0, none⟩) [.slice A' zs.length c'] [zs] := by
  refine ⟨rfl, ?_, ?_⟩
  · refine ⟨rfl, fun _ => ⟨w.heap.size, 0, rfl, by omega, fun j u hu => ?_⟩⟩
    rw [Nat.zero_add, (Blk.new w 32 #[.slice A' zs.length c']).cell j]
    simpa using hu
  · intro k u r h1 h2
    have hk : k = 0 := by
      rcases Nat.eq_zero_or_pos k with e | e
      · exact e
      · rw [List.getElem?_eq_none (by simp; omega)] at h1; cases h1
    subst hk
    simp at h1 h2
    subst h1 h2
    exact ⟨A', c', rfl, hn, hc, (Rd.alloc h hB _).more (by omega)⟩
theorem RdLL.more {w : World} {B B' : Nat} {A : Option Addr} {us : List Value} {rows : List (List Int)} (h : RdLL w B A us rows) (hB : B ≤ B') : RdLL w B' A us rows :=
  ⟨h.len, h.out.more hB, fun k u r h1 h2 => by obtain ⟨A', c', e, h3, h3', h4⟩ := h.row k u r h1 h2; exact ⟨A', c', e, h3, h3', h4.more hB⟩⟩
theorem own_rd {w : World} {base : Nat} {v : Value} {zs : List Int} (h : w.ownsRow base 3 1 v zs.length (ints zs)) : ∃ A c, v = .slice A zs.length c ∧ (A = none → c = 0) ∧ zs.length ≤ c ∧ Rd w w.heap.size 1 A zs.length (ints zs) := by
  obtain ⟨A', c', rfl, h4, _⟩ := own_shape h
  refine ⟨A', c', rfl, fun hn => ?_, h4, Rd.of_own h⟩
  subst hn
  rcases h.2 with ⟨e, _⟩ | ⟨g, cap, cur, e, _⟩
  · injection e
  · cases e

set_option maxRecDepth 20000 in
set_option maxHeartbeats 12800000 in
theorem batchTells_any (l : List SysIn) (A : Option Addr) (c : Nat) (w : World) (hA : RdS w w.heap.size A l) :
    Calls Try.prog 9 #[.slice A l.length c] w fun e w' => e = .returned (.bool true) ∧ Below w.heap.size w w' := by
  obtain ⟨i0', hi0, hz0a, hz0b, hz0c⟩ := info_parts infoInt
  have hbd := makeV_bound (sysOf l)
  have hmk := make_any l A c w hA
  have hbt := Lib.hid (fun W (hW : RdS W W.heap.size A l) => batches_any l A c W hW)
  have hmk := Lib.hid hmk
  generalize makeV (sysOf l) = M at *
  obtain ⟨rows, f1, f2⟩ := M
  simp only at hbd
  have hfl : (rowsI rows).flatten.length ≤ 12 := by rw [rowsI_flat, natsI_length]; exact hbd.2
  have hrl : (rowsI rows).length ≤ 12 := by rw [rowsI_length]; exact hbd.1
  have hrw : ∀ r ∈ rowsI rows, r.length ≤ 1000 := fun r hr => by have := row_le_flat hr; omega
  generalize rowsI rows = R at *
  go_enter Try.func9, Try.ntmps9
  go_wp2_with fail
  refine hmk.out.mono ?_
  rintro e w1 ⟨v1, us1, rfl, hown1, hb1⟩
  clear hmk
  simp only at hown1 ⊢
  obtain ⟨A1, c1, rfl, hc1, _⟩ := hown1.shape
  have hA1 : RdS w1 w1.heap.size A l := (hA.under hb1 (Nat.le_refl _)).more hb1.size
  have hA2 := (hA1.alloc (Nat.le_refl _) (.cells #[.int .i64 f1, .int .i64 f2] 43)).more (show w1.heap.size ≤ (w1.alloc (.cells #[.int .i64 f1, .int .i64 f2] 43)).heap.size by simp)
  have O1 := hown1.alloc (.cells #[.int .i64 f1, .int .i64 f2] 43)
  have HF := Blk.new w1 43 #[.int .i64 f1, .int .i64 f2]
  have hbel1 := hb1.alloc hb1.size (.cells #[.int .i64 f1, .int .i64 f2] 43)
  clear hown1 hb1 hA hA1
  go_wp2_with fail
  refine (hbt.out _ hA2).mono ?_
  rintro e w2 ⟨v2, us2, rfl, hown2, hb2⟩
  clear hbt
  simp only at hown2 ⊢
  obtain ⟨A2, c2, rfl, hc2, _⟩ := hown2.shape
  have O2 := (O1.below hb2).alloc (.cells #[.int .i64 f1, .int .i64 f2] 43)
  have P2 := hown2.alloc (.cells #[.int .i64 f1, .int .i64 f2] 43)
  have HF2 := (HF.below hb2 HF.lt).alloc (.cells #[.int .i64 f1, .int .i64 f2] 43)
  have HG2 := Blk.new w2 43 #[.int .i64 f1, .int .i64 f2]
  have hA3 : RdS w2 w2.heap.size A l := (hA2.under hb2 (Nat.le_refl _)).more hb2.size
  have hA4 := (hA3.alloc (Nat.le_refl _) (.cells #[.int .i64 f1, .int .i64 f2] 43)).more (show w2.heap.size ≤ (w2.alloc (.cells #[.int .i64 f1, .int .i64 f2] 43)).heap.size by simp)
  have hbel2 := (grow_below hbel1 hb2).alloc (Nat.le_trans hbel1.size hb2.size) (.cells #[.int .i64 f1, .int .i64 f2] 43)
  have hk := HF.below hb2 HF.lt
  have x0 := hk.cell 0; have x1 := hk.cell 1
  have hk2 := hk.lt
  simp at x0 x1
  clear hown2 HF hb2 hA2 hA3 O1 hbel1 hk
  go_wp2_with fail
  refine (bwrong_any l A c _ hA4).mono ?_
  rintro e w3 ⟨rfl, hb3⟩
  have hA5 : RdS w3 w3.heap.size A l := (hA4.under hb3 (Nat.le_refl _)).more hb3.size
  go_wp2_with fail
  refine (rwrongs_any l A c _ hA5).mono ?_
  rintro e w4 ⟨rfl, hb4⟩
  have hb34 := grow_below hb3 hb4
  have O4 := O2.below hb34
  have P4 := P2.below hb34
  have hbel4 := grow_below hbel2 hb34
  clear hA4 hA5 hb3 hb4 O2 P2 HF2 HG2 hbel2 x0 x1 hb34
  go_wp2_with fail
  have L4 := RdLL.of_own O4
  have M4 := RdLL.of_own P4
  refine (same_any A1 A2 c1 c2 us1 us2 R (by omega) hrw w4 L4 M4).mono ?_
  rintro e w5 ⟨rfl, hb5⟩
  have M5 : RdLL w5 w5.heap.size A2 us2 R := (M4.under hb5 (Nat.le_refl _)).more hb5.size
  have hbel5 := grow_below hbel4 hb5
  clear O4 P4 L4 M4 hb5 hbel4
  go_wp2_with fail
  obtain ⟨wz, rfl⟩ : ∃ wz : World, wz = w5 := ⟨_, rfl⟩
  go_loopw [7, 38] (fun v i wr => ∃ k : Nat, k ≤ R.length ∧ i = .int .i64 k ∧ wr.ownsRow wz.heap.size 3 1 v (flatN R k) (ints (R.take k).flatten) ∧ Below wz.heap.size wz wr) (fun _ i _ => R.length - (intOf i).toNat)
  case atStart => exact ⟨0, by omega, rfl, own_nil _ _ _ _, Below.refl _ _⟩
  case round =>
    obtain ⟨k, hk, rfl, hown, hbel⟩ := hrel
    by_cases hlt : k < R.length
    · have hA2 := M5.under hbel (Nat.le_refl _)
      obtain ⟨b, off, A', c', rfl, hb, hc, hcn, hc', hr⟩ := hA2.at_ hlt
      have htf := flatN_succ hlt
      have hle1 := flatN_le R (k + 1)
      have hti := take_flat hlt
      have hsz := hbel.size
      have i0 : (0 : Int) ≤ (k : Int) := by omega
      have i1 : (k : Int) < (R.length : Int) := by omega
      by_cases h0 : 0 < R[k].length
      · obtain ⟨b2, off2, rfl, hb2, hc2⟩ := hr.2 h0
        generalize hrk : R[k] = r at *
        go_wp2_with (at_builtin; refine wpList_append_own _ rfl _ _ 32 rfl wz.heap.size 3 i0' (.int .i64 0) 1 8 Try.underlying32 hi0 hz0a hz0b hz0c rfl (by decide) _ _ _ rfl hown ⟨b2, off2, none⟩ r.length c' (ints r) rfl ?c0 ?c1 ?c2 ?c3 ?c4 ?c5 ?_; rotate_left 6; intro v' w1 hown' hgrow _)
        case c0 => simp [ints]
        case c1 => intro j u hu; rw [add_mk]; exact hc2 j u hu
        case c2 => exact ints_one _
        case c3 => unfold maxLen; omega
        case c4 => omega
        case c5 => exact hsz
        go_roundw
        case rel => exact ⟨k + 1, by omega, by go_num, by rw [htf, hti, ints_append]; exact hown', hbel.grown hgrow hsz (own_block hown)⟩
        case measure => simp [intOf]; omega
      · have hr0 : R[k] = [] := List.eq_nil_of_length_eq_zero (by omega)
        rw [hr0] at hc hc' htf hti
        rw [List.append_nil] at hti
        cases A' with
        | none =>
          obtain rfl := hcn rfl
          go_wp2_with (at_builtin; refine wpList_append_own_none rfl _ _ 32 rfl wz.heap.size 3 i0' 1 Try.underlying32 hi0 _ _ _ rfl hown rfl ?_)
          go_roundw
          case rel => exact ⟨k + 1, by omega, by go_num, by rw [htf, hti]; exact hown, hbel⟩
          case measure => simp [intOf]; omega
        | some ad =>
          go_wp2_with (at_builtin; refine wpList_append_own _ rfl _ _ 32 rfl wz.heap.size 3 i0' (.int .i64 0) 1 8 Try.underlying32 hi0 hz0a hz0b hz0c rfl (by decide) _ _ _ rfl hown ad 0 c' [] rfl ?c0 ?c1 ?c2 ?c3 ?c4 ?c5 ?_; rotate_left 6; intro v' w1 hown' hgrow _)
          case c0 => rfl
          case c1 => intro j u hu; simp at hu
          case c2 => intro u hu; simp at hu
          case c3 => unfold maxLen; omega
          case c4 => omega
          case c5 => exact hsz
          go_roundw
          case rel => exact ⟨k + 1, by omega, by go_num, by rw [htf, hti]; rw [List.append_nil] at hown'; exact hown', hbel.grown hgrow hsz (own_block hown)⟩
          case measure => simp [intOf]; omega
    · obtain rfl : k = R.length := by omega
      rw [flatN_all, List.take_length] at hown
      have M6 : RdLL wr wr.heap.size A2 us2 R := (M5.under hbel (Nat.le_refl _)).more hbel.size
      have hord := Lib.hid (order_any A2 c2 us2 R (by omega) (by omega) wr M6)
      generalize R.flatten = F at hord hown hfl
      obtain ⟨A7, c7, rfl, hn7, hc7, hr7⟩ := own_rd hown
      have hbel6 := grow_below hbel5 hbel
      clear M5 hown
      go_wp2_with fail
      refine hord.out.mono ?_
      rintro e w7 ⟨v7, rfl, hown7, hb7⟩
      obtain ⟨A8, c8, rfl, hn8, hc8, hr8⟩ := own_rd hown7
      have hr7' : Rd w7 w7.heap.size 1 A7 _ _ := (hr7.under hb7 (Nat.le_refl _)).more hb7.size
      have hbel7 := grow_below hbel6 hb7
      have Q1 := RdLL.one hn8 hc8 hr8 (Nat.le_refl _)
      have Q2 := RdLL.one (w := w7.alloc (.cells #[.slice A8 F.length c8] 32)) hn7 hc7 ((hr7'.alloc (Nat.le_refl _) _).more (by simp)) (Nat.le_refl _)
      have Q1' := (Q1.under (C := (w7.alloc (.cells #[.slice A8 F.length c8] 32)).heap.size) ((Below.refl _ _).alloc (Nat.le_refl _) (.cells #[.slice A7 F.length c7] 32)) (by simp)).more (B' := w7.heap.size + 1 + 1) (by omega)
      simp only [World.size_alloc] at Q2
      have hbel8 := (hbel7.alloc hbel7.size (.cells #[.slice A8 F.length c8] 32)).alloc (Nat.le_trans hbel7.size (by simp)) (.cells #[.slice A7 F.length c7] 32)
      clear hord Q1 hown7 hr7 hr8 hr7' hb7 M6 hbel6 hbel7
      go_wp2_with fail
      have hsm := same_any _ _ 1 1 _ _ [F] (by simp) (fun r hr => by rw [List.mem_singleton.1 hr]; omega) ((w7.alloc (.cells #[.slice A8 F.length c8] 32)).alloc (.cells #[.slice A7 F.length c7] 32)) (by simpa only [World.size_alloc] using Q1') (by simpa only [World.size_alloc] using Q2)
      refine hsm.mono ?_
      rintro e w8 ⟨rfl, hb8⟩
      go_wp2_with fail
      go_ret
      exact ⟨rfl, grow_below hbel8 hb8⟩
end Go.Proofs.Ytefdblaolmckmaa
