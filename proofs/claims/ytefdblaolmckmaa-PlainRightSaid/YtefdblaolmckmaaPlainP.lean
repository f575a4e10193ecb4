/- The walk of slices.DeleteFunc at rows. -/
import Derived.Test.YtefdblaolmckmaaPlainO
namespace Go.Proofs.Ytefdblaolmckmaa
open Go.RowKit
open Brood
set_option linter.unusedVariables false
set_option linter.unusedSimpArgs false

/-- clear of a slice of elements of any size. -/
theorem run_clear_sz {P : Program} (w : World) (t e ty : TypeId) (z : Value) (sz : Nat) (b o n c : Nat) (ht : P.underlying t = some (.slice e)) (hv : ∀ w, (zeroValue e).run P w = .ok z w) (hz : z.cells.size = sz) (h1 : ∀ u ∈ (Builtin.zeroCells z.cells n).toList, u.oneCell' = true) (hn : 0 < n)
    (hc : ∀ j, j < n * sz → (w.cell? ⟨b, o + j, none⟩).isSome = true) (hf : ∀ j, j < n * sz → w.frozen? ⟨b, o + j, none⟩ = false) :
    (Builtin.clear_ #[t] ty #[.slice (some ⟨b, o, none⟩) n c]).run P w = .ok (.tuple #[]) (w.setCells b o (Builtin.zeroCells z.cells n).toList) := by
  have hl : (Builtin.zeroCells z.cells n).toList.length = n * sz := by rw [Array.length_toList, size_zeroCells, hz]
  have hst := run_storeCells_cells (P := P) b o (Builtin.zeroCells z.cells n).toList 0 w (by rw [hl]; simpa using hc) (by rw [hl]; simpa using hf) h1
  simp only [Nat.add_zero] at hst
  obtain ⟨m, rfl⟩ : ∃ m, n = m + 1 := ⟨n - 1, by omega⟩
  simp [Builtin.clear_, run_underlying ht, hv, hst]
theorem zeroRow (w : World) : (zeroValue 82).run Try.prog w = .ok (.agg #[.int .i64 0, .int .i64 0, .int .i64 0, .int .i64 0, .int .i64 0, .int .i64 0, .int .i64 0, .int .i64 0, .int .i64 0, .int .i64 0, .int .i64 0]) w := by kernel_rfl
theorem zeroCells_one {z : Array Value} {n : Nat} (h : ∀ u ∈ z.toList, u.oneCell' = true) : ∀ u ∈ (Builtin.zeroCells z n).toList, u.oneCell' = true := by
  intro u hu
  obtain ⟨i, hi⟩ := List.getElem?_of_mem hu
  rw [Array.getElem?_toList] at hi
  obtain ⟨hlt, he⟩ := Array.getElem?_eq_some_iff.1 hi
  rw [size_zeroCells] at hlt
  have hz : 0 < z.size := by
    rcases Nat.eq_zero_or_pos z.size with h0 | h0
    · rw [h0] at hlt; omega
    · exact h0
  simp only [Builtin.zeroCells] at he
  simp at he
  rw [← he]
  refine h _ ?_
  rw [Array.mem_toList_iff, getElem!_pos z _ (Nat.mod_lt _ hz)]
  exact Array.getElem_mem _
def keepR (p : BRow → Bool) (rows : List BRow) : List BRow := rows.filter fun r => !p r
theorem keepR_take {p : BRow → Bool} {rows : List BRow} {j : Nat} (hj : j < rows.length) : keepR p (rows.take (j + 1)) = keepR p (rows.take j) ++ (if p rows[j] then [] else [rows[j]]) := by
  rw [List.take_add_one, List.getElem?_eq_getElem hj, Option.toList_some]
  unfold keepR
  rw [List.filter_append]
  congr 1
  cases h : p rows[j] <;> simp [List.filter_cons, h]
theorem keepR_all {p : BRow → Bool} {rows : List BRow} (h : ∀ r ∈ rows, p r = false) : keepR p rows = rows := by
  unfold keepR
  rw [List.filter_eq_self]
  intro r hr
  rw [h r hr]; rfl
/-- What DeleteFunc's row holds on the way. -/
structure DelSt (p : BRow → Bool) (rows cur : List BRow) (i j : Nat) : Prop where
  len : cur.length = rows.length
  lt : i < j
  le : j ≤ rows.length
  head : cur.take i = keepR p (rows.take j)
  tail : cur.drop j = rows.drop j
section
variable {p : BRow → Bool} {rows cur : List BRow} {i j : Nat}
theorem DelSt.at_ (h : DelSt p rows cur i j) (hj : j < rows.length) : cur[j]'(by rw [h.len]; exact hj) = rows[j] := by
  have := congrArg (fun l => l[0]?) h.tail
  simp only [List.getElem?_drop, Nat.add_zero] at this
  rw [List.getElem?_eq_getElem (by rw [h.len]; exact hj), List.getElem?_eq_getElem hj] at this
  exact Option.some.inj this
theorem DelSt.skip_ (h : DelSt p rows cur i j) (hj : j < rows.length) (hp : p rows[j] = true) : DelSt p rows cur i (j + 1) := by
  refine ⟨h.len, by have := h.lt; omega, by omega, ?_, ?_⟩
  · rw [keepR_take hj, if_pos hp, List.append_nil]; exact h.head
  · rw [← List.drop_drop, ← List.drop_drop, h.tail]
theorem DelSt.keep (h : DelSt p rows cur i j) (hj : j < rows.length) (hp : p rows[j] = false) : DelSt p rows (cur.set i rows[j]) (i + 1) (j + 1) := by
  have hil : i < cur.length := by rw [h.len]; have := h.lt; omega
  refine ⟨by rw [List.length_set]; exact h.len, by have := h.lt; omega, by omega, ?_, ?_⟩
  · rw [keepR_take hj, hp, List.take_add_one, List.getElem?_eq_getElem (by rw [List.length_set]; exact hil), Option.toList_some, List.getElem_set_self, List.take_set_of_le (Nat.le_refl i), h.head]
    simp
  · rw [List.drop_set_of_lt (by have := h.lt; omega), ← List.drop_drop, ← List.drop_drop, h.tail]
theorem DelSt.first {k : Nat} (hk : k < rows.length) (h1 : p rows[k] = true) (h2 : ∀ j (hj : j < k), p (rows[j]'(by omega)) = false) : DelSt p rows rows k (k + 1) := by
  refine ⟨rfl, by omega, by omega, ?_, rfl⟩
  rw [keepR_take hk, if_pos h1, List.append_nil, keepR_all]
  intro r hr
  obtain ⟨q, hq, rfl⟩ := List.getElem_of_mem hr
  rw [List.length_take] at hq
  rw [List.getElem_take]
  exact h2 q (by omega)
end

set_option maxRecDepth 20000 in
set_option maxHeartbeats 6400000 in
theorem delrows_any (rows : List BRow) (hlen : rows.length ≤ 1000000) (F : FuncId) (caps : Array Value) (p : BRow → Bool) (v : Value) (base : Nat) (w : World) (hown : w.ownsRow base 82 11 v rows.length (rows.flatMap rowCells))
    (hP : RowPred w v.ownBlock F caps p) (hen : ∀ (args : Array Value) (W : World), (callFunc F args).run Try.prog W = .ok (.enter F args) W) :
    Calls Try.prog 74 #[v, .func (.func F) #[] caps] w fun e w' => ∃ v', e = .returned v' ∧ w'.ownsRow base 82 11 v' (keepR p rows).length ((keepR p rows).flatMap rowCells) ∧ w.grownBy w' v.ownBlock ∧ ∀ q, v'.ownBlock = some q → v.ownBlock = some q ∨ w.heap.size ≤ q := by
  obtain ⟨A, c, rfl, hnc, hcm⟩ := own_shape hown
  have hcx : c ≤ 9223372036854775807 := by unfold maxLen at hcm; omega
  have hR : RdR w w.heap.size A rows := Rd.of_own hown
  have hix := Lib.hid (indexRows_any rows A c hlen F caps p w _ hR hP hen)
  go_enter Try.func74, Try.ntmps74
  go_wp2_with fail
  refine hix.out.mono ?_
  rintro e w1 ⟨rfl, hb1⟩
  have hPh := Lib.hid hP
  clear hix hP
  cases hf : findP p rows with
  | none =>
    have h1 : findPI p rows = -1 := by unfold findPI; rw [hf]
    have hk := Lib.hid (keepR_all (findP_none hf))
    rw [h1]
    have ho := own_below hown hb1
    have hg := grown_then (grown_refl w (Value.slice A rows.length c).ownBlock) hb1
    clear hf h1 hR hown
    go_wp2_with fail
    go_ret
    exact ⟨_, rfl, by rw [hk.out]; exact ho, hg, fun q hq => .inl hq⟩
  | some k =>
    obtain ⟨hk, hk1, hk2⟩ := findP_some hf
    have h1 : findPI p rows = (k : Int) := by unfold findPI; rw [hf]
    rw [h1]
    obtain ⟨g, rfl⟩ := own_some hown (by omega)
    have hS := DelSt.first hk hk1 hk2
    have ho := own_below hown hb1
    have hg := grown_then (grown_refl w (some g)) hb1
    have hglt := (hown.lt g rfl).2
    clear hf h1 hR hown hb1 hk1 hk2
    have hkn : ((k : Int) == -1) = false := by simp
    have hkm : ¬ ((k : Int) = -1) := by omega
    go_wp2_with fail
    go_loopw [5, 6] (fun s5 s6 wr => ∃ (i j : Nat) (cur : List BRow), s5 = .int .i64 i ∧ s6 = .int .i64 j ∧ Hid (DelSt p rows cur i j) ∧ w.grownBy wr (some g) ∧ wr.ownsRow base 82 11 (.slice (some ⟨g, 0, none⟩) rows.length c) rows.length (cur.flatMap rowCells)) (fun _ s6 _ => rows.length - (intOf s6).toNat)
    case atStart => exact ⟨k, k + 1, rows, rfl, by go_num, Lib.hid hS, hg, ho⟩
    case round =>
      clear hS hg ho hkn hkm
      obtain ⟨i, j, cur, rfl, rfl, hS, hg, ho⟩ := hrel
      have hgr : g < wr.heap.size := by have := hg.size; omega
      by_cases hj : j < rows.length
      · have hat := hS.out.at_ hj
        have hcl := hS.out.len
        have hij := hS.out.lt
        have hRc : RdR wr wr.heap.size (some ⟨g, 0, none⟩) cur := by unfold RdR; rw [hcl]; exact Rd.of_own ho
        obtain ⟨b1, off, he, hb1, hrow⟩ := hRc.at_ (k := j) (by omega)
        injection he with he
        injection he with he1 he2
        subst he1 he2
        rw [hat, Nat.zero_add] at hrow
        have hskip := Lib.hid (fun h => hS.out.skip_ hj h)
        have hkeep := Lib.hid (fun h => hS.out.keep hj h)
        obtain ⟨r, hr⟩ : ∃ r, r = rows[j] := ⟨_, rfl⟩
        rw [← hr] at hskip hkeep hrow
        clear hat hr
        obtain ⟨arr, hblk, hgb, hnc', _, hsz, htk⟩ := own_blk ho
        have i0 : (0 : Int) ≤ (j : Int) := by omega
        have i1 : (j : Int) < (rows.length : Int) := by omega
        have i2 : (0 : Int) ≤ (i : Int) := by omega
        have i3 : (i : Int) < (rows.length : Int) := by omega
        have hcall := hPh.out (wr.alloc (.cells (rowCells r).toArray 82)) r (grown_then hg ((Below.refl _ _).alloc (Nat.le_refl _) _))
        have htkh := Lib.hid htk
        have hpat := Lib.hid (flat_set (rows := cur) (k := i) (by omega) r (cur := arr) (m := rows.length * 11) (by rw [hcl]) htk (by omega))
        have hpsz := patch_size (rowCells r) arr (i * 11)
        clear hRc htk
        generalize p r = B at *
        obtain ⟨idx, gen, has, vals, h8⟩ := r
        obtain ⟨a0, a1, a2, a3, a4, a5, a6, a7, rfl⟩ := vals_eight h8
        obtain ⟨c0, c1, c2⟩ := hrow.head
        have v0 := hrow 3 (.int .i64 a0) rfl; have v1 := hrow 4 (.int .i64 a1) rfl; have v2 := hrow 5 (.int .i64 a2) rfl; have v3 := hrow 6 (.int .i64 a3) rfl; have v4 := hrow 7 (.int .i64 a4) rfl; have v5 := hrow 8 (.int .i64 a5) rfl; have v6 := hrow 9 (.int .i64 a6) rfl; have v7 := hrow 10 (.int .i64 a7) rfl
        simp only at c0 c1 c2
        have hrv : rowV ⟨idx, gen, has, [a0, a1, a2, a3, a4, a5, a6, a7], h8⟩ = .agg #[.int .i64 idx, .int .i64 gen, .int .i64 has, .int .i64 a0, .int .i64 a1, .int .i64 a2, .int .i64 a3, .int .i64 a4, .int .i64 a5, .int .i64 a6, .int .i64 a7] := rfl
        have hrw2 : (rowCells ⟨idx, gen, has, [a0, a1, a2, a3, a4, a5, a6, a7], h8⟩).toArray = #[.int .i64 idx, .int .i64 gen, .int .i64 has, .int .i64 a0, .int .i64 a1, .int .i64 a2, .int .i64 a3, .int .i64 a4, .int .i64 a5, .int .i64 a6, .int .i64 a7] := rfl
        rw [hrv, hrw2] at hcall
        have hcallh := Lib.hid hcall
        have hblkh := Lib.hid hblk
        clear hcall hrv hrw2 hrow hblk
        go_wp2_with fail
        refine hcallh.out.mono ?_
        rintro e w2 ⟨rfl, hb2⟩
        have hslt : (wr.alloc (.cells #[.int .i64 idx, .int .i64 gen, .int .i64 has, .int .i64 a0, .int .i64 a1, .int .i64 a2, .int .i64 a3, .int .i64 a4, .int .i64 a5, .int .i64 a6, .int .i64 a7] 82)).heap.size = wr.heap.size + 1 := by simp
        have hblk2 : Blk w2 g 82 arr := (hblkh.out.alloc _).below hb2 (by rw [hslt]; omega)
        have hbox2 : Blk w2 wr.heap.size 82 #[.int .i64 idx, .int .i64 gen, .int .i64 has, .int .i64 a0, .int .i64 a1, .int .i64 a2, .int .i64 a3, .int .i64 a4, .int .i64 a5, .int .i64 a6, .int .i64 a7] := (Blk.new wr _ _).below hb2 (by rw [hslt]; omega)
        have hg2 : w.grownBy w2 (some g) := grown_then (grown_then hg ((Below.refl _ _).alloc (Nat.le_refl _) _)) hb2
        clear hb2 hslt hg hcallh hblkh v0 v1 v2 v3 v4 v5 v6 v7 c0 c1 c2 ho
        cases B with
        | true =>
          have hS2 := Lib.hid (hskip.out rfl)
          have ho2 : w2.ownsRow base 82 11 (.slice (some ⟨g, 0, none⟩) rows.length c) rows.length (cur.flatMap rowCells) := own_of_blk hblk2 hgb hnc' hcm hsz htkh.out
          have ho3 := Lib.hid ho2
          clear ho2 hskip hkeep htkh hpat hblk2 hbox2
          go_wp2_with fail
          go_roundw
          case rel => exact ⟨i, j + 1, cur, rfl, by go_num, hS2, hg2, ho3.out⟩
          case measure => simp [intOf]; omega
        | false =>
          have hS2 := Lib.hid (hkeep.out rfl)
          have hfz : ∀ q, w2.frozen? ⟨g, q, none⟩ = false := hblk2.frozen
          have hcs : ∀ q, q < 11 → ∃ u, w2.cell? ⟨g, i * 11 + q, none⟩ = some u := fun q hq => ⟨_, (hblk2.cell (i * 11 + q)).trans (Array.getElem?_eq_getElem (by omega))⟩
          obtain ⟨u0, k0⟩ := hcs 0 (by omega); obtain ⟨u1, k1⟩ := hcs 1 (by omega); obtain ⟨u2, k2⟩ := hcs 2 (by omega); obtain ⟨u3, k3⟩ := hcs 3 (by omega); obtain ⟨u4, k4⟩ := hcs 4 (by omega); obtain ⟨u5, k5⟩ := hcs 5 (by omega); obtain ⟨u6, k6⟩ := hcs 6 (by omega); obtain ⟨u7, k7⟩ := hcs 7 (by omega); obtain ⟨u8, k8⟩ := hcs 8 (by omega); obtain ⟨u9, k9⟩ := hcs 9 (by omega); obtain ⟨u10, k10⟩ := hcs 10 (by omega)
          simp only [Nat.add_zero] at k0
          have z0 := hfz (i * 11); have z1 := hfz (i * 11 + 1); have z2 := hfz (i * 11 + 2); have z3 := hfz (i * 11 + 3); have z4 := hfz (i * 11 + 4); have z5 := hfz (i * 11 + 5); have z6 := hfz (i * 11 + 6); have z7 := hfz (i * 11 + 7); have z8 := hfz (i * 11 + 8); have z9 := hfz (i * 11 + 9); have z10 := hfz (i * 11 + 10)
          clear hcs hfz

          have c0 := hbox2.cell 0; have c1 := hbox2.cell 1; have c2 := hbox2.cell 2; have c3 := hbox2.cell 3; have c4 := hbox2.cell 4; have c5 := hbox2.cell 5; have c6 := hbox2.cell 6; have c7 := hbox2.cell 7; have c8 := hbox2.cell 8; have c9 := hbox2.cell 9; have c10 := hbox2.cell 10
          simp at c0 c1 c2 c3 c4 c5 c6 c7 c8 c9 c10
          have hB2 := Lib.hid (Blk.sets (rowCells ⟨idx, gen, has, [a0, a1, a2, a3, a4, a5, a6, a7], h8⟩) (i * 11) hblk2)
          have hG2 := Lib.hid (grown_sets g (rowCells ⟨idx, gen, has, [a0, a1, a2, a3, a4, a5, a6, a7], h8⟩) w2 (i * 11))
          have hw3 := Lib.hid (show w2.setCells g (i * 11) (rowCells ⟨idx, gen, has, [a0, a1, a2, a3, a4, a5, a6, a7], h8⟩) = ((((((((((w2.setCell ⟨g, i * 11, none⟩ (.int .i64 idx)).setCell ⟨g, i * 11 + 1, none⟩ (.int .i64 gen)).setCell ⟨g, i * 11 + 2, none⟩ (.int .i64 has)).setCell ⟨g, i * 11 + 3, none⟩ (.int .i64 a0)).setCell ⟨g, i * 11 + 4, none⟩ (.int .i64 a1)).setCell ⟨g, i * 11 + 5, none⟩ (.int .i64 a2)).setCell ⟨g, i * 11 + 6, none⟩ (.int .i64 a3)).setCell ⟨g, i * 11 + 7, none⟩ (.int .i64 a4)).setCell ⟨g, i * 11 + 8, none⟩ (.int .i64 a5)).setCell ⟨g, i * 11 + 9, none⟩ (.int .i64 a6)).setCell ⟨g, i * 11 + 10, none⟩ (.int .i64 a7) from rfl)
          clear hskip hkeep hblk2 hbox2
          go_wp2_with fail
          go_roundw
          case rel =>
            rw [← hw3.out]
            refine ⟨i + 1, j + 1, _, by go_num, by go_num, hS2, grown_grown hg2 hG2.out, ?_⟩
            exact own_of_blk hB2.out hgb hnc' hcm (by rw [patch_size]; exact hsz) hpat.out
          case measure => simp [intOf]; omega
      · obtain rfl : j = rows.length := by have := hS.out.le; omega
        have hin := hS.out.lt
        have hhead := hS.out.head
        rw [List.take_length] at hhead
        have hkl : (keepR p rows).length = i := by rw [← hhead, List.length_take, hS.out.len]; omega
        obtain ⟨arr, hblk, hgb, hnc', _, hsz, htk⟩ := own_blk ho
        have hzl : (Builtin.zeroCells (Value.agg #[.int .i64 0, .int .i64 0, .int .i64 0, .int .i64 0, .int .i64 0, .int .i64 0, .int .i64 0, .int .i64 0, .int .i64 0, .int .i64 0, .int .i64 0]).cells (rows.length - i)).toList.length = (rows.length - i) * 11 := by rw [Array.length_toList, size_zeroCells]; rfl
        have hcl := fun ty => run_clear_sz (P := Try.prog) wr 64 82 ty _ 11 g (i * 11) (rows.length - i) (c - i) Try.underlying64 zeroRow rfl (zeroCells_one (by decide)) (by omega)
          (fun q hq => by rw [hblk.cell, Array.getElem?_eq_getElem (by omega)]; rfl) (fun q _ => hblk.frozen _)
        generalize (Builtin.zeroCells (Value.agg #[.int .i64 0, .int .i64 0, .int .i64 0, .int .i64 0, .int .i64 0, .int .i64 0, .int .i64 0, .int .i64 0, .int .i64 0, .int .i64 0, .int .i64 0]).cells (rows.length - i)).toList = zs at hcl hzl
        have hB3 := Lib.hid (Blk.sets zs (i * 11) hblk)
        have hG3 := Lib.hid (grown_grown hg (grown_sets g zs wr (i * 11)))
        have htk2 : (patch arr (i * 11) zs).toList.take (i * 11) = (keepR p rows).flatMap rowCells := by
          rw [← hhead, rows_take, ← htk]
          apply List.ext_getElem?
          intro q
          rw [List.getElem?_take, List.getElem?_take, List.getElem?_take]
          split
          · rename_i hq
            rw [if_pos (by omega), Array.getElem?_toList, Array.getElem?_toList, patch_out _ _ _ _ (.inl hq)]
          · rfl
        have htk3 := Lib.hid htk2
        have b1 : ¬ (c = i) := by omega
        have b2 : (0 : Int) ≤ (i : Int) := by omega
        have b3 : (i : Int) ≤ (rows.length : Int) := by omega
        have b4 : (i : Int) ≤ (c : Int) := by omega
        have hclh := Lib.hid hcl
        have hszh := Lib.hid hsz
        have hklh := Lib.hid hkl
        clear htk2 htk hhead hblk hg ho hsz hzl hS hkl
        go_wp2_with (simp only [hcl])
        go_ret
        rw [hklh.out]
        exact ⟨_, rfl, own_of_blk hB3.out hgb (by omega) hcm (by rw [patch_size]; exact hszh.out) htk3.out, hG3.out, fun q hq => .inl hq⟩
end Go.Proofs.Ytefdblaolmckmaa
