/- Stores and worlds as values that can be read now; what the reference's functions answer, in these words. Which of four is done with a world. The walk of the reference's With. Eight bits with one said anew, and their number. -/
import Derived.Test.YtefdblaolmckmabSBRef2MToRunG
import Derived.Test.YtefdblaolmckmabSBSortTRToStoO
import Derived.Test.YtefdblaolmckmabSBSpecZAToRef3S
import Derived.Test.YtefdblaolmckmabSBRef2AToAppOp
import Derived.Test.YtefdblaolmckmabSRefSO
import Derived.Test.YtefdblaolmckmabSBRef2WToRefSX
import Derived.Test.YtefdblaolmckmabSBSpecSToSpecU
import Derived.Test.YtefdblaolmckmabSBSpecOToSpecR
import Derived.Test.YtefdblaolmckmabSBPlainAToHp
import Derived.Test.YtefdblaolmckmabSBSortTBToRefW
namespace Go.Proofs.Ytefdblaolmckmab
open Go.RowKit
open Brood
set_option linter.unusedVariables false
set_option linter.unusedSimpArgs false
theorem small_map {l l2 : List TabIn} {gens : List Int} (h : l2.map tabOf = l.map tabOf) (hs : StSmall l gens) : StSmall l2 gens := by
  have hl : l2.length = l.length := by simpa using congrArg List.length h
  refine ⟨by rw [hl]; exact hs.tabs, ?_, ?_, hs.gens⟩
  · intro t ht
    have h1 : tabOf t ∈ l.map tabOf := by rw [← h]; exact List.mem_map_of_mem ht
    obtain ⟨u, hu, e⟩ := List.mem_map.1 h1
    have hu2 := hs.tab u hu
    have e1 : u.bs = t.bs := congrArg BTab.bs e
    have e2 : u.cols.map ColIn.zs = t.cols.map ColIn.zs := congrArg BTab.cols e
    have e3 : u.cols.length = t.cols.length := by simpa using congrArg List.length e2
    refine ⟨by rw [← e1]; exact hu2.bs, by rw [← e3]; exact hu2.cols, ?_⟩
    intro c hc
    have h2 : c.zs ∈ u.cols.map ColIn.zs := by rw [e2]; exact List.mem_map_of_mem hc
    obtain ⟨d, hd, e4⟩ := List.mem_map.1 h2
    rw [← e4]
    exact hu2.zs d hd
  · have e : (l2.map fun t => t.bs.length) = (l.map fun t => t.bs.length) := by
      have := congrArg (List.map fun b : BTab => b.bs.length) h
      simpa [List.map_map, Function.comp_def, tabOf] using this
    rw [e]
    exact hs.sum
theorem small_nil : StSmall [] [] := ⟨by simp, fun t ht => (by cases ht), by simp, by simp⟩
def SeenT (w : World) (v : Value) (T : List BTab) (gens : List Int) : Prop := ∃ A c l Ag cg, v = .agg #[.slice A l.length c, .slice Ag gens.length cg] ∧ l.map tabOf = T ∧ RdSt w w.heap.size ⟨A, c, l, Ag, cg, gens⟩ ∧ StSmall l gens
theorem SeenT.grow {w w' : World} {v : Value} {T : List BTab} {gens : List Int} (h : SeenT w v T gens) (hb : Below w.heap.size w w') : SeenT w' v T gens := by
  obtain ⟨A, c, l, Ag, cg, h1, h2, h3, h4⟩ := h
  exact ⟨A, c, l, Ag, cg, h1, h2, h3.grow hb, h4⟩
theorem SeenT.zero (w : World) : SeenT w (.agg #[.slice none 0 0, .slice none 0 0]) [] [] := by
  have h0 : Hp w w [] := ⟨Below.refl _ _, by simp, by simp⟩
  obtain ⟨A, c, l, Ag, cg, h1, h2, h3⟩ := (GotSt.zero (w := w) (w' := w) (Below.refl _ _)).rd
  have hl : l = [] := List.map_eq_nil_iff.1 h2
  subst hl
  exact ⟨A, c, [], Ag, cg, h1, rfl, h3, small_nil⟩
theorem GotSt.seen {w w' : World} {v : Value} {T : List BTab} {gens : List Int} (h : GotSt w w' v T gens) (hs : ∀ l : List TabIn, l.map tabOf = T → StSmall l gens) : SeenT w' v T gens := by
  obtain ⟨A, c, l, Ag, cg, h1, h2, h3⟩ := h.rd
  exact ⟨A, c, l, Ag, cg, h1, h2, h3, hs l h2⟩
def SeenV (w : World) (v : Value) (rows : List BRow) (gens : List Int) : Prop := ∃ A c A' c', v = .agg #[.slice A rows.length c, .slice A' gens.length c'] ∧ RdR w w.heap.size A rows ∧ RdG w w.heap.size A' gens
theorem SeenV.grow {w w' : World} {v : Value} {rows : List BRow} {gens : List Int} (h : SeenV w v rows gens) (hb : Below w.heap.size w w') : SeenV w' v rows gens := by
  obtain ⟨A, c, A', c', h1, h2, h3⟩ := h
  exact ⟨A, c, A', c', h1, Rd.grow h2 hb, Rd.grow h3 hb⟩
theorem samest_seen {w : World} {v v' : Value} {T : List BTab} {gens : List Int} (h : SeenT w v T gens) (h' : SeenT w v' T gens) :
    Calls Try.prog 34 #[v, v'] w fun e w' => e = .returned (.bool true) ∧ Below w.heap.size w w' := by
  obtain ⟨A, c, l, Ag, cg, rfl, h2, h3, h4⟩ := h
  obtain ⟨A', c', l', Ag', cg', rfl, h2', h3', h4'⟩ := h'
  exact rsamest_any l l' gens A c Ag cg A' c' Ag' cg' h4 (h2'.trans h2.symm) w h3 h3'
theorem own_seen {l : List TabIn} {A : Option Addr} {c : Nat} {gens : List Int} {Ag : Option Addr} {cg : Nat} (hs : StSmall l gens) {w : World} (h : RdSt w w.heap.size ⟨A, c, l, Ag, cg, gens⟩) :
    Calls Try.prog 35 #[.agg #[.slice A l.length c, .slice Ag gens.length cg]] w fun e w' => ∃ v, e = .returned v ∧ SeenT w' v (l.map tabOf) gens ∧ Below w.heap.size w w' := by
  refine (sown_any l A c gens Ag cg hs w h).mono ?_
  rintro e w' ⟨A2, c2, l2, Ag2, cg2, rfl, hl, H⟩
  have hG : GotSt w w' (.agg #[.slice A2 l2.length c2, .slice Ag2 gens.length cg2]) (l.map tabOf) gens := ⟨A2, c2, l2, Ag2, cg2, rfl, hl, H⟩
  exact ⟨_, rfl, hG.seen (fun l3 h3 => small_map h3 hs), H.bel⟩
theorem of_seen {rows : List BRow} {gens : List Int} {Ar : Option Addr} {cr : Nat} {Ag : Option Addr} {cg : Nat} (hw : RightW rows gens) {w : World} (hr : RdR w w.heap.size Ar rows) (hg : RdG w w.heap.size Ag gens) (hn : Ag = none → cg = 0) :
    Calls Try.prog 39 #[.agg #[.slice Ar rows.length cr, .slice Ag gens.length cg]] w fun e w' => ∃ v, e = .returned v ∧ SeenT w' v (tabsW rows) gens ∧ Below w.heap.size w w' := by
  refine (rof_any rows gens Ar cr Ag cg hw w hr).mono ?_
  rintro e w' ⟨A, c, l, rfl, hl, H⟩
  obtain ⟨h1, h2⟩ := H.rdT (A := A) (c := c) (l := l) (fun p hp => hp)
  exact ⟨_, rfl, ⟨A, c, l, Ag, cg, rfl, hl, ⟨h1, Rd.grow hg H.bel, h2, fun e => ⟨hn e, by
    have h3 := hg.2
    rcases Nat.eq_zero_or_pos gens.length with h4 | h4
    · exact List.eq_nil_of_length_eq_zero h4
    · obtain ⟨b, off, h5, _⟩ := h3 h4
      have e2 : Ag = none := e
      rw [e2] at h5
      cases h5⟩⟩, right_small hw hl⟩, H.bel⟩
theorem world_seen {l : List TabIn} {A : Option Addr} {c : Nat} {gens : List Int} {Ag : Option Addr} {cg : Nat} {rows : List BRow} (hw : RightW rows gens) (hl : l.map tabOf = tabsW rows) {w : World} (h : RdSt w w.heap.size ⟨A, c, l, Ag, cg, gens⟩) :
    Calls Try.prog 36 #[.agg #[.slice A l.length c, .slice Ag gens.length cg]] w fun e w' => ∃ v, e = .returned v ∧ SeenV w' v rows gens ∧ Below w.heap.size w w' := by
  have hs := right_small hw hl
  have hg : gens.length ≤ 60 := hw.len
  have hr : rows.length ≤ 60 := Nat.le_trans hw.rows_le hw.len
  have hx := right_len hw
  refine (world_any l A c gens Ag cg (ofG rows) hl hw.rep.clean hs.tabs (by omega) hs.gens w h.tabs h.gen h.ng).mono ?_
  rintro e w' ⟨v, rfl, hG, hb⟩
  rw [hw.rep.sorted] at hG
  obtain ⟨vr, vg, rfl, hO⟩ := hG
  obtain ⟨Ar3, cr3, rfl, _, _⟩ := own_shape hO.rows_
  obtain ⟨Ag4, cg4, rfl, _, _⟩ := own_shape hO.gens_
  exact ⟨_, rfl, ⟨Ar3, cr3, Ag4, cg4, rfl, Rd.of_own hO.rows_, Rd.of_own hO.gens_⟩, hb⟩
theorem rworld_seen {l : List TabIn} {A : Option Addr} {c : Nat} {gens : List Int} {Ag : Option Addr} {cg : Nat} {rows : List BRow} (hw : RightW rows gens) (hl : l.map tabOf = tabsW rows) {w : World} (h : RdSt w w.heap.size ⟨A, c, l, Ag, cg, gens⟩) :
    Calls Try.prog 37 #[.agg #[.slice A l.length c, .slice Ag gens.length cg]] w fun e w' => ∃ (Ar : Option Addr) (cr : Nat), e = .returned (.agg #[.slice Ar rows.length cr, .slice Ag gens.length cg]) ∧ Hp w w' [pkR (.slice Ar rows.length cr) rows] := by
  have hs := right_small hw hl
  have hg : gens.length ≤ 60 := hw.len
  have hr : rows.length ≤ 60 := Nat.le_trans hw.rows_le hw.len
  have hx := right_len hw
  refine (rworld_any l A c gens Ag cg (ofG rows) hl hw.rep.clean hs.tabs (by omega) hs.gens w h.tabs).mono ?_
  rintro e w' ⟨Ar, cr, h1, h2⟩
  rw [hw.rep.sorted] at h1 h2
  exact ⟨Ar, cr, h1, h2⟩
theorem same_seen {w : World} {v v' : Value} {rows : List BRow} {gens : List Int} (hl : rows.length ≤ 9223372036854775807) (hg : gens.length ≤ 9223372036854775807) (h : SeenV w v rows gens) (h' : SeenV w v' rows gens) :
    Calls Try.prog 13 #[v, v'] w fun e w' => e = .returned (.bool true) ∧ Below w.heap.size w w' := by
  obtain ⟨A, c, A', c', rfl, h1, h2⟩ := h
  obtain ⟨B, d, B', d', rfl, h3, h4⟩ := h'
  exact rsame_any rows gens A c A' c' B d B' d' hl hg w h1 h3 h2 h4
end Go.Proofs.Ytefdblaolmckmab

namespace Go.Proofs.Ytefdblaolmckmab
open Brood
set_option linter.unusedVariables false
set_option linter.unusedSimpArgs false
def doneV (rows : List BRow) (gens : List Int) (i g has part n : Int) (k : Nat) : Changed :=
  match k with
  | 0 => ⟨(spawnV rows gens has n).rows, (spawnV rows gens has n).gens, (spawnV rows gens has n).err⟩
  | 1 => killV rows gens i g
  | 2 => putV rows gens i g part n
  | _ => dropV rows gens i g part
structure DoneOk (rows : List BRow) (gens : List Int) (i g : Int) (E : Changed) : Prop where
  is : RightW E.rows E.gens
  stay : ∀ (i' g' : Int) (p : BRow), ¬ (i' = i ∧ g' = g) → rowOf i' g' rows = some p → rowOf i' g' E.rows = some p
theorem done_ok {rows : List BRow} {gens : List Int} {i g has part n : Int} (k : Nat) (h : (doneV rows gens i g has part n k).err = 0) : DoneOk rows gens i g (doneV rows gens i g has part n k) := by
  match k with
  | 0 =>
    have hS := spawn_ok (rows := rows) (gens := gens) (has := has) (n := n) h
    exact ⟨hS.is, fun i' g' p _ hp => hS.stay hp⟩
  | 1 =>
    have hK := kill_ok (rows := rows) (gens := gens) (i := i) (g := g) h
    exact ⟨hK.is, fun i' g' p hne hp => (hK.rest hne).trans hp⟩
  | 2 =>
    obtain ⟨k, r, hC⟩ := change_ok (rows := rows) (gens := gens) (i := i) (g := g) (fr := putF part n) h
    exact ⟨hC.is (putF_ok part n), fun i' g' p hne hp => (hC.rest (putF_ok part n) hne).trans hp⟩
  | k + 3 =>
    obtain ⟨k, r, hC⟩ := change_ok (rows := rows) (gens := gens) (i := i) (g := g) (fr := dropF part) h
    exact ⟨hC.is (dropF_ok part), fun i' g' p hne hp => (hC.rest (dropF_ok part) hne).trans hp⟩
theorem done_bad {rows : List BRow} {gens : List Int} {i g has part n : Int} (k : Nat) (h : (doneV rows gens i g has part n k).err ≠ 0) : (doneV rows gens i g has part n k).rows = [] ∧ (doneV rows gens i g has part n k).gens = [] := by
  match k with
  | 0 => exact spawn_bad (rows := rows) (gens := gens) (has := has) (n := n) h
  | 1 => exact kill_bad (rows := rows) (gens := gens) (i := i) (g := g) h
  | 2 => exact change_bad (rows := rows) (gens := gens) (i := i) (g := g) (fr := putF part n) h
  | k + 3 => exact change_bad (rows := rows) (gens := gens) (i := i) (g := g) (fr := dropF part) h
end Go.Proofs.Ytefdblaolmckmab

namespace Go.Proofs.Ytefdblaolmckmab
open Go.RowKit
open Brood
set_option linter.unusedVariables false
set_option linter.unusedSimpArgs false
set_option maxRecDepth 20000 in
set_option maxHeartbeats 6400000 in
theorem rwith_any (rows : List BRow) (gens : List Int) (r : BRow) (Ar : Option Addr) (cr : Nat) (Ag : Option Addr) (cg : Nat) (hlr : rows.length ≤ 60) (w : World) (hr : RdR w w.heap.size Ar rows) :
    Calls Try.prog 67 #[.agg #[.slice Ar rows.length cr, .slice Ag gens.length cg], rowV r] w fun e w' => (∃ A c, e = .returned (.agg #[.slice A (withV r rows).length c, .slice Ag gens.length cg]) ∧ w'.ownsRow w.heap.size 51 11 (.slice A (withV r rows).length c) (withV r rows).length ((withV r rows).flatMap rowCells)) ∧ Below w.heap.size w w' := by
  obtain ⟨i0', hi0, hz0a, hz0b, hz0c⟩ := info_parts infoRow
  have hE : Hid (withV r rows = [] ++ withFrom r false (rows.drop 0)) := Lib.hid rfl
  generalize withV r rows = E at *
  have H0 := (((Hp.start w).new w.heap.size rfl 25 [.slice Ar rows.length cr, .slice Ag gens.length cg]).new (w.heap.size + 1) (by simp) 51 (rowCells r)).new (w.heap.size + 1 + 1) (by simp) 25 [.slice none 0 0, .slice none 0 0]
  replace H0 := H0.new (w.heap.size + 1 + 1 + 1) (by simp) 25 [.slice none 0 0, .slice Ag gens.length cg]
  replace H0 := H0.nil_ 51 11
  have hrid := Lib.hid (show ∀ x : BRow, ∀ D l, withFrom r D (x :: l) = (if !D && decide (r.idx ≤ x.idx) then [r] else []) ++ ((if x.idx != r.idx then [x] else []) ++ withFrom r (D || decide (r.idx ≤ x.idx)) l) from fun _ _ _ => rfl)
  have hrnil := Lib.hid (show ∀ D, withFrom r D [] = if D then [] else [r] from fun _ => rfl)
  have hsn := Lib.hid (fun l => flat_snoc l r)
  obtain ⟨ro, hro⟩ : ∃ ro, ro = r := ⟨_, rfl⟩
  rw [← hro] at hE hrid hrnil hsn
  have hroi : ro.idx = r.idx := by rw [hro]
  have hrov : rowCells ro = rowCells r := by rw [hro]
  obtain ⟨ri, rg, rh, rv, h8⟩ := r
  obtain ⟨b0, b1, b2, b3, b4, b5, b6, b7, rfl⟩ := vals_eight h8
  have hrv : rowV ⟨ri, rg, rh, [b0, b1, b2, b3, b4, b5, b6, b7], h8⟩ = .agg #[.int .i64 ri, .int .i64 rg, .int .i64 rh, .int .i64 b0, .int .i64 b1, .int .i64 b2, .int .i64 b3, .int .i64 b4, .int .i64 b5, .int .i64 b6, .int .i64 b7] := rfl
  have hrc : rowCells ⟨ri, rg, rh, [b0, b1, b2, b3, b4, b5, b6, b7], h8⟩ = [.int .i64 ri, .int .i64 rg, .int .i64 rh, .int .i64 b0, .int .i64 b1, .int .i64 b2, .int .i64 b3, .int .i64 b4, .int .i64 b5, .int .i64 b6, .int .i64 b7] := rfl
  simp only at hroi
  rw [hrc] at H0 hrov
  rw [hrv]
  rw [hroi] at hrid
  replace hrov := Lib.hid hrov
  clear hrv hrc hro hroi
  go_enter Try.func67, Try.ntmps67
  go_wp2_with fail
  go_loopw [6, 15] (fun s6 q wx => ∃ k : Nat, k ≤ rows.length ∧ q = .int .i64 k ∧ ∃ (D : Bool) (A : Option Addr) (c : Nat) (cur : List BRow), s6 = .bool D ∧ cur.length ≤ 2 * k ∧ Hid (E = cur ++ withFrom ro D (rows.drop k)) ∧
      Hp w wx [.box w.heap.size 25 [.slice Ar rows.length cr, .slice Ag gens.length cg], .box (w.heap.size + 1) 51 [.int .i64 ri, .int .i64 rg, .int .i64 rh, .int .i64 b0, .int .i64 b1, .int .i64 b2, .int .i64 b3, .int .i64 b4, .int .i64 b5, .int .i64 b6, .int .i64 b7], .box (w.heap.size + 1 + 1) 25 [.slice none 0 0, .slice none 0 0], .box (w.heap.size + 1 + 1 + 1) 25 [.slice A cur.length c, .slice Ag gens.length cg], .own (.slice A cur.length c) 51 11 cur.length (cur.flatMap rowCells)]) (fun _ q _ => rows.length - (intOf q).toNat)
  case atStart => exact ⟨0, by omega, rfl, false, none, 0, [], rfl, by simp, hE, H0⟩
  case round =>
    clear H0 hE
    obtain ⟨k, hk, rfl, D, A, c, cur, rfl, hcur, hE, H⟩ := hrel
    by_cases hlt : k < rows.length
    · have hR1 : RdR wr w.heap.size Ar rows := Rd.under hr H.bel (Nat.le_refl _)
      obtain ⟨b1', off, rfl, hb1, hrow⟩ := hR1.at_ hlt
      have hst := Lib.hid (drop_cons hlt)
      clear hR1
      have hxv := Lib.hid (fun l => flat_snoc l rows[k])
      obtain ⟨xo, hxo⟩ : ∃ xo, xo = rows[k] := ⟨_, rfl⟩
      rw [← hxo] at hst hxv
      have hxi : xo.idx = rows[k].idx := by rw [hxo]
      have hxc : rowCells xo = rowCells rows[k] := by rw [hxo]
      generalize rows[k] = x at *
      have i0 : (0 : Int) ≤ (k : Int) := by omega
      have i1 : (k : Int) < (rows.length : Int) := by omega
      obtain ⟨c0, c1, c2⟩ := hrow.head
      obtain ⟨idx, gen, has, vals, h8'⟩ := x
      obtain ⟨a0, a1, a2, a3, a4, a5, a6, a7, rfl⟩ := vals_eight h8'
      have v0 := hrow 3 (.int .i64 a0) rfl; have v1 := hrow 4 (.int .i64 a1) rfl; have v2 := hrow 5 (.int .i64 a2) rfl; have v3 := hrow 6 (.int .i64 a3) rfl; have v4 := hrow 7 (.int .i64 a4) rfl; have v5 := hrow 8 (.int .i64 a5) rfl; have v6 := hrow 9 (.int .i64 a6) rfl; have v7 := hrow 10 (.int .i64 a7) rfl
      simp only at c0 c1 c2 hxi
      have hxr : rowCells ⟨idx, gen, has, [a0, a1, a2, a3, a4, a5, a6, a7], h8'⟩ = [.int .i64 idx, .int .i64 gen, .int .i64 has, .int .i64 a0, .int .i64 a1, .int .i64 a2, .int .i64 a3, .int .i64 a4, .int .i64 a5, .int .i64 a6, .int .i64 a7] := rfl
      rw [hxr] at hxc
      have hE1 : Hid (E = (cur ++ if !D && decide (ri ≤ idx) then [ro] else []) ++ ((if idx != ri then [xo] else []) ++ withFrom ro (D || decide (ri ≤ idx)) (rows.drop (k + 1)))) := Lib.hid (by rw [hE.out, hst.out, hrid.out, hxi, List.append_assoc])
      replace hxc := Lib.hid hxc
      clear hrow hE hst hxr hxi hxo
      have H1 := H.new wr.heap.size rfl 51 [.int .i64 idx, .int .i64 gen, .int .i64 has, .int .i64 a0, .int .i64 a1, .int .i64 a2, .int .i64 a3, .int .i64 a4, .int .i64 a5, .int .i64 a6, .int .i64 a7]
      have e0 := H1.cell 1 0 rfl rfl
      go_upto_region 6 with fail
      go_cut [29] (fun s29 wx => s29 = .bool (!D && decide (ri ≤ idx)) ∧ wx = wr.alloc (.cells #[.int .i64 idx, .int .i64 gen, .int .i64 has, .int .i64 a0, .int .i64 a1, .int .i64 a2, .int .i64 a3, .int .i64 a4, .int .i64 a5, .int .i64 a6, .int .i64 a7] 51))
      case first =>
        cases D
        · have e00 := H.cell 1 0 rfl rfl; have l00 := H.lt 1 rfl
          go_wp2_with fail
          go_meet
          exact ⟨by simp, rfl⟩
        · go_wp2_with fail
          go_meet
          exact ⟨by simp, rfl⟩
      case rest =>
        obtain ⟨rfl, rfl⟩ := hcut
        obtain ⟨wa, hwa, H1⟩ := H1.name
        rw [hwa] at e0 ⊢
        have hga : wr.heap.size < wa.heap.size := H1.lt 5 rfl
        generalize wr.heap.size = gx at *
        clear hwa c0 c1 c2 v0 v1 v2 v3 v4 v5 v6 v7
        go_upto_if 29 with fail
        go_cut [6] (fun s6 wx => s6 = .bool (D || decide (ri ≤ idx)) ∧ ∃ A c cur1, cur1 = (cur ++ if !D && decide (ri ≤ idx) then [ro] else []) ∧
          Hp w wx [.box w.heap.size 25 [.slice (some ⟨b1', off, none⟩) rows.length cr, .slice Ag gens.length cg], .box (w.heap.size + 1) 51 [.int .i64 ri, .int .i64 rg, .int .i64 rh, .int .i64 b0, .int .i64 b1, .int .i64 b2, .int .i64 b3, .int .i64 b4, .int .i64 b5, .int .i64 b6, .int .i64 b7], .box (w.heap.size + 1 + 1) 25 [.slice none 0 0, .slice none 0 0], .box (w.heap.size + 1 + 1 + 1) 25 [.slice A cur1.length c, .slice Ag gens.length cg], .own (.slice A cur1.length c) 51 11 cur1.length (cur1.flatMap rowCells), .box gx 51 [.int .i64 idx, .int .i64 gen, .int .i64 has, .int .i64 a0, .int .i64 a1, .int .i64 a2, .int .i64 a3, .int .i64 a4, .int .i64 a5, .int .i64 a6, .int .i64 a7]])
        case first =>
          cases hC : (!D && decide (ri ≤ idx))
          · have hD : Hid (D = (D || decide (ri ≤ idx))) := Lib.hid (by revert hC; cases D <;> simp)
            go_wp2_with fail
            go_meet
            exact ⟨by rw [← hD.out], A, c, cur, by rw [hC]; simp, H1⟩
          · have hD : Hid ((D || decide (ri ≤ idx)) = true) := Lib.hid (by revert hC; cases D <;> simp)
            have q0 := H1.cell 3 0 rfl rfl; have q1 := H1.cell 3 1 rfl rfl
            have f0 := H1.cell 1 0 rfl rfl; have f1 := H1.cell 1 1 rfl rfl; have f2 := H1.cell 1 2 rfl rfl; have f3 := H1.cell 1 3 rfl rfl; have f4 := H1.cell 1 4 rfl rfl; have f5 := H1.cell 1 5 rfl rfl; have f6 := H1.cell 1 6 rfl rfl; have f7 := H1.cell 1 7 rfl rfl; have f8 := H1.cell 1 8 rfl rfl; have f9 := H1.cell 1 9 rfl rfl; have f10 := H1.cell 1 10 rfl rfl
            have HN := H1.new wa.heap.size rfl 51 [.int .i64 ri, .int .i64 rg, .int .i64 rh, .int .i64 b0, .int .i64 b1, .int .i64 b2, .int .i64 b3, .int .i64 b4, .int .i64 b5, .int .i64 b6, .int .i64 b7]
            go_wp2_with (at_builtin; refine wpList_append_own_at _ rfl _ _ 22 rfl w.heap.size 51 i0' (.agg #[.int .i64 0, .int .i64 0, .int .i64 0, .int .i64 0, .int .i64 0, .int .i64 0, .int .i64 0, .int .i64 0, .int .i64 0, .int .i64 0, .int .i64 0]) 11 88 Try.underlying22 hi0 hz0a hz0b hz0c rfl (by decide) _ _ _ rfl (HN.owns 4 rfl) ⟨wa.heap.size, 0, none⟩ 1 1 [.int .i64 ri, .int .i64 rg, .int .i64 rh, .int .i64 b0, .int .i64 b1, .int .i64 b2, .int .i64 b3, .int .i64 b4, .int .i64 b5, .int .i64 b6, .int .i64 b7] rfl rfl ?c1 ?c2 ?c3 ?c4 ?c5 ?_; rotate_left 5; intro v' w7 hown7 hgrow7 _ hat7; have H8 := HN.app 4 rfl hgrow7 hown7 (hat7.imp id (fun e g hg => by rw [e] at hg; injection hg with hg; omega)); have z0 := H8.cell 3 0 rfl rfl; have z1 := H8.cell 3 1 rfl rfl; have z2 := H8.frozen 3 1 rfl; have z3 := H8.frozen 3 0 rfl; obtain ⟨A3, c3, rfl, hs1, hs2⟩ := own_shape hown7)
            case c1 => exact news_blk (HN.blk 6 rfl)
            case c2 => simp [Value.oneCell']
            case c3 => unfold maxLen; omega
            case c4 => omega
            case c5 => exact HN.bel.size
            go_meet
            have hl : (cur ++ [ro]).length = cur.length + 1 := by simp
            refine ⟨by rw [hD.out], A3, c3, cur ++ [ro], by rw [hC]; simp, ?_⟩
            rw [hl, hsn.out, hrov.out]
            exact (H8.set 3 0 (.slice A3 (cur.length + 1) c3) rfl).drop1 6
        case rest =>
          obtain ⟨rfl, A4, c4, cur1, hcur1, H2⟩ := hcut
          have hE2 : Hid (E = cur1 ++ ((if idx != ri then [xo] else []) ++ withFrom ro (D || decide (ri ≤ idx)) (rows.drop (k + 1)))) := Lib.hid (by rw [hE1.out, hcur1])
          have hl1 : cur1.length ≤ 2 * k + 1 := by
            rw [hcur1, List.length_append]
            split <;> simp <;> omega
          generalize (D || decide (ri ≤ idx)) = D' at *
          clear hE1 hcur1 H1 e0 H
          have e0 := H2.cell 1 0 rfl rfl; have e1 := H2.cell 5 0 rfl rfl
          go_upto_if 42 with fail
          cases hC : (idx != ri)
          · have hE3 : Hid (E = cur1 ++ withFrom ro D' (rows.drop (k + 1))) := Lib.hid (by rw [hE2.out, hC]; simp)
            clear hE2
            go_wp2_with fail
            go_roundw
            case rel => exact ⟨k + 1, by omega, by go_num, D', A4, c4, cur1, rfl, by omega, hE3, H2.drop1 5⟩
            case measure => simp [intOf]; omega
          · have hE3 : Hid (E = (cur1 ++ [xo]) ++ withFrom ro D' (rows.drop (k + 1))) := Lib.hid (by rw [hE2.out, hC]; simp)
            obtain ⟨wb, hwb, H2⟩ := H2.name
            rw [hwb] at e0 e1 ⊢
            clear hwb hE2
            have q0 := H2.cell 3 0 rfl rfl; have q1 := H2.cell 3 1 rfl rfl
            have f1 := H2.cell 5 1 rfl rfl; have f2 := H2.cell 5 2 rfl rfl; have f3 := H2.cell 5 3 rfl rfl; have f4 := H2.cell 5 4 rfl rfl; have f5 := H2.cell 5 5 rfl rfl; have f6 := H2.cell 5 6 rfl rfl; have f7 := H2.cell 5 7 rfl rfl; have f8 := H2.cell 5 8 rfl rfl; have f9 := H2.cell 5 9 rfl rfl; have f10 := H2.cell 5 10 rfl rfl
            have HN := H2.new wb.heap.size rfl 51 [.int .i64 idx, .int .i64 gen, .int .i64 has, .int .i64 a0, .int .i64 a1, .int .i64 a2, .int .i64 a3, .int .i64 a4, .int .i64 a5, .int .i64 a6, .int .i64 a7]
            go_wp2_with (at_builtin; refine wpList_append_own_at _ rfl _ _ 22 rfl w.heap.size 51 i0' (.agg #[.int .i64 0, .int .i64 0, .int .i64 0, .int .i64 0, .int .i64 0, .int .i64 0, .int .i64 0, .int .i64 0, .int .i64 0, .int .i64 0, .int .i64 0]) 11 88 Try.underlying22 hi0 hz0a hz0b hz0c rfl (by decide) _ _ _ rfl (HN.owns 4 rfl) ⟨wb.heap.size, 0, none⟩ 1 1 [.int .i64 idx, .int .i64 gen, .int .i64 has, .int .i64 a0, .int .i64 a1, .int .i64 a2, .int .i64 a3, .int .i64 a4, .int .i64 a5, .int .i64 a6, .int .i64 a7] rfl rfl ?c1 ?c2 ?c3 ?c4 ?c5 ?_; rotate_left 5; intro v' w7 hown7 hgrow7 _ hat7; have H8 := HN.app 4 rfl hgrow7 hown7 (hat7.imp id (fun e g hg => by rw [e] at hg; injection hg with hg; omega)); have z0 := H8.cell 3 0 rfl rfl; have z1 := H8.cell 3 1 rfl rfl; have z2 := H8.frozen 3 1 rfl; have z3 := H8.frozen 3 0 rfl; obtain ⟨A3, c3, rfl, hs1, hs2⟩ := own_shape hown7)
            case c1 => exact news_blk (HN.blk 6 rfl)
            case c2 => simp [Value.oneCell']
            case c3 => unfold maxLen; omega
            case c4 => omega
            case c5 => exact HN.bel.size
            go_roundw
            have hl : (cur1 ++ [xo]).length = cur1.length + 1 := by simp
            case rel =>
              refine ⟨k + 1, by omega, by go_num, D', A3, c3, cur1 ++ [xo], rfl, by omega, hE3, ?_⟩
              rw [hl, hxv.out, hxc.out]
              exact ((H8.set 3 0 (.slice A3 (cur1.length + 1) c3) rfl).drop1 6).drop1 5
            case measure => simp [intOf]; omega
    · obtain rfl : k = rows.length := by omega
      have hE1 : Hid (E = cur ++ if D then [] else [ro]) := Lib.hid (by rw [hE.out, List.drop_length, hrnil.out])
      clear hE
      go_upto_if 51 with fail
      go_cut [] (fun wx => ∃ A c, Hp w wx [.box w.heap.size 25 [.slice Ar rows.length cr, .slice Ag gens.length cg], .box (w.heap.size + 1) 51 [.int .i64 ri, .int .i64 rg, .int .i64 rh, .int .i64 b0, .int .i64 b1, .int .i64 b2, .int .i64 b3, .int .i64 b4, .int .i64 b5, .int .i64 b6, .int .i64 b7], .box (w.heap.size + 1 + 1) 25 [.slice none 0 0, .slice none 0 0], .box (w.heap.size + 1 + 1 + 1) 25 [.slice A E.length c, .slice Ag gens.length cg], .own (.slice A E.length c) 51 11 E.length (E.flatMap rowCells)])
      case first =>
        cases D
        · have q0 := H.cell 3 0 rfl rfl; have q1 := H.cell 3 1 rfl rfl
          have f0 := H.cell 1 0 rfl rfl; have f1 := H.cell 1 1 rfl rfl; have f2 := H.cell 1 2 rfl rfl; have f3 := H.cell 1 3 rfl rfl; have f4 := H.cell 1 4 rfl rfl; have f5 := H.cell 1 5 rfl rfl; have f6 := H.cell 1 6 rfl rfl; have f7 := H.cell 1 7 rfl rfl; have f8 := H.cell 1 8 rfl rfl; have f9 := H.cell 1 9 rfl rfl; have f10 := H.cell 1 10 rfl rfl
          have HN := H.new wr.heap.size rfl 51 [.int .i64 ri, .int .i64 rg, .int .i64 rh, .int .i64 b0, .int .i64 b1, .int .i64 b2, .int .i64 b3, .int .i64 b4, .int .i64 b5, .int .i64 b6, .int .i64 b7]
          go_wp2_with (at_builtin; refine wpList_append_own_at _ rfl _ _ 22 rfl w.heap.size 51 i0' (.agg #[.int .i64 0, .int .i64 0, .int .i64 0, .int .i64 0, .int .i64 0, .int .i64 0, .int .i64 0, .int .i64 0, .int .i64 0, .int .i64 0, .int .i64 0]) 11 88 Try.underlying22 hi0 hz0a hz0b hz0c rfl (by decide) _ _ _ rfl (HN.owns 4 rfl) ⟨wr.heap.size, 0, none⟩ 1 1 [.int .i64 ri, .int .i64 rg, .int .i64 rh, .int .i64 b0, .int .i64 b1, .int .i64 b2, .int .i64 b3, .int .i64 b4, .int .i64 b5, .int .i64 b6, .int .i64 b7] rfl rfl ?c1 ?c2 ?c3 ?c4 ?c5 ?_; rotate_left 5; intro v' w7 hown7 hgrow7 _ hat7; have H8 := HN.app 4 rfl hgrow7 hown7 (hat7.imp id (fun e g hg => by rw [e] at hg; injection hg with hg; omega)); have z0 := H8.cell 3 0 rfl rfl; have z1 := H8.cell 3 1 rfl rfl; have z2 := H8.frozen 3 1 rfl; have z3 := H8.frozen 3 0 rfl; obtain ⟨A3, c3, rfl, hs1, hs2⟩ := own_shape hown7)
          case c1 => exact news_blk (HN.blk 5 rfl)
          case c2 => simp [Value.oneCell']
          case c3 => unfold maxLen; omega
          case c4 => omega
          case c5 => exact HN.bel.size
          go_meet
          have hl : E.length = cur.length + 1 := by rw [hE1.out]; simp
          have hf : E.flatMap rowCells = cur.flatMap rowCells ++ [.int .i64 ri, .int .i64 rg, .int .i64 rh, .int .i64 b0, .int .i64 b1, .int .i64 b2, .int .i64 b3, .int .i64 b4, .int .i64 b5, .int .i64 b6, .int .i64 b7] := by rw [hE1.out, if_neg (by simp), hsn.out, hrov.out]
          refine ⟨A3, c3, ?_⟩
          rw [hl, hf]
          exact (H8.set 3 0 (.slice A3 (cur.length + 1) c3) rfl).drop1 5
        · have hEc : E = cur := by rw [hE1.out]; simp
          go_wp2_with fail
          go_meet
          rw [hEc]
          exact ⟨A, c, H⟩
      case rest =>
        obtain ⟨A5, c5, H3⟩ := hcut
        clear H hE1
        have q0 := H3.cell 3 0 rfl rfl; have q1 := H3.cell 3 1 rfl rfl; have y0 := H3.frozen 2 0 rfl; have y1 := H3.frozen 2 1 rfl; have y2 := H3.cell 2 0 rfl rfl; have y3 := H3.cell 2 1 rfl rfl
        have H9 := (H3.set 2 0 (.slice A5 E.length c5) rfl).set 2 1 (.slice Ag gens.length cg) rfl
        have p0 := H9.cell 2 0 rfl rfl; have p1 := H9.cell 2 1 rfl rfl
        go_wp2_with fail
        refine bodyPost_ret (v := .agg #[.slice A5 E.length c5, .slice Ag gens.length cg]) (by simp [results, Try.results67, go_sem, p0, p1]) rfl ⟨⟨_, _, rfl, H9.owns 4 rfl⟩, H9.bel⟩
end Go.Proofs.Ytefdblaolmckmab

namespace Go.Proofs.Ytefdblaolmckmab
open Go.RowKit
open Brood
set_option linter.unusedVariables false
set_option linter.unusedSimpArgs false
def putB (a : Nat) (k : Int) (v : Bool) : Nat → Bool := fun j => if (j : Int) = k then v else tb a j
theorem num_bits : ∀ a, a < 256 → numB (tb a) = a := by decide +kernel
theorem num_with : ∀ a, a < 256 → ∀ k : Nat, k < 8 → (numB (putB a (k : Int) true) : Int) = withS (a : Int) (k : Int) := by decide +kernel
theorem num_without : ∀ a, a < 256 → ∀ k : Nat, k < 8 → (numB (putB a (k : Int) false) : Int) = withoutS (a : Int) (k : Int) := by decide +kernel
theorem num_put_w {a : Nat} (ha : a < 256) (k : Int) : (numB (putB a k true) : Int) = withS (a : Int) k := by
  by_cases hk : isPart k = true
  · have := isPart_iff.1 hk
    obtain ⟨k, rfl⟩ := nat_of this.1
    exact num_with a ha k (by omega)
  · have hk' : isPart k = false := by simpa using hk
    have e : numB (putB a k true) = numB (tb a) := by
      have h := isPart_false.1 hk'
      have : ∀ j : Nat, j < 8 → putB a k true j = tb a j := by
        intro j hj
        unfold putB
        rw [if_neg (by omega)]
      simp [numB, numUp, this]
    rw [e, num_bits a ha]
    simp [withS, hk']
theorem num_put_wo {a : Nat} (ha : a < 256) (k : Int) : (numB (putB a k false) : Int) = withoutS (a : Int) k := by
  by_cases hk : isPart k = true
  · have := isPart_iff.1 hk
    obtain ⟨k, rfl⟩ := nat_of this.1
    exact num_without a ha k (by omega)
  · have hk' : isPart k = false := by simpa using hk
    have e : numB (putB a k false) = numB (tb a) := by
      have h := isPart_false.1 hk'
      have : ∀ j : Nat, j < 8 → putB a k false j = tb a j := by
        intro j hj
        unfold putB
        rw [if_neg (by omega)]
      simp [numB, numUp, this]
    rw [e, num_bits a ha]
    simp [withoutS, hasB, hk']
theorem num_true {a : Nat} (ha : a < 256) (k : Int) (w : World) :
    Calls Try.prog 75 #[.agg #[.bool (putB a k true 0), .bool (putB a k true 1), .bool (putB a k true 2), .bool (putB a k true 3), .bool (putB a k true 4), .bool (putB a k true 5), .bool (putB a k true 6), .bool (putB a k true 7)]] w fun e w' => e = .returned (.int .i64 (withS (a : Int) k)) ∧ Below w.heap.size w w' := by
  have := rnum_any (putB a k true) w
  rw [num_put_w ha] at this
  exact this
theorem num_false {a : Nat} (ha : a < 256) (k : Int) (w : World) :
    Calls Try.prog 75 #[.agg #[.bool (putB a k false 0), .bool (putB a k false 1), .bool (putB a k false 2), .bool (putB a k false 3), .bool (putB a k false 4), .bool (putB a k false 5), .bool (putB a k false 6), .bool (putB a k false 7)]] w fun e w' => e = .returned (.int .i64 (withoutS (a : Int) k)) ∧ Below w.heap.size w w' := by
  have := rnum_any (putB a k false) w
  rw [num_put_wo ha] at this
  exact this
end Go.Proofs.Ytefdblaolmckmab
