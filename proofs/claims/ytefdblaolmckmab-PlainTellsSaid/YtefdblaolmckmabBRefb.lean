/- The walks of the reference's Kill, Put, Drop. The walk of the reference's Spawn. The walks of Match (the document's and plain's), and of SameBeings. -/
import Derived.Deep.RegionHeld3
import Derived.Laws.AppendOwnNone
import Derived.Test.YtefdblaolmckmabBSpec
import Derived.Test.YtefdblaolmckmabBRefa
import Derived.Test.YtefdblaolmckmabBOpen
namespace Go.Proofs.Ytefdblaolmckmab
open Go.RowKit
open Brood
set_option linter.unusedVariables false
set_option linter.unusedSimpArgs false

/-- A world as a value that reads as these rows and numbers; what it reads lies below B or from S on. -/
def Far (B S : Nat) (A : Option Addr) (n : Nat) : Prop := 0 < n → ∃ a, A = some a ∧ (a.block < B ∨ S ≤ a.block)
def GotR (B S : Nat) (w : World) (v : Value) (rows : List BRow) (gens : List Int) : Prop := ∃ A c A' c', v = .agg #[.slice A rows.length c, .slice A' gens.length c'] ∧ RdR w w.heap.size A rows ∧ RdG w w.heap.size A' gens ∧ Far B S A rows.length ∧ Far B S A' gens.length
theorem GotR.zero (B S : Nat) (w : World) : GotR B S w (.agg #[.slice none 0 0, .slice none 0 0]) [] [] := ⟨none, 0, none, 0, rfl, Rd.nil_, Rd.nil_, fun h => absurd h (by simp), fun h => absurd h (by simp)⟩
theorem own_afar {w : World} {base : Nat} {e : TypeId} {sz n c : Nat} {A : Option Addr} {xs : List Value} (h : w.ownsRow base e sz (.slice A n c) n xs) (B : Nat) : Far B base A n := by
  intro hn
  obtain ⟨g, rfl⟩ := own_some h hn
  exact ⟨_, rfl, .inr (h.lt g rfl).1⟩
theorem rd_afar {w : World} {B sz n : Nat} {A : Option Addr} {xs : List Value} (h : Rd w B sz A n xs) (S : Nat) : Far B S A n := by
  intro hn
  obtain ⟨b, off, e, hb, _⟩ := h.2 hn
  exact ⟨_, e, .inl hb⟩
theorem rd_set {w : World} {B S C sz n : Nat} {A : Option Addr} {xs : List Value} (h : Rd w C sz A n xs) (hf : Far B S A n) {p : Addr} (h1 : B ≤ p.block) (h2 : p.block < S) (u : Value) : Rd (w.setCell p u) C sz A n xs := by
  refine ⟨h.1, fun hn => ?_⟩
  obtain ⟨b, off, e, hb, hc⟩ := h.2 hn
  refine ⟨b, off, e, hb, fun j u' hu => ?_⟩
  obtain ⟨a, e2, h3⟩ := hf hn
  rw [e] at e2
  injection e2 with e2
  subst e2
  rw [World.cell?_setCell_other w p ⟨b, off + j, none⟩ u (fun e3 => by subst e3; simp only at h1 h2 h3; omega)]
  exact hc j u' hu
theorem RightW.lens2 {rows : List BRow} {gens : List Int} (h : RightW rows gens) : rows.length ≤ 60 ∧ gens.length ≤ 60 := by
  have := h.rows_le; have := h.len; omega
theorem set_bits (m : Nat) {q : Nat} (hq : q < 8) (v : Bool) : ([.bool (tb m 0), .bool (tb m 1), .bool (tb m 2), .bool (tb m 3), .bool (tb m 4), .bool (tb m 5), .bool (tb m 6), .bool (tb m 7)] : List Value).set q (.bool v) =
    [.bool (putB m (q : Int) v 0), .bool (putB m (q : Int) v 1), .bool (putB m (q : Int) v 2), .bool (putB m (q : Int) v 3), .bool (putB m (q : Int) v 4), .bool (putB m (q : Int) v 5), .bool (putB m (q : Int) v 6), .bool (putB m (q : Int) v 7)] := by
  have e : q = 0 ∨ q = 1 ∨ q = 2 ∨ q = 3 ∨ q = 4 ∨ q = 5 ∨ q = 6 ∨ q = 7 := by omega
  rcases e with rfl | rfl | rfl | rfl | rfl | rfl | rfl | rfl <;> simp [putB]

set_option maxRecDepth 20000 in
set_option maxHeartbeats 12800000 in
theorem rkill_any (rows : List BRow) (gens : List Int) (Ar : Option Addr) (cr : Nat) (Ag : Option Addr) (cg : Nat) (i g : Int) (hlr : rows.length ≤ 9223372036854775807) (B : Nat)
    (w : World) (hr : RdR w w.heap.size Ar rows) (hg : RdG w w.heap.size Ag gens) (hgB : RdG w B Ag gens) :
    Calls Try.prog 20 #[.agg #[.slice Ar rows.length cr, .slice Ag gens.length cg], .agg #[.int .i64 i, .int .i64 g]] w fun e w' =>
      ∃ v, e = .returned (.tuple #[v, .int .i64 (killV rows gens i g).err]) ∧ GotR B w.heap.size w' v (killV rows gens i g).rows (killV rows gens i g).gens ∧ Below w.heap.size w w' := by
  have H0 := (((Hp.start w).new w.heap.size rfl 25 [.slice Ar rows.length cr, .slice Ag gens.length cg]).new (w.heap.size + 1) (by simp) 27 [.int .i64 i, .int .i64 g]).new (w.heap.size + 1 + 1) (by simp) 25 [.slice none 0 0, .slice none 0 0]
  go_enter Try.func20, Try.ntmps20
  go_wp2_with fail
  obtain ⟨w0, hw0, H0⟩ := H0.name
  rw [hw0]; clear hw0
  refine (rwrong2_any rows gens Ar cr Ag cg hlr w0 (H0.old hr) (H0.old hg)).mono ?_
  rintro e w1 ⟨rfl, hb1⟩
  replace H0 := H0.grow hb1
  clear hb1
  by_cases hf : (worldErr ⟨rows, gens⟩).1 = 0
  case neg =>
    have hf' : ((worldErr ⟨rows, gens⟩).1 != 0) = true := by simpa using hf
    have hE : Hid (killV rows gens i g = ⟨[], [], (worldErr ⟨rows, gens⟩).1⟩) := Lib.hid (kill_wrong i g hf)
    generalize worldErr ⟨rows, gens⟩ = F' at *
    obtain ⟨f1, f2⟩ := F'
    dsimp only at hf hf' hE ⊢
    have H2 := H0.new w1.heap.size rfl 32 [.int .i64 f1, .int .i64 f2]
    clear H0
    go_upto_region 3 with fail
    obtain ⟨w2, hw2, H2⟩ := H2.name
    rw [hw2]; clear hw2
    have n13 := H2.ne 2 3 rfl rfl (by omega); have n31 := n13.symm
    have q0 := H2.cell 2 0 rfl rfl; have q1 := H2.cell 2 1 rfl rfl
    have y0 := H2.frozen 2 0 rfl; have y1 := H2.frozen 2 1 rfl
    have c0 := H2.cell 3 0 rfl rfl
    go_region_held3 (fun w' => w'.cell? ⟨w1.heap.size, 0, none⟩ = some (.int .i64 f1)) (go_keep) (fail)
    have H4 := ((H2.set 2 0 (.slice none 0 0) rfl).set 2 1 (.slice none 0 0) rfl).drew
    have p0 := H4.cell 2 0 rfl rfl; have p1 := H4.cell 2 1 rfl rfl
    go_wp2_with fail
    refine bodyPost_ret (v := .tuple #[.agg #[.slice none 0 0, .slice none 0 0], .int .i64 f1]) (by simp [results, Try.results20, go_sem, p0, p1]) rfl ⟨_, by rw [hE.out], by rw [hE.out]; exact GotR.zero _ _ _, H4.bel⟩
  case pos =>
    have hrw := (right_iff rows gens).1 hf
    have hl60 := hrw.lens2
    rw [hf]
    generalize (worldErr ⟨rows, gens⟩).2 = f2 at *
    have H2 := H0.new w1.heap.size rfl 32 [.int .i64 0, .int .i64 f2]
    have x0 := H0.cell 0 0 rfl rfl; have x1 := H0.cell 0 1 rfl rfl; have b0 := H0.cell 1 0 rfl rfl; have b1 := H0.cell 1 1 rfl rfl
    have l0 := H0.lt 0 rfl; have l1 := H0.lt 1 rfl
    clear H0 hf
    go_wp2_with fail
    obtain ⟨w2, hw2, H2⟩ := H2.name
    rw [hw2]; clear hw2
    refine (rrow_any rows gens Ar cr Ag cg i g hlr w2 (H2.old hr)).mono ?_
    rintro e w3 ⟨⟨v, rfl, hv⟩, hb3⟩
    replace H2 := H2.grow hb3
    clear x0 x1 b0 b1 l0 l1
    cases hro : rowOf i g rows with
    | none =>
      rw [hro] at hv
      obtain rfl : v = .pointer none := hv
      have hE : Hid (killV rows gens i g = ⟨[], [], 5⟩) := Lib.hid (kill_none hrw hro)
      have q0 := H2.cell 2 0 rfl rfl; have q1 := H2.cell 2 1 rfl rfl; have y0 := H2.frozen 2 0 rfl; have y1 := H2.frozen 2 1 rfl
      have H4 := (H2.set 2 0 (.slice none 0 0) rfl).set 2 1 (.slice none 0 0) rfl
      have p0 := H4.cell 2 0 rfl rfl; have p1 := H4.cell 2 1 rfl rfl
      go_wp2_with fail
      refine bodyPost_ret (v := .tuple #[.agg #[.slice none 0 0, .slice none 0 0], .int .i64 5]) (by simp [results, Try.results20, go_sem, p0, p1]) rfl ⟨_, by rw [hE.out], by rw [hE.out]; exact GotR.zero _ _ _, H4.bel⟩
    | some r =>
      rw [hro] at hv
      obtain ⟨pb, po, rfl, hpb, hrow⟩ := hv
      have hE : Hid (killV rows gens i g = ⟨keepR (isB i g) rows, gens, 0⟩) := Lib.hid (kill_some hrw hro)
      obtain ⟨i0', hi0, hz0a, hz0b, hz0c⟩ := info_parts infoRow
      clear hrow hro hpb hrw
      have x0 := H2.cell 0 0 rfl rfl; have x1 := H2.cell 0 1 rfl rfl
      have hsz : w.heap.size < w3.heap.size := H2.lt 0 rfl
      have H3 := (H2.new w3.heap.size rfl 25 [.slice none 0 0, .slice Ag gens.length cg]).nil_ 51 11
      go_wp2_with fail
      clear x0 x1
      go_loopw [29] (fun q wx => ∃ k : Nat, k ≤ rows.length ∧ q = .int .i64 k ∧ ∃ (A : Option Addr) (c : Nat) (cur : List BRow), cur.length ≤ k ∧ Hid (cur = keepR (isB i g) (rows.take k)) ∧
        Hp w wx [.box w.heap.size 25 [.slice Ar rows.length cr, .slice Ag gens.length cg], .box (w.heap.size + 1) 27 [.int .i64 i, .int .i64 g], .box (w.heap.size + 1 + 1) 25 [.slice none 0 0, .slice none 0 0], .box w1.heap.size 32 [.int .i64 0, .int .i64 f2], .box w3.heap.size 25 [.slice A cur.length c, .slice Ag gens.length cg], .own (.slice A cur.length c) 51 11 cur.length (cur.flatMap rowCells)]) (fun q _ => rows.length - (intOf q).toNat)
      case atStart => exact ⟨0, by omega, rfl, none, 0, [], by simp, Lib.hid (by simp [keepR]), H3⟩
      case round =>
        clear H2 H3
        obtain ⟨k, hk, rfl, A, c, cur, hcl, hcur, H⟩ := hrel
        by_cases hlt : k < rows.length
        · have hR1 : RdR wr w.heap.size Ar rows := Rd.under hr H.bel (Nat.le_refl _)
          obtain ⟨b1', off, rfl, hb1, hrow⟩ := hR1.at_ hlt
          have hkt := Lib.hid (@keepR_take (isB i g) rows k hlt)
          clear hR1
          have hxv := Lib.hid (fun l => flat_snoc l rows[k])
          obtain ⟨xo, hxo⟩ : ∃ xo, xo = rows[k] := ⟨_, rfl⟩
          rw [← hxo] at hkt hxv
          have hxi : isB i g xo = isB i g rows[k] := by rw [hxo]
          have hxc : rowCells xo = rowCells rows[k] := by rw [hxo]
          generalize rows[k] = x at *
          have i0 : (0 : Int) ≤ (k : Int) := by omega
          have i1 : (k : Int) < (rows.length : Int) := by omega
          obtain ⟨c0, c1, c2⟩ := hrow.head
          obtain ⟨idx, gen, has, vals, h8'⟩ := x
          obtain ⟨a0, a1, a2, a3, a4, a5, a6, a7, rfl⟩ := vals_eight h8'
          have v0 := hrow 3 (.int .i64 a0) rfl; have v1 := hrow 4 (.int .i64 a1) rfl; have v2 := hrow 5 (.int .i64 a2) rfl; have v3 := hrow 6 (.int .i64 a3) rfl; have v4 := hrow 7 (.int .i64 a4) rfl; have v5 := hrow 8 (.int .i64 a5) rfl; have v6 := hrow 9 (.int .i64 a6) rfl; have v7 := hrow 10 (.int .i64 a7) rfl
          simp only at c0 c1 c2
          have hxr : rowCells ⟨idx, gen, has, [a0, a1, a2, a3, a4, a5, a6, a7], h8'⟩ = [.int .i64 idx, .int .i64 gen, .int .i64 has, .int .i64 a0, .int .i64 a1, .int .i64 a2, .int .i64 a3, .int .i64 a4, .int .i64 a5, .int .i64 a6, .int .i64 a7] := rfl
          rw [hxr] at hxc
          have hneq : ∀ W, (binOp .neq 27 (.agg #[.int .i64 idx, .int .i64 gen]) (.agg #[.int .i64 i, .int .i64 g])).run Try.prog W = .ok (.bool (!isB i g xo)) W := fun W => by rw [hxi]; exact neBeing _ _ _ _ W
          replace hxc := Lib.hid hxc
          clear hrow hxr hxi hxo
          have H1 := H.new wr.heap.size rfl 51 [.int .i64 idx, .int .i64 gen, .int .i64 has, .int .i64 a0, .int .i64 a1, .int .i64 a2, .int .i64 a3, .int .i64 a4, .int .i64 a5, .int .i64 a6, .int .i64 a7]
          have e0 := H.cell 1 0 rfl rfl; have e1 := H.cell 1 1 rfl rfl; have le := H.lt 1 rfl
          go_upto_if 36 with fail
          obtain ⟨wa, hwa, H1⟩ := H1.name
          rw [hwa]
          have hga : wr.heap.size < wa.heap.size := H1.lt 6 rfl
          have hgw : w.heap.size ≤ wr.heap.size := H.bel.size
          generalize wr.heap.size = gx at *
          clear hwa c0 c1 c2 v0 v1 v2 v3 v4 v5 v6 v7 e0 e1 H hneq
          cases hB : isB i g xo
          · have hcur2 : Hid (cur ++ [xo] = keepR (isB i g) (rows.take (k + 1))) := Lib.hid (by rw [hkt.out, hB, ← hcur.out]; simp)
            have q0 := H1.cell 4 0 rfl rfl; have q1 := H1.cell 4 1 rfl rfl
            have f0 := H1.cell 6 0 rfl rfl; have f1 := H1.cell 6 1 rfl rfl; have f2 := H1.cell 6 2 rfl rfl; have f3 := H1.cell 6 3 rfl rfl; have f4 := H1.cell 6 4 rfl rfl; have f5 := H1.cell 6 5 rfl rfl; have f6 := H1.cell 6 6 rfl rfl; have f7 := H1.cell 6 7 rfl rfl; have f8 := H1.cell 6 8 rfl rfl; have f9 := H1.cell 6 9 rfl rfl; have f10 := H1.cell 6 10 rfl rfl
            have HN := H1.new wa.heap.size rfl 51 [.int .i64 idx, .int .i64 gen, .int .i64 has, .int .i64 a0, .int .i64 a1, .int .i64 a2, .int .i64 a3, .int .i64 a4, .int .i64 a5, .int .i64 a6, .int .i64 a7]
            go_wp2_with (at_builtin; refine wpList_append_own_at _ rfl _ _ 22 rfl w.heap.size 51 i0' (.agg #[.int .i64 0, .int .i64 0, .int .i64 0, .int .i64 0, .int .i64 0, .int .i64 0, .int .i64 0, .int .i64 0, .int .i64 0, .int .i64 0, .int .i64 0]) 11 88 Try.underlying22 hi0 hz0a hz0b hz0c rfl (by decide) _ _ _ rfl (HN.owns 5 rfl) ⟨wa.heap.size, 0, none⟩ 1 1 [.int .i64 idx, .int .i64 gen, .int .i64 has, .int .i64 a0, .int .i64 a1, .int .i64 a2, .int .i64 a3, .int .i64 a4, .int .i64 a5, .int .i64 a6, .int .i64 a7] rfl rfl ?c1 ?c2 ?c3 ?c4 ?c5 ?_; rotate_left 5; intro v' w7 hown7 hgrow7 _ hat7; have H8 := HN.app 5 rfl hgrow7 hown7 (hat7.imp id (fun e g hg => by rw [e] at hg; injection hg with hg; omega)); have z0 := H8.cell 4 0 rfl rfl; have z1 := H8.cell 4 1 rfl rfl; have z2 := H8.frozen 4 1 rfl; have z3 := H8.frozen 4 0 rfl; obtain ⟨A3, c3, rfl, hs1, hs2⟩ := own_shape hown7)
            case c1 => exact news_blk (HN.blk 7 rfl)
            case c2 => simp [Value.oneCell']
            case c3 => unfold maxLen; omega
            case c4 => omega
            case c5 => exact HN.bel.size
            go_roundw
            have hl : (cur ++ [xo]).length = cur.length + 1 := by simp
            case rel =>
              refine ⟨k + 1, by omega, by go_num, A3, c3, cur ++ [xo], by omega, hcur2, ?_⟩
              rw [hl, hxv.out, hxc.out]
              exact ((H8.set 4 0 (.slice A3 (cur.length + 1) c3) rfl).drop1 7).drop1 6
            case measure => simp [intOf]; omega
          · have hcur2 : Hid (cur = keepR (isB i g) (rows.take (k + 1))) := Lib.hid (by rw [hkt.out, hB, ← hcur.out]; simp)
            go_wp2_with fail
            go_roundw
            case rel => exact ⟨k + 1, by omega, by go_num, A, c, cur, by omega, hcur2, H1.drop1 6⟩
            case measure => simp [intOf]; omega
        · obtain rfl : k = rows.length := by omega
          rw [List.take_length] at hcur
          have q0 := H.cell 4 0 rfl rfl; have q1 := H.cell 4 1 rfl rfl; have y0 := H.frozen 2 0 rfl; have y1 := H.frozen 2 1 rfl; have y2 := H.cell 2 0 rfl rfl; have y3 := H.cell 2 1 rfl rfl
          have H9 := (H.set 2 0 (.slice A cur.length c) rfl).set 2 1 (.slice Ag gens.length cg) rfl
          have p0 := H9.cell 2 0 rfl rfl; have p1 := H9.cell 2 1 rfl rfl
          go_wp2_with fail
          refine bodyPost_ret (v := .tuple #[.agg #[.slice A cur.length c, .slice Ag gens.length cg], .int .i64 0]) (by simp [results, Try.results20, go_sem, p0, p1]) rfl ⟨_, by rw [hE.out], by rw [hE.out]; dsimp only; rw [← hcur.out]; exact ⟨_, _, _, _, rfl, H9.rd 5 rfl, H9.old hg, own_afar (H9.owns 5 rfl) B, rd_afar hgB _⟩, H9.bel⟩

set_option maxRecDepth 20000 in
set_option maxHeartbeats 12800000 in
theorem rput_any (rows : List BRow) (gens : List Int) (Ar : Option Addr) (cr : Nat) (Ag : Option Addr) (cg : Nat) (i g part n : Int) (hlr : rows.length ≤ 9223372036854775807) (B : Nat)
    (w : World) (hr : RdR w w.heap.size Ar rows) (hg : RdG w w.heap.size Ag gens) (hgB : RdG w B Ag gens) :
    Calls Try.prog 22 #[.agg #[.slice Ar rows.length cr, .slice Ag gens.length cg], .agg #[.int .i64 i, .int .i64 g], .int .i64 part, .int .i64 n] w fun e w' =>
      ∃ v, e = .returned (.tuple #[v, .int .i64 (putV rows gens i g part n).err]) ∧ GotR B w.heap.size w' v (putV rows gens i g part n).rows (putV rows gens i g part n).gens ∧ Below w.heap.size w w' := by
  have H0 := (((Hp.start w).new w.heap.size rfl 25 [.slice Ar rows.length cr, .slice Ag gens.length cg]).new (w.heap.size + 1) (by simp) 27 [.int .i64 i, .int .i64 g]).new (w.heap.size + 1 + 1) (by simp) 25 [.slice none 0 0, .slice none 0 0]
  go_enter Try.func22, Try.ntmps22
  go_wp2_with fail
  obtain ⟨w0, hw0, H0⟩ := H0.name
  rw [hw0]; clear hw0
  refine (rwrong2_any rows gens Ar cr Ag cg hlr w0 (H0.old hr) (H0.old hg)).mono ?_
  rintro e w1 ⟨rfl, hb1⟩
  replace H0 := H0.grow hb1
  clear hb1
  by_cases hf : (worldErr ⟨rows, gens⟩).1 = 0
  case neg =>
    have hf' : ((worldErr ⟨rows, gens⟩).1 != 0) = true := by simpa using hf
    have hE : Hid (putV rows gens i g part n = ⟨[], [], (worldErr ⟨rows, gens⟩).1⟩) := Lib.hid (change_wrong i g (putF part n) hf)
    generalize worldErr ⟨rows, gens⟩ = F' at *
    obtain ⟨f1, f2⟩ := F'
    dsimp only at hf hf' hE ⊢
    have H2 := H0.new w1.heap.size rfl 32 [.int .i64 f1, .int .i64 f2]
    clear H0
    go_upto_region 3 with fail
    obtain ⟨w2, hw2, H2⟩ := H2.name
    rw [hw2]; clear hw2
    have n13 := H2.ne 2 3 rfl rfl (by omega); have n31 := n13.symm
    have q0 := H2.cell 2 0 rfl rfl; have q1 := H2.cell 2 1 rfl rfl
    have y0 := H2.frozen 2 0 rfl; have y1 := H2.frozen 2 1 rfl
    have c0 := H2.cell 3 0 rfl rfl
    go_region_held3 (fun w' => w'.cell? ⟨w1.heap.size, 0, none⟩ = some (.int .i64 f1)) (go_keep) (fail)
    have H4 := ((H2.set 2 0 (.slice none 0 0) rfl).set 2 1 (.slice none 0 0) rfl).drew
    have p0 := H4.cell 2 0 rfl rfl; have p1 := H4.cell 2 1 rfl rfl
    go_wp2_with fail
    refine bodyPost_ret (v := .tuple #[.agg #[.slice none 0 0, .slice none 0 0], .int .i64 f1]) (by simp [results, Try.results22, go_sem, p0, p1]) rfl ⟨_, by rw [hE.out], by rw [hE.out]; exact GotR.zero _ _ _, H4.bel⟩
  case pos =>
    have hrw := (right_iff rows gens).1 hf
    have hl60 := hrw.lens2
    rw [hf]
    generalize (worldErr ⟨rows, gens⟩).2 = f2 at *
    have H2 := H0.new w1.heap.size rfl 32 [.int .i64 0, .int .i64 f2]
    have x0 := H0.cell 0 0 rfl rfl; have x1 := H0.cell 0 1 rfl rfl; have b0 := H0.cell 1 0 rfl rfl; have b1 := H0.cell 1 1 rfl rfl
    have l0 := H0.lt 0 rfl; have l1 := H0.lt 1 rfl
    clear H0 hf
    go_wp2_with fail
    obtain ⟨w2, hw2, H2⟩ := H2.name
    rw [hw2]; clear hw2
    refine (rrow_any rows gens Ar cr Ag cg i g hlr w2 (H2.old hr)).mono ?_
    rintro e w3 ⟨⟨v, rfl, hv⟩, hb3⟩
    replace H2 := H2.grow hb3
    clear x0 x1 b0 b1 l0 l1
    cases hro : rowOf i g rows with
    | none =>
      rw [hro] at hv
      obtain rfl : v = .pointer none := hv
      have hE : Hid (putV rows gens i g part n = ⟨[], [], 5⟩) := Lib.hid (change_none (putF part n) hrw hro)
      have q0 := H2.cell 2 0 rfl rfl; have q1 := H2.cell 2 1 rfl rfl; have y0 := H2.frozen 2 0 rfl; have y1 := H2.frozen 2 1 rfl
      have H4 := (H2.set 2 0 (.slice none 0 0) rfl).set 2 1 (.slice none 0 0) rfl
      have p0 := H4.cell 2 0 rfl rfl; have p1 := H4.cell 2 1 rfl rfl
      go_wp2_with fail
      refine bodyPost_ret (v := .tuple #[.agg #[.slice none 0 0, .slice none 0 0], .int .i64 5]) (by simp [results, Try.results22, go_sem, p0, p1]) rfl ⟨_, by rw [hE.out], by rw [hE.out]; exact GotR.zero _ _ _, H4.bel⟩
    | some r =>
      rw [hro] at hv
      obtain ⟨pb, po, rfl, hpb, hrow⟩ := hv
      have hsp := Lib.hid (change_some (putF part n) hrw hro (putF_ok part n))
      have hset := hrw.set_ r ((rowOf_some_iff hrw.rise).1 hro).1
      replace hrow := hrow.below hb3 hpb
      have hb3' := hb3
      clear hb3 hro hrw
      obtain ⟨c0, c1, c2⟩ := hrow.head
      obtain ⟨idx, gen, has, vals, h8⟩ := r
      obtain ⟨a0, a1, a2, a3, a4, a5, a6, a7, rfl⟩ := vals_eight h8
      have v0 := hrow 3 (.int .i64 a0) rfl; have v1 := hrow 4 (.int .i64 a1) rfl; have v2 := hrow 5 (.int .i64 a2) rfl; have v3 := hrow 6 (.int .i64 a3) rfl; have v4 := hrow 7 (.int .i64 a4) rfl; have v5 := hrow 8 (.int .i64 a5) rfl; have v6 := hrow 9 (.int .i64 a6) rfl; have v7 := hrow 10 (.int .i64 a7) rfl
      simp only at c0 c1 c2 hset
      clear hrow
      have hp3 : Hid (isPart part = false ∨ isVal n = false → putV rows gens i g part n = ⟨[], [], 3⟩) := Lib.hid (fun h => by
        have hc : ¬ (isPart part && isVal n) = true := by
          rw [Bool.and_eq_true]
          rintro ⟨h1, h2⟩
          rcases h with h | h <;> simp_all
        have := hsp.out
        unfold putV
        unfold putF at this ⊢
        rw [if_neg hc] at this
        exact this)
      by_cases h1 : part < 0
      · have hE : Hid (putV rows gens i g part n = ⟨[], [], 3⟩) := Lib.hid (hp3.out (.inl (isPart_false.2 (.inl h1))))
        have q0 := H2.cell 2 0 rfl rfl; have q1 := H2.cell 2 1 rfl rfl; have y0 := H2.frozen 2 0 rfl; have y1 := H2.frozen 2 1 rfl
        have H4 := (H2.set 2 0 (.slice none 0 0) rfl).set 2 1 (.slice none 0 0) rfl
        have p0 := H4.cell 2 0 rfl rfl; have p1 := H4.cell 2 1 rfl rfl
        go_wp2_with fail
        refine bodyPost_ret (v := .tuple #[.agg #[.slice none 0 0, .slice none 0 0], .int .i64 3]) (by simp [results, Try.results22, go_sem, p0, p1]) rfl ⟨_, by rw [hE.out], by rw [hE.out]; exact GotR.zero _ _ _, H4.bel⟩
      by_cases h2 : 7 < part
      · have hE : Hid (putV rows gens i g part n = ⟨[], [], 3⟩) := Lib.hid (hp3.out (.inl (isPart_false.2 (.inr (by omega)))))
        have q0 := H2.cell 2 0 rfl rfl; have q1 := H2.cell 2 1 rfl rfl; have y0 := H2.frozen 2 0 rfl; have y1 := H2.frozen 2 1 rfl
        have H4 := (H2.set 2 0 (.slice none 0 0) rfl).set 2 1 (.slice none 0 0) rfl
        have p0 := H4.cell 2 0 rfl rfl; have p1 := H4.cell 2 1 rfl rfl
        go_wp2_with fail
        refine bodyPost_ret (v := .tuple #[.agg #[.slice none 0 0, .slice none 0 0], .int .i64 3]) (by simp [results, Try.results22, go_sem, p0, p1]) rfl ⟨_, by rw [hE.out], by rw [hE.out]; exact GotR.zero _ _ _, H4.bel⟩
      obtain ⟨q, rfl⟩ := nat_of (n := part) (by omega)
      have hq8 : q < 8 := by omega
      have q0' : (0 : Int) ≤ (q : Int) := by omega
      have q8' : (q : Int) < 8 := by omega
      go_wp2_with fail
      refine (rvalue_any n w3).mono ?_
      rintro e w4 ⟨rfl, rfl⟩
      cases hv2 : isVal n
      · have hE : Hid (putV rows gens i g (q : Int) n = ⟨[], [], 3⟩) := Lib.hid (hp3.out (.inr hv2))
        have q0 := H2.cell 2 0 rfl rfl; have q1 := H2.cell 2 1 rfl rfl; have y0 := H2.frozen 2 0 rfl; have y1 := H2.frozen 2 1 rfl
        have H4 := (H2.set 2 0 (.slice none 0 0) rfl).set 2 1 (.slice none 0 0) rfl
        have p0 := H4.cell 2 0 rfl rfl; have p1 := H4.cell 2 1 rfl rfl
        go_wp2_with fail
        refine bodyPost_ret (v := .tuple #[.agg #[.slice none 0 0, .slice none 0 0], .int .i64 3]) (by simp [results, Try.results22, go_sem, p0, p1]) rfl ⟨_, by rw [hE.out], by rw [hE.out]; exact GotR.zero _ _ _, H4.bel⟩
      clear hp3
      have hms := isSet_iff.1 hset
      obtain ⟨m, rfl⟩ := nat_of (n := has) hms.1
      have hm : m < 256 := by omega
      have hspec : ∀ (hs' : Int) (vs : List Int), hs' = withS (m : Int) (q : Int) → ∀ (e : [a0, a1, a2, a3, a4, a5, a6, a7].set q n = vs), putV rows gens i g (q : Int) n = ⟨withV ⟨idx, gen, hs', vs, by rw [← e]; simp⟩ rows, gens, 0⟩ := by
        rintro hs' vs rfl rfl
        have hc : (isPart (q : Int) && isVal n) = true := by rw [isPart_iff.2 ⟨by omega, by omega⟩, hv2]; rfl
        have := hsp.out
        unfold putV
        unfold putF at this ⊢
        rw [if_pos hc] at this
        exact this
      replace hspec := Lib.hid hspec
      clear hsp hset hms
      have H3 := H2.new w3.heap.size rfl 51 [.int .i64 idx, .int .i64 gen, .int .i64 (m : Int), .int .i64 a0, .int .i64 a1, .int .i64 a2, .int .i64 a3, .int .i64 a4, .int .i64 a5, .int .i64 a6, .int .i64 a7]
      go_wp2_with fail
      obtain ⟨w4, hw4, H3⟩ := H3.name
      rw [hw4]; clear hw4
      refine (rbits_any m hm w4).mono ?_
      rintro e w5 ⟨rfl, hb5⟩
      replace H3 := H3.grow hb5
      have hbv : bitsV m = .agg #[.bool (tb m 0), .bool (tb m 1), .bool (tb m 2), .bool (tb m 3), .bool (tb m 4), .bool (tb m 5), .bool (tb m 6), .bool (tb m 7)] := rfl
      rw [hbv]
      clear hb5 hbv c0 c1 c2 v0 v1 v2 v3 v4 v5 v6 v7
      have H4 := H3.new w5.heap.size rfl 107 [.bool (tb m 0), .bool (tb m 1), .bool (tb m 2), .bool (tb m 3), .bool (tb m 4), .bool (tb m 5), .bool (tb m 6), .bool (tb m 7)]
      clear H3
      go_upto_region 11 with fail
      obtain ⟨w6, hw6, H4⟩ := H4.name
      rw [hw6]; clear hw6
      have z0 := H4.frozen 5 q rfl
      obtain ⟨u4, hu4⟩ : ∃ u, ([.bool (tb m 0), .bool (tb m 1), .bool (tb m 2), .bool (tb m 3), .bool (tb m 4), .bool (tb m 5), .bool (tb m 6), .bool (tb m 7)] : List Value)[q]? = some u := ⟨_, List.getElem?_eq_getElem (by simp; omega)⟩
      have z1 := H4.cell 5 q rfl hu4
      clear hu4
      have H5 : Hp w (w6.setCell ⟨w5.heap.size, q, none⟩ (.bool true)) ([.box w.heap.size 25 [.slice Ar rows.length cr, .slice Ag gens.length cg], .box (w.heap.size + 1) 27 [.int .i64 i, .int .i64 g], .box (w.heap.size + 1 + 1) 25 [.slice none 0 0, .slice none 0 0], .box w1.heap.size 32 [.int .i64 0, .int .i64 f2], .box w3.heap.size 51 [.int .i64 idx, .int .i64 gen, .int .i64 (m : Int), .int .i64 a0, .int .i64 a1, .int .i64 a2, .int .i64 a3, .int .i64 a4, .int .i64 a5, .int .i64 a6, .int .i64 a7], .box w5.heap.size 107 [.bool (putB m (q : Int) true 0), .bool (putB m (q : Int) true 1), .bool (putB m (q : Int) true 2), .bool (putB m (q : Int) true 3), .bool (putB m (q : Int) true 4), .bool (putB m (q : Int) true 5), .bool (putB m (q : Int) true 6), .bool (putB m (q : Int) true 7)]]) := by
        have := H4.set 5 q (.bool true) rfl
        rw [set_bits m hq8] at this
        exact this
      have g0 := H5.cell 5 0 rfl rfl; have g1 := H5.cell 5 1 rfl rfl; have g2 := H5.cell 5 2 rfl rfl; have g3 := H5.cell 5 3 rfl rfl; have g4 := H5.cell 5 4 rfl rfl; have g5 := H5.cell 5 5 rfl rfl; have g6 := H5.cell 5 6 rfl rfl; have g7 := H5.cell 5 7 rfl rfl
      go_upto_region 12 with fail
      obtain ⟨w7, hw7, H5⟩ := H5.name
      rw [hw7] at g0 g1 g2 g3 g4 g5 g6 g7 ⊢
      clear hw7 z0 z1
      go_wp2_with fail
      refine (num_true hm (q : Int) w7).mono ?_
      rintro e w8 ⟨rfl, hb8⟩
      replace H5 := H5.grow hb8
      clear hb8 g0 g1 g2 g3 g4 g5 g6 g7
      obtain ⟨hs', hhs⟩ : ∃ hs', hs' = withS (m : Int) (q : Int) := ⟨_, rfl⟩
      rw [← hhs]
      replace hhs := Lib.hid hhs
      obtain ⟨b0, b1, b2, b3, b4, b5, b6, b7, hvb⟩ := vals_eight (vs := [a0, a1, a2, a3, a4, a5, a6, a7].set q n) (by simp)
      have H6 : Hp w ((w8.setCell ⟨w3.heap.size, 2, none⟩ (.int .i64 hs')).setCell ⟨w3.heap.size, 3 + q, none⟩ (.int .i64 n)) ([.box w.heap.size 25 [.slice Ar rows.length cr, .slice Ag gens.length cg], .box (w.heap.size + 1) 27 [.int .i64 i, .int .i64 g], .box (w.heap.size + 1 + 1) 25 [.slice none 0 0, .slice none 0 0], .box w1.heap.size 32 [.int .i64 0, .int .i64 f2], .box w3.heap.size 51 [.int .i64 idx, .int .i64 gen, .int .i64 hs', .int .i64 b0, .int .i64 b1, .int .i64 b2, .int .i64 b3, .int .i64 b4, .int .i64 b5, .int .i64 b6, .int .i64 b7], .box w5.heap.size 107 [.bool (putB m (q : Int) true 0), .bool (putB m (q : Int) true 1), .bool (putB m (q : Int) true 2), .bool (putB m (q : Int) true 3), .bool (putB m (q : Int) true 4), .bool (putB m (q : Int) true 5), .bool (putB m (q : Int) true 6), .bool (putB m (q : Int) true 7)]]) := by
        have h := (H5.set 4 2 (.int .i64 hs') rfl).set 4 (3 + q) (.int .i64 n) rfl
        have e : (([.int .i64 idx, .int .i64 gen, .int .i64 (m : Int), .int .i64 a0, .int .i64 a1, .int .i64 a2, .int .i64 a3, .int .i64 a4, .int .i64 a5, .int .i64 a6, .int .i64 a7] : List Value).set 2 (.int .i64 hs')).set (3 + q) (.int .i64 n) = [.int .i64 idx, .int .i64 gen, .int .i64 hs', .int .i64 b0, .int .i64 b1, .int .i64 b2, .int .i64 b3, .int .i64 b4, .int .i64 b5, .int .i64 b6, .int .i64 b7] := by
          have := rowL_set idx gen hs' [a0, a1, a2, a3, a4, a5, a6, a7] q n
          rw [hvb] at this
          exact this
        rw [e] at h
        exact h
      have y0 := H5.frozen 4 2 rfl; have y1 := H5.frozen 4 (3 + q) rfl; have y2 := H5.cell 4 2 rfl rfl
      obtain ⟨u3, hu3⟩ : ∃ u, ([.int .i64 idx, .int .i64 gen, .int .i64 (m : Int), .int .i64 a0, .int .i64 a1, .int .i64 a2, .int .i64 a3, .int .i64 a4, .int .i64 a5, .int .i64 a6, .int .i64 a7] : List Value)[3 + q]? = some u := ⟨_, List.getElem?_eq_getElem (by simp; omega)⟩
      have y3 := H5.cell 4 (3 + q) rfl hu3
      clear hu3
      replace hvb := Lib.hid hvb
      go_upto_region 13 with fail
      obtain ⟨w9, hw9, H6⟩ := H6.name
      rw [hw9]
      clear hw9 y0 y1 y2 y3 H4 H5
      have f0 := H6.cell 4 0 rfl rfl; have f1 := H6.cell 4 1 rfl rfl; have f2' := H6.cell 4 2 rfl rfl; have f3 := H6.cell 4 3 rfl rfl; have f4 := H6.cell 4 4 rfl rfl; have f5 := H6.cell 4 5 rfl rfl; have f6 := H6.cell 4 6 rfl rfl; have f7 := H6.cell 4 7 rfl rfl; have f8 := H6.cell 4 8 rfl rfl; have f9 := H6.cell 4 9 rfl rfl; have f10 := H6.cell 4 10 rfl rfl
      have x0 := H6.cell 0 0 rfl rfl; have x1 := H6.cell 0 1 rfl rfl
      go_wp2_with fail
      have hcall := rwith_any rows gens ⟨idx, gen, hs', [b0, b1, b2, b3, b4, b5, b6, b7], rfl⟩ Ar cr Ag cg (by omega) w9 (H6.old hr)
      have hrv : rowV ⟨idx, gen, hs', [b0, b1, b2, b3, b4, b5, b6, b7], rfl⟩ = .agg #[.int .i64 idx, .int .i64 gen, .int .i64 hs', .int .i64 b0, .int .i64 b1, .int .i64 b2, .int .i64 b3, .int .i64 b4, .int .i64 b5, .int .i64 b6, .int .i64 b7] := rfl
      rw [hrv] at hcall
      refine hcall.mono ?_
      rintro e w10 ⟨⟨A, c, rfl, hown⟩, hb10⟩
      have hwv : Hid (putV rows gens i g (q : Int) n = ⟨withV ⟨idx, gen, hs', [b0, b1, b2, b3, b4, b5, b6, b7], rfl⟩ rows, gens, 0⟩) := Lib.hid (hspec.out hs' _ hhs.out (by rw [hvb.out]))
      clear hcall hrv
      generalize withV ⟨idx, gen, hs', [b0, b1, b2, b3, b4, b5, b6, b7], rfl⟩ rows = R2 at *
      have H7 := H6.got hb10 hown
      clear H6 hb10 hown f0 f1 f2' f3 f4 f5 f6 f7 f8 f9 f10 x0 x1
      have y0 := H7.frozen 2 0 rfl; have y1 := H7.frozen 2 1 rfl; have y2 := H7.cell 2 0 rfl rfl; have y3 := H7.cell 2 1 rfl rfl
      have H9 := (H7.set 2 0 (.slice A R2.length c) rfl).set 2 1 (.slice Ag gens.length cg) rfl
      have p0 := H9.cell 2 0 rfl rfl; have p1 := H9.cell 2 1 rfl rfl
      go_wp2_with fail
      refine bodyPost_ret (v := .tuple #[.agg #[.slice A R2.length c, .slice Ag gens.length cg], .int .i64 0]) (by simp [results, Try.results22, go_sem, p0, p1]) rfl ⟨_, by rw [hwv.out], by rw [hwv.out]; exact ⟨_, _, _, _, rfl, H9.rd 6 rfl, H9.old hg, own_afar (H9.owns 6 rfl) B, rd_afar hgB _⟩, H9.bel⟩

set_option maxRecDepth 20000 in
set_option maxHeartbeats 12800000 in
theorem rdrop_any (rows : List BRow) (gens : List Int) (Ar : Option Addr) (cr : Nat) (Ag : Option Addr) (cg : Nat) (i g part : Int) (hlr : rows.length ≤ 9223372036854775807) (B : Nat)
    (w : World) (hr : RdR w w.heap.size Ar rows) (hg : RdG w w.heap.size Ag gens) (hgB : RdG w B Ag gens) :
    Calls Try.prog 24 #[.agg #[.slice Ar rows.length cr, .slice Ag gens.length cg], .agg #[.int .i64 i, .int .i64 g], .int .i64 part] w fun e w' =>
      ∃ v, e = .returned (.tuple #[v, .int .i64 (dropV rows gens i g part).err]) ∧ GotR B w.heap.size w' v (dropV rows gens i g part).rows (dropV rows gens i g part).gens ∧ Below w.heap.size w w' := by
  have H0 := (((Hp.start w).new w.heap.size rfl 25 [.slice Ar rows.length cr, .slice Ag gens.length cg]).new (w.heap.size + 1) (by simp) 27 [.int .i64 i, .int .i64 g]).new (w.heap.size + 1 + 1) (by simp) 25 [.slice none 0 0, .slice none 0 0]
  go_enter Try.func24, Try.ntmps24
  go_wp2_with fail
  obtain ⟨w0, hw0, H0⟩ := H0.name
  rw [hw0]; clear hw0
  refine (rwrong2_any rows gens Ar cr Ag cg hlr w0 (H0.old hr) (H0.old hg)).mono ?_
  rintro e w1 ⟨rfl, hb1⟩
  replace H0 := H0.grow hb1
  clear hb1
  by_cases hf : (worldErr ⟨rows, gens⟩).1 = 0
  case neg =>
    have hf' : ((worldErr ⟨rows, gens⟩).1 != 0) = true := by simpa using hf
    have hE : Hid (dropV rows gens i g part = ⟨[], [], (worldErr ⟨rows, gens⟩).1⟩) := Lib.hid (change_wrong i g (dropF part) hf)
    generalize worldErr ⟨rows, gens⟩ = F' at *
    obtain ⟨f1, f2⟩ := F'
    dsimp only at hf hf' hE ⊢
    have H2 := H0.new w1.heap.size rfl 32 [.int .i64 f1, .int .i64 f2]
    clear H0
    go_upto_region 3 with fail
    obtain ⟨w2, hw2, H2⟩ := H2.name
    rw [hw2]; clear hw2
    have n13 := H2.ne 2 3 rfl rfl (by omega); have n31 := n13.symm
    have q0 := H2.cell 2 0 rfl rfl; have q1 := H2.cell 2 1 rfl rfl
    have y0 := H2.frozen 2 0 rfl; have y1 := H2.frozen 2 1 rfl
    have c0 := H2.cell 3 0 rfl rfl
    go_region_held3 (fun w' => w'.cell? ⟨w1.heap.size, 0, none⟩ = some (.int .i64 f1)) (go_keep) (fail)
    have H4 := ((H2.set 2 0 (.slice none 0 0) rfl).set 2 1 (.slice none 0 0) rfl).drew
    have p0 := H4.cell 2 0 rfl rfl; have p1 := H4.cell 2 1 rfl rfl
    go_wp2_with fail
    refine bodyPost_ret (v := .tuple #[.agg #[.slice none 0 0, .slice none 0 0], .int .i64 f1]) (by simp [results, Try.results24, go_sem, p0, p1]) rfl ⟨_, by rw [hE.out], by rw [hE.out]; exact GotR.zero _ _ _, H4.bel⟩
  case pos =>
    have hrw := (right_iff rows gens).1 hf
    have hl60 := hrw.lens2
    rw [hf]
    generalize (worldErr ⟨rows, gens⟩).2 = f2 at *
    have H2 := H0.new w1.heap.size rfl 32 [.int .i64 0, .int .i64 f2]
    have x0 := H0.cell 0 0 rfl rfl; have x1 := H0.cell 0 1 rfl rfl; have b0 := H0.cell 1 0 rfl rfl; have b1 := H0.cell 1 1 rfl rfl
    have l0 := H0.lt 0 rfl; have l1 := H0.lt 1 rfl
    clear H0 hf
    go_wp2_with fail
    obtain ⟨w2, hw2, H2⟩ := H2.name
    rw [hw2]; clear hw2
    refine (rrow_any rows gens Ar cr Ag cg i g hlr w2 (H2.old hr)).mono ?_
    rintro e w3 ⟨⟨v, rfl, hv⟩, hb3⟩
    replace H2 := H2.grow hb3
    clear x0 x1 b0 b1 l0 l1
    cases hro : rowOf i g rows with
    | none =>
      rw [hro] at hv
      obtain rfl : v = .pointer none := hv
      have hE : Hid (dropV rows gens i g part = ⟨[], [], 5⟩) := Lib.hid (change_none (dropF part) hrw hro)
      have q0 := H2.cell 2 0 rfl rfl; have q1 := H2.cell 2 1 rfl rfl; have y0 := H2.frozen 2 0 rfl; have y1 := H2.frozen 2 1 rfl
      have H4 := (H2.set 2 0 (.slice none 0 0) rfl).set 2 1 (.slice none 0 0) rfl
      have p0 := H4.cell 2 0 rfl rfl; have p1 := H4.cell 2 1 rfl rfl
      go_wp2_with fail
      refine bodyPost_ret (v := .tuple #[.agg #[.slice none 0 0, .slice none 0 0], .int .i64 5]) (by simp [results, Try.results24, go_sem, p0, p1]) rfl ⟨_, by rw [hE.out], by rw [hE.out]; exact GotR.zero _ _ _, H4.bel⟩
    | some r =>
      rw [hro] at hv
      obtain ⟨pb, po, rfl, hpb, hrow⟩ := hv
      have hsp := Lib.hid (change_some (dropF part) hrw hro (dropF_ok part))
      have hset := hrw.set_ r ((rowOf_some_iff hrw.rise).1 hro).1
      replace hrow := hrow.below hb3 hpb
      have hb3' := hb3
      clear hb3 hro hrw
      obtain ⟨c0, c1, c2⟩ := hrow.head
      obtain ⟨idx, gen, has, vals, h8⟩ := r
      obtain ⟨a0, a1, a2, a3, a4, a5, a6, a7, rfl⟩ := vals_eight h8
      have v0 := hrow 3 (.int .i64 a0) rfl; have v1 := hrow 4 (.int .i64 a1) rfl; have v2 := hrow 5 (.int .i64 a2) rfl; have v3 := hrow 6 (.int .i64 a3) rfl; have v4 := hrow 7 (.int .i64 a4) rfl; have v5 := hrow 8 (.int .i64 a5) rfl; have v6 := hrow 9 (.int .i64 a6) rfl; have v7 := hrow 10 (.int .i64 a7) rfl
      simp only at c0 c1 c2 hset
      clear hrow
      go_wp2_with fail
      refine (rhas_any has part hset w3).mono ?_
      rintro e w4 ⟨rfl, hb4⟩
      replace H2 := H2.grow hb4
      have hpb3 : pb < w3.heap.size := by have := hb3'.size; omega
      have d0 := (hb4.cell (p := ⟨pb, po, none⟩) hpb3).trans c0; have d1 := (hb4.cell (p := ⟨pb, po + 1, none⟩) hpb3).trans c1; have d2 := (hb4.cell (p := ⟨pb, po + 2, none⟩) hpb3).trans c2
      have u0 := (hb4.cell (p := ⟨pb, po + 3, none⟩) hpb3).trans v0; have u1 := (hb4.cell (p := ⟨pb, po + 4, none⟩) hpb3).trans v1; have u2 := (hb4.cell (p := ⟨pb, po + 5, none⟩) hpb3).trans v2; have u3 := (hb4.cell (p := ⟨pb, po + 6, none⟩) hpb3).trans v3; have u4 := (hb4.cell (p := ⟨pb, po + 7, none⟩) hpb3).trans v4; have u5 := (hb4.cell (p := ⟨pb, po + 8, none⟩) hpb3).trans v5; have u6 := (hb4.cell (p := ⟨pb, po + 9, none⟩) hpb3).trans v6; have u7 := (hb4.cell (p := ⟨pb, po + 10, none⟩) hpb3).trans v7
      clear c0 c1 c2 v0 v1 v2 v3 v4 v5 v6 v7 hb4
      have c0 := d0; have c1 := d1; have c2 := d2; have v0 := u0; have v1 := u1; have v2 := u2; have v3 := u3; have v4 := u4; have v5 := u5; have v6 := u6; have v7 := u7
      clear d0 d1 d2 u0 u1 u2 u3 u4 u5 u6 u7
      clear hpb hb3'
      obtain ⟨w3', hw3'⟩ : ∃ w3' : World, w3' = w4 := ⟨_, rfl⟩
      cases hB : hasB has part
      · have hE : Hid (dropV rows gens i g part = ⟨[], [], 5⟩) := Lib.hid (by
          have hd : (dropF part ⟨idx, gen, has, [a0, a1, a2, a3, a4, a5, a6, a7], h8⟩) = (⟨idx, gen, has, [a0, a1, a2, a3, a4, a5, a6, a7], h8⟩, 5) := by
            unfold dropF
            rw [if_neg (by dsimp only; rw [hB]; simp)]
          have h := hsp.out
          rw [hd, if_pos (show (5 : Int) ≠ 0 by decide)] at h
          exact h)
        have q0 := H2.cell 2 0 rfl rfl; have q1 := H2.cell 2 1 rfl rfl; have y0 := H2.frozen 2 0 rfl; have y1 := H2.frozen 2 1 rfl
        have H4 := (H2.set 2 0 (.slice none 0 0) rfl).set 2 1 (.slice none 0 0) rfl
        have p0 := H4.cell 2 0 rfl rfl; have p1 := H4.cell 2 1 rfl rfl
        go_wp2_with fail
        refine bodyPost_ret (v := .tuple #[.agg #[.slice none 0 0, .slice none 0 0], .int .i64 5]) (by simp [results, Try.results24, go_sem, p0, p1]) rfl ⟨_, by rw [hE.out], by rw [hE.out]; exact GotR.zero _ _ _, H4.bel⟩
      have hp : isPart part = true := by have h := hB; unfold hasB at h; rw [Bool.and_eq_true] at h; exact h.1
      have hpi := isPart_iff.1 hp
      obtain ⟨q, rfl⟩ := nat_of (n := part) hpi.1
      have hq8 : q < 8 := by omega
      have q0' : (0 : Int) ≤ (q : Int) := by omega
      have q8' : (q : Int) < 8 := by omega
      have hms := isSet_iff.1 hset
      obtain ⟨m, rfl⟩ := nat_of (n := has) hms.1
      have hm : m < 256 := by omega
      have hspec : ∀ (hs' : Int) (vs : List Int), hs' = withoutS (m : Int) (q : Int) → ∀ (e : [a0, a1, a2, a3, a4, a5, a6, a7].set q 0 = vs), dropV rows gens i g (q : Int) = ⟨withV ⟨idx, gen, hs', vs, by rw [← e]; simp⟩ rows, gens, 0⟩ := by
        rintro hs' vs rfl rfl
        have h := hsp.out
        unfold dropV
        unfold dropF at h ⊢
        rw [if_pos (show hasB (m : Int) (q : Int) = true from hB)] at h
        exact h
      replace hspec := Lib.hid hspec
      clear hsp hset hms hp hpi hpb3 w3' hw3'
      obtain ⟨w3', rfl⟩ : ∃ w3' : World, w3' = w4 := ⟨_, rfl⟩
      have H3 := H2.new w3'.heap.size rfl 51 [.int .i64 idx, .int .i64 gen, .int .i64 (m : Int), .int .i64 a0, .int .i64 a1, .int .i64 a2, .int .i64 a3, .int .i64 a4, .int .i64 a5, .int .i64 a6, .int .i64 a7]
      go_wp2_with fail
      obtain ⟨w4, hw4, H3⟩ := H3.name
      rw [hw4]; clear hw4
      refine (rbits_any m hm w4).mono ?_
      rintro e w5 ⟨rfl, hb5⟩
      replace H3 := H3.grow hb5
      have hbv : bitsV m = .agg #[.bool (tb m 0), .bool (tb m 1), .bool (tb m 2), .bool (tb m 3), .bool (tb m 4), .bool (tb m 5), .bool (tb m 6), .bool (tb m 7)] := rfl
      rw [hbv]
      clear hb5 hbv c0 c1 c2 v0 v1 v2 v3 v4 v5 v6 v7
      have H4 := H3.new w5.heap.size rfl 107 [.bool (tb m 0), .bool (tb m 1), .bool (tb m 2), .bool (tb m 3), .bool (tb m 4), .bool (tb m 5), .bool (tb m 6), .bool (tb m 7)]
      clear H3
      go_upto_region 9 with fail
      obtain ⟨w6, hw6, H4⟩ := H4.name
      rw [hw6]; clear hw6
      have z0 := H4.frozen 5 q rfl
      obtain ⟨u4, hu4⟩ : ∃ u, ([.bool (tb m 0), .bool (tb m 1), .bool (tb m 2), .bool (tb m 3), .bool (tb m 4), .bool (tb m 5), .bool (tb m 6), .bool (tb m 7)] : List Value)[q]? = some u := ⟨_, List.getElem?_eq_getElem (by simp; omega)⟩
      have z1 := H4.cell 5 q rfl hu4
      clear hu4
      have H5 : Hp w (w6.setCell ⟨w5.heap.size, q, none⟩ (.bool false)) ([.box w.heap.size 25 [.slice Ar rows.length cr, .slice Ag gens.length cg], .box (w.heap.size + 1) 27 [.int .i64 i, .int .i64 g], .box (w.heap.size + 1 + 1) 25 [.slice none 0 0, .slice none 0 0], .box w1.heap.size 32 [.int .i64 0, .int .i64 f2], .box w3'.heap.size 51 [.int .i64 idx, .int .i64 gen, .int .i64 (m : Int), .int .i64 a0, .int .i64 a1, .int .i64 a2, .int .i64 a3, .int .i64 a4, .int .i64 a5, .int .i64 a6, .int .i64 a7], .box w5.heap.size 107 [.bool (putB m (q : Int) false 0), .bool (putB m (q : Int) false 1), .bool (putB m (q : Int) false 2), .bool (putB m (q : Int) false 3), .bool (putB m (q : Int) false 4), .bool (putB m (q : Int) false 5), .bool (putB m (q : Int) false 6), .bool (putB m (q : Int) false 7)]]) := by
        have := H4.set 5 q (.bool false) rfl
        rw [set_bits m hq8] at this
        exact this
      have g0 := H5.cell 5 0 rfl rfl; have g1 := H5.cell 5 1 rfl rfl; have g2 := H5.cell 5 2 rfl rfl; have g3 := H5.cell 5 3 rfl rfl; have g4 := H5.cell 5 4 rfl rfl; have g5 := H5.cell 5 5 rfl rfl; have g6 := H5.cell 5 6 rfl rfl; have g7 := H5.cell 5 7 rfl rfl
      go_upto_region 10 with fail
      obtain ⟨w7, hw7, H5⟩ := H5.name
      rw [hw7] at g0 g1 g2 g3 g4 g5 g6 g7 ⊢
      clear hw7 z0 z1
      go_wp2_with fail
      refine (num_false hm (q : Int) w7).mono ?_
      rintro e w8 ⟨rfl, hb8⟩
      replace H5 := H5.grow hb8
      clear hb8 g0 g1 g2 g3 g4 g5 g6 g7
      obtain ⟨hs', hhs⟩ : ∃ hs', hs' = withoutS (m : Int) (q : Int) := ⟨_, rfl⟩
      rw [← hhs]
      replace hhs := Lib.hid hhs
      obtain ⟨b0, b1, b2, b3, b4, b5, b6, b7, hvb⟩ := vals_eight (vs := [a0, a1, a2, a3, a4, a5, a6, a7].set q 0) (by simp)
      have H6 : Hp w ((w8.setCell ⟨w3'.heap.size, 2, none⟩ (.int .i64 hs')).setCell ⟨w3'.heap.size, 3 + q, none⟩ (.int .i64 0)) ([.box w.heap.size 25 [.slice Ar rows.length cr, .slice Ag gens.length cg], .box (w.heap.size + 1) 27 [.int .i64 i, .int .i64 g], .box (w.heap.size + 1 + 1) 25 [.slice none 0 0, .slice none 0 0], .box w1.heap.size 32 [.int .i64 0, .int .i64 f2], .box w3'.heap.size 51 [.int .i64 idx, .int .i64 gen, .int .i64 hs', .int .i64 b0, .int .i64 b1, .int .i64 b2, .int .i64 b3, .int .i64 b4, .int .i64 b5, .int .i64 b6, .int .i64 b7], .box w5.heap.size 107 [.bool (putB m (q : Int) false 0), .bool (putB m (q : Int) false 1), .bool (putB m (q : Int) false 2), .bool (putB m (q : Int) false 3), .bool (putB m (q : Int) false 4), .bool (putB m (q : Int) false 5), .bool (putB m (q : Int) false 6), .bool (putB m (q : Int) false 7)]]) := by
        have h := (H5.set 4 2 (.int .i64 hs') rfl).set 4 (3 + q) (.int .i64 0) rfl
        have e : (([.int .i64 idx, .int .i64 gen, .int .i64 (m : Int), .int .i64 a0, .int .i64 a1, .int .i64 a2, .int .i64 a3, .int .i64 a4, .int .i64 a5, .int .i64 a6, .int .i64 a7] : List Value).set 2 (.int .i64 hs')).set (3 + q) (.int .i64 0) = [.int .i64 idx, .int .i64 gen, .int .i64 hs', .int .i64 b0, .int .i64 b1, .int .i64 b2, .int .i64 b3, .int .i64 b4, .int .i64 b5, .int .i64 b6, .int .i64 b7] := by
          have := rowL_set idx gen hs' [a0, a1, a2, a3, a4, a5, a6, a7] q 0
          rw [hvb] at this
          exact this
        rw [e] at h
        exact h
      have y0 := H5.frozen 4 2 rfl; have y1 := H5.frozen 4 (3 + q) rfl; have y2 := H5.cell 4 2 rfl rfl
      obtain ⟨u3, hu3⟩ : ∃ u, ([.int .i64 idx, .int .i64 gen, .int .i64 (m : Int), .int .i64 a0, .int .i64 a1, .int .i64 a2, .int .i64 a3, .int .i64 a4, .int .i64 a5, .int .i64 a6, .int .i64 a7] : List Value)[3 + q]? = some u := ⟨_, List.getElem?_eq_getElem (by simp; omega)⟩
      have y3 := H5.cell 4 (3 + q) rfl hu3
      clear hu3
      replace hvb := Lib.hid hvb
      go_upto_region 11 with fail
      obtain ⟨w9, hw9, H6⟩ := H6.name
      rw [hw9]
      clear hw9 y0 y1 y2 y3 H4 H5
      have f0 := H6.cell 4 0 rfl rfl; have f1 := H6.cell 4 1 rfl rfl; have f2' := H6.cell 4 2 rfl rfl; have f3 := H6.cell 4 3 rfl rfl; have f4 := H6.cell 4 4 rfl rfl; have f5 := H6.cell 4 5 rfl rfl; have f6 := H6.cell 4 6 rfl rfl; have f7 := H6.cell 4 7 rfl rfl; have f8 := H6.cell 4 8 rfl rfl; have f9 := H6.cell 4 9 rfl rfl; have f10 := H6.cell 4 10 rfl rfl
      have x0 := H6.cell 0 0 rfl rfl; have x1 := H6.cell 0 1 rfl rfl
      go_wp2_with fail
      have hcall := rwith_any rows gens ⟨idx, gen, hs', [b0, b1, b2, b3, b4, b5, b6, b7], rfl⟩ Ar cr Ag cg (by omega) w9 (H6.old hr)
      have hrv : rowV ⟨idx, gen, hs', [b0, b1, b2, b3, b4, b5, b6, b7], rfl⟩ = .agg #[.int .i64 idx, .int .i64 gen, .int .i64 hs', .int .i64 b0, .int .i64 b1, .int .i64 b2, .int .i64 b3, .int .i64 b4, .int .i64 b5, .int .i64 b6, .int .i64 b7] := rfl
      rw [hrv] at hcall
      refine hcall.mono ?_
      rintro e w10 ⟨⟨A, c, rfl, hown⟩, hb10⟩
      have hwv : Hid (dropV rows gens i g (q : Int) = ⟨withV ⟨idx, gen, hs', [b0, b1, b2, b3, b4, b5, b6, b7], rfl⟩ rows, gens, 0⟩) := Lib.hid (hspec.out hs' _ hhs.out (by rw [hvb.out]))
      clear hcall hrv
      generalize withV ⟨idx, gen, hs', [b0, b1, b2, b3, b4, b5, b6, b7], rfl⟩ rows = R2 at *
      have H7 := H6.got hb10 hown
      clear H6 hb10 hown f0 f1 f2' f3 f4 f5 f6 f7 f8 f9 f10 x0 x1
      have y0 := H7.frozen 2 0 rfl; have y1 := H7.frozen 2 1 rfl; have y2 := H7.cell 2 0 rfl rfl; have y3 := H7.cell 2 1 rfl rfl
      have H9 := (H7.set 2 0 (.slice A R2.length c) rfl).set 2 1 (.slice Ag gens.length cg) rfl
      have p0 := H9.cell 2 0 rfl rfl; have p1 := H9.cell 2 1 rfl rfl
      go_wp2_with fail
      refine bodyPost_ret (v := .tuple #[.agg #[.slice A R2.length c, .slice Ag gens.length cg], .int .i64 0]) (by simp [results, Try.results24, go_sem, p0, p1]) rfl ⟨_, by rw [hwv.out], by rw [hwv.out]; exact ⟨_, _, _, _, rfl, H9.rd 6 rfl, H9.old hg, own_afar (H9.owns 6 rfl) B, rd_afar hgB _⟩, H9.bel⟩
end Go.Proofs.Ytefdblaolmckmab

namespace Go.Proofs.Ytefdblaolmckmab
open Go.RowKit
open Brood
set_option linter.unusedVariables false
set_option linter.unusedSimpArgs false

/-- The values of the parts below k. -/
def bvTo (m : Nat) (n : Int) (k : Nat) : List Int := (List.range 8).map fun j => if decide (j < k) && tb m j then n else 0
theorem bvTo_len (m : Nat) (n : Int) (k : Nat) : (bvTo m n k).length = 8 := by simp [bvTo]
theorem bvTo_get (m : Nat) (n : Int) (k : Nat) {j : Nat} (hj : j < 8) : (bvTo m n k).getD j 0 = if decide (j < k) && tb m j then n else 0 := by
  simp [bvTo, List.getD_eq_getElem?_getD, hj]
theorem list_eq8 {a b : List Int} (ha : a.length = 8) (hb : b.length = 8) (h : ∀ j, j < 8 → a.getD j 0 = b.getD j 0) : a = b := by
  refine List.ext_getElem (by omega) fun j h1 h2 => ?_
  have := h j (by omega)
  rwa [getD_get h1, getD_get h2] at this
theorem bvTo_zero (m : Nat) (n : Int) : bvTo m n 0 = zeros8 := by simp [bvTo, zeros8, List.range, List.range.loop]
theorem bvTo_yes (m : Nat) (n : Int) {k : Nat} (hk : k < 8) (h : tb m k = true) : bvTo m n (k + 1) = (bvTo m n k).set k n := by
  refine list_eq8 (bvTo_len _ _ _) (by rw [List.length_set]; exact bvTo_len _ _ _) fun j hj => ?_
  rw [bvTo_get _ _ _ hj]
  by_cases e : j = k
  · subst e
    simp [List.getD_eq_getElem?_getD, bvTo_len, hj, h]
  · have : ((bvTo m n k).set k n).getD j 0 = (bvTo m n k).getD j 0 := by
      simp only [List.getD_eq_getElem?_getD]
      rw [List.getElem?_set_ne (by omega)]
    rw [this, bvTo_get _ _ _ hj, decide_eq_decide.2 (show j < k + 1 ↔ j < k by omega)]
theorem bvTo_no (m : Nat) (n : Int) {k : Nat} (hk : k < 8) (h : tb m k = false) : bvTo m n (k + 1) = bvTo m n k := by
  refine list_eq8 (bvTo_len _ _ _) (bvTo_len _ _ _) fun j hj => ?_
  rw [bvTo_get _ _ _ hj, bvTo_get _ _ _ hj]
  by_cases e : j = k
  · subst e; simp [h]
  · rw [decide_eq_decide.2 (show j < k + 1 ↔ j < k by omega)]
theorem bvTo_end (m : Nat) (hm : isSet (m : Int) = true) (i g n : Int) : bvTo m n 8 = (newRow i g (m : Int) n).vals := by
  refine list_eq8 (bvTo_len _ _ _) (newRow i g (m : Int) n).h8 fun j hj => ?_
  rw [bvTo_get _ _ _ hj, newRow_val hm hj]
  have : hasB (m : Int) (j : Int) = tb m j := by
    unfold hasB tb
    rw [isPart_iff.2 ⟨by omega, by omega⟩]
    simp
  rw [this, decide_eq_true hj]
  simp
theorem Hp.lit0 {w0 w : World} {E : List Ent} (h : Hp w0 w E) : Hp w0 (w.alloc (.cells #[] 3)) (E ++ [.own (.slice (some ⟨w.heap.size, 0, none⟩) 0 0) 3 1 0 []]) :=
  h.moreR (World.grownBy_alloc w _ _) (own_lower (World.ownsRow_lit w #[] 0 (Nat.le_refl _) (by unfold maxLen; omega) (by simp)) h.bel.size) (fun g hg => by
    have : w.heap.size = g := by simpa [Ent.blk, Value.ownBlock] using hg
    omega)

set_option maxRecDepth 20000 in
set_option maxHeartbeats 12800000 in
theorem rspawn_any (rows : List BRow) (gens : List Int) (Ar : Option Addr) (cr : Nat) (Ag : Option Addr) (cg : Nat) (has n : Int) (hlr : rows.length ≤ 9223372036854775807) (hng : Ag = none → cg = 0 ∧ gens = []) (B : Nat)
    (w : World) (hr : RdR w w.heap.size Ar rows) (hg : RdG w w.heap.size Ag gens) :
    Calls Try.prog 18 #[.agg #[.slice Ar rows.length cr, .slice Ag gens.length cg], .int .i64 has, .int .i64 n] w fun e w' =>
      ∃ v, e = .returned (.tuple #[v, .agg #[.int .i64 (spawnV rows gens has n).i, .int .i64 (spawnV rows gens has n).g], .int .i64 (spawnV rows gens has n).err]) ∧
        GotR B w.heap.size w' v (spawnV rows gens has n).rows (spawnV rows gens has n).gens ∧ Below w.heap.size w w' := by
  obtain ⟨i0', hi0, hz0a, hz0b, hz0c⟩ := info_parts infoInt
  have H0 := (((Hp.start w).new w.heap.size rfl 25 [.slice Ar rows.length cr, .slice Ag gens.length cg]).new (w.heap.size + 1) (by simp) 25 [.slice none 0 0, .slice none 0 0]).new (w.heap.size + 1 + 1) (by simp) 27 [.int .i64 0, .int .i64 0]
  go_enter Try.func18, Try.ntmps18
  go_wp2_with fail
  obtain ⟨w0, hw0, H0⟩ := H0.name
  rw [hw0]; clear hw0
  refine (rwrong2_any rows gens Ar cr Ag cg hlr w0 (H0.old hr) (H0.old hg)).mono ?_
  rintro e w1 ⟨rfl, hb1⟩
  replace H0 := H0.grow hb1
  clear hb1
  by_cases hf : (worldErr ⟨rows, gens⟩).1 = 0
  case neg =>
    have hf' : ((worldErr ⟨rows, gens⟩).1 != 0) = true := by simpa using hf
    have hE : Hid (spawnV rows gens has n = ⟨[], [], 0, 0, (worldErr ⟨rows, gens⟩).1⟩) := Lib.hid (spawn_wrong has n hf)
    generalize worldErr ⟨rows, gens⟩ = F' at *
    obtain ⟨f1, f2⟩ := F'
    dsimp only at hf hf' hE ⊢
    have H2 := H0.new w1.heap.size rfl 32 [.int .i64 f1, .int .i64 f2]
    clear H0
    go_upto_region 3 with fail
    obtain ⟨w2, hw2, H2⟩ := H2.name
    rw [hw2]; clear hw2
    have n13 := H2.ne 1 3 rfl rfl (by omega); have n31 := n13.symm; have n23 := H2.ne 2 3 rfl rfl (by omega); have n32 := n23.symm
    have q0 := H2.cell 1 0 rfl rfl; have q1 := H2.cell 1 1 rfl rfl; have q2 := H2.cell 2 0 rfl rfl; have q3 := H2.cell 2 1 rfl rfl
    have y0 := H2.frozen 1 0 rfl; have y1 := H2.frozen 1 1 rfl; have y2 := H2.frozen 2 0 rfl; have y3 := H2.frozen 2 1 rfl
    have c0 := H2.cell 3 0 rfl rfl
    go_region_held3 (fun w' => w'.cell? ⟨w1.heap.size, 0, none⟩ = some (.int .i64 f1)) (go_keep) (fail)
    have H4 := ((((H2.set 1 0 (.slice none 0 0) rfl).set 1 1 (.slice none 0 0) rfl).set 2 0 (.int .i64 0) rfl).set 2 1 (.int .i64 0) rfl).drew
    have p0 := H4.cell 1 0 rfl rfl; have p1 := H4.cell 1 1 rfl rfl; have p2 := H4.cell 2 0 rfl rfl; have p3 := H4.cell 2 1 rfl rfl
    go_wp2_with fail
    refine bodyPost_ret (v := .tuple #[.agg #[.slice none 0 0, .slice none 0 0], .agg #[.int .i64 0, .int .i64 0], .int .i64 f1]) (by simp [results, Try.results18, go_sem, p0, p1, p2, p3]) rfl ⟨_, by rw [hE.out], by rw [hE.out]; exact GotR.zero _ _ _, H4.bel⟩
  case pos =>
    have hrw := (right_iff rows gens).1 hf
    have hl60 := hrw.lens2
    rw [hf]
    generalize (worldErr ⟨rows, gens⟩).2 = f2 at *
    have H2 := H0.new w1.heap.size rfl 32 [.int .i64 0, .int .i64 f2]
    clear H0 hf
    go_wp2_with fail
    obtain ⟨w2, hw2, H2⟩ := H2.name
    rw [hw2]; clear hw2
    refine (rset_any has w2).mono ?_
    rintro e w3 ⟨rfl, rfl⟩
    cases hs1 : isSet has
    · have hs1' := hs1
      have hE : Hid (spawnV rows gens has n = ⟨[], [], 0, 0, 3⟩) := Lib.hid (spawn_arg hrw (.inl hs1))
      have q0 := H2.cell 1 0 rfl rfl; have q1 := H2.cell 1 1 rfl rfl; have q2 := H2.cell 2 0 rfl rfl; have q3 := H2.cell 2 1 rfl rfl
      have y0 := H2.frozen 1 0 rfl; have y1 := H2.frozen 1 1 rfl; have y2 := H2.frozen 2 0 rfl; have y3 := H2.frozen 2 1 rfl
      have H9 := (((H2.set 1 0 (.slice none 0 0) rfl).set 1 1 (.slice none 0 0) rfl).set 2 0 (.int .i64 0) rfl).set 2 1 (.int .i64 0) rfl
      have p0 := H9.cell 1 0 rfl rfl; have p1 := H9.cell 1 1 rfl rfl; have p2 := H9.cell 2 0 rfl rfl; have p3 := H9.cell 2 1 rfl rfl
      go_wp2_with fail
      refine bodyPost_ret (v := .tuple #[.agg #[.slice none 0 0, .slice none 0 0], .agg #[.int .i64 0, .int .i64 0], .int .i64 3]) (by simp [results, Try.results18, go_sem, p0, p1, p2, p3]) rfl ⟨_, by rw [hE.out], by rw [hE.out]; exact GotR.zero _ _ _, H9.bel⟩
    go_wp2_with fail
    refine (rvalue_any n w2).mono ?_
    rintro e w3 ⟨rfl, rfl⟩
    cases hs2 : isVal n
    · have hs2' := hs2
      have hE : Hid (spawnV rows gens has n = ⟨[], [], 0, 0, 3⟩) := Lib.hid (spawn_arg hrw (.inr hs2))
      have q0 := H2.cell 1 0 rfl rfl; have q1 := H2.cell 1 1 rfl rfl; have q2 := H2.cell 2 0 rfl rfl; have q3 := H2.cell 2 1 rfl rfl
      have y0 := H2.frozen 1 0 rfl; have y1 := H2.frozen 1 1 rfl; have y2 := H2.frozen 2 0 rfl; have y3 := H2.frozen 2 1 rfl
      have H9 := (((H2.set 1 0 (.slice none 0 0) rfl).set 1 1 (.slice none 0 0) rfl).set 2 0 (.int .i64 0) rfl).set 2 1 (.int .i64 0) rfl
      have p0 := H9.cell 1 0 rfl rfl; have p1 := H9.cell 1 1 rfl rfl; have p2 := H9.cell 2 0 rfl rfl; have p3 := H9.cell 2 1 rfl rfl
      go_wp2_with fail
      refine bodyPost_ret (v := .tuple #[.agg #[.slice none 0 0, .slice none 0 0], .agg #[.int .i64 0, .int .i64 0], .int .i64 3]) (by simp [results, Try.results18, go_sem, p0, p1, p2, p3]) rfl ⟨_, by rw [hE.out], by rw [hE.out]; exact GotR.zero _ _ _, H9.bel⟩
    have x0 := H2.cell 0 0 rfl rfl; have x1 := H2.cell 0 1 rfl rfl
    go_wp2_with fail
    have hEn := Lib.hid (fun h => @spawn_none rows gens has n hrw hs1 hs2 h)
    have hEs := Lib.hid (fun h => @spawn_some rows gens has n hrw hs1 hs2 h)
    have hok := Lib.hid (@nextV_ok rows gens)
    refine (rnext_any rows gens Ar cr Ag cg (by omega) (by omega) (fun q hq => by have := (hrw.gen q hq).1; omega) w2 (H2.old hr) (H2.old hg)).mono ?_
    rintro e w3 ⟨rfl, hb3⟩
    replace H2 := H2.grow hb3
    clear hb3 x0 x1
    generalize nextV rows gens = N at *
    obtain ⟨ni, ng, ne⟩ := N
    dsimp only at hEn hEs hok ⊢
    by_cases hne : ne = 0
    case neg =>
      have hne' : (ne != 0) = true := by simpa using hne
      have l1 := H2.lt 1 rfl; have l2 := H2.lt 2 rfl
      have hE : Hid (spawnV rows gens has n = ⟨[], [], 0, 0, ne⟩) := Lib.hid (hEn.out hne)
      have q0 := H2.cell 1 0 rfl rfl; have q1 := H2.cell 1 1 rfl rfl; have q2 := H2.cell 2 0 rfl rfl; have q3 := H2.cell 2 1 rfl rfl
      have y0 := H2.frozen 1 0 rfl; have y1 := H2.frozen 1 1 rfl; have y2 := H2.frozen 2 0 rfl; have y3 := H2.frozen 2 1 rfl
      have H9 := (((H2.set 1 0 (.slice none 0 0) rfl).set 1 1 (.slice none 0 0) rfl).set 2 0 (.int .i64 0) rfl).set 2 1 (.int .i64 0) rfl
      replace H9 := H9.new w3.heap.size (by simp) 27 [.int .i64 ni, .int .i64 ng]
      have p0 := H9.cell 1 0 rfl rfl; have p1 := H9.cell 1 1 rfl rfl; have p2 := H9.cell 2 0 rfl rfl; have p3 := H9.cell 2 1 rfl rfl
      go_wp2_with fail
      refine bodyPost_ret (v := .tuple #[.agg #[.slice none 0 0, .slice none 0 0], .agg #[.int .i64 0, .int .i64 0], .int .i64 ne]) (by simp [results, Try.results18, go_sem, p0, p1, p2, p3]) rfl ⟨_, by rw [hE.out], by rw [hE.out]; exact GotR.zero _ _ _, H9.bel⟩
    subst hne
    have hE := Lib.hid (hEs.out rfl)
    have hnok := Lib.hid (hok.out rfl)
    clear hEs hEn hok
    have hset := hs1
    have hms := isSet_iff.1 hs1
    obtain ⟨m, rfl⟩ := nat_of (n := has) hms.1
    have hm : m < 256 := by omega
    have H3 := (H2.new w3.heap.size rfl 27 [.int .i64 ni, .int .i64 ng]).new (w3.heap.size + 1) (by simp) 51 (rowL ni ng (m : Int) (bvTo m n 0))
    have hrl : rowL ni ng (m : Int) (bvTo m n 0) = [.int .i64 ni, .int .i64 ng, .int .i64 (m : Int), .int .i64 0, .int .i64 0, .int .i64 0, .int .i64 0, .int .i64 0, .int .i64 0, .int .i64 0, .int .i64 0] := by rw [bvTo_zero]; rfl
    clear hs1 hs2 hms hrw
    go_wp2_with fail
    have H3' := H3
    rw [hrl] at H3'
    obtain ⟨w4, hw4, _⟩ := H3'.name
    have hw4' := hw4
    rw [← hrl] at hw4'
    rw [hw4'] at H3
    rw [hw4]
    clear hw4 hw4' H3' hrl H2
    refine (rbits_any m hm w4).mono ?_
    rintro e w5 ⟨rfl, hb5⟩
    replace H3 := H3.grow hb5
    clear hb5
    have hba := Lib.hid (fun k hk W => @bits_at m k hk W)
    generalize bitsV m = BV at *
    go_wp2_with fail
    go_loopw [51] (fun q wx => ∃ k : Nat, k ≤ 8 ∧ q = .int .i64 k ∧ Hp w wx ([.box w.heap.size 25 [.slice Ar rows.length cr, .slice Ag gens.length cg], .box (w.heap.size + 1) 25 [.slice none 0 0, .slice none 0 0], .box (w.heap.size + 1 + 1) 27 [.int .i64 0, .int .i64 0], .box w1.heap.size 32 [.int .i64 0, .int .i64 f2], .box w3.heap.size 27 [.int .i64 ni, .int .i64 ng], .box (w3.heap.size + 1) 51 (rowL ni ng (m : Int) (bvTo m n k))])) (fun q _ => 8 - (intOf q).toNat)
    case atStart => exact ⟨0, by omega, rfl, H3⟩
    case round =>
      clear H3
      obtain ⟨k, hk, rfl, H⟩ := hrel
      by_cases hlt : k < 8
      · have hix := hba.out k hlt
        have k0 : (0 : Int) ≤ (k : Int) := by omega
        have k8 : (k : Int) < 8 := by omega
        cases hB : tb m k
        · rw [hB] at hix
          have hbn := bvTo_no m n hlt hB
          rw [← hbn] at H
          clear hbn
          go_wp2_with fail
          go_roundw
          case rel => exact ⟨k + 1, by omega, by go_num, H⟩
          case measure => simp [intOf]; omega
        · rw [hB] at hix
          have hbn := Lib.hid (bvTo_yes m n hlt hB)
          have hrs := Lib.hid (rowL_set ni ng (m : Int) (bvTo m n k) k n)
          have hv8 := bvTo_len m n k
          obtain ⟨u, hu⟩ : ∃ u, (rowL ni ng (m : Int) (bvTo m n k))[3 + k]? = some u := ⟨_, List.getElem?_eq_getElem (by simp [rowL, ints, hv8]; omega)⟩
          have z5 := H.cell 5 (3 + k) rfl hu
          have z6 := H.frozen 5 (3 + k) rfl
          have H10 := H.set 5 (3 + k) (.int .i64 n) rfl
          rw [hrs.out, ← hbn.out] at H10
          clear H hu hv8 hrs hbn
          have H11 := Lib.hid H10
          clear H10
          go_wp2_with fail
          go_roundw
          case rel => exact ⟨k + 1, by omega, by go_num, H11.out⟩
          case measure => simp [intOf]; omega
      · obtain rfl : k = 8 := by omega
        rw [bvTo_end m hset ni ng n] at H
        clear hba
        obtain ⟨R, hR⟩ : ∃ R : BRow, R = newRow ni ng (m : Int) n := ⟨_, rfl⟩
        have hRi : R.idx = ni := by rw [hR]; rfl
        have hRg : R.gen = ng := by rw [hR]; rfl
        have hRh : R.has = (m : Int) := by rw [hR]; rfl
        rw [← hR] at hE H
        clear hR
        obtain ⟨ri, rg, rh, rv, rh8⟩ := R
        dsimp only at hRi hRg hRh H
        subst hRi hRg hRh
        obtain ⟨b0, b1, b2, b3, b4, b5, b6, b7, rfl⟩ := vals_eight rh8
        have H3 : Hp w wr ([.box w.heap.size 25 [.slice Ar rows.length cr, .slice Ag gens.length cg], .box (w.heap.size + 1) 25 [.slice none 0 0, .slice none 0 0], .box (w.heap.size + 1 + 1) 27 [.int .i64 0, .int .i64 0], .box w1.heap.size 32 [.int .i64 0, .int .i64 f2], .box w3.heap.size 27 [.int .i64 ri, .int .i64 rg], .box (w3.heap.size + 1) 51 [.int .i64 ri, .int .i64 rg, .int .i64 (m : Int), .int .i64 b0, .int .i64 b1, .int .i64 b2, .int .i64 b3, .int .i64 b4, .int .i64 b5, .int .i64 b6, .int .i64 b7]]) := H
        clear H
        have x0 := H3.cell 0 1 rfl rfl
        have l0 := H3.lt 0 rfl
        have H4 := H3.lit0
        go_upto_region 16 with fail
        go_cut [15] (fun s15 wx => ∃ A2 c2, s15 = .slice A2 gens.length c2 ∧ Hp w wx ([.box w.heap.size 25 [.slice Ar rows.length cr, .slice Ag gens.length cg], .box (w.heap.size + 1) 25 [.slice none 0 0, .slice none 0 0], .box (w.heap.size + 1 + 1) 27 [.int .i64 0, .int .i64 0], .box w1.heap.size 32 [.int .i64 0, .int .i64 f2], .box w3.heap.size 27 [.int .i64 ri, .int .i64 rg], .box (w3.heap.size + 1) 51 [.int .i64 ri, .int .i64 rg, .int .i64 (m : Int), .int .i64 b0, .int .i64 b1, .int .i64 b2, .int .i64 b3, .int .i64 b4, .int .i64 b5, .int .i64 b6, .int .i64 b7], .own (.slice A2 gens.length c2) 3 1 gens.length (ints gens)]))
        case first =>
          have hce := H4.old hg
          cases Ag with
          | none =>
            obtain ⟨rfl, rfl⟩ := hng rfl
            clear hce
            go_wp2_with (at_builtin; refine wpList_append_own_none rfl _ _ 23 rfl w.heap.size 3 i0' 1 Try.underlying23 hi0 _ _ _ rfl (H4.owns 6 rfl) rfl ?_)
            go_meet
            exact ⟨_, _, rfl, H4⟩
          | some ad =>
            go_wp2_with (at_builtin; refine wpList_append_own_at _ rfl _ _ 23 rfl w.heap.size 3 i0' (.int .i64 0) 1 8 Try.underlying23 hi0 hz0a hz0b hz0c rfl (by decide) _ _ _ rfl (H4.owns 6 rfl) ad gens.length cg (ints gens) rfl ?c0 ?c1 ?c2 ?c3 ?c4 ?c5 ?_; rotate_left 6; intro v' w7 hown7 hgrow7 _ hat7; have H8 := H4.app 6 rfl hgrow7 hown7 (hat7.imp id (fun e g hg => by rw [e] at hg; injection hg with hg; omega)); obtain ⟨A3, c3, rfl, hs1, hs2⟩ := own_shape hown7)
            case c0 => simp [ints_length]
            case c1 =>
              intro j u hu
              have hj : j < gens.length := by rw [← ints_length gens]; exact (List.getElem?_eq_some_iff.1 hu).1
              obtain ⟨b, off, he, _, hc⟩ := hce.2 (by omega)
              obtain rfl := Option.some.inj he
              rw [add_mk]
              exact hc j u hu
            case c2 => exact ints_one gens
            case c3 => unfold maxLen; omega
            case c4 => omega
            case c5 => exact H4.bel.size
            go_meet
            rw [Nat.zero_add, List.nil_append] at H8
            exact ⟨A3, c3, rfl, H8⟩
        case rest =>
          obtain ⟨A2, c2, rfl, H5⟩ := hcut
          clear H3 H4 x0 l0
          obtain ⟨G1, hG1⟩ : ∃ G1 : List Int, Hid (G1 = if ri = (gens.length : Int) then gens ++ [0] else gens) := ⟨_, Lib.hid rfl⟩
          have x0 := H5.cell 4 0 rfl rfl
          go_upto_if 69 with fail
          go_cut [15] (fun s15 wx => ∃ A3 c3, s15 = .slice A3 G1.length c3 ∧ Hp w wx ([.box w.heap.size 25 [.slice Ar rows.length cr, .slice Ag gens.length cg], .box (w.heap.size + 1) 25 [.slice none 0 0, .slice none 0 0], .box (w.heap.size + 1 + 1) 27 [.int .i64 0, .int .i64 0], .box w1.heap.size 32 [.int .i64 0, .int .i64 f2], .box w3.heap.size 27 [.int .i64 ri, .int .i64 rg], .box (w3.heap.size + 1) 51 [.int .i64 ri, .int .i64 rg, .int .i64 (m : Int), .int .i64 b0, .int .i64 b1, .int .i64 b2, .int .i64 b3, .int .i64 b4, .int .i64 b5, .int .i64 b6, .int .i64 b7], .own (.slice A3 G1.length c3) 3 1 G1.length (ints G1)]))
          case first =>
            by_cases hi : ri = (gens.length : Int)
            · have hGv : Hid (G1 = gens ++ [0]) := Lib.hid (by rw [hG1.out, if_pos hi])
              have hge : (gens.length : Int) ≤ ri := by omega
              have H7 := H5.new wc.heap.size rfl 3 [.int .i64 0]
              clear hG1 hi
              go_wp2_with (at_builtin; refine wpList_append_own_at _ rfl _ _ 23 rfl w.heap.size 3 i0' (.int .i64 0) 1 8 Try.underlying23 hi0 hz0a hz0b hz0c rfl (by decide) _ _ _ rfl (H7.owns 6 rfl) ⟨wc.heap.size, 0, none⟩ 1 1 [.int .i64 0] rfl rfl ?c1 ?c2 ?c3 ?c4 ?c5 ?_; rotate_left 5; intro v' w7 hown7 hgrow7 _ hat7; have H8 := H7.app 6 rfl hgrow7 hown7 (hat7.imp id (fun e g hg => by rw [e] at hg; injection hg with hg; omega)); obtain ⟨A3, c3, rfl, hs1, hs2⟩ := own_shape hown7)
              case c1 => exact news_blk (H7.blk 7 rfl)
              case c2 => simp [Value.oneCell']
              case c3 => unfold maxLen; omega
              case c4 => omega
              case c5 => exact H7.bel.size
              go_meet
              have hl : G1.length = gens.length + 1 := by rw [hGv.out]; simp
              have hi : ints G1 = ints gens ++ [.int .i64 0] := by rw [hGv.out, ints_snoc]
              rw [hl, hi]
              exact ⟨A3, c3, rfl, H8.drop1 7⟩
            · have hGv : Hid (G1 = gens) := Lib.hid (by rw [hG1.out, if_neg hi])
              have hge : ri < (gens.length : Int) := by
                rcases hnok.out with ⟨k, hk, h1, _⟩ | ⟨h1, _⟩
                · omega
                · exact absurd h1 hi
              clear hG1 hi
              go_wp2_with fail
              go_meet
              rw [hGv.out]
              exact ⟨A2, c2, rfl, H5⟩
          case rest =>
            clear H5 x0
            obtain ⟨A3, c3, rfl, H6⟩ := hcut
            obtain ⟨ix, rfl, hix⟩ : ∃ ix : Nat, ri = (ix : Int) ∧ ix < G1.length := by
              rw [hG1.out]
              rcases hnok.out with ⟨k, hk, rfl, _⟩ | ⟨rfl, _⟩
              · exact ⟨k, rfl, by rw [if_neg (by omega)]; exact hk⟩
              · exact ⟨_, rfl, by rw [if_pos rfl]; simp⟩
            clear hnok
            obtain ⟨gb, rfl⟩ := own_some (H6.owns 6 rfl) (by omega)
            have hgput : Hid (gensPut gens (ix : Int) rg = G1.set ix rg) := Lib.hid (by rw [hG1.out]; simp [gensPut])
            have hse : Hid ((ints G1).set ix (.int .i64 rg) = ints (G1.set ix rg)) := Lib.hid (by simp [ints, List.map_set])
            have z0 := H6.cell 4 0 rfl rfl; have z1 := H6.cell 4 1 rfl rfl
            have z4 := H6.ownCell 6 ix rfl (ints_get hix); have z5 := H6.ownFrozen 6 ix rfl
            have i0 : (0 : Int) ≤ (ix : Int) := by omega
            have i1 : (ix : Int) < (G1.length : Int) := by omega
            have H7 := H6.put 6 ix (.int .i64 rg) rfl
            rw [hse.out] at H7
            have hlG : Hid (G1.length = (gensPut gens (ix : Int) rg).length) := Lib.hid (by rw [hgput.out]; simp)
            rw [← hgput.out] at H7
            go_upto_region 20 with fail
            obtain ⟨w7, hw7, H7⟩ := H7.name
            rw [hw7]
            clear hw7 z0 z1 z4 z5 H6 hse i1 hgput hG1 hix
            rw [hlG.out] at H7
            generalize gensPut gens (ix : Int) rg = G2 at *
            have x0 := H7.cell 0 0 rfl rfl; have x1 := H7.cell 0 1 rfl rfl
            have f0 := H7.cell 5 0 rfl rfl; have f1 := H7.cell 5 1 rfl rfl; have f2' := H7.cell 5 2 rfl rfl; have f3 := H7.cell 5 3 rfl rfl; have f4 := H7.cell 5 4 rfl rfl; have f5 := H7.cell 5 5 rfl rfl; have f6 := H7.cell 5 6 rfl rfl; have f7 := H7.cell 5 7 rfl rfl; have f8 := H7.cell 5 8 rfl rfl; have f9 := H7.cell 5 9 rfl rfl; have f10 := H7.cell 5 10 rfl rfl
            go_wp2_with fail
            have hcall := rwith_any rows gens ⟨(ix : Int), rg, (m : Int), [b0, b1, b2, b3, b4, b5, b6, b7], rh8⟩ Ar cr Ag cg (by omega) w7 (H7.old hr)
            have hrv : rowV ⟨(ix : Int), rg, (m : Int), [b0, b1, b2, b3, b4, b5, b6, b7], rh8⟩ = .agg #[.int .i64 (ix : Int), .int .i64 rg, .int .i64 (m : Int), .int .i64 b0, .int .i64 b1, .int .i64 b2, .int .i64 b3, .int .i64 b4, .int .i64 b5, .int .i64 b6, .int .i64 b7] := rfl
            rw [hrv] at hcall
            refine hcall.mono ?_
            rintro e w10 ⟨⟨A, c, rfl, hown⟩, hb10⟩
            generalize withV ⟨(ix : Int), rg, (m : Int), [b0, b1, b2, b3, b4, b5, b6, b7], rh8⟩ rows = R2 at *
            have H8 := H7.got hb10 hown
            clear H7 hb10 hown f0 f1 f2' f3 f4 f5 f6 f7 f8 f9 f10 x0 x1 hcall hrv
            have H9 := (H8.new w10.heap.size rfl 25 [.slice A R2.length c, .slice (some ⟨gb, 0, none⟩) G2.length c3])
            rw [hlG.out]
            clear hlG
            go_upto_region 22 with fail
            obtain ⟨w13, hw13, H13⟩ := H9.name
            rw [hw13]; clear hw13 H8 H9
            have n14 := H13.ne 1 4 rfl rfl (by omega); have n18 := H13.ne 1 8 rfl rfl (by omega); have n24 := H13.ne 2 4 rfl rfl (by omega); have n28 := H13.ne 2 8 rfl rfl (by omega)
            have n41 := n14.symm; have n81 := n18.symm; have n42 := n24.symm; have n82 := n28.symm
            have q0 := H13.cell 1 0 rfl rfl; have q1 := H13.cell 1 1 rfl rfl; have q2 := H13.cell 2 0 rfl rfl; have q3 := H13.cell 2 1 rfl rfl
            have y0 := H13.frozen 1 0 rfl; have y1 := H13.frozen 1 1 rfl; have y2 := H13.frozen 2 0 rfl; have y3 := H13.frozen 2 1 rfl
            have x0 := H13.cell 8 0 rfl rfl; have x1 := H13.cell 8 1 rfl rfl; have x2 := H13.cell 4 0 rfl rfl; have x3 := H13.cell 4 1 rfl rfl
            go_region_held3 (fun w' => w'.cell? ⟨w10.heap.size, 0, none⟩ = some (.slice A R2.length c) ∧ w'.cell? ⟨w10.heap.size, 1, none⟩ = some (.slice (some ⟨gb, 0, none⟩) G2.length c3) ∧ w'.cell? ⟨w3.heap.size, 0, none⟩ = some (.int .i64 ix) ∧ w'.cell? ⟨w3.heap.size, 1, none⟩ = some (.int .i64 rg)) (go_keep) (fail)
            have H14 := ((((H13.set 1 0 (.slice A R2.length c) rfl).set 1 1 (.slice (some ⟨gb, 0, none⟩) G2.length c3) rfl).set 2 0 (.int .i64 ix) rfl).set 2 1 (.int .i64 rg) rfl).drew
            have p0 := H14.cell 1 0 rfl rfl; have p1 := H14.cell 1 1 rfl rfl; have p2 := H14.cell 2 0 rfl rfl; have p3 := H14.cell 2 1 rfl rfl
            go_wp2_with fail
            refine bodyPost_ret (v := .tuple #[.agg #[.slice A R2.length c, .slice (some ⟨gb, 0, none⟩) G2.length c3], .agg #[.int .i64 ix, .int .i64 rg], .int .i64 0]) (by simp [results, Try.results18, go_sem, p0, p1, p2, p3]) rfl ⟨_, by rw [hE.out], by rw [hE.out]; exact ⟨_, _, _, _, rfl, H14.rd 7 rfl, H14.rd 6 rfl, own_afar (H14.owns 7 rfl) B, own_afar (H14.owns 6 rfl) B⟩, H14.bel⟩
end Go.Proofs.Ytefdblaolmckmab

namespace Go.Proofs.Ytefdblaolmckmab
open Go.RowKit
open Brood
set_option linter.unusedVariables false
set_option linter.unusedSimpArgs false

set_option maxRecDepth 20000 in
set_option maxHeartbeats 6400000 in
theorem rmatch_any (rows : List BRow) (gens : List Int) (Ar : Option Addr) (cr : Nat) (Ag : Option Addr) (cg : Nat) (fa fn : Int) (hlr : rows.length ≤ 60) (hset : ∀ r ∈ rows, isSet r.has = true) (hfa : isSet fa = true) (hfn : isSet fn = true)
    (w : World) (hr : RdR w w.heap.size Ar rows) :
    Calls Try.prog 31 #[.agg #[.slice Ar rows.length cr, .slice Ag gens.length cg], .agg #[.int .i64 fa, .int .i64 fn]] w fun e w' =>
      (∃ A c, e = .returned (.slice A (matchV fa fn rows).length c) ∧ w'.ownsRow w.heap.size 27 2 (.slice A (matchV fa fn rows).length c) (matchV fa fn rows).length ((matchV fa fn rows).flatMap beCells)) ∧ Below w.heap.size w w' := by
  obtain ⟨i0', hi0, hz0a, hz0b, hz0c⟩ := info_parts infoBe
  have H0 := ((Hp.start w).new w.heap.size rfl 25 [.slice Ar rows.length cr, .slice Ag gens.length cg]).new (w.heap.size + 1) (by simp) 29 [.int .i64 fa, .int .i64 fn]
  replace H0 := H0.nil_ 27 2
  go_enter Try.func31, Try.ntmps31
  go_wp2_with fail
  go_loopw [5, 11] (fun s5 q wx => ∃ k : Nat, k ≤ rows.length ∧ q = .int .i64 k ∧ ∃ (A : Option Addr) (c : Nat) (cur : List BRow), s5 = .slice A cur.length c ∧ cur.length ≤ k ∧ Hid (cur = matchV fa fn (rows.take k)) ∧ Hp w wx [.box w.heap.size 25 [.slice Ar rows.length cr, .slice Ag gens.length cg], .box (w.heap.size + 1) 29 [.int .i64 fa, .int .i64 fn], .own (.slice A cur.length c) 27 2 cur.length (cur.flatMap beCells)]) (fun _ q _ => rows.length - (intOf q).toNat)
  case atStart => exact ⟨0, by omega, rfl, none, 0, [], rfl, by simp, Lib.hid (by simp [matchV]), H0⟩
  case round =>
    clear H0
    obtain ⟨k, hk, rfl, A, c, cur, rfl, hcl, hcur, H⟩ := hrel
    by_cases hlt : k < rows.length
    · have hR1 : RdR wr w.heap.size Ar rows := Rd.under hr H.bel (Nat.le_refl _)
      obtain ⟨b1', off, rfl, hb1, hrow⟩ := hR1.at_ hlt
      have hkt := Lib.hid (@match_take fa fn rows k hlt)
      have hhs := hset rows[k] (List.getElem_mem hlt)
      clear hR1
      have hxv : Hid (∀ l : List BRow, (l ++ [rows[k]]).flatMap beCells = l.flatMap beCells ++ [.int .i64 rows[k].idx, .int .i64 rows[k].gen]) := Lib.hid (fun l => by simp [beCells])
      obtain ⟨xo, hxo⟩ : ∃ xo, xo = rows[k] := ⟨_, rfl⟩
      rw [← hxo] at hkt
      have hxh : xo.has = rows[k].has := by rw [hxo]
      rw [hxh] at hkt
      have hxv2 : Hid (∀ l : List BRow, (l ++ [xo]).flatMap beCells = l.flatMap beCells ++ [.int .i64 rows[k].idx, .int .i64 rows[k].gen]) := Lib.hid (by rw [hxo]; exact hxv.out)
      clear hxo hxh hxv
      generalize rows[k] = x at *
      have i0 : (0 : Int) ≤ (k : Int) := by omega
      have i1 : (k : Int) < (rows.length : Int) := by omega
      obtain ⟨c0, c1, c2⟩ := hrow.head
      obtain ⟨idx, gen, has, vals, h8'⟩ := x
      obtain ⟨a0, a1, a2, a3, a4, a5, a6, a7, rfl⟩ := vals_eight h8'
      have v0 := hrow 3 (.int .i64 a0) rfl; have v1 := hrow 4 (.int .i64 a1) rfl; have v2 := hrow 5 (.int .i64 a2) rfl; have v3 := hrow 6 (.int .i64 a3) rfl; have v4 := hrow 7 (.int .i64 a4) rfl; have v5 := hrow 8 (.int .i64 a5) rfl; have v6 := hrow 9 (.int .i64 a6) rfl; have v7 := hrow 10 (.int .i64 a7) rfl
      simp only at c0 c1 c2 hkt hhs hxv2
      clear hrow
      have H1 := H.new wr.heap.size rfl 51 [.int .i64 idx, .int .i64 gen, .int .i64 has, .int .i64 a0, .int .i64 a1, .int .i64 a2, .int .i64 a3, .int .i64 a4, .int .i64 a5, .int .i64 a6, .int .i64 a7]
      have e0 := H.cell 1 0 rfl rfl; have e1 := H.cell 1 1 rfl rfl; have le := H.lt 1 rfl
      go_wp2_with fail
      obtain ⟨wa, hwa, H1⟩ := H1.name
      rw [hwa]
      clear hwa c0 c1 c2 v0 v1 v2 v3 v4 v5 v6 v7 e0 e1 le H
      obtain ⟨fan, hfan⟩ := nat_of (isSet_iff.1 hfa).1
      obtain ⟨fnn, hfnn⟩ := nat_of (isSet_iff.1 hfn).1
      obtain ⟨hn, hhn⟩ := nat_of (isSet_iff.1 hhs).1
      have q1 := isSet_iff.1 hfa; have q2 := isSet_iff.1 hfn; have q3 := isSet_iff.1 hhs
      have hcall := rmeets_any fan fnn hn (by omega) (by omega) (by omega) wa
      rw [← hfan, ← hfnn, ← hhn] at hcall
      clear q1 q2 q3 hfan hfnn hhn
      refine hcall.mono ?_
      rintro e wb ⟨rfl, hb⟩
      replace H1 := H1.grow hb
      clear hb
      have f0 := H1.cell 3 0 rfl rfl; have f1 := H1.cell 3 1 rfl rfl
      have hgw : wr.heap.size < wb.heap.size := H1.lt 3 rfl
      generalize wr.heap.size = gx at *
      cases hB : meetsB fa fn has
      · have hcur2 : Hid (cur = matchV fa fn (rows.take (k + 1))) := Lib.hid (by rw [hkt.out, hB, ← hcur.out]; simp)
        go_wp2_with fail
        go_roundw
        case rel => exact ⟨k + 1, by omega, by go_num, A, c, cur, rfl, by omega, hcur2, H1.drop1 3⟩
        case measure => simp [intOf]; omega
      · have hcur2 : Hid (cur ++ [xo] = matchV fa fn (rows.take (k + 1))) := Lib.hid (by rw [hkt.out, hB, ← hcur.out]; simp)
        have HN := H1.new wb.heap.size rfl 27 [.int .i64 idx, .int .i64 gen]
        go_wp2_with (at_builtin; refine wpList_append_own_at _ rfl _ _ 54 rfl w.heap.size 27 i0' (.agg #[.int .i64 0, .int .i64 0]) 2 16 Try.underlying54 hi0 hz0a hz0b hz0c rfl (by decide) _ _ _ rfl (HN.owns 2 rfl) ⟨wb.heap.size, 0, none⟩ 1 1 [.int .i64 idx, .int .i64 gen] rfl rfl ?c1 ?c2 ?c3 ?c4 ?c5 ?_; rotate_left 5; intro v' w7 hown7 hgrow7 _ hat7; have H8 := HN.app 2 rfl hgrow7 hown7 (hat7.imp id (fun e g hg => by rw [e] at hg; injection hg with hg; omega)); obtain ⟨A3, c3, rfl, hs1, hs2⟩ := own_shape hown7)
        case c1 => exact news_blk (HN.blk 4 rfl)
        case c2 => simp [Value.oneCell']
        case c3 => unfold maxLen; omega
        case c4 => omega
        case c5 => exact HN.bel.size
        go_roundw
        have hl : (cur ++ [xo]).length = cur.length + 1 := by simp
        case rel =>
          refine ⟨k + 1, by omega, by go_num, A3, c3, cur ++ [xo], by rw [hl], by omega, hcur2, ?_⟩
          rw [hl, hxv2.out]
          exact (H8.drop1 4).drop1 3
        case measure => simp [intOf]; omega
    · obtain rfl : k = rows.length := by omega
      rw [List.take_length] at hcur
      go_wp2_with fail
      go_ret
      refine ⟨⟨A, c, by rw [hcur.out]; rfl, ?_⟩, H.bel⟩
      have := H.owns 2 rfl
      rwa [hcur.out] at this
set_option maxRecDepth 20000 in
set_option maxHeartbeats 6400000 in
theorem pmatch_any (rows : List BRow) (gens : List Int) (Ar : Option Addr) (cr : Nat) (Ag : Option Addr) (cg : Nat) (fa fn : Int) (hlr : rows.length ≤ 60) (hset : ∀ r ∈ rows, isSet r.has = true) (hfa : isSet fa = true) (hfn : isSet fn = true)
    (w : World) (hr : RdR w w.heap.size Ar rows) :
    Calls Try.prog 30 #[.agg #[.slice Ar rows.length cr, .slice Ag gens.length cg], .agg #[.int .i64 fa, .int .i64 fn]] w fun e w' =>
      (∃ A c, e = .returned (.slice A (matchV fa fn rows).length c) ∧ w'.ownsRow w.heap.size 27 2 (.slice A (matchV fa fn rows).length c) (matchV fa fn rows).length ((matchV fa fn rows).flatMap beCells)) ∧ Below w.heap.size w w' := by
  obtain ⟨i0', hi0, hz0a, hz0b, hz0c⟩ := info_parts infoBe
  have H0 := ((Hp.start w).new w.heap.size rfl 25 [.slice Ar rows.length cr, .slice Ag gens.length cg]).new (w.heap.size + 1) (by simp) 29 [.int .i64 fa, .int .i64 fn]
  replace H0 := H0.nil_ 27 2
  go_enter Try.func30, Try.ntmps30
  go_wp2_with fail
  go_loopw [5, 11] (fun s5 q wx => ∃ k : Nat, k ≤ rows.length ∧ q = .int .i64 k ∧ ∃ (A : Option Addr) (c : Nat) (cur : List BRow), s5 = .slice A cur.length c ∧ cur.length ≤ k ∧ Hid (cur = matchV fa fn (rows.take k)) ∧ Hp w wx [.box w.heap.size 25 [.slice Ar rows.length cr, .slice Ag gens.length cg], .box (w.heap.size + 1) 29 [.int .i64 fa, .int .i64 fn], .own (.slice A cur.length c) 27 2 cur.length (cur.flatMap beCells)]) (fun _ q _ => rows.length - (intOf q).toNat)
  case atStart => exact ⟨0, by omega, rfl, none, 0, [], rfl, by simp, Lib.hid (by simp [matchV]), H0⟩
  case round =>
    clear H0
    obtain ⟨k, hk, rfl, A, c, cur, rfl, hcl, hcur, H⟩ := hrel
    by_cases hlt : k < rows.length
    · have hR1 : RdR wr w.heap.size Ar rows := Rd.under hr H.bel (Nat.le_refl _)
      obtain ⟨b1', off, rfl, hb1, hrow⟩ := hR1.at_ hlt
      have hkt := Lib.hid (@match_take fa fn rows k hlt)
      have hhs := hset rows[k] (List.getElem_mem hlt)
      clear hR1
      have hxv : Hid (∀ l : List BRow, (l ++ [rows[k]]).flatMap beCells = l.flatMap beCells ++ [.int .i64 rows[k].idx, .int .i64 rows[k].gen]) := Lib.hid (fun l => by simp [beCells])
      obtain ⟨xo, hxo⟩ : ∃ xo, xo = rows[k] := ⟨_, rfl⟩
      rw [← hxo] at hkt
      have hxh : xo.has = rows[k].has := by rw [hxo]
      rw [hxh] at hkt
      have hxv2 : Hid (∀ l : List BRow, (l ++ [xo]).flatMap beCells = l.flatMap beCells ++ [.int .i64 rows[k].idx, .int .i64 rows[k].gen]) := Lib.hid (by rw [hxo]; exact hxv.out)
      clear hxo hxh hxv
      generalize rows[k] = x at *
      have i0 : (0 : Int) ≤ (k : Int) := by omega
      have i1 : (k : Int) < (rows.length : Int) := by omega
      obtain ⟨c0, c1, c2⟩ := hrow.head
      obtain ⟨idx, gen, has, vals, h8'⟩ := x
      obtain ⟨a0, a1, a2, a3, a4, a5, a6, a7, rfl⟩ := vals_eight h8'
      have v0 := hrow 3 (.int .i64 a0) rfl; have v1 := hrow 4 (.int .i64 a1) rfl; have v2 := hrow 5 (.int .i64 a2) rfl; have v3 := hrow 6 (.int .i64 a3) rfl; have v4 := hrow 7 (.int .i64 a4) rfl; have v5 := hrow 8 (.int .i64 a5) rfl; have v6 := hrow 9 (.int .i64 a6) rfl; have v7 := hrow 10 (.int .i64 a7) rfl
      simp only at c0 c1 c2 hkt hhs hxv2
      clear hrow
      have H1 := H.new wr.heap.size rfl 51 [.int .i64 idx, .int .i64 gen, .int .i64 has, .int .i64 a0, .int .i64 a1, .int .i64 a2, .int .i64 a3, .int .i64 a4, .int .i64 a5, .int .i64 a6, .int .i64 a7]
      have e0 := H.cell 1 0 rfl rfl; have e1 := H.cell 1 1 rfl rfl; have le := H.lt 1 rfl
      go_wp2_with fail
      obtain ⟨wa, hwa, H1⟩ := H1.name
      rw [hwa]
      clear hwa c0 c1 c2 v0 v1 v2 v3 v4 v5 v6 v7 e0 e1 le H
      refine (meets_any fa fn has hfa hfn hhs wa).mono ?_
      rintro e wb ⟨rfl, hb⟩
      replace H1 := H1.grow hb
      clear hb
      have f0 := H1.cell 3 0 rfl rfl; have f1 := H1.cell 3 1 rfl rfl
      have hgw : wr.heap.size < wb.heap.size := H1.lt 3 rfl
      generalize wr.heap.size = gx at *
      cases hB : meetsB fa fn has
      · have hcur2 : Hid (cur = matchV fa fn (rows.take (k + 1))) := Lib.hid (by rw [hkt.out, hB, ← hcur.out]; simp)
        go_wp2_with fail
        go_roundw
        case rel => exact ⟨k + 1, by omega, by go_num, A, c, cur, rfl, by omega, hcur2, H1.drop1 3⟩
        case measure => simp [intOf]; omega
      · have hcur2 : Hid (cur ++ [xo] = matchV fa fn (rows.take (k + 1))) := Lib.hid (by rw [hkt.out, hB, ← hcur.out]; simp)
        have HN := H1.new wb.heap.size rfl 27 [.int .i64 idx, .int .i64 gen]
        go_wp2_with (at_builtin; refine wpList_append_own_at _ rfl _ _ 54 rfl w.heap.size 27 i0' (.agg #[.int .i64 0, .int .i64 0]) 2 16 Try.underlying54 hi0 hz0a hz0b hz0c rfl (by decide) _ _ _ rfl (HN.owns 2 rfl) ⟨wb.heap.size, 0, none⟩ 1 1 [.int .i64 idx, .int .i64 gen] rfl rfl ?c1 ?c2 ?c3 ?c4 ?c5 ?_; rotate_left 5; intro v' w7 hown7 hgrow7 _ hat7; have H8 := HN.app 2 rfl hgrow7 hown7 (hat7.imp id (fun e g hg => by rw [e] at hg; injection hg with hg; omega)); obtain ⟨A3, c3, rfl, hs1, hs2⟩ := own_shape hown7)
        case c1 => exact news_blk (HN.blk 4 rfl)
        case c2 => simp [Value.oneCell']
        case c3 => unfold maxLen; omega
        case c4 => omega
        case c5 => exact HN.bel.size
        go_roundw
        have hl : (cur ++ [xo]).length = cur.length + 1 := by simp
        case rel =>
          refine ⟨k + 1, by omega, by go_num, A3, c3, cur ++ [xo], by rw [hl], by omega, hcur2, ?_⟩
          rw [hl, hxv2.out]
          exact (H8.drop1 4).drop1 3
        case measure => simp [intOf]; omega
    · obtain rfl : k = rows.length := by omega
      rw [List.take_length] at hcur
      go_wp2_with fail
      go_ret
      refine ⟨⟨A, c, by rw [hcur.out]; rfl, ?_⟩, H.bel⟩
      have := H.owns 2 rfl
      rwa [hcur.out] at this
set_option maxRecDepth 20000 in
set_option maxHeartbeats 3200000 in
theorem samebe_any (l : List BRow) (A : Option Addr) (c : Nat) (A' : Option Addr) (c' : Nat) (hl : l.length ≤ 60) (w : World) (hA : RdB w w.heap.size A l) (hA' : RdB w w.heap.size A' l) :
    Calls Try.prog 29 #[.slice A l.length c, .slice A' l.length c'] w fun e w' => e = .returned (.bool true) ∧ Below w.heap.size w w' := by
  go_enter Try.func29, Try.ntmps29
  go_wp2_with fail
  go_loopw [13] (fun q wx => ∃ k : Nat, k ≤ l.length ∧ q = .int .i64 k ∧ Below w.heap.size w wx) (fun q _ => l.length - (intOf q).toNat)
  case atStart => exact ⟨0, by omega, rfl, Below.refl _ _⟩
  case round =>
    obtain ⟨k, hk, rfl, hbel⟩ := hrel
    by_cases hlt : k < l.length
    · have h1 : RdB wr w.heap.size A l := Rd.under hA hbel (Nat.le_refl _)
      have h2 : RdB wr w.heap.size A' l := Rd.under hA' hbel (Nat.le_refl _)
      obtain ⟨b, off, rfl, hb, c0, c1⟩ := h1.at_ hlt
      obtain ⟨b', off', rfl, hb', d0, d1⟩ := h2.at_ hlt
      clear h1 h2
      generalize l[k] = r at *
      have i0 : (0 : Int) ≤ (k : Int) := by omega
      have i1 : (k : Int) < (l.length : Int) := by omega
      have hne : ∀ W, (binOp .neq 27 (.agg #[.int .i64 r.idx, .int .i64 r.gen]) (.agg #[.int .i64 r.idx, .int .i64 r.gen])).run Try.prog W = .ok (.bool false) W := fun W => by rw [neBeing]; simp
      go_upto_region 6 with fail
      go_cut [24] (fun s24 wx => s24 = .bool false ∧ ∃ n, wx = wr.drewN n)
      case first =>
        go_quiet (fail)
        go_wp2_with fail
        go_meet
        exact ⟨rfl, _, rfl⟩
      case rest =>
        obtain ⟨rfl, n, rfl⟩ := hcut
        have hbel2 := below_drewN hbel n
        go_wp2_with fail
        go_roundw
        case rel => exact ⟨k + 1, by omega, by go_num, hbel2⟩
        case measure => simp [intOf]; omega
    · obtain rfl : k = l.length := by omega
      go_wp2_with fail
      go_ret
      exact ⟨rfl, hbel⟩
end Go.Proofs.Ytefdblaolmckmab
