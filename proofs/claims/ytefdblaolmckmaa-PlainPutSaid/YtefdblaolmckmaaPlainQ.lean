/- The walks of plain.Put, Drop and Kill. -/
import Derived.Test.YtefdblaolmckmaaPlainP
namespace Go.Proofs.Ytefdblaolmckmaa
open Go.RowKit
open Brood
set_option linter.unusedVariables false
set_option linter.unusedSimpArgs false

def putV (rows : List BRow) (gens : List Int) (i g part n : Int) : Changed := changeV rows gens i g (putF part n)
def dropV (rows : List BRow) (gens : List Int) (i g part : Int) : Changed := changeV rows gens i g (dropF part)
def killV (rows : List BRow) (gens : List Int) (i g : Int) : Changed :=
  let c := changeV rows gens i g keepF
  if c.err = 0 then ⟨keepR (isB i g) c.rows, c.gens, 0⟩ else c
theorem enter_put (args : Array Value) (W : World) : (callFunc 78 args).run Try.prog W = .ok (.enter 78 args) W := by kernel_rfl
theorem enter_drop (args : Array Value) (W : World) : (callFunc 79 args).run Try.prog W = .ok (.enter 79 args) W := by kernel_rfl
theorem enter_kill1 (args : Array Value) (W : World) : (callFunc 73 args).run Try.prog W = .ok (.enter 73 args) W := by kernel_rfl
theorem enter_kill2 (args : Array Value) (W : World) : (callFunc 75 args).run Try.prog W = .ok (.enter 75 args) W := by kernel_rfl

set_option maxRecDepth 20000 in
set_option maxHeartbeats 3200000 in
theorem put_any (rows : List BRow) (gens : List Int) (Ar : Option Addr) (cr : Nat) (Ag : Option Addr) (cg : Nat) (i g part n : Int) (hlr : rows.length ≤ 9223372036854775807) (hlg : gens.length ≤ 9223372036854775807) (hnr : Ar = none → cr = 0 ∧ rows = []) (hng : Ag = none → cg = 0 ∧ gens = [])
    (w : World) (hr : RdR w w.heap.size Ar rows) (hg : RdG w w.heap.size Ag gens) :
    Calls Try.prog 55 #[.agg #[.slice Ar rows.length cr, .slice Ag gens.length cg], .agg #[.int .i64 i, .int .i64 g], .int .i64 part, .int .i64 n] w fun e w' =>
      ∃ v, e = .returned (.tuple #[v, .int .i64 (putV rows gens i g part n).err]) ∧ GotW w' w.heap.size v (putV rows gens i g part n).rows (putV rows gens i g part n).gens ∧ Below w.heap.size w w' := by
  have H0 := ((((Hp.start w).new w.heap.size rfl 66 [.slice Ar rows.length cr, .slice Ag gens.length cg]).new (w.heap.size + 1) (by simp) 68 [.int .i64 i, .int .i64 g]).new (w.heap.size + 1 + 1) (by simp) 3 [.int .i64 part]).new (w.heap.size + 1 + 1 + 1) (by simp) 3 [.int .i64 n]
  replace H0 := H0.new (w.heap.size + 1 + 1 + 1 + 1) (by simp) 66 [.slice none 0 0, .slice none 0 0]
  have hmf : ∀ (fn : Fn) (first cap : Array Value) (w : World), (Instr.makeFunc fn first cap).run Try.prog w = .ok (.func fn first cap) w := fun _ _ _ _ => rfl
  have hpv : Hid (putV rows gens i g part n = changeV rows gens i g (putF part n)) := Lib.hid rfl
  generalize putV rows gens i g part n = E at *
  go_enter Try.func55, Try.ntmps55
  go_wp2_with fail
  obtain ⟨w0, hw0, H0⟩ := H0.name
  rw [hw0]; clear hw0
  refine (change_any rows gens Ar cr Ag cg i g w.heap.size 78 #[.pointer (some ⟨w.heap.size + 1 + 1, 0, none⟩), .pointer (some ⟨w.heap.size + 1 + 1 + 1, 0, none⟩)] (putF part n) hlr hlg hnr hng w0 (H0.old hr) (H0.old hg) (H0.blk 0 rfl) ?hF enter_put).mono ?_
  case hF =>
    intro W b o cur r hbW hb hblk hrow hset
    have l2 := H0.lt 2 rfl; have l3 := H0.lt 3 rfl
    exact putF_any r hset part n b o (w.heap.size + 1 + 1) (w.heap.size + 1 + 1 + 1) W ((H0.blk 2 rfl).below hbW l2) ((H0.blk 3 rfl).below hbW l3) (by omega) (by omega) cur hblk hrow
  rintro e w1 ⟨v, rfl, hG, hb⟩
  rw [← hpv.out] at hG ⊢
  obtain ⟨vr, vg, rfl, hO⟩ := hG
  have H1 := H0.got2 hb hO.rows_ hO.gens_ (by decide)
  obtain ⟨Ar2, cr2, hvr, _, _⟩ := own_shape hO.rows_
  obtain ⟨Ag2, cg2, hvg, _, _⟩ := own_shape hO.gens_
  rw [hvr, hvg] at H1
  rw [hvr, hvg]
  clear H0 hO hb hvr hvg
  have q0 := H1.cell 4 0 rfl rfl; have q1 := H1.cell 4 1 rfl rfl; have y0 := H1.frozen 4 0 rfl; have y1 := H1.frozen 4 1 rfl
  have H2 := (H1.set 4 0 (.slice Ar2 E.rows.length cr2) rfl).set 4 1 (.slice Ag2 E.gens.length cg2) rfl
  have p0 := H2.cell 4 0 rfl rfl; have p1 := H2.cell 4 1 rfl rfl
  go_wp2_with fail
  refine bodyPost_ret (v := .tuple #[.agg #[.slice Ar2 E.rows.length cr2, .slice Ag2 E.gens.length cg2], .int .i64 E.err]) (by simp [results, Try.results55, go_sem, p0, p1]) rfl ⟨_, rfl, ⟨_, _, rfl, H2.owns 5 rfl, H2.owns 6 rfl⟩, H2.bel⟩

set_option maxRecDepth 20000 in
set_option maxHeartbeats 3200000 in
theorem drop_any (rows : List BRow) (gens : List Int) (Ar : Option Addr) (cr : Nat) (Ag : Option Addr) (cg : Nat) (i g part : Int) (hlr : rows.length ≤ 9223372036854775807) (hlg : gens.length ≤ 9223372036854775807) (hnr : Ar = none → cr = 0 ∧ rows = []) (hng : Ag = none → cg = 0 ∧ gens = [])
    (w : World) (hr : RdR w w.heap.size Ar rows) (hg : RdG w w.heap.size Ag gens) :
    Calls Try.prog 56 #[.agg #[.slice Ar rows.length cr, .slice Ag gens.length cg], .agg #[.int .i64 i, .int .i64 g], .int .i64 part] w fun e w' =>
      ∃ v, e = .returned (.tuple #[v, .int .i64 (dropV rows gens i g part).err]) ∧ GotW w' w.heap.size v (dropV rows gens i g part).rows (dropV rows gens i g part).gens ∧ Below w.heap.size w w' := by
  have H0 := (((Hp.start w).new w.heap.size rfl 66 [.slice Ar rows.length cr, .slice Ag gens.length cg]).new (w.heap.size + 1) (by simp) 68 [.int .i64 i, .int .i64 g]).new (w.heap.size + 1 + 1) (by simp) 3 [.int .i64 part]
  replace H0 := H0.new (w.heap.size + 1 + 1 + 1) (by simp) 66 [.slice none 0 0, .slice none 0 0]
  have hmf : ∀ (fn : Fn) (first cap : Array Value) (w : World), (Instr.makeFunc fn first cap).run Try.prog w = .ok (.func fn first cap) w := fun _ _ _ _ => rfl
  have hpv : Hid (dropV rows gens i g part = changeV rows gens i g (dropF part)) := Lib.hid rfl
  generalize dropV rows gens i g part = E at *
  go_enter Try.func56, Try.ntmps56
  go_wp2_with fail
  obtain ⟨w0, hw0, H0⟩ := H0.name
  rw [hw0]; clear hw0
  refine (change_any rows gens Ar cr Ag cg i g w.heap.size 79 #[.pointer (some ⟨w.heap.size + 1 + 1, 0, none⟩)] (dropF part) hlr hlg hnr hng w0 (H0.old hr) (H0.old hg) (H0.blk 0 rfl) ?hF enter_drop).mono ?_
  case hF =>
    intro W b o cur r hbW hb hblk hrow hset
    have l2 := H0.lt 2 rfl
    exact dropF_any r hset part b o (w.heap.size + 1 + 1) W ((H0.blk 2 rfl).below hbW l2) (by omega) cur hblk hrow
  rintro e w1 ⟨v, rfl, hG, hb⟩
  rw [← hpv.out] at hG ⊢
  obtain ⟨vr, vg, rfl, hO⟩ := hG
  have H1 := H0.got2 hb hO.rows_ hO.gens_ (by decide)
  obtain ⟨Ar2, cr2, hvr, _, _⟩ := own_shape hO.rows_
  obtain ⟨Ag2, cg2, hvg, _, _⟩ := own_shape hO.gens_
  rw [hvr, hvg] at H1
  rw [hvr, hvg]
  clear H0 hO hb hvr hvg
  have q0 := H1.cell 3 0 rfl rfl; have q1 := H1.cell 3 1 rfl rfl; have y0 := H1.frozen 3 0 rfl; have y1 := H1.frozen 3 1 rfl
  have H2 := (H1.set 3 0 (.slice Ar2 E.rows.length cr2) rfl).set 3 1 (.slice Ag2 E.gens.length cg2) rfl
  have p0 := H2.cell 3 0 rfl rfl; have p1 := H2.cell 3 1 rfl rfl
  go_wp2_with fail
  refine bodyPost_ret (v := .tuple #[.agg #[.slice Ar2 E.rows.length cr2, .slice Ag2 E.gens.length cg2], .int .i64 E.err]) (by simp [results, Try.results56, go_sem, p0, p1]) rfl ⟨_, rfl, ⟨_, _, rfl, H2.owns 4 rfl, H2.owns 5 rfl⟩, H2.bel⟩

set_option maxRecDepth 20000 in
set_option maxHeartbeats 1600000 in
theorem isB2_any (r : BRow) (i g : Int) (b : Nat) (w : World) (h : Blk w b 68 #[.int .i64 i, .int .i64 g]) :
    Calls Try.prog 75 #[rowV r, .pointer (some ⟨b, 0, none⟩)] w fun e w' => e = .returned (.bool (isB i g r)) ∧ Below w.heap.size w w' := by
  have hib : Hid (isB i g r = (r.idx == i && r.gen == g)) := Lib.hid rfl
  generalize isB i g r = B at *
  obtain ⟨idx, gen, has, vals, h8⟩ := r
  obtain ⟨a0, a1, a2, a3, a4, a5, a6, a7, rfl⟩ := vals_eight h8
  simp only at hib
  have b0 := h.cell 0; have b1 := h.cell 1
  have hlt := h.lt
  simp at b0 b1
  have hrv : rowV ⟨idx, gen, has, [a0, a1, a2, a3, a4, a5, a6, a7], h8⟩ = .agg #[.int .i64 idx, .int .i64 gen, .int .i64 has, .int .i64 a0, .int .i64 a1, .int .i64 a2, .int .i64 a3, .int .i64 a4, .int .i64 a5, .int .i64 a6, .int .i64 a7] := rfl
  rw [hrv]
  go_enter Try.func75, Try.ntmps75
  go_wp2_with fail
  all_goals (go_ret; exact ⟨ret_bool (by rw [hib.out]; simp [*]), (Below.refl _ _).alloc (Nat.le_refl _) _⟩)

set_option maxRecDepth 20000 in
set_option maxHeartbeats 6400000 in
theorem kill_any (rows : List BRow) (gens : List Int) (Ar : Option Addr) (cr : Nat) (Ag : Option Addr) (cg : Nat) (i g : Int) (hlr : rows.length ≤ 9223372036854775807) (hlg : gens.length ≤ 9223372036854775807) (hnr : Ar = none → cr = 0 ∧ rows = []) (hng : Ag = none → cg = 0 ∧ gens = [])
    (w : World) (hr : RdR w w.heap.size Ar rows) (hg : RdG w w.heap.size Ag gens) :
    Calls Try.prog 53 #[.agg #[.slice Ar rows.length cr, .slice Ag gens.length cg], .agg #[.int .i64 i, .int .i64 g]] w fun e w' =>
      ∃ v, e = .returned (.tuple #[v, .int .i64 (killV rows gens i g).err]) ∧ GotW w' w.heap.size v (killV rows gens i g).rows (killV rows gens i g).gens ∧ Below w.heap.size w w' := by
  have H0 := ((Hp.start w).new w.heap.size rfl 66 [.slice Ar rows.length cr, .slice Ag gens.length cg]).new (w.heap.size + 1) (by simp) 68 [.int .i64 i, .int .i64 g]
  replace H0 := H0.new (w.heap.size + 1 + 1) (by simp) 66 [.slice none 0 0, .slice none 0 0]
  have hmf : ∀ (fn : Fn) (first cap : Array Value) (w : World), (Instr.makeFunc fn first cap).run Try.prog w = .ok (.func fn first cap) w := fun _ _ _ _ => rfl
  have hpv : Hid (killV rows gens i g = if (changeV rows gens i g keepF).err = 0 then ⟨keepR (isB i g) (changeV rows gens i g keepF).rows, (changeV rows gens i g keepF).gens, 0⟩ else changeV rows gens i g keepF) := Lib.hid rfl
  have hcl : Hid ((changeV rows gens i g keepF).err = 0 → (changeV rows gens i g keepF).rows.length ≤ 1000000) := Lib.hid (by
    intro _
    unfold changeV
    split
    · simp
    · rename_i hwe
      have hrw := (right_iff rows gens).1 (by simpa using hwe)
      have := hrw.rows_le; have := hrw.len
      split
      · simp
      · split
        · simp
        · split
          · simp
          · simp; omega)
  generalize killV rows gens i g = K at *
  go_enter Try.func53, Try.ntmps53
  go_wp2_with fail
  obtain ⟨w0, hw0, H0⟩ := H0.name
  rw [hw0]; clear hw0
  refine (change_any rows gens Ar cr Ag cg i g w.heap.size 73 #[] keepF hlr hlg hnr hng w0 (H0.old hr) (H0.old hg) (H0.blk 0 rfl) ?hF enter_kill1).mono ?_
  case hF =>
    intro W b o cur r hbW hb hblk hrow hset
    refine (keepF_any _ W).mono ?_
    rintro e W' ⟨rfl, rfl⟩
    exact ⟨rfl, grown_refl _ _, by rw [show (keepF r).1 = r from rfl, patch_same hrow]; exact hblk⟩
  rintro e w1 ⟨v, rfl, hG, hb⟩
  generalize changeV rows gens i g keepF = E at *
  obtain ⟨er, eg, ee⟩ := E
  obtain ⟨vr, vg, rfl, hO⟩ := hG
  dsimp only at hcl hpv hO ⊢
  have H1 := H0.got2 hb hO.rows_ hO.gens_ (by decide)
  obtain ⟨Ar2, cr2, hvr, _, _⟩ := own_shape hO.rows_
  obtain ⟨Ag2, cg2, hvg, _, _⟩ := own_shape hO.gens_
  skip
  subst hvr hvg
  clear H0 hO hb
  have l1 := H1.lt 1 rfl; have l2 := H1.lt 2 rfl
  replace H1 := H1.new w1.heap.size rfl 66 [.slice Ar2 er.length cr2, .slice Ag2 eg.length cg2]
  by_cases hee : ee = 0
  · subst hee
    have hK : Hid (K = ⟨keepR (isB i g) er, eg, 0⟩) := Lib.hid (by rw [hpv.out, if_pos rfl])
    have hel := hcl.out rfl
    clear hpv hcl
    go_wp2_with fail
    obtain ⟨w2, hw2, H1⟩ := H1.name
    rw [hw2]; clear hw2
    refine (delrows_any er hel 75 #[.pointer (some ⟨w.heap.size + 1, 0, none⟩)] (isB i g) _ w.heap.size w2 (H1.owns 3 rfl) ?hP enter_kill2).mono ?_
    case hP =>
      intro W r hgW
      have hap := H1.apart (i := 1) (j := 3) rfl rfl (by omega) (g := w.heap.size + 1) rfl
      exact isB2_any r i g (w.heap.size + 1) W ((H1.blk 1 rfl).grown hgW (fun e => hap e.symm))
    rintro e w3 ⟨v3, rfl, hown3, hgrow3, hat3⟩
    have H3 := H1.step (p' := .own v3 82 11 (keepR (isB i g) er).length _) 3 rfl hgrow3 hown3 hat3
    obtain ⟨A3, c3, hv3, _, _⟩ := own_shape hown3
    subst hv3
    clear H1 hown3 hgrow3 hat3
    have q0 := H3.cell 2 0 rfl rfl; have q1 := H3.cell 2 1 rfl rfl; have y0 := H3.frozen 2 0 rfl; have y1 := H3.frozen 2 1 rfl
    have x0 := H3.cell 5 0 rfl rfl; have x1 := H3.cell 5 1 rfl rfl; have z0 := H3.frozen 5 0 rfl
    have n1 := H3.ne 2 5 rfl rfl (by omega); have n2 := n1.symm
    generalize keepR (isB i g) er = kr at *
    have H4 := ((H3.set 5 0 (.slice A3 kr.length c3) rfl).set 2 0 (.slice A3 kr.length c3) rfl).set 2 1 (.slice Ag2 eg.length cg2) rfl
    have p0 := H4.cell 2 0 rfl rfl; have p1 := H4.cell 2 1 rfl rfl
    go_wp2_with fail
    refine bodyPost_ret (v := .tuple #[.agg #[.slice A3 kr.length c3, .slice Ag2 eg.length cg2], .int .i64 0]) (by simp [results, Try.results53, go_sem, p0, p1]) rfl ⟨_, by rw [hK.out], by rw [hK.out]; exact ⟨_, _, rfl, H4.owns 3 rfl, H4.owns 4 rfl⟩, H4.bel⟩
  · have hee' : (ee == 0) = false := by simpa using hee
    have hK : Hid (K = ⟨er, eg, ee⟩) := Lib.hid (by rw [hpv.out, if_neg hee])
    clear hpv hcl
    have H1' := H1.drop1 5
    go_upto_region 4 with fail
    obtain ⟨w2, hw2, H3⟩ := H1.name
    rw [hw2]; clear hw2
    have q0 := H3.cell 2 0 rfl rfl; have q1 := H3.cell 2 1 rfl rfl; have y0 := H3.frozen 2 0 rfl; have y1 := H3.frozen 2 1 rfl
    have x0 := H3.cell 5 0 rfl rfl; have x1 := H3.cell 5 1 rfl rfl
    have H4 := (H3.set 2 0 (.slice Ar2 er.length cr2) rfl).set 2 1 (.slice Ag2 eg.length cg2) rfl
    have p0 := H4.cell 2 0 rfl rfl; have p1 := H4.cell 2 1 rfl rfl
    go_wp2_with fail
    refine bodyPost_ret (v := .tuple #[.agg #[.slice Ar2 er.length cr2, .slice Ag2 eg.length cg2], .int .i64 ee]) (by simp [results, Try.results53, go_sem, p0, p1]) rfl ⟨_, by rw [hK.out], by rw [hK.out]; exact ⟨_, _, rfl, H4.owns 3 rfl, H4.owns 4 rfl⟩, H4.bel⟩
end Go.Proofs.Ytefdblaolmckmaa
