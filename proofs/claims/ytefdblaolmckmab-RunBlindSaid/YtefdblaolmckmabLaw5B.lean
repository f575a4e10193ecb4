/- The walk of RunBlind. -/
import Derived.Test.YtefdblaolmckmabBSortTBToRefW
import Derived.Test.YtefdblaolmckmabBRef2AToTwoB
import Derived.Test.YtefdblaolmckmabBRuleNToClash
import Derived.Test.YtefdblaolmckmabBOpenIToSpecZB
import Derived.Test.YtefdblaolmckmabBSortTRToStoO
namespace Go.Proofs.Ytefdblaolmckmab
open Go.RowKit
open Brood
set_option linter.unusedVariables false
set_option linter.unusedSimpArgs false
theorem blind_fact {rows : List BRow} {gens : List Int} (hw : RightW rows gens) {s : BSys} {p : Nat} (vals : List Int) (hx : (sysWrong s).1 = 0) (hk : hasB (needs s).reads (p : Int) = false) :
    (runM ⟨rows, gens⟩ s).err = (runM ⟨blindRows p vals rows, gens⟩ s).err ∧ ((runM ⟨rows, gens⟩ s).err = 0 → (runM ⟨rows, gens⟩ s).rows.map (blR p) = (runM ⟨blindRows p vals rows, gens⟩ s).rows.map (blR p)) :=
  run_blind (W := ⟨rows, gens⟩) (V := ⟨blindRows p vals rows, gens⟩) hw (blindRows_right hw p vals) (by show BWorld.mk _ _ = BWorld.mk _ _; rw [blindRows_bl]) hx hk
def blindQ (p : Nat) (o : Option Int) (h : Int) : Bool := match o with
  | some v => hasB h (p : Int) && isVal v
  | none => false
theorem blind_true {p : Nat} {o : Option Int} {r : BRow} (h : blindQ p o r.has = true) : ∃ v, o = some v ∧ (rowCells r).set (3 + p) (.int .i64 v) = rowCells (blindRow p o r) := by
  obtain ⟨idx, gen, has, vals, h8⟩ := r
  cases o with
  | none => cases h
  | some v =>
    refine ⟨v, rfl, ?_⟩
    unfold blindRow
    dsimp only
    rw [if_pos (show (hasB has (p : Int) && isVal v) = true from h)]
    exact rowL_set idx gen has vals p v
theorem blind_false {p : Nat} {o : Option Int} {r : BRow} (h : blindQ p o r.has = false) : blindRow p o r = r := by
  cases o with
  | none => rfl
  | some v =>
    unfold blindRow
    dsimp only
    rw [if_neg (by rw [show (hasB r.has (p : Int) && isVal v) = false from h]; simp)]
theorem blindRows_len (p : Nat) (vals : List Int) (rows : List BRow) : (blindRows p vals rows).length = rows.length := by simp [blindRows]
theorem blindRows_at (p : Nat) (vals : List Int) (rows : List BRow) {k : Nat} (h : k < rows.length) : (blindRows p vals rows).take (k + 1) = (blindRows p vals rows).take k ++ [blindRow p vals[k]? rows[k]] := by
  have h2 : k < (blindRows p vals rows).length := by rw [blindRows_len]; exact h
  rw [← List.take_append_getElem h2]
  congr 2
  simp [blindRows]
theorem fld_needs (a b : Int) (c d : Bool) (W : World) : (Instr.field 89 (.agg #[.int .i64 a, .int .i64 b, .bool c, .bool d]) 0).run Try.prog W = .ok (.int .i64 a) W := by kernel_rfl
def blE (g : Nat) (Ag : Option Addr) (m cg : Nat) (Au : Option Addr) (cu : Nat) (R : List BRow) : List Ent :=
  [.box g 25 [.slice Au R.length cu, .slice Ag m cg], .own (.slice Au R.length cu) 51 11 R.length (R.flatMap rowCells)]
def blT (g1 g2 : Nat) (Av : Option Addr) (vr : List BRow) (cv : Nat) (Agv : Option Addr) (vg : List Int) (cgv : Nat) (Bv : Option Addr) (ur : List BRow) (du : Nat) (Bgv : Option Addr) (ug : List Int) (dgv : Nat) : List Ent :=
  [.box g1 25 [.slice Av vr.length cv, .slice Agv vg.length cgv], .box g2 25 [.slice Bv ur.length du, .slice Bgv ug.length dgv], .own (.slice Av vr.length cv) 51 11 vr.length (vr.flatMap rowCells), .own (.slice Bv ur.length du) 51 11 ur.length (ur.flatMap rowCells)]
theorem bl_same {k p : Nat} {vr ur : List BRow} (h : vr.map (blR p) = ur.map (blR p)) (h1 : k < vr.length) (h2 : k < ur.length) : blR p vr[k] = blR p ur[k] := by
  have e : (vr.map (blR p))[k]? = (ur.map (blR p))[k]? := by rw [h]
  simpa [h1, h2] using e
theorem row_valB (r : BRow) {k : Nat} (hk : k < 8) : (rowCells r)[3 + k]? = some (.int .i64 (r.vals.getD k 0)) := by
  obtain ⟨idx, gen, has, vals, h8⟩ := r
  obtain ⟨z0, z1, z2, z3, z4, z5, z6, z7, rfl⟩ := vals_eight h8
  rcases (show k = 0 ∨ k = 1 ∨ k = 2 ∨ k = 3 ∨ k = 4 ∨ k = 5 ∨ k = 6 ∨ k = 7 by omega) with rfl | rfl | rfl | rfl | rfl | rfl | rfl | rfl <;> rfl
theorem bl_cells (p : Nat) (r : BRow) : (rowCells r).set (3 + p) (.int .i64 0) = rowCells (blR p r) := by
  obtain ⟨idx, gen, has, vals, h8⟩ := r
  exact rowL_set idx gen has vals p 0
set_option maxRecDepth 20000 in
set_option maxHeartbeats 12800000 in
theorem runBlind_any (rows : List BRow) (gens : List Int) (Ar : Option Addr) (cr : Nat) (Ag : Option Addr) (cg : Nat) (s : BSys) (sA : Option Addr) (sc : Nat) (part : Int) (vals : List Int) (vA : Option Addr) (vc : Nat) (hlr : rows.length ≤ 9223372036854775807) (hlg : gens.length ≤ 9223372036854775807) (hnr : Ar = none → cr = 0 ∧ rows = []) (hng : Ag = none → cg = 0 ∧ gens = [])
    (w : World) (hr : RdR w w.heap.size Ar rows) (hg : RdG w w.heap.size Ag gens) (hs : RdA w sA s.acts) (hlv : vals.length ≤ maxLen) (hv : RdG w w.heap.size vA vals) :
    Calls Try.prog 9 #[.agg #[.slice Ar rows.length cr, .slice Ag gens.length cg], .agg #[.int .i64 s.mod, .int .i64 s.all, .int .i64 s.non, .slice sA s.acts.length sc], .int .i64 part, .slice vA vals.length vc] w fun e w' => e = .returned (.bool true) ∧ Below w.heap.size w w' := by
  have H0 := ((Hp.start w).new w.heap.size rfl 25 [.slice Ar rows.length cr, .slice Ag gens.length cg]).new (w.heap.size + 1) (by simp) 85 [.int .i64 s.mod, .int .i64 s.all, .int .i64 s.non, .slice sA s.acts.length sc]
  replace H0 : Hp w _ [.box w.heap.size 25 [.slice Ar rows.length cr, .slice Ag gens.length cg], .box (w.heap.size + 1) 85 [.int .i64 s.mod, .int .i64 s.all, .int .i64 s.non, .slice sA s.acts.length sc]] := H0
  have hsh := Lib.hid hs; have hvh := Lib.hid hv
  have hlv2 : vals.length ≤ 9223372036854775807 := Nat.le_trans hlv (by decide)
  clear hs hv
  have hws := Lib.hid (fun W hA => wrong_any s sA sc W hA)
  have hneed := Lib.hid (fun (h : (sysWrong s).1 = 0) W hA => needs_right s (right_of h) sA sc W hA)
  have hnset := Lib.hid (fun (h : (sysWrong s).1 = 0) => (needs_sets (right_of h)).1)
  have hblf := Lib.hid (fun (hw : RightW rows gens) (hx : (sysWrong s).1 = 0) (p : Nat) (hk : hasB (needs s).reads (p : Int) = false) => blind_fact hw vals hx hk)
  go_enter Try.func9, Try.ntmps9
  go_wp2_with fail
  obtain ⟨w0, hw0, H0⟩ := H0.name
  rw [hw0]; clear hw0
  refine (alive5_any w0).mono ?_
  rintro e w1 ⟨rfl, hb⟩
  replace H0 := H0.grow hb
  clear hb
  have a0 := H0.cell 0 0 rfl rfl; have a1 := H0.cell 0 1 rfl rfl
  go_wp2_with fail
  refine (sof_any rows gens Ar cr Ag cg hlr hng w1 (H0.old hr) (H0.old hg)).mono ?_
  rintro e w2 ⟨v, rfl, hG⟩
  have H1 := H0.grow hG.bel
  obtain ⟨A, c, l, Ag2, cg2, rfl, hl, hR⟩ := hG.rd
  have hsm := Lib.hid (ofV_small hl)
  have hrt : Hid ((worldErr ⟨rows, gens⟩).1 = 0 → RightW rows gens) := Lib.hid (right_iff rows gens).1
  have hof : Hid (ofV rows gens = if (worldErr ⟨rows, gens⟩).1 ≠ 0 then ([], []) else (tabsW rows, gens)) := Lib.hid rfl
  generalize worldErr ⟨rows, gens⟩ = F at *
  obtain ⟨f1, f2⟩ := F
  clear hG H0 a0 a1
  unfold fV
  dsimp only at hrt hof ⊢
  by_cases hf : f1 = 0
  case neg =>
    have hf' : (f1 != 0) = true := by simpa using hf
    have H2 := (H1.new w2.heap.size rfl 59 [.slice A l.length c, .slice Ag2 (ofV rows gens).2.length cg2]).new (w2.heap.size + 1) (by simp) 32 [.int .i64 f1, .int .i64 f2]
    have H2h := Lib.hid H2
    clear H1 hR hl hof hrt H2 hf hsm
    generalize (ofV rows gens).2 = gs at *
    go_wp2_with fail
    go_ret
    exact ⟨rfl, H2h.out.bel⟩
  subst hf
  have hRw := hrt.out rfl
  rw [show ofV rows gens = (tabsW rows, gens) by rw [hof.out, if_neg (by simp)]] at hl hR hsm ⊢
  dsimp only at hl hR hsm ⊢
  have hlr60 : rows.length ≤ 60 := Nat.le_trans hRw.rows_le hRw.len
  have hlg60 : gens.length ≤ 60 := hRw.len
  have hrw60 := Lib.hid (fun r hr => hRw.set_ r hr)
  have H2 := (H1.new w2.heap.size rfl 59 [.slice A l.length c, .slice Ag2 gens.length cg2]).new (w2.heap.size + 1) (by simp) 32 [.int .i64 0, .int .i64 f2]
  have hR2 := Lib.hid ((hR.alloc (.cells #[.slice A l.length c, .slice Ag2 gens.length cg2] 59)).alloc (.cells #[.int .i64 0, .int .i64 f2] 32))
  have hRwh := Lib.hid hRw; have hlh := Lib.hid hl
  clear hof hrt H1 hR hRw hl
  have l0 := H2.lt 0 rfl
  have hfl := fun a b W => fld_err3 a b W
  have hfn := fun a b c d W => fld_needs a b c d W
  go_upto_region 4 with fail
  obtain ⟨w3, hw3, H2⟩ := H2.name
  rw [hw3] at hR2 ⊢
  clear hw3 l0
  replace H2 : Hp w w3 [.box w.heap.size 25 [.slice Ar rows.length cr, .slice Ag gens.length cg], .box (w.heap.size + 1) 85 [.int .i64 s.mod, .int .i64 s.all, .int .i64 s.non, .slice sA s.acts.length sc], .box w2.heap.size 59 [.slice A l.length c, .slice Ag2 gens.length cg2], .box (w2.heap.size + 1) 32 [.int .i64 0, .int .i64 f2]] := H2
  have u0 := H2.cell 1 0 rfl rfl; have u1 := H2.cell 1 1 rfl rfl; have u2 := H2.cell 1 2 rfl rfl; have u3 := H2.cell 1 3 rfl rfl; have ff := H2.cell 3 0 rfl rfl
  go_wp2_with fail
  refine (hws.out w3 (RdA.grow hsh.out H2.bel)).mono ?_
  clear hws
  generalize sysWrong s = F1 at *
  obtain ⟨s1, s2⟩ := F1
  rintro e w4 ⟨rfl, hb4⟩
  replace H2 := H2.grow hb4
  have hR3 := Lib.hid (hR2.out.grow hb4)
  dsimp only at hneed hnset hblf ⊢
  clear hb4 hR2 u0 u1 u2 u3 ff
  by_cases hs1 : s1 = 0
  case neg =>
    have hs1' : (s1 != 0) = true := by simpa using hs1
    have H2h := Lib.hid H2
    clear hs1 H2
    go_wp2_with fail
    go_ret
    exact ⟨rfl, H2h.out.bel⟩
  subst hs1
  by_cases hp0 : part < 0
  · have H2h := Lib.hid H2
    clear H2
    go_wp2_with fail
    go_ret
    exact ⟨rfl, H2h.out.bel⟩
  by_cases hp8 : 8 ≤ part
  · have H2h := Lib.hid H2
    clear H2
    go_wp2_with fail
    go_ret
    exact ⟨rfl, H2h.out.bel⟩
  obtain ⟨p, rfl⟩ := nat_of (show 0 ≤ part by omega)
  have hp : p < 8 := by omega
  clear hp0 hp8
  have p0 : (0 : Int) ≤ (p : Int) := by omega
  have p8 : (p : Int) < 8 := by omega
  have u0 := H2.cell 1 0 rfl rfl; have u1 := H2.cell 1 1 rfl rfl; have u2 := H2.cell 1 2 rfl rfl; have u3 := H2.cell 1 3 rfl rfl
  go_wp2_with fail
  refine (hneed.out (by trivial) w4 (RdA.grow hsh.out H2.bel)).mono ?_
  have hns := hnset.out (by trivial)
  have hblg := Lib.hid (hblf.out hRwh.out (by trivial) p)
  clear hneed hnset hblf
  generalize needs s = N at *
  obtain ⟨nr, nw, nm, nl⟩ := N
  rintro e w5 ⟨rfl, hb5⟩
  replace H2 := H2.grow hb5
  have hR4 := Lib.hid (hR3.out.grow hb5)
  dsimp only at hns hblg ⊢
  clear hb5 hR3 u0 u1 u2 u3
  go_wp2_with fail
  refine (rhas_any nr (p : Int) hns w5).mono ?_
  rintro e w6 ⟨rfl, hb6⟩
  replace H2 := H2.grow hb6
  have hR5 := Lib.hid (hR4.out.grow hb6)
  clear hb6 hR4
  cases hk0 : hasB nr (p : Int) with
  | true =>
    have H2h := Lib.hid H2
    clear H2
    go_wp2_with fail
    go_ret
    exact ⟨rfl, H2h.out.bel⟩
  | false =>
  have hbl := Lib.hid (hblg.out hk0)
  clear hblg hk0 hns
  have a0 := H2.cell 0 0 rfl rfl; have a1 := H2.cell 0 1 rfl rfl
  have hBel := Lib.hid (fun wr (h : Below w6.heap.size w6 wr) => H2.bel.trans (h.mono H2.bel.size))
  have l0 := H2.lt 0 rfl
  have H2h := Lib.hid H2
  have HL := ((Hp.start w6).new w6.heap.size rfl 25 [.slice none 0 0, .slice Ag gens.length cg]).nil_ 51 11
  replace HL : Hp w6 _ (blE w6.heap.size Ag gens.length cg none 0 []) := HL
  have hBlen := Lib.hid (blindRows_len p vals rows)
  have hBat := Lib.hid (fun k (h : k < rows.length) => blindRows_at p vals rows h)
  have hBr := Lib.hid (blindRows_right hRwh.out p vals)
  have hBt : Hid ((blindRows p vals rows).take 0 = []) := Lib.hid rfl
  generalize blindRows p vals rows = B at *
  have HLh := Lib.hid HL
  clear H2 HL
  go_wp2_with fail
  go_loopw [62] (fun q wr => ∃ k : Nat, k ≤ rows.length ∧ q = .int .i64 k ∧ ∃ Au cu, Hp w6 wr (blE w6.heap.size Ag gens.length cg Au cu (B.take k))) (fun q _ => rows.length - (intOf q).toNat)
  case atStart => exact ⟨0, by omega, rfl, none, 0, by rw [hBt.out]; exact HLh.out⟩
  case round =>
    clear HLh a0 a1 l0 hBt
    obtain ⟨k0, hk, rfl, Au, cu, H⟩ := hrel
    by_cases hlt : k0 < rows.length
    · have hBw := hBel.out wr H.bel
      have hR1 : RdR wr w.heap.size Ar rows := Rd.under hr hBw (Nat.le_refl _)
      obtain ⟨b1, off, rfl, hb1, hrow⟩ := hR1.at_ hlt
      have hmem := List.getElem_mem hlt
      have hrs := hrw60.out _ hmem
      have htk := Lib.hid (hBat.out k0 hlt)
      have hBl := hBlen.out
      generalize hQ : B.take k0 = Q at *
      have hQl : Q.length ≤ 60 := by rw [← hQ]; simp; omega
      clear hQ hBl
      generalize rows[k0] = r at *
      obtain ⟨c0, c1, c2'⟩ := hrow.head
      obtain ⟨idx, gen, rh, rvs, h8⟩ := r
      obtain ⟨z0, z1, z2, z3, z4, z5, z6, z7, rfl⟩ := vals_eight h8
      have v0 := hrow 3 (.int .i64 z0) rfl; have v1 := hrow 4 (.int .i64 z1) rfl; have v2 := hrow 5 (.int .i64 z2) rfl; have v3 := hrow 6 (.int .i64 z3) rfl; have v4 := hrow 7 (.int .i64 z4) rfl; have v5 := hrow 8 (.int .i64 z5) rfl; have v6 := hrow 9 (.int .i64 z6) rfl; have v7 := hrow 10 (.int .i64 z7) rfl
      simp only at c0 c1 c2'
      dsimp only at hrs
      have H1 := H.new wr.heap.size rfl 51 (rowCells ⟨idx, gen, rh, [z0, z1, z2, z3, z4, z5, z6, z7], h8⟩)
      have i0 : (0 : Int) ≤ (k0 : Int) := by omega
      have i1 : (k0 : Int) < (rows.length : Int) := by omega
      clear hrow hmem hR1 H
      have H1h := Lib.hid H1
      clear H1
      go_upto_region 10 with fail
      obtain ⟨w8, hw8, H1⟩ := H1h.out.name
      change Code.wp _ _ _ _ (wr.alloc (.cells (rowCells ⟨idx, gen, rh, [z0, z1, z2, z3, z4, z5, z6, z7], h8⟩).toArray 51))
      rw [hw8]
      clear hw8 H1h
      obtain ⟨b13, hb13⟩ : ∃ b13, b13 = wr.heap.size := ⟨_, rfl⟩
      rw [← hb13] at H1 ⊢
      clear hb13 c0 c1 c2' v0 v1 v2 v3 v4 v5 v6 v7 i1 hb1
      have x2 := H1.cell 2 2 rfl rfl
      have hv8 : RdG w8 w.heap.size vA vals := Rd.under hvh.out (hBel.out w8 H1.bel) (Nat.le_refl _)
      have hv8h := Lib.hid hv8
      have H1h := Lib.hid H1
      have hcell : k0 < vals.length → ∃ vb vo, vA = some ⟨vb, vo, none⟩ ∧ vb < w.heap.size ∧ w8.cell? ⟨vb, vo + k0, none⟩ = some (.int .i64 (vals.getD k0 0)) ∧ vals[k0]? = some (vals.getD k0 0) := fun h => by
        obtain ⟨vb, vo, e1, e2, e3⟩ := hv8.at_ h
        have : vals[k0] = vals.getD k0 0 := by simp [List.getD_eq_getElem?_getD, h]
        exact ⟨vb, vo, e1, e2, by rw [e3, this], by simp [List.getD_eq_getElem?_getD, h]⟩
      have hsz := Lib.hid (hBel.out w8 H1.bel).size
      clear H1 hv8
      go_cut [83] (fun sx wx => sx = .bool (blindQ p vals[k0]? rh) ∧ Below w8.heap.size w8 wx)
      case first =>
        by_cases hkv : k0 < vals.length
        · obtain ⟨vb, vo, rfl, hvb, vc0, hvo⟩ := hcell hkv
          have hi3 : (k0 : Int) < (vals.length : Int) := by omega
          generalize vals.getD k0 0 = v at *
          have hvoh := Lib.hid hvo
          clear hvo
          have hvb2 : vb < w8.heap.size := Nat.lt_of_lt_of_le hvb hsz.out
          rcases Bool.eq_false_or_eq_true (hasB rh (p : Int)) with hh | hh
          · have hB : blindQ p (some v) rh = isVal v := by unfold blindQ; dsimp only; rw [hh]; rfl
            replace hB := Lib.hid hB
            go_wp2_with fail
            refine (rhas_any rh (p : Int) hrs w8).mono ?_
            rw [hh]
            rintro e w9 ⟨rfl, hb9⟩
            have vc1 := (hb9.cell (p := ⟨vb, vo + k0, none⟩) hvb2).trans vc0
            have hb9h := Lib.hid hb9
            clear hb9
            go_wp2_with fail
            refine (rvalue_any v w9).mono ?_
            generalize isVal v = iv at *
            rintro e w10 ⟨rfl, rfl⟩
            go_wp2_with fail
            go_meet
            exact ⟨by rw [hvoh.out, hB.out], hb9h.out⟩
          · have hB : blindQ p (some v) rh = false := by unfold blindQ; dsimp only; rw [hh]; rfl
            replace hB := Lib.hid hB
            go_wp2_with fail
            refine (rhas_any rh (p : Int) hrs w8).mono ?_
            rw [hh]
            rintro e w9 ⟨rfl, hb9⟩
            have hb9h := Lib.hid hb9
            clear hb9
            go_wp2_with fail
            go_meet
            exact ⟨by rw [hvoh.out, hB.out], hb9h.out⟩
        · have hB : blindQ p vals[k0]? rh = false := by rw [List.getElem?_eq_none (by omega)]; rfl
          replace hB := Lib.hid hB
          have hi3 : ¬ ((k0 : Int) < (vals.length : Int)) := by omega
          clear hcell
          go_wp2_with fail
          go_meet
          exact ⟨by rw [hB.out], Below.refl _ _⟩
      case rest =>
      obtain ⟨rfl, hb9⟩ := hcut
      obtain ⟨w9, rfl⟩ : ∃ w9 : World, w9 = wc := ⟨_, rfl⟩
      clear x2 hv8h
      cases hq : blindQ p vals[k0]? rh with
      | true =>
        obtain ⟨v, hvo, hset⟩ := blind_true (r := ⟨idx, gen, rh, [z0, z1, z2, z3, z4, z5, z6, z7], h8⟩) hq
        have hkv : k0 < vals.length := by
          by_cases h : k0 < vals.length
          · exact h
          · rw [List.getElem?_eq_none (by omega)] at hvo; cases hvo
        obtain ⟨vb, vo, rfl, hvb, vc0, hvo2⟩ := hcell hkv
        rw [hvo] at hvo2
        injection hvo2 with hvo2
        rw [← hvo2] at vc0
        have vc1 := (hb9.cell (p := ⟨vb, vo + k0, none⟩) (Nat.lt_of_lt_of_le hvb hsz.out)).trans vc0
        have hi3 : (k0 : Int) < (vals.length : Int) := by omega
        have H3 := H1h.out.grow hb9
        obtain ⟨u, hu⟩ : ∃ u, w9.cell? ⟨b13, 3 + p, none⟩ = some u := ⟨_, H3.cell 2 (3 + p) rfl (row_valB _ hp)⟩
        have z6' := H3.frozen 2 (3 + p) rfl
        have H4 := H3.set 2 (3 + p) (.int .i64 v) rfl
        rw [hset] at H4
        generalize blindRow p vals[k0]? ⟨idx, gen, rh, [z0, z1, z2, z3, z4, z5, z6, z7], h8⟩ = r2 at *
        obtain ⟨ri, rg, rh2, rvs, r8⟩ := r2
        obtain ⟨y0, y1, y2, y3, y4, y5, y6, y7, rfl⟩ := vals_eight r8
        have H4h := Lib.hid H4
        clear H3 H4 hcell hset hvo hvo2 H1h hb9 hsz vc0 hq
        go_upto_region 12 with fail
        obtain ⟨wA, hwA, H3⟩ := H4h.out.name
        rw [hwA]
        clear hwA H4h vc1 hu z6'
        replace H3 : Hp w6 wA (blE w6.heap.size Ag gens.length cg Au cu Q ++ [.box b13 51 [.int .i64 ri, .int .i64 rg, .int .i64 rh2, .int .i64 y0, .int .i64 y1, .int .i64 y2, .int .i64 y3, .int .i64 y4, .int .i64 y5, .int .i64 y6, .int .i64 y7]]) := H3
        obtain ⟨i0', hi0, hz0a, hz0b, hz0c⟩ := info_parts infoRow
        have c0 := H3.cell 2 0 rfl rfl; have c1 := H3.cell 2 1 rfl rfl; have c2 := H3.cell 2 2 rfl rfl; have c3 := H3.cell 2 3 rfl rfl; have c4 := H3.cell 2 4 rfl rfl; have c5 := H3.cell 2 5 rfl rfl; have c6 := H3.cell 2 6 rfl rfl; have c7 := H3.cell 2 7 rfl rfl; have c8 := H3.cell 2 8 rfl rfl; have c9 := H3.cell 2 9 rfl rfl; have c10 := H3.cell 2 10 rfl rfl
        have d0 := H3.cell 0 0 rfl rfl
        have HN := H3.new wA.heap.size rfl 51 [.int .i64 ri, .int .i64 rg, .int .i64 rh2, .int .i64 y0, .int .i64 y1, .int .i64 y2, .int .i64 y3, .int .i64 y4, .int .i64 y5, .int .i64 y6, .int .i64 y7]
        clear H3
        go_wp2_with (at_builtin; refine wpList_append_own_at _ rfl _ _ 22 rfl w6.heap.size 51 i0' (.agg #[.int .i64 0, .int .i64 0, .int .i64 0, .int .i64 0, .int .i64 0, .int .i64 0, .int .i64 0, .int .i64 0, .int .i64 0, .int .i64 0, .int .i64 0]) 11 88 Try.underlying22 hi0 hz0a hz0b hz0c rfl (by decide) _ _ _ rfl (HN.owns 1 rfl) ⟨wA.heap.size, 0, none⟩ 1 1 [.int .i64 ri, .int .i64 rg, .int .i64 rh2, .int .i64 y0, .int .i64 y1, .int .i64 y2, .int .i64 y3, .int .i64 y4, .int .i64 y5, .int .i64 y6, .int .i64 y7] rfl rfl ?c1 ?c2 ?c3 ?c4 ?c5 ?_; rotate_left 5; intro v' w7 hown7 hgrow7 _ hat7; have H8 := HN.app 1 rfl hgrow7 hown7 (hat7.imp id (fun e g hg => by rw [e] at hg; injection hg with hg; omega)); have zz0 := H8.cell 0 0 rfl rfl; have zz3 := H8.frozen 0 0 rfl; obtain ⟨A3, c3, rfl, hs1, hs2⟩ := own_shape hown7)
        case c1 => exact news_blk (HN.blk 3 rfl)
        case c2 => simp [Value.oneCell']
        case c3 => unfold maxLen; omega
        case c4 => omega
        case c5 => simpa using HN.bel.size
        go_roundw
        case rel =>
          refine ⟨k0 + 1, by omega, by go_num, A3, c3, ?_⟩
          rw [htk.out]
          unfold blE
          rw [show (Q ++ [(⟨ri, rg, rh2, [y0, y1, y2, y3, y4, y5, y6, y7], r8⟩ : BRow)]).length = Q.length + 1 by simp, flat_snoc]
          exact ((H8.set 0 0 (.slice A3 (Q.length + 1) c3) rfl).drop1 3).drop1 2
        case measure => simp [intOf]; omega
      | false =>
        have hset := blind_false (r := ⟨idx, gen, rh, [z0, z1, z2, z3, z4, z5, z6, z7], h8⟩) hq
        have H3 := H1h.out.grow hb9
        rw [hset] at htk
        clear hcell hset H1h hb9 hsz hq
        have H4h := Lib.hid H3
        clear H3
        go_upto_region 12 with fail
        obtain ⟨wA, hwA, H3⟩ := H4h.out.name
        rw [hwA]
        clear hwA H4h
        replace H3 : Hp w6 wA (blE w6.heap.size Ag gens.length cg Au cu Q ++ [.box b13 51 (rowCells ⟨idx, gen, rh, [z0, z1, z2, z3, z4, z5, z6, z7], h8⟩)]) := H3
        obtain ⟨i0', hi0, hz0a, hz0b, hz0c⟩ := info_parts infoRow
        have c0 := H3.cell 2 0 rfl rfl; have c1 := H3.cell 2 1 rfl rfl; have c2 := H3.cell 2 2 rfl rfl; have c3 := H3.cell 2 3 rfl rfl; have c4 := H3.cell 2 4 rfl rfl; have c5 := H3.cell 2 5 rfl rfl; have c6 := H3.cell 2 6 rfl rfl; have c7 := H3.cell 2 7 rfl rfl; have c8 := H3.cell 2 8 rfl rfl; have c9 := H3.cell 2 9 rfl rfl; have c10 := H3.cell 2 10 rfl rfl
        have d0 := H3.cell 0 0 rfl rfl
        have HN := H3.new wA.heap.size rfl 51 [.int .i64 idx, .int .i64 gen, .int .i64 rh, .int .i64 z0, .int .i64 z1, .int .i64 z2, .int .i64 z3, .int .i64 z4, .int .i64 z5, .int .i64 z6, .int .i64 z7]
        clear H3
        go_wp2_with (at_builtin; refine wpList_append_own_at _ rfl _ _ 22 rfl w6.heap.size 51 i0' (.agg #[.int .i64 0, .int .i64 0, .int .i64 0, .int .i64 0, .int .i64 0, .int .i64 0, .int .i64 0, .int .i64 0, .int .i64 0, .int .i64 0, .int .i64 0]) 11 88 Try.underlying22 hi0 hz0a hz0b hz0c rfl (by decide) _ _ _ rfl (HN.owns 1 rfl) ⟨wA.heap.size, 0, none⟩ 1 1 [.int .i64 idx, .int .i64 gen, .int .i64 rh, .int .i64 z0, .int .i64 z1, .int .i64 z2, .int .i64 z3, .int .i64 z4, .int .i64 z5, .int .i64 z6, .int .i64 z7] rfl rfl ?c1 ?c2 ?c3 ?c4 ?c5 ?_; rotate_left 5; intro v' w7 hown7 hgrow7 _ hat7; have H8 := HN.app 1 rfl hgrow7 hown7 (hat7.imp id (fun e g hg => by rw [e] at hg; injection hg with hg; omega)); have zz0 := H8.cell 0 0 rfl rfl; have zz3 := H8.frozen 0 0 rfl; obtain ⟨A3, c3, rfl, hs1, hs2⟩ := own_shape hown7)
        case c2 => simp [Value.oneCell']
        case c3 => unfold maxLen; omega
        case c4 => omega
        case c5 => simpa using HN.bel.size
        go_roundw
        case rel =>
          refine ⟨k0 + 1, by omega, by go_num, A3, c3, ?_⟩
          rw [htk.out]
          unfold blE
          rw [show (Q ++ [(⟨idx, gen, rh, [z0, z1, z2, z3, z4, z5, z6, z7], h8⟩ : BRow)]).length = Q.length + 1 by simp, flat_snoc]
          exact ((H8.set 0 0 (.slice A3 (Q.length + 1) c3) rfl).drop1 3).drop1 2
        case measure => simp [intOf]; omega
    · obtain rfl : k0 = rows.length := by omega
      rw [List.take_of_length_le (by rw [hBlen.out]; exact Nat.le_refl _)] at H
      have hB60 : B.length ≤ 60 := by rw [hBlen.out]; exact hlr60
      have H7 := H2h.out.join H
      have hR6 := Lib.hid (hR5.out.grow H.bel)
      clear H hR5
      obtain ⟨w7, rfl⟩ : ∃ w7 : World, w7 = wr := ⟨_, rfl⟩
      have d0 := H7.cell 4 0 rfl rfl; have d1 := H7.cell 4 1 rfl rfl
      have hsf := Lib.hid (sof_any B gens Au cu Ag cg (by omega) hng w7 (H7.rd 5 rfl) (H7.old hg))
      rw [show ofV B gens = (tabsW B, gens) by unfold ofV; rw [if_neg (by simpa using (right_iff B gens).2 hBr.out)]] at hsf
      have hfv : (worldErr ⟨B, gens⟩).1 = 0 := (right_iff B gens).2 hBr.out
      generalize worldErr ⟨B, gens⟩ = F at *
      obtain ⟨g1, g2⟩ := F
      obtain rfl : g1 = 0 := hfv
      clear hBlen hBat
      unfold fV at hsf
      dsimp only at hsf
      have H7h := Lib.hid H7
      clear H7
      go_wp2_with fail
      refine hsf.out.mono ?_
      clear hsf d0 d1
      rintro e w8 ⟨v, rfl, hG⟩
      have H8 := H7h.out.grow hG.bel
      have hR7 := hR6.out.grow hG.bel
      obtain ⟨Bt, bt, lb, Bg, bg, rfl, hlb, hRb⟩ := hG.rd
      have hsmb : Hid (StSmall lb gens) := Lib.hid (by
        have h1 := @ofV_small B gens lb
        rw [show ofV B gens = (tabsW B, gens) by unfold ofV; rw [if_neg (by simpa using (right_iff B gens).2 hBr.out)]] at h1
        exact h1 hlb)
      have hlbh := Lib.hid hlb
      have H9 := (H8.new w8.heap.size rfl 59 [.slice Bt lb.length bt, .slice Bg gens.length bg]).new (w8.heap.size + 1) (by simp) 32 [.int .i64 0, .int .i64 g2]
      have hR8 := Lib.hid ((hR7.alloc (.cells #[.slice Bt lb.length bt, .slice Bg gens.length bg] 59)).alloc (.cells #[.int .i64 0, .int .i64 g2] 32))
      have hRb8 := Lib.hid ((hRb.alloc (.cells #[.slice Bt lb.length bt, .slice Bg gens.length bg] 59)).alloc (.cells #[.int .i64 0, .int .i64 g2] 32))
      have l0 := H8.lt 0 rfl
      clear hG H8 hR7 hRb hlb H7h hR6
      have H9h := Lib.hid H9
      clear H9
      go_upto_region 15 with fail
      obtain ⟨w9, hw9, H9⟩ := H9h.out.name
      rw [hw9] at hR8 hRb8 ⊢
      clear hw9 l0 H9h
      replace H9 : Hp w w9 [.box w.heap.size 25 [.slice Ar rows.length cr, .slice Ag gens.length cg], .box (w.heap.size + 1) 85 [.int .i64 s.mod, .int .i64 s.all, .int .i64 s.non, .slice sA s.acts.length sc], .box w2.heap.size 59 [.slice A l.length c, .slice Ag2 gens.length cg2], .box (w2.heap.size + 1) 32 [.int .i64 0, .int .i64 f2], .box w6.heap.size 25 [.slice Au B.length cu, .slice Ag gens.length cg], .own (.slice Au B.length cu) 51 11 B.length (B.flatMap rowCells), .box w8.heap.size 59 [.slice Bt lb.length bt, .slice Bg gens.length bg], .box (w8.heap.size + 1) 32 [.int .i64 0, .int .i64 g2]] := H9
      replace H9 := (H9.drop1 5).drop1 4
      replace H9 := (H9.drop1 3).drop1 0
      replace H9 : Hp w w9 [.box (w.heap.size + 1) 85 [.int .i64 s.mod, .int .i64 s.all, .int .i64 s.non, .slice sA s.acts.length sc], .box w2.heap.size 59 [.slice A l.length c, .slice Ag2 gens.length cg2], .box w8.heap.size 59 [.slice Bt lb.length bt, .slice Bg gens.length bg], .box (w8.heap.size + 1) 32 [.int .i64 0, .int .i64 g2]] := H9
      have u0 := H9.cell 0 0 rfl rfl; have u1 := H9.cell 0 1 rfl rfl; have u2 := H9.cell 0 2 rfl rfl; have u3 := H9.cell 0 3 rfl rfl; have x0 := H9.cell 1 0 rfl rfl; have x1 := H9.cell 1 1 rfl rfl
      have hrun := Lib.hid (srun_any l A c gens Ag2 cg2 hsm.out s sA sc w9 (RdA.grow hsh.out H9.bel) hR8.out)
      rw [hlh.out, runT_right hRwh.out] at hrun
      dsimp only at hrun
      have H9h := Lib.hid H9
      clear H9
      go_wp2_with fail
      refine hrun.out.mono ?_
      clear hrun u0 u1 u2 u3 x0 x1
      rintro e w10 ⟨v, rfl, hG⟩
      have H10 := H9h.out.grow hG.bel
      have hRb9 := hRb8.out.grow hG.bel
      have hVr := Lib.hid (fun (h : (runM ⟨rows, gens⟩ s).err = 0) => runM_right (W := ⟨rows, gens⟩) h hRwh.out)
      generalize runM ⟨rows, gens⟩ s = V at *
      obtain ⟨vr, vg, ve⟩ := V
      dsimp only at hG hbl hVr ⊢
      obtain ⟨A3, c3, l3, Ag3, cg3, rfl, hl3, hR3⟩ := hG.rd
      have hl3h := Lib.hid hl3
      have H11 := H10.new w10.heap.size rfl 59 [.slice A3 l3.length c3, .slice Ag3 vg.length cg3]
      have hRb10 := Lib.hid (hRb9.alloc (.cells #[.slice A3 l3.length c3, .slice Ag3 vg.length cg3] 59))
      have hRv10 := Lib.hid (hR3.alloc (.cells #[.slice A3 l3.length c3, .slice Ag3 vg.length cg3] 59))
      have l0 := H10.lt 0 rfl
      clear hG H10 hRb9 hR3 hl3 H9h hR8 hRb8
      have H11h := Lib.hid H11
      clear H11
      go_upto_region 16 with fail
      obtain ⟨w11, hw11, H11⟩ := H11h.out.name
      rw [hw11] at hRb10 hRv10 ⊢
      clear hw11 l0 H11h
      replace H11 : Hp w w11 [.box (w.heap.size + 1) 85 [.int .i64 s.mod, .int .i64 s.all, .int .i64 s.non, .slice sA s.acts.length sc], .box w2.heap.size 59 [.slice A l.length c, .slice Ag2 gens.length cg2], .box w8.heap.size 59 [.slice Bt lb.length bt, .slice Bg gens.length bg], .box (w8.heap.size + 1) 32 [.int .i64 0, .int .i64 g2], .box w10.heap.size 59 [.slice A3 l3.length c3, .slice Ag3 vg.length cg3]] := H11
      have u0 := H11.cell 0 0 rfl rfl; have u1 := H11.cell 0 1 rfl rfl; have u2 := H11.cell 0 2 rfl rfl; have u3 := H11.cell 0 3 rfl rfl; have x0 := H11.cell 2 0 rfl rfl; have x1 := H11.cell 2 1 rfl rfl
      have hrun := Lib.hid (srun_any lb Bt bt gens Bg bg hsmb.out s sA sc w11 (RdA.grow hsh.out H11.bel) hRb10.out)
      rw [hlbh.out, runT_right hBr.out] at hrun
      dsimp only at hrun
      have H11h := Lib.hid H11
      clear H11
      go_wp2_with fail
      refine hrun.out.mono ?_
      clear hrun u0 u1 u2 u3 x0 x1
      rintro e w12 ⟨v, rfl, hG⟩
      have H12 := H11h.out.grow hG.bel
      have hRv11 := hRv10.out.grow hG.bel
      have hUr := Lib.hid (fun (h : (runM ⟨B, gens⟩ s).err = 0) => runM_right (W := ⟨B, gens⟩) h hBr.out)
      generalize runM ⟨B, gens⟩ s = U at *
      obtain ⟨ur, ug, ue⟩ := U
      dsimp only at hG hbl hUr ⊢
      obtain ⟨rfl, hsame⟩ := hbl.out
      obtain ⟨A4, c4, l4, Ag4, cg4, rfl, hl4, hR4⟩ := hG.rd
      have hl4h := Lib.hid hl4
      have H13 := H12.new w12.heap.size rfl 59 [.slice A4 l4.length c4, .slice Ag4 ug.length cg4]
      have hRv12 := Lib.hid (hRv11.alloc (.cells #[.slice A4 l4.length c4, .slice Ag4 ug.length cg4] 59))
      have hRu12 := Lib.hid (hR4.alloc (.cells #[.slice A4 l4.length c4, .slice Ag4 ug.length cg4] 59))
      have l0 := H12.lt 0 rfl; have fz := H12.cell 3 0 rfl rfl
      have hsameh := Lib.hid hsame
      clear hG H12 hRv11 hR4 hl4 H11h hRb10 hRv10 hbl hsame
      have H13h := Lib.hid H13
      clear H13
      go_upto_region 17 with fail
      obtain ⟨w13, hw13, H13⟩ := H13h.out.name
      rw [hw13] at hRv12 hRu12 ⊢
      clear hw13 l0 H13h fz
      replace H13 : Hp w w13 [.box (w.heap.size + 1) 85 [.int .i64 s.mod, .int .i64 s.all, .int .i64 s.non, .slice sA s.acts.length sc], .box w2.heap.size 59 [.slice A l.length c, .slice Ag2 gens.length cg2], .box w8.heap.size 59 [.slice Bt lb.length bt, .slice Bg gens.length bg], .box (w8.heap.size + 1) 32 [.int .i64 0, .int .i64 g2], .box w10.heap.size 59 [.slice A3 l3.length c3, .slice Ag3 vg.length cg3], .box w12.heap.size 59 [.slice A4 l4.length c4, .slice Ag4 ug.length cg4]] := H13
      have fz := H13.cell 3 0 rfl rfl
      have H13h := Lib.hid H13
      clear H13
      by_cases he : ve = 0
      case neg =>
        have he' : (ve != 0) = true := by simpa using he
        clear he
        go_wp2_with fail
        go_ret
        exact ⟨rfl, H13h.out.bel⟩
      subst he
      have hmap := Lib.hid (hsameh.out rfl)
      have hVw : RightW vr vg := hVr.out rfl
      have hUw : RightW ur ug := hUr.out rfl
      have hlens := right_len hVw; have hlens2 := right_len hUw
      have hlvg : vg.length ≤ 60 := hVw.len; have hlug : ug.length ≤ 60 := hUw.len
      have hlvr : vr.length ≤ 60 := Nat.le_trans hVw.rows_le hVw.len
      have hlur : ur.length ≤ 60 := Nat.le_trans hUw.rows_le hUw.len
      have hlenV := fit_len (G := ofG vr) hl3h.out; have hlenU := fit_len (G := ofG ur) hl4h.out
      have hVh := Lib.hid hVw; have hUh := Lib.hid hUw
      have hwld := Lib.hid (fun W (hR : RdSt W W.heap.size ⟨A3, c3, l3, Ag3, cg3, vg⟩) => world_any l3 A3 c3 vg Ag3 cg3 (ofG vr) hl3h.out hVh.out.rep.clean (by omega) (by omega) (by omega) W hR.tabs hR.gen hR.ng)
      have hwldU := Lib.hid (fun W (hR : RdSt W W.heap.size ⟨A4, c4, l4, Ag4, cg4, ug⟩) => world_any l4 A4 c4 ug Ag4 cg4 (ofG ur) hl4h.out hUh.out.rep.clean (by omega) (by omega) (by omega) W hR.tabs hR.gen hR.ng)
      clear hsameh hVr hUr hVw hUw hlens hlens2 hlenV hlenU
      have H4h := Lib.hid H13h.out.drew
      go_upto_region 21 with fail
      clear fz
      refine wp_region_mx mixed (by kernel_rfl) (by kernel_rfl) (fun q => !(q == 1) && !(q == 3) && !(q == 4) && !(q == 5)) (tab [.agg #[.slice A3 l3.length c3, .slice Ag3 vg.length cg3], undef, .agg #[.slice A4 l4.length c4, .slice Ag4 ug.length cg4], undef, undef, undef, undef, undef]) (fun u vs w' => J2 w13 w [.box (w.heap.size + 1) 85 [.int .i64 s.mod, .int .i64 s.all, .int .i64 s.non, .slice sA s.acts.length sc], .box w2.heap.size 59 [.slice A l.length c, .slice Ag2 gens.length cg2], .box w8.heap.size 59 [.slice Bt lb.length bt, .slice Bg gens.length bg], .box (w8.heap.size + 1) 32 [.int .i64 0, .int .i64 g2], .box w10.heap.size 59 [.slice A3 l3.length c3, .slice Ag3 vg.length cg3], .box w12.heap.size 59 [.slice A4 l4.length c4, .slice Ag4 ug.length cg4]] 25 25 [.slice none 0 0, .slice none 0 0] [.slice none 0 0, .slice none 0 0] (fun v C => ∃ (Av : Option Addr) (cv : Nat) (Agv : Option Addr) (cgv : Nat), v = [.slice Av vr.length cv, .slice Agv vg.length cgv] ∧ C = [.own (.slice Av vr.length cv) 51 11 vr.length (vr.flatMap rowCells), .own (.slice Agv vg.length cgv) 3 1 vg.length (ints vg)]) (fun v C => ∃ (Av : Option Addr) (cv : Nat) (Agv : Option Addr) (cgv : Nat), v = [.slice Av ur.length cv, .slice Agv ug.length cgv] ∧ C = [.own (.slice Av ur.length cv) 51 11 ur.length (ur.flatMap rowCells), .own (.slice Agv ug.length cgv) 3 1 ug.length (ints ug)]) (u 1) (u 3) (u 4) (u 5) (u 6) (u 7) (vs 1) (vs 3) (vs 4) (vs 5) w') ?_ ?_ ?_
      · exact J2.start H4h.out (Below.refl _ _).drew
      · intro vs w' l1 hJ hl
        rw [putAll_tab _ _ _ _ [(some 125, .agg #[.slice A3 l3.length c3, .slice Ag3 vg.length cg3]), (some 126, vs 1), (some 127, .agg #[.slice A4 l4.length c4, .slice Ag4 ug.length cg4]), (some 128, vs 3), (some 20, vs 4), (some 21, vs 5), (none, undef), (none, undef)] rfl]
        simp only [putL_eq, putT, List.set_cons_succ, List.set_cons_zero]
        obtain ⟨g20, g21, v1, v2, C1, C2, hx1, hx2, ⟨Av, cv, Agv, cgv, rfl, rfl⟩, ⟨Bv, du, Bgv, dgv, rfl, rfl⟩, _, HQ⟩ := hJ.done (hl 1 (by decide)) (hl 3 (by decide)) (hl 4 (by decide)) (hl 5 (by decide)) (hl 6 (by decide)) (hl 7 (by decide))
        rw [hx1, hx2]
        have H8 : Hp w w' (blT g20 g21 Av vr cv Agv vg cgv Bv ur du Bgv ug dgv) := (((((((HQ.drop1 11).drop1 9).drop1 7).drop1 6).drop1 5).drop1 4).drop1 3).drop1 2
        clear hJ HQ hx1 hx2 hl
        have H8h := Lib.hid H8
        clear H8
        have r00 := H8h.out.cell 0 0 rfl rfl; have r10 := H8h.out.cell 1 0 rfl rfl
        have hlen := congrArg List.length hmap.out
        rw [List.length_map, List.length_map] at hlen
        have hle : ((vr.length : Int) != (ur.length : Int)) = false := by rw [hlen]; simp
        have hlenh := Lib.hid hlen
        clear hlen
        go_wp2_with fail
        go_loopw [139] (fun q wr => ∃ k : Nat, k ≤ vr.length ∧ q = .int .i64 k ∧ Hp w wr (blT g20 g21 Av vr cv Agv vg cgv Bv ur du Bgv ug dgv)) (fun q _ => vr.length - (intOf q).toNat)
        case atStart => exact ⟨0, by omega, rfl, H8h.out⟩
        case round =>
          clear H8h r00 r10 hle
          obtain ⟨k, hk, rfl, H⟩ := hrel
          by_cases hlt : k < vr.length
          · have hlt2 : k < ur.length := by rw [← hlenh.out]; exact hlt
            have hbs := bl_same hmap.out hlt hlt2
            have hRv : RdR wr wr.heap.size Av vr := H.rd 2 rfl
            have hRu : RdR wr wr.heap.size Bv ur := H.rd 3 rfl
            obtain ⟨vb, vo, rfl, hrvb, hrv⟩ := hRv.at_ hlt
            obtain ⟨ub, uo, rfl, hrub, hru⟩ := hRu.at_ hlt2
            generalize vr[k] = rv at *
            generalize ur[k] = ru at *
            obtain ⟨vi, vgn, vh, vvs, v8⟩ := rv
            obtain ⟨a0, a1, a2, a3, a4, a5, a6, a7, rfl⟩ := vals_eight v8
            obtain ⟨ui, ugn, uh, uvs, u8⟩ := ru
            obtain ⟨b0, b1, b2, b3, b4, b5, b6, b7, rfl⟩ := vals_eight u8
            replace hrv := Lib.hid hrv; replace hru := Lib.hid hru; replace hbs := Lib.hid hbs
            have i0 : (0 : Int) ≤ (k : Int) := by omega
            have i1 : (k : Int) < (vr.length : Int) := by omega
            have i2 : (k : Int) < (ur.length : Int) := by omega
            clear hRv hRu
            have Hh := Lib.hid H
            clear H
            go_upto_region 27 with fail
            refine wp_region_mx mixed (by kernel_rfl) (by kernel_rfl) (fun q => !(q == 4) && !(q == 9) && !(q == 10) && !(q == 11)) (tab [.pointer (some ⟨g20, 0, none⟩), .slice (some ⟨vb, vo, none⟩) vr.length cv, .int .i64 (k : Int), .pointer (some ⟨vb, vo + k * 11, none⟩), undef, .pointer (some ⟨g21, 0, none⟩), .slice (some ⟨ub, uo, none⟩) ur.length du, .int .i64 (k : Int), .pointer (some ⟨ub, uo + k * 11, none⟩), undef, undef, undef, undef, undef]) (fun u vs w' => J2 wr w (blT g20 g21 (some ⟨vb, vo, none⟩) vr cv Agv vg cgv (some ⟨ub, uo, none⟩) ur du Bgv ug dgv) 51 51 [.int .i64 0, .int .i64 0, .int .i64 0, .int .i64 0, .int .i64 0, .int .i64 0, .int .i64 0, .int .i64 0, .int .i64 0, .int .i64 0, .int .i64 0] [.int .i64 0, .int .i64 0, .int .i64 0, .int .i64 0, .int .i64 0, .int .i64 0, .int .i64 0, .int .i64 0, .int .i64 0, .int .i64 0, .int .i64 0] (fun v C => v = [.int .i64 vi, .int .i64 vgn, .int .i64 vh, .int .i64 a0, .int .i64 a1, .int .i64 a2, .int .i64 a3, .int .i64 a4, .int .i64 a5, .int .i64 a6, .int .i64 a7] ∧ C = []) (fun v C => v = [.int .i64 ui, .int .i64 ugn, .int .i64 uh, .int .i64 b0, .int .i64 b1, .int .i64 b2, .int .i64 b3, .int .i64 b4, .int .i64 b5, .int .i64 b6, .int .i64 b7] ∧ C = []) (u 4) (u 9) (u 10) (u 11) (u 12) (u 13) (vs 4) (vs 9) (vs 10) (vs 11) w') ?_ ?_ ?_
            · exact J2.start Hh.out.drew (Below.refl _ _).drew
            · intro vs w' l1 hJ hl
              rw [putAll_tab _ _ _ _ [(some 142, .pointer (some ⟨g20, 0, none⟩)), (some 143, .slice (some ⟨vb, vo, none⟩) vr.length cv), (some 144, .int .i64 (k : Int)), (some 145, .pointer (some ⟨vb, vo + k * 11, none⟩)), (some 146, vs 4), (some 147, .pointer (some ⟨g21, 0, none⟩)), (some 148, .slice (some ⟨ub, uo, none⟩) ur.length du), (some 149, .int .i64 (k : Int)), (some 150, .pointer (some ⟨ub, uo + k * 11, none⟩)), (some 151, vs 9), (some 23, vs 10), (some 24, vs 11), (none, undef), (none, undef)] rfl]
              simp only [putL_eq, putT, List.set_cons_succ, List.set_cons_zero]
              obtain ⟨g23, g24, v1, v2, C1, C2, hx1, hx2, ⟨rfl, rfl⟩, ⟨rfl, rfl⟩, _, HQ⟩ := hJ.done (hl 4 (by decide)) (hl 9 (by decide)) (hl 10 (by decide)) (hl 11 (by decide)) (hl 12 (by decide)) (hl 13 (by decide))
              rw [hx1, hx2]
              clear hJ hx1 hx2 hl
              rw [List.append_nil, List.append_nil] at HQ
              obtain ⟨o1, ho1⟩ : ∃ u, w'.cell? ⟨g23, 3 + p, none⟩ = some u := ⟨_, HQ.cell 0 (3 + p) rfl (row_valB ⟨vi, vgn, vh, [a0, a1, a2, a3, a4, a5, a6, a7], v8⟩ hp)⟩
              have f1' := HQ.frozen 0 (3 + p) rfl
              have HS := HQ.set 0 (3 + p) (.int .i64 0) rfl
              obtain ⟨o2, ho2⟩ : ∃ u, (w'.setCell ⟨g23, 3 + p, none⟩ (.int .i64 0)).cell? ⟨g24, 3 + p, none⟩ = some u := ⟨_, HS.cell 1 (3 + p) rfl (row_valB ⟨ui, ugn, uh, [b0, b1, b2, b3, b4, b5, b6, b7], u8⟩ hp)⟩
              have f2' := HS.frozen 1 (3 + p) rfl
              have HT := HS.set 1 (3 + p) (.int .i64 0) rfl
              clear HQ HS
              have HT2 : Hp w ((w'.setCell ⟨g23, 3 + p, none⟩ (.int .i64 0)).setCell ⟨g24, 3 + p, none⟩ (.int .i64 0)) (.box g23 51 ((rowCells ⟨vi, vgn, vh, [a0, a1, a2, a3, a4, a5, a6, a7], v8⟩).set (3 + p) (.int .i64 0)) :: .box g24 51 ((rowCells ⟨ui, ugn, uh, [b0, b1, b2, b3, b4, b5, b6, b7], u8⟩).set (3 + p) (.int .i64 0)) :: blT g20 g21 (some ⟨vb, vo, none⟩) vr cv Agv vg cgv (some ⟨ub, uo, none⟩) ur du Bgv ug dgv) := HT
              rw [bl_cells, bl_cells, hbs.out] at HT2
              clear HT
              generalize blR p ⟨ui, ugn, uh, [b0, b1, b2, b3, b4, b5, b6, b7], u8⟩ = q at *
              obtain ⟨qi, qg, qh, qvs, q8⟩ := q
              obtain ⟨y0, y1, y2, y3, y4, y5, y6, y7, rfl⟩ := vals_eight q8
              have HT2h := Lib.hid HT2
              clear HT2 hrv hru hbs
              go_upto_region 29 with fail
              obtain ⟨wE, hwE, HE⟩ := HT2h.out.name
              rw [hwE]
              clear hwE HT2h ho1 ho2 f1' f2'
              have e0 := HE.cell 0 0 rfl rfl; have t0 := HE.cell 1 0 rfl rfl; have e1 := HE.cell 0 1 rfl rfl; have t1 := HE.cell 1 1 rfl rfl; have e2 := HE.cell 0 2 rfl rfl; have t2 := HE.cell 1 2 rfl rfl; have e3 := HE.cell 0 3 rfl rfl; have t3 := HE.cell 1 3 rfl rfl; have e4 := HE.cell 0 4 rfl rfl; have t4 := HE.cell 1 4 rfl rfl; have e5 := HE.cell 0 5 rfl rfl; have t5 := HE.cell 1 5 rfl rfl; have e6 := HE.cell 0 6 rfl rfl; have t6 := HE.cell 1 6 rfl rfl; have e7 := HE.cell 0 7 rfl rfl; have t7 := HE.cell 1 7 rfl rfl; have e8 := HE.cell 0 8 rfl rfl; have t8 := HE.cell 1 8 rfl rfl; have e9 := HE.cell 0 9 rfl rfl; have t9 := HE.cell 1 9 rfl rfl; have e10 := HE.cell 0 10 rfl rfl; have t10 := HE.cell 1 10 rfl rfl
              have hq := fun W => neRow ⟨qi, qg, qh, [y0, y1, y2, y3, y4, y5, y6, y7], q8⟩ ⟨qi, qg, qh, [y0, y1, y2, y3, y4, y5, y6, y7], q8⟩ W
              have hrv : rowV ⟨qi, qg, qh, [y0, y1, y2, y3, y4, y5, y6, y7], q8⟩ = .agg #[.int .i64 qi, .int .i64 qg, .int .i64 qh, .int .i64 y0, .int .i64 y1, .int .i64 y2, .int .i64 y3, .int .i64 y4, .int .i64 y5, .int .i64 y6, .int .i64 y7] := rfl
              rw [hrv] at hq
              simp only [decide_true, Bool.not_true] at hq
              clear hrv
              have HEh := Lib.hid ((HE.drop1 0).drop1 0)
              clear HE
              go_wp2_with fail
              go_roundw
              case rel => exact ⟨k + 1, by omega, by go_num, HEh.out⟩
              case measure => simp [intOf]; omega
            · intro qq op ho u vs act w' hJ hsh2 hli hd hv hwas K hK
              have hiq : qq < 14 := lt_of_some ho
              have s20_ := hwas 20 rfl
              have s21_ := hwas 21 rfl
              have s22_ := hwas 22 rfl
              simp at s20_ s21_ s22_
              match qq, hiq, ho, hli, hK with
              | 0, _, ho, hli, hK =>
                obtain rfl := Option.some.inj ho
                clear hv hwas
                go_simp
                exact hK _ _ (fun _ => rfl) hJ
              | 1, _, ho, hli, hK =>
                obtain rfl := Option.some.inj ho
                have x142 : act.tmps[142]?.getD undef = .pointer (some ⟨g20, 0, none⟩) := hv 0 142 rfl (by simp [Region.binds] at hd; simp [hd])
                have q0 := hJ.cell 0 0 rfl rfl
                clear hv hwas
                go_simp
                exact hK _ _ (fun _ => rfl) hJ
              | 2, _, ho, hli, hK =>
                obtain rfl := Option.some.inj ho
                clear hv hwas
                go_simp
                exact hK _ _ (fun _ => rfl) hJ
              | 3, _, ho, hli, hK =>
                obtain rfl := Option.some.inj ho
                have x143 : act.tmps[143]?.getD undef = .slice (some ⟨vb, vo, none⟩) vr.length cv := hv 1 143 rfl (by simp [Region.binds] at hd; simp [hd])
                have x144 : act.tmps[144]?.getD undef = .int .i64 (k : Int) := hv 2 144 rfl (by simp [Region.binds] at hd; simp [hd])
                clear hv hwas
                go_simp
                exact hK _ _ (fun _ => rfl) hJ
              | 4, _, ho, hli, hK =>
                obtain rfl := Option.some.inj ho
                have x145 : act.tmps[145]?.getD undef = .pointer (some ⟨vb, vo + k * 11, none⟩) := hv 3 145 rfl (by simp [Region.binds] at hd; simp [hd])
                have n6 := hsh2.not (i := 12) (j := 4) (by rfl) hli
                have hrw := hrv.out.below hJ.below hrvb
                have q0 := hrw 0 _ rfl; have q1 := hrw 1 _ rfl; have q2 := hrw 2 _ rfl; have q3 := hrw 3 _ rfl; have q4 := hrw 4 _ rfl; have q5 := hrw 5 _ rfl; have q6 := hrw 6 _ rfl; have q7 := hrw 7 _ rfl; have q8 := hrw 8 _ rfl; have q9 := hrw 9 _ rfl; have q10 := hrw 10 _ rfl
                rw [Nat.add_zero] at q0
                clear hv hwas hrw
                go_simp
                exact hK _ _ (fun h => by cases h) (hJ.call1 (v := [.int .i64 vi, .int .i64 vgn, .int .i64 vh, .int .i64 a0, .int .i64 a1, .int .i64 a2, .int .i64 a3, .int .i64 a4, .int .i64 a5, .int .i64 a6, .int .i64 a7]) (C := []) hli n6 (Hp.start w') ⟨rfl, rfl⟩)
              | 5, _, ho, hli, hK =>
                obtain rfl := Option.some.inj ho
                clear hv hwas
                go_simp
                exact hK _ _ (fun _ => rfl) hJ
              | 6, _, ho, hli, hK =>
                obtain rfl := Option.some.inj ho
                have x147 : act.tmps[147]?.getD undef = .pointer (some ⟨g21, 0, none⟩) := hv 5 147 rfl (by simp [Region.binds] at hd; simp [hd])
                have q0 := hJ.cell 1 0 rfl rfl
                clear hv hwas
                go_simp
                exact hK _ _ (fun _ => rfl) hJ
              | 7, _, ho, hli, hK =>
                obtain rfl := Option.some.inj ho
                clear hv hwas
                go_simp
                exact hK _ _ (fun _ => rfl) hJ
              | 8, _, ho, hli, hK =>
                obtain rfl := Option.some.inj ho
                have x148 : act.tmps[148]?.getD undef = .slice (some ⟨ub, uo, none⟩) ur.length du := hv 6 148 rfl (by simp [Region.binds] at hd; simp [hd])
                have x149 : act.tmps[149]?.getD undef = .int .i64 (k : Int) := hv 7 149 rfl (by simp [Region.binds] at hd; simp [hd])
                clear hv hwas
                go_simp
                exact hK _ _ (fun _ => rfl) hJ
              | 9, _, ho, hli, hK =>
                obtain rfl := Option.some.inj ho
                have x150 : act.tmps[150]?.getD undef = .pointer (some ⟨ub, uo + k * 11, none⟩) := hv 8 150 rfl (by simp [Region.binds] at hd; simp [hd])
                have n6 := hsh2.not (i := 13) (j := 9) (by rfl) hli
                have hrw := hru.out.below hJ.below hrub
                have q0 := hrw 0 _ rfl; have q1 := hrw 1 _ rfl; have q2 := hrw 2 _ rfl; have q3 := hrw 3 _ rfl; have q4 := hrw 4 _ rfl; have q5 := hrw 5 _ rfl; have q6 := hrw 6 _ rfl; have q7 := hrw 7 _ rfl; have q8 := hrw 8 _ rfl; have q9 := hrw 9 _ rfl; have q10 := hrw 10 _ rfl
                rw [Nat.add_zero] at q0
                clear hv hwas hrw
                go_simp
                exact hK _ _ (fun h => by cases h) (hJ.call2 (v := [.int .i64 ui, .int .i64 ugn, .int .i64 uh, .int .i64 b0, .int .i64 b1, .int .i64 b2, .int .i64 b3, .int .i64 b4, .int .i64 b5, .int .i64 b6, .int .i64 b7]) (C := []) hli n6 (Hp.start w') ⟨rfl, rfl⟩)
              | 10, _, ho, hli, hK =>
                obtain rfl := Option.some.inj ho
                have n6 := hsh2.not (i := 12) (j := 10) (by rfl) hli
                clear hv hwas
                go_simp
                exact hK _ _ (fun h => by cases h) (hJ.al1 hli n6)
              | 11, _, ho, hli, hK =>
                obtain rfl := Option.some.inj ho
                have n7 := hsh2.not (i := 13) (j := 11) (by rfl) hli
                clear hv hwas
                go_simp
                exact hK _ _ (fun h => by cases h) (hJ.al2 hli n7)
              | 12, _, ho, hli, hK =>
                obtain rfl := Option.some.inj ho
                have x23 : act.tmps[23]?.getD undef = vs 10 := hv 10 23 rfl (by simp [Region.binds] at hd; simp [hd])
                have x146 : act.tmps[146]?.getD undef = vs 4 := hv 4 146 rfl (by simp [Region.binds] at hd; simp [hd])
                have l4 : u 10 = true := by simp [Region.binds] at hd; simp [hd]
                have l1 : u 4 = true := by simp [Region.binds] at hd; simp [hd]
                obtain ⟨g1, v1, C1, hx, hy, ⟨rfl, rfl⟩, hz, hfz, hQ⟩ := hJ.st1 l4 l1 hli
                rw [hx] at x23; rw [hy] at x146
                have z0 := hz 0 _ rfl; have z1 := hz 1 _ rfl; have z2 := hz 2 _ rfl; have z3 := hz 3 _ rfl; have z4 := hz 4 _ rfl; have z5 := hz 5 _ rfl; have z6 := hz 6 _ rfl; have z7 := hz 7 _ rfl; have z8 := hz 8 _ rfl; have z9 := hz 9 _ rfl; have z10 := hz 10 _ rfl
                have y0 := hfz 0; have y1 := hfz 1; have y2 := hfz 2; have y3 := hfz 3; have y4 := hfz 4; have y5 := hfz 5; have y6 := hfz 6; have y7 := hfz 7; have y8 := hfz 8; have y9 := hfz 9; have y10 := hfz 10
                have hQ2 := hQ rfl
                clear hv hwas hz hfz hQ
                go_simp
                exact hK _ _ (fun _ => rfl) hQ2
              | 13, _, ho, hli, hK =>
                obtain rfl := Option.some.inj ho
                have x24 : act.tmps[24]?.getD undef = vs 11 := hv 11 24 rfl (by simp [Region.binds] at hd; simp [hd])
                have x151 : act.tmps[151]?.getD undef = vs 9 := hv 9 151 rfl (by simp [Region.binds] at hd; simp [hd])
                have l4 : u 11 = true := by simp [Region.binds] at hd; simp [hd]
                have l1 : u 9 = true := by simp [Region.binds] at hd; simp [hd]
                obtain ⟨g1, v1, C1, hx, hy, ⟨rfl, rfl⟩, hz, hfz, hQ⟩ := hJ.st2 l4 l1 hli
                rw [hx] at x24; rw [hy] at x151
                have z0 := hz 0 _ rfl; have z1 := hz 1 _ rfl; have z2 := hz 2 _ rfl; have z3 := hz 3 _ rfl; have z4 := hz 4 _ rfl; have z5 := hz 5 _ rfl; have z6 := hz 6 _ rfl; have z7 := hz 7 _ rfl; have z8 := hz 8 _ rfl; have z9 := hz 9 _ rfl; have z10 := hz 10 _ rfl
                have y0 := hfz 0; have y1 := hfz 1; have y2 := hfz 2; have y3 := hfz 3; have y4 := hfz 4; have y5 := hfz 5; have y6 := hfz 6; have y7 := hfz 7; have y8 := hfz 8; have y9 := hfz 9; have y10 := hfz 10
                have hQ2 := hQ rfl
                clear hv hwas hz hfz hQ
                go_simp
                exact hK _ _ (fun _ => rfl) hQ2
          · obtain rfl : k = vr.length := by omega
            have Hh := Lib.hid H
            clear H
            go_wp2_with fail
            go_ret
            exact ⟨rfl, Hh.out.bel⟩
      · intro qq op ho u vs act w' hJ hsh2 hli hd hv hwas K hK
        have hiq : qq < 8 := lt_of_some ho
        have s16_ := hwas 16 rfl
        have s18_ := hwas 18 rfl
        simp at s16_ s18_
        match qq, hiq, ho, hli, hK with
        | 0, _, ho, hli, hK =>
          obtain rfl := Option.some.inj ho
          have q0 := hJ.cell 4 0 rfl rfl; have q1 := hJ.cell 4 1 rfl rfl
          clear hv hwas
          go_simp
          exact hK _ _ (fun _ => rfl) hJ
        | 1, _, ho, hli, hK =>
          obtain rfl := Option.some.inj ho
          have x125 : act.tmps[125]?.getD undef = .agg #[.slice A3 l3.length c3, .slice Ag3 vg.length cg3] := hv 0 125 rfl (by simp [Region.binds] at hd; simp [hd])
          have n6 := hsh2.not (i := 6) (j := 1) (by rfl) hli
          have hRW := hRv12.out.grow hJ.below
          clear hv hwas
          go_simp
          refine (hwld.out w' hRW).mono ?_
          rintro e w19 ⟨v, rfl, hG, hb9⟩
          rw [hVh.out.rep.sorted] at hG
          obtain ⟨Av, cv, Agv, cgv, rfl, H9⟩ := hG.got' (Hp.start w') hb9
          exact hK _ _ (fun h => by cases h) (hJ.call1 (v := [.slice Av vr.length cv, .slice Agv vg.length cgv]) hli n6 H9 ⟨Av, cv, Agv, cgv, rfl, rfl⟩)
        | 2, _, ho, hli, hK =>
          obtain rfl := Option.some.inj ho
          have q0 := hJ.cell 5 0 rfl rfl; have q1 := hJ.cell 5 1 rfl rfl
          clear hv hwas
          go_simp
          exact hK _ _ (fun _ => rfl) hJ
        | 3, _, ho, hli, hK =>
          obtain rfl := Option.some.inj ho
          have x127 : act.tmps[127]?.getD undef = .agg #[.slice A4 l4.length c4, .slice Ag4 ug.length cg4] := hv 2 127 rfl (by simp [Region.binds] at hd; simp [hd])
          have n6 := hsh2.not (i := 7) (j := 3) (by rfl) hli
          have hRW := hRu12.out.grow hJ.below
          clear hv hwas
          go_simp
          refine (hwldU.out w' hRW).mono ?_
          rintro e w19 ⟨v, rfl, hG, hb9⟩
          rw [hUh.out.rep.sorted] at hG
          obtain ⟨Av, cv, Agv, cgv, rfl, H9⟩ := hG.got' (Hp.start w') hb9
          exact hK _ _ (fun h => by cases h) (hJ.call2 (v := [.slice Av ur.length cv, .slice Agv ug.length cgv]) hli n6 H9 ⟨Av, cv, Agv, cgv, rfl, rfl⟩)
        | 4, _, ho, hli, hK =>
          obtain rfl := Option.some.inj ho
          have n6 := hsh2.not (i := 6) (j := 4) (by rfl) hli
          clear hv hwas
          go_simp
          exact hK _ _ (fun h => by cases h) (hJ.al1 hli n6)
        | 5, _, ho, hli, hK =>
          obtain rfl := Option.some.inj ho
          have n7 := hsh2.not (i := 7) (j := 5) (by rfl) hli
          clear hv hwas
          go_simp
          exact hK _ _ (fun h => by cases h) (hJ.al2 hli n7)
        | 6, _, ho, hli, hK =>
          obtain rfl := Option.some.inj ho
          have x20 : act.tmps[20]?.getD undef = vs 4 := hv 4 20 rfl (by simp [Region.binds] at hd; simp [hd])
          have x126 : act.tmps[126]?.getD undef = vs 1 := hv 1 126 rfl (by simp [Region.binds] at hd; simp [hd])
          have l4 : u 4 = true := by simp [Region.binds] at hd; simp [hd]
          have l1 : u 1 = true := by simp [Region.binds] at hd; simp [hd]
          obtain ⟨g1, v1, C1, hx, hy, ⟨Av, cv, Agv, cgv, rfl, rfl⟩, hz, hfz, hQ⟩ := hJ.st1 l4 l1 hli
          rw [hx] at x20; rw [hy] at x126
          have z0 := hz 0 _ rfl; have z1 := hz 1 _ rfl
          have y0 := hfz 0; have y1 := hfz 1
          have hQ2 := hQ rfl
          clear hv hwas hz hfz hQ
          go_simp
          exact hK _ _ (fun _ => rfl) hQ2
        | 7, _, ho, hli, hK =>
          obtain rfl := Option.some.inj ho
          have x21 : act.tmps[21]?.getD undef = vs 5 := hv 5 21 rfl (by simp [Region.binds] at hd; simp [hd])
          have x128 : act.tmps[128]?.getD undef = vs 3 := hv 3 128 rfl (by simp [Region.binds] at hd; simp [hd])
          have l4 : u 5 = true := by simp [Region.binds] at hd; simp [hd]
          have l1 : u 3 = true := by simp [Region.binds] at hd; simp [hd]
          obtain ⟨g1, v1, C1, hx, hy, ⟨Av, cv, Agv, cgv, rfl, rfl⟩, hz, hfz, hQ⟩ := hJ.st2 l4 l1 hli
          rw [hx] at x21; rw [hy] at x128
          have z0 := hz 0 _ rfl; have z1 := hz 1 _ rfl
          have y0 := hfz 0; have y1 := hfz 1
          have hQ2 := hQ rfl
          clear hv hwas hz hfz hQ
          go_simp
          exact hK _ _ (fun _ => rfl) hQ2
end Go.Proofs.Ytefdblaolmckmab
