/- The walk of PlainPut. -/
import Derived.Test.YtefdblaolmckmaaLaw2A
namespace Go.Proofs.Ytefdblaolmckmaa
open Go.RowKit
open Brood
set_option linter.unusedVariables false
set_option linter.unusedSimpArgs false

theorem getP_at {i g : Int} {rows : List BRow} {part : Int} {k : Nat} {r : BRow} (h : findR i g rows = some k) (hr : rows[k]? = some r) : getP i g rows part = if hasB r.has part then (r.vals.getD part.toNat 0, true) else (0, false) := by
  unfold getP
  rw [h]
  simp only [hr]
theorem putF_two (part n m : Int) (r : BRow) (h : (putF part n r).2 = 0) : putF part m (putF part n r).1 = if (putF part m r).2 = 0 then ((putF part m r).1, 0) else ((putF part n r).1, (putF part m r).2) := by
  have hc : (isPart part && isVal n) = true := by
    unfold putF at h
    split at h
    · assumption
    · cases h
  rw [Bool.and_eq_true] at hc
  have e1 : (putF part n r).1 = ⟨r.idx, r.gen, withS r.has part, r.vals.set part.toNat n, by rw [List.length_set]; exact r.h8⟩ := by unfold putF; rw [if_pos (by rw [hc.1, hc.2]; rfl)]
  rw [e1]
  by_cases hm : isVal m = true
  · have e2 : (putF part m r) = (⟨r.idx, r.gen, withS r.has part, r.vals.set part.toNat m, by rw [List.length_set]; exact r.h8⟩, 0) := by unfold putF; rw [if_pos (by rw [hc.1, hm]; rfl)]
    rw [e2, if_pos rfl]
    unfold putF
    rw [if_pos (by rw [hc.1, hm]; rfl)]
    simp only [Prod.mk.injEq, and_true]
    rw [BRow.mk.injEq]
    refine ⟨rfl, rfl, ?_, by simp⟩
    unfold withS
    rw [if_pos hc.1, if_pos hc.1, Int.toNat_natCast, Nat.or_assoc, Nat.or_self]
  · have hm' : (isPart part && isVal m) = false := by simp [hm]
    have e2 : (putF part m r) = (r, 3) := by unfold putF; rw [if_neg (by rw [hm']; simp)]
    rw [e2, if_neg (by simp)]
    unfold putF
    rw [if_neg (by rw [hm']; simp)]
/-- Put twice it is as put once, the last time. -/
theorem put_two {rows : List BRow} {gens : List Int} {i g part n : Int} (m : Int) {k : Nat} {r : BRow} {E : Changed} (h : ChangeOk rows gens i g (putF part n) k r E) : putV E.rows E.gens i g part m = putV rows gens i g part m := by
  have hf := h.findR_ (putF_ok part n)
  unfold putV
  rw [change_mk (putF part m) (h.is (putF_ok part n)) hf h.at2, change_mk (putF part m) h.was h.find h.at_, putF_two part n m r h.ok]
  by_cases hm : (putF part m r).2 = 0
  · rw [if_pos hm, if_neg (by simp), if_neg (by simpa using hm), h.rows_, h.gens_, List.set_set]
  · rw [if_neg hm, if_pos (by simpa using hm), if_pos hm]
theorem put_has {part n : Int} {r : BRow} (h : (putF part n r).2 = 0) : hasB (putF part n r).1.has part = true ∧ (putF part n r).1.vals.getD part.toNat 0 = n := by
  unfold putF at h ⊢
  split
  · rename_i hc
    rw [Bool.and_eq_true] at hc
    have hp := isPart_iff.1 hc.1
    have h8 := r.h8
    refine ⟨by rw [has_with, hc.1]; simp, ?_⟩
    dsimp only
    simp [List.getD_eq_getElem?_getD, h8, (show part.toNat < 8 by omega)]
  · rename_i hc; rw [if_neg hc] at h; cases h
theorem put_get {rows : List BRow} {gens : List Int} {i g part n : Int} {k : Nat} {r : BRow} {E : Changed} (h : ChangeOk rows gens i g (putF part n) k r E) : getP i g E.rows part = (n, true) := by
  have hp := put_has h.ok
  rw [getP_at (h.findR_ (putF_ok part n)) h.at2, if_pos hp.1, hp.2]
theorem drop_back {part n : Int} {r : BRow} (hr : rowErr r = 0) (h : (putF part n r).2 = 0) (hb : hasB r.has part = false) : dropF part (putF part n r).1 = (r, 0) := by
  have hh := (put_has h).1
  have hc : (isPart part && isVal n) = true := by
    unfold putF at h
    split at h
    · assumption
    · cases h
  rw [Bool.and_eq_true] at hc
  have hp := isPart_iff.1 hc.1
  rw [rowErr_iff] at hr
  have hz : r.vals.getD part.toNat 0 = 0 := by
    have := (hr.2 part.toNat (by omega)).2
    by_cases h0 : r.vals.getD part.toNat 0 = 0
    · exact h0
    · have := this h0
      rw [show ((part.toNat : Nat) : Int) = part by omega, hb] at this
      cases this
  have e1 : (putF part n r).1 = ⟨r.idx, r.gen, withS r.has part, r.vals.set part.toNat n, by rw [List.length_set]; exact r.h8⟩ := by unfold putF; rw [if_pos (by rw [hc.1, hc.2]; rfl)]
  rw [e1] at hh ⊢
  unfold dropF
  rw [if_pos hh]
  simp only [Prod.mk.injEq, and_true]
  obtain ⟨idx, gen, has, vals, h8⟩ := r
  dsimp only at *
  rw [BRow.mk.injEq]
  refine ⟨rfl, rfl, ?_, ?_⟩
  · unfold withoutS
    rw [if_pos hh]
    unfold withS
    rw [if_pos hc.1]
    have hb' : has.toNat.testBit part.toNat = false := by
      unfold hasB at hb
      rw [hc.1] at hb
      simpa using hb
    have hs := isSet_iff.1 hr.1
    have : has.toNat ||| 2 ^ part.toNat = has.toNat + 2 ^ part.toNat := by
      have key : ∀ a : Nat, a < 8 → ∀ h : Nat, h < 256 → h.testBit a = false → h ||| 2 ^ a = h + 2 ^ a := by decide +kernel
      exact key part.toNat (by omega) has.toNat (by omega) hb'
    rw [this]
    omega
  · rw [List.set_set]
    have hl : part.toNat < vals.length := by omega
    have : vals[part.toNat] = 0 := by rw [← hz, getD_get hl]
    rw [← this]
    exact List.set_getElem_self _
/-- A part that is put is told, until it is dropped. -/
theorem put_drop {rows : List BRow} {gens : List Int} {i g part n : Int} {k : Nat} {r : BRow} {E : Changed} (h : ChangeOk rows gens i g (putF part n) k r E) :
    (dropV E.rows E.gens i g part).err = 0 ∧ (getP i g (dropV E.rows E.gens i g part).rows part).2 = false ∧ ((getP i g rows part).2 = false → (dropV E.rows E.gens i g part).rows = rows ∧ (dropV E.rows E.gens i g part).gens = gens) := by
  have hp := put_has h.ok
  have hf := h.findR_ (putF_ok part n)
  have hd2 : (dropF part (putF part n r).1).2 = 0 := by unfold dropF; rw [if_pos hp.1]
  have hd : dropV E.rows E.gens i g part = ⟨E.rows.set k (dropF part (putF part n r).1).1, E.gens, 0⟩ := by
    unfold dropV
    rw [change_mk (dropF part) (h.is (putF_ok part n)) hf h.at2, if_neg (by simpa using hd2)]
  have hC := change_ok (rows := E.rows) (gens := E.gens) (i := i) (g := g) (fr := dropF part) (by show (dropV E.rows E.gens i g part).err = 0; rw [hd])
  obtain ⟨k2, r2, hC⟩ := hC
  have hkk : k2 = k := by have := hC.find; rw [hf] at this; exact (Option.some.inj this).symm
  subst hkk
  have hrr : r2 = (putF part n r).1 := by have := hC.at_; rw [h.at2] at this; exact (Option.some.inj this).symm
  subst hrr
  refine ⟨by rw [hd], ?_, ?_⟩
  · have := getP_at (part := part) (hC.findR_ (dropF_ok part)) hC.at2
    show (getP i g (dropV E.rows E.gens i g part).rows part).2 = false
    unfold dropV
    rw [this]
    have hno : hasB (dropF part (putF part n r).1).1.has part = false := by
      unfold dropF
      rw [if_pos hp.1]
      dsimp only
      have hset : isSet (putF part n r).1.has = true := by
        have := (putF_ok part n).ok r (h.was.row r h.mem) h.ok
        rw [rowErr_iff] at this
        exact this.1
      rw [has_without hset]
      simp
    rw [if_neg (by rw [hno]; simp)]
  · intro hno
    rw [getP_at h.find h.at_] at hno
    have hb : hasB r.has part = false := by
      cases hb : hasB r.has part
      · rfl
      · rw [hb] at hno; simp at hno
    have := drop_back (h.was.row r h.mem) h.ok hb
    rw [hd, this, h.rows_, h.gens_]
    refine ⟨?_, rfl⟩
    dsimp only
    rw [List.set_set, ← h.get]
    exact List.set_getElem_self _

set_option maxRecDepth 20000 in
set_option maxHeartbeats 6400000 in
theorem plainPut_any (rows : List BRow) (gens : List Int) (Ar : Option Addr) (cr : Nat) (Ag : Option Addr) (cg : Nat) (i g part n m : Int) (hlr : rows.length ≤ 9223372036854775807) (hlg : gens.length ≤ 9223372036854775807) (hnr : Ar = none → cr = 0 ∧ rows = []) (hng : Ag = none → cg = 0 ∧ gens = [])
    (w : World) (hr : RdR w w.heap.size Ar rows) (hg : RdG w w.heap.size Ag gens) :
    Calls Try.prog 14 #[.agg #[.slice Ar rows.length cr, .slice Ag gens.length cg], .agg #[.int .i64 i, .int .i64 g], .int .i64 part, .int .i64 n, .int .i64 m] w fun e w' => e = .returned (.bool true) ∧ Below w.heap.size w w' := by
  have H0 := ((Hp.start w).new w.heap.size rfl 66 [.slice Ar rows.length cr, .slice Ag gens.length cg]).new (w.heap.size + 1) (by simp) 68 [.int .i64 i, .int .i64 g]
  have hok : Hid (∀ _ : (putV rows gens i g part n).err = 0, ∃ k r, ChangeOk rows gens i g (putF part n) k r (putV rows gens i g part n)) := Lib.hid fun h => change_ok h
  go_enter Try.func14, Try.ntmps14
  go_wp2_with fail
  obtain ⟨w0, hw0, H0⟩ := H0.name
  rw [hw0]; clear hw0
  refine (alive2_any w0).mono ?_
  rintro e w1 ⟨rfl, hb⟩
  replace H0 := H0.grow hb
  clear hb
  have a0 := H0.cell 0 0 rfl rfl; have a1 := H0.cell 0 1 rfl rfl; have b0 := H0.cell 1 0 rfl rfl; have b1 := H0.cell 1 1 rfl rfl
  go_wp2_with fail
  refine (put_any rows gens Ar cr Ag cg i g part n hlr hlg hnr hng w1 (H0.old hr) (H0.old hg)).mono ?_
  rintro e w2 ⟨v, rfl, hG, hb⟩
  generalize putV rows gens i g part n = E at *
  obtain ⟨er, eg, ee⟩ := E
  dsimp only at hok hG ⊢
  obtain ⟨Br, c2, Bg, c3, rfl, nr2, ng2, H1⟩ := hG.got H0 hb
  clear hG hb H0 a0 a1 b0 b1
  have b0 := H1.cell 1 0 rfl rfl; have b1 := H1.cell 1 1 rfl rfl
  have l0 := H1.lt 0 rfl; have l1 := H1.lt 1 rfl
  replace H1 := H1.new w2.heap.size rfl 66 [.slice Br er.length c2, .slice Bg eg.length c3]
  by_cases hee : ee = 0
  · subst hee
    obtain ⟨k, r, hC⟩ := hok.out rfl
    clear hok
    have hD := hC.is (putF_ok part n)
    have l2 := hC.was.lens; have l3 := hD.lens
    have hget := Lib.hid (put_get hC); have htwo := Lib.hid (put_two m hC); have hdrop := Lib.hid (put_drop hC)
    have hsetD := Lib.hid hD.set_; have hsetW := Lib.hid hC.was.set_
    dsimp only at hget htwo hdrop l3 hsetD
    replace hC := Lib.hid hC
    replace hD := Lib.hid hD
    go_wp2_with fail
    obtain ⟨w3, hw3, H1⟩ := H1.name
    rw [hw3]; clear hw3
    refine (get_any er eg Br c2 Bg c3 (by omega) hsetD.out i g part w3 (H1.rd 2 rfl)).mono ?_
    rintro e w4 ⟨rfl, hb⟩
    rw [hget.out]
    dsimp only
    replace H1 := H1.grow hb
    clear hb b0 b1
    have b0 := H1.cell 1 0 rfl rfl; have b1 := H1.cell 1 1 rfl rfl; have x0 := H1.cell 4 0 rfl rfl; have x1 := H1.cell 4 1 rfl rfl
    go_wp2_with fail
    refine (put_any er eg Br c2 Bg c3 i g part m (by omega) (by omega) nr2 ng2 w4 (H1.rd 2 rfl) (H1.rd 3 rfl)).mono ?_
    rintro e w5 ⟨v, rfl, hG, hb⟩
    rw [htwo.out] at hG ⊢
    have hok2 : Hid (∀ _ : (putV rows gens i g part m).err = 0, ∃ k r, ChangeOk rows gens i g (putF part m) k r (putV rows gens i g part m)) := Lib.hid fun h => change_ok h
    obtain ⟨F, hF⟩ : ∃ F, F = putV rows gens i g part m := ⟨_, rfl⟩
    rw [← hF] at hG hok2 ⊢
    replace hF := Lib.hid hF
    obtain ⟨fr, fg, fe⟩ := F
    dsimp only at hok2 hG ⊢
    obtain ⟨Cr, c4, Cg, c5, rfl, nr3, ng3, H2⟩ := hG.got H1 hb
    clear hG hb H1 b0 b1 x0 x1
    have a0 := H2.cell 0 0 rfl rfl; have a1 := H2.cell 0 1 rfl rfl; have b0 := H2.cell 1 0 rfl rfl; have b1 := H2.cell 1 1 rfl rfl
    have l4 := H2.lt 0 rfl; have l5 := H2.lt 1 rfl; have l6 := H2.lt 4 rfl
    replace H2 := H2.new w5.heap.size rfl 66 [.slice Cr fr.length c4, .slice Cg fg.length c5]
    go_wp2_with fail
    obtain ⟨w6, hw6, H2⟩ := H2.name
    rw [hw6]; clear hw6
    refine (put_any rows gens Ar cr Ag cg i g part m hlr hlg hnr hng w6 (H2.old hr) (H2.old hg)).mono ?_
    rintro e w7 ⟨v, rfl, hG, hb⟩
    rw [← hF.out] at hG ⊢
    dsimp only at hG ⊢
    obtain ⟨Dr, c6, Dg, c7, rfl, nr4, ng4, H3⟩ := hG.got H2 hb
    clear hG hb H2 a0 a1 b0 b1 l4 l5 l6
    have y0 := H3.cell 7 0 rfl rfl; have y1 := H3.cell 7 1 rfl rfl
    have b0 := H3.cell 1 0 rfl rfl; have b1 := H3.cell 1 1 rfl rfl; have x0 := H3.cell 4 0 rfl rfl; have x1 := H3.cell 4 1 rfl rfl
    have l4 := H3.lt 0 rfl; have l5 := H3.lt 1 rfl; have l6 := H3.lt 4 rfl; have l7 := H3.lt 7 rfl
    replace H3 := H3.new w7.heap.size rfl 66 [.slice Dr fr.length c6, .slice Dg fg.length c7]
    go_upto_region 11 with fail
    obtain ⟨w8, hw8, H3⟩ := H3.name
    rw [hw8]; clear hw8
    clear y0 y1 b0 b1 x0 x1
    have b0 := H3.cell 1 0 rfl rfl; have b1 := H3.cell 1 1 rfl rfl; have x0 := H3.cell 4 0 rfl rfl; have x1 := H3.cell 4 1 rfl rfl
    have y0 := H3.cell 7 0 rfl rfl; have y1 := H3.cell 7 1 rfl rfl; have z0 := H3.cell 10 0 rfl rfl; have z1 := H3.cell 10 1 rfl rfl
    go_cut [75] (fun s75 wx => s75 = .bool false ∧ Below w8.heap.size w8 wx)
    case first =>
      by_cases hfe : fe = 0
      · subst hfe
        obtain ⟨k2, r2, hC2⟩ := hok2.out rfl
        have l8 := (hC2.is (putF_ok part m)).lens
        dsimp only at l8
        clear hC2
        go_wp2_with fail
        refine (rsame_any fr fg Cr c4 Cg c5 Dr c6 Dg c7 (by omega) (by omega) w8 (H3.rd 5 rfl) (H3.rd 8 rfl) (H3.rd 6 rfl) (H3.rd 9 rfl)).mono ?_
        rintro e w9 ⟨rfl, hb⟩
        go_wp2_with fail
        go_meet
        exact ⟨rfl, hb⟩
      · have hfe' : (fe == 0) = false := by simpa using hfe
        go_wp2_with fail
        go_meet
        exact ⟨rfl, Below.refl _ _⟩
    case rest =>
      obtain ⟨rfl, hb⟩ := hcut
      replace H3 := H3.grow hb
      clear hb b0 b1 x0 x1 y0 y1 z0 z1
      have b0 := H3.cell 1 0 rfl rfl; have b1 := H3.cell 1 1 rfl rfl; have x0 := H3.cell 4 0 rfl rfl; have x1 := H3.cell 4 1 rfl rfl
      go_wp2_with fail
      have hDok : Hid (∀ _ : (dropV er eg i g part).err = 0, RightW (dropV er eg i g part).rows (dropV er eg i g part).gens) := Lib.hid fun h => by
        obtain ⟨k, r, hC⟩ := change_ok (fr := dropF part) h
        exact hC.is (dropF_ok part)
      refine (drop_any er eg Br c2 Bg c3 i g part (by omega) (by omega) nr2 ng2 wc (H3.rd 2 rfl) (H3.rd 3 rfl)).mono ?_
      rintro e w9 ⟨v, rfl, hG, hb⟩
      generalize dropV er eg i g part = D at *
      obtain ⟨dr, dg, de⟩ := D
      dsimp only at hdrop hDok hG ⊢
      obtain ⟨rfl, hgd, hback⟩ := hdrop.out
      clear hdrop
      have hDr := hDok.out rfl
      have l8 := hDr.lens
      have hsd := Lib.hid hDr.set_
      replace hgd := Lib.hid hgd; replace hback := Lib.hid hback
      clear hDok hDr
      obtain ⟨Er, c8, Eg, c9, rfl, nr5, ng5, H4⟩ := hG.got H3 hb
      clear hG hb H3 b0 b1 x0 x1
      have a0 := H4.cell 0 0 rfl rfl; have a1 := H4.cell 0 1 rfl rfl; have b0 := H4.cell 1 0 rfl rfl; have b1 := H4.cell 1 1 rfl rfl
      have l9 := H4.lt 0 rfl; have l10 := H4.lt 1 rfl
      replace H4 := H4.new w9.heap.size rfl 66 [.slice Er dr.length c8, .slice Eg dg.length c9]
      go_wp2_with fail
      obtain ⟨w10, hw10, H4⟩ := H4.name
      rw [hw10]; clear hw10
      refine (get_any dr dg Er c8 Eg c9 (by omega) hsd.out i g part w10 (H4.rd 11 rfl)).mono ?_
      rintro e w11 ⟨rfl, hb⟩
      obtain ⟨d1, d2⟩ : ∃ p : Int × Bool, p = getP i g dr part := ⟨_, rfl⟩
      rw [← d2] at hgd ⊢
      obtain ⟨p1, p2⟩ := d1
      dsimp only at hgd ⊢
      obtain rfl := hgd.out
      replace H4 := H4.grow hb
      clear hb a0 a1 b0 b1 d2 hgd
      have a0 := H4.cell 0 0 rfl rfl; have a1 := H4.cell 0 1 rfl rfl; have b0 := H4.cell 1 0 rfl rfl; have b1 := H4.cell 1 1 rfl rfl
      go_wp2_with fail
      refine (get_any rows gens Ar cr Ag cg (by omega) hsetW.out i g part w11 (H4.old hr)).mono ?_
      rintro e w12 ⟨rfl, hb⟩
      generalize getP i g rows part = q at *
      obtain ⟨q1, q2⟩ := q
      dsimp only at hback ⊢
      replace H4 := H4.grow hb
      clear hb a0 a1 b0 b1
      have a0 := H4.cell 0 0 rfl rfl; have a1 := H4.cell 0 1 rfl rfl; have d0 := H4.cell 13 0 rfl rfl; have d1 := H4.cell 13 1 rfl rfl
      cases q2
      · obtain ⟨e1, e2⟩ := hback.out rfl
        subst e1 e2
        go_wp2_with fail
        refine (rsame_any dr dg Er c8 Eg c9 Ar cr Ag cg (by omega) (by omega) w12 (H4.rd 11 rfl) (H4.old hr) (H4.rd 12 rfl) (H4.old hg)).mono ?_
        rintro e w13 ⟨rfl, hb⟩
        replace H4 := H4.grow hb
        go_wp2_with fail
        go_ret
        exact ⟨rfl, H4.bel⟩
      · go_wp2_with fail
        go_ret
        exact ⟨rfl, H4.bel⟩
  · have hee' : (ee == 0) = false := by simpa using hee
    clear hok
    go_wp2_with fail
    go_ret
    exact ⟨rfl, H1.bel⟩
end Go.Proofs.Ytefdblaolmckmaa
