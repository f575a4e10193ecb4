/- The walk of PlainNew. -/
import Derived.Test.YtefdblaolmckmaaLaw2A
namespace Go.Proofs.Ytefdblaolmckmaa
open Go.RowKit
open Brood
set_option linter.unusedVariables false
set_option linter.unusedSimpArgs false

/-- Who came is not the one that comes when it is gone. -/
theorem new_other {rows : List BRow} {gens : List Int} {has n : Int} {E : Spawned} (h : SpawnOk rows gens has n E) {K : Changed} (hK : KillOk E.rows E.gens E.i E.g K) {F : Spawned} (hF : SpawnOk K.rows K.gens has n F) : ¬ (F.i = E.i ∧ F.g = E.g) := by
  rintro ⟨e1, e2⟩
  obtain ⟨k, hk, hkl⟩ := h.pos
  have hg := hF.gen
  rw [hK.gens_, h.gens_, hk] at hg
  rw [e1, hk, gp_len] at hg
  rw [Int.toNat_natCast, gp_get gens hkl, if_pos rfl] at hg
  have : ((k : Int) < ((if k = gens.length then gens.length + 1 else gens.length : Nat) : Int)) := by split <;> omega
  have := hg.1 this
  omega

set_option maxRecDepth 20000 in
set_option maxHeartbeats 6400000 in
theorem plainNew_any (rows : List BRow) (gens : List Int) (Ar : Option Addr) (cr : Nat) (Ag : Option Addr) (cg : Nat) (has n : Int) (hlr : rows.length ≤ 9223372036854775807) (hlg : gens.length ≤ 9223372036854775807) (hnr : Ar = none → cr = 0 ∧ rows = []) (hng : Ag = none → cg = 0 ∧ gens = [])
    (w : World) (hr : RdR w w.heap.size Ar rows) (hg : RdG w w.heap.size Ag gens) :
    Calls Try.prog 12 #[.agg #[.slice Ar rows.length cr, .slice Ag gens.length cg], .int .i64 has, .int .i64 n] w fun e w' => e = .returned (.bool true) ∧ Below w.heap.size w w' := by
  have H0 := (Hp.start w).new w.heap.size rfl 66 [.slice Ar rows.length cr, .slice Ag gens.length cg]
  have hok := Lib.hid (@spawn_ok rows gens has n)
  go_enter Try.func12, Try.ntmps12
  go_wp2_with fail
  obtain ⟨w0, hw0, H0⟩ := H0.name
  rw [hw0]; clear hw0
  refine (alive2_any w0).mono ?_
  rintro e w1 ⟨rfl, hb⟩
  replace H0 := H0.grow hb
  clear hb
  have a0 := H0.cell 0 0 rfl rfl; have a1 := H0.cell 0 1 rfl rfl
  go_wp2_with fail
  refine (spawn_any rows gens Ar cr Ag cg has n hlr hlg hnr hng w1 (H0.old hr) (H0.old hg)).mono ?_
  rintro e w2 ⟨v, rfl, hG, hb⟩
  generalize spawnV rows gens has n = E at *
  obtain ⟨er, eg, ei, eg', ee⟩ := E
  dsimp only at hok hG ⊢
  obtain ⟨Br, c2, Bg, c3, rfl, nr2, ng2, H1⟩ := hG.got H0 hb
  clear hG hb H0 a0 a1
  replace H1 := (H1.new w2.heap.size rfl 66 [.slice Br er.length c2, .slice Bg eg.length c3]).new (w2.heap.size + 1) (by simp) 68 [.int .i64 ei, .int .i64 eg']
  by_cases hee : ee = 0
  · subst hee
    have hS := hok.out rfl
    clear hok
    have l1 := hS.was.lens; have l2 := hS.is.lens
    have hl := hS.len
    have hnn := hS.none_; have hth := hS.there
    dsimp only at l2 hl hnn hth
    replace hS := Lib.hid hS
    replace hl := Lib.hid hl
    replace hnn := Lib.hid hnn; replace hth := Lib.hid hth
    have hlt0 := H1.lt 0 rfl
    have b0 := H1.cell 0 0 rfl rfl; have b1 := H1.cell 0 1 rfl rfl
    go_wp2_with fail
    obtain ⟨w3, hw3, H1⟩ := H1.name
    rw [hw3]; clear hw3
    refine (rrow_any rows gens Ar cr Ag cg ei eg' hlr w3 (H1.old hr)).mono ?_
    rintro e w4 ⟨⟨v, rfl, hv⟩, hb⟩
    rw [hnn.out] at hv
    obtain rfl : v = .pointer none := hv
    replace H1 := H1.grow hb
    clear hb hnn b0 b1
    have c0 := H1.cell 3 0 rfl rfl; have c1 := H1.cell 3 1 rfl rfl; have d0 := H1.cell 4 0 rfl rfl; have d1 := H1.cell 4 1 rfl rfl
    go_wp2_with fail
    refine (rrow_any er eg Br c2 Bg c3 ei eg' (by omega) w4 (H1.rd 1 rfl)).mono ?_
    rintro e w5 ⟨⟨v, rfl, hv⟩, hb⟩
    rw [hth.out] at hv
    obtain ⟨pb, po, rfl, _, _⟩ := hv
    replace H1 := H1.grow hb
    clear hb hth c0 c1 d0 d1
    have b0 := H1.cell 0 0 rfl rfl; have b1 := H1.cell 0 1 rfl rfl
    have c0 := H1.cell 3 0 rfl rfl; have c1 := H1.cell 3 1 rfl rfl; have d0 := H1.cell 4 0 rfl rfl; have d1 := H1.cell 4 1 rfl rfl
    have hli : (er.length : Int) = (rows.length : Int) + 1 := by have := hl.out; omega
    go_wp2_with fail
    have hke : (killV er eg ei eg').err = 0 := by
      have h := (rowOf_some_iff hS.out.is.rise).1 hS.out.there
      exact kill_mk hS.out.is h.1 h.2.1 h.2.2
    have hK := Lib.hid (kill_ok hke)
    refine (kill_any er eg Br c2 Bg c3 ei eg' (by omega) (by omega) nr2 ng2 w5 (H1.rd 1 rfl) (H1.rd 2 rfl)).mono ?_
    rintro e w6 ⟨v, rfl, hG, hb⟩
    generalize killV er eg ei eg' = K at *
    obtain ⟨kr, kg, ke⟩ := K
    dsimp only at hke hK hG ⊢
    subst hke
    have hwk := hK.out.is.lens
    dsimp only at hwk
    obtain ⟨Cr, c4, Cg, c5, rfl, nr3, ng3, H2⟩ := hG.got H1 hb
    clear hG hb H1 b0 b1 c0 c1 d0 d1 hli hl
    replace H2 := H2.new w6.heap.size rfl 66 [.slice Cr kr.length c4, .slice Cg kg.length c5]
    go_wp2_with fail
    obtain ⟨w7, hw7, H2⟩ := H2.name
    rw [hw7]; clear hw7
    have hok2 := Lib.hid (@spawn_ok kr kg has n)
    refine (spawn_any kr kg Cr c4 Cg c5 has n (by omega) (by omega) nr3 ng3 w7 (H2.rd 5 rfl) (H2.rd 6 rfl)).mono ?_
    rintro e w8 ⟨v, rfl, hG, hb⟩
    generalize spawnV kr kg has n = F at *
    obtain ⟨fr, fg, fi, fg', fe⟩ := F
    dsimp only at hok2 hG ⊢
    obtain ⟨Dr, c6, Dg, c7, rfl, nr4, ng4, H3⟩ := hG.got H2 hb
    clear hG hb H2
    have c0 := H3.cell 3 0 rfl rfl; have c1 := H3.cell 3 1 rfl rfl; have d0 := H3.cell 4 0 rfl rfl; have d1 := H3.cell 4 1 rfl rfl
    have lt3 := H3.lt 3 rfl; have lt4 := H3.lt 4 rfl
    replace H3 := (H3.new w8.heap.size rfl 66 [.slice Dr fr.length c6, .slice Dg fg.length c7]).new (w8.heap.size + 1) (by simp) 68 [.int .i64 fi, .int .i64 fg']
    by_cases hfe : fe = 0
    · subst hfe
      have hF := hok2.out rfl
      have hno := new_other hS.out hK.out hF
      have hlf := hF.is.lens
      have hgone : rowOf ei eg' fr = none := hF.only hK.out.gone hno
      dsimp only at hno hlf
      replace hgone := Lib.hid hgone
      have hne : ∀ W, (binOp .neq 68 (.agg #[.int .i64 ei, .int .i64 eg']) (.agg #[.int .i64 fi, .int .i64 fg'])).run Try.prog W = .ok (.bool true) W := by
        intro W
        rw [neBeing]
        have : (ei == fi && eg' == fg') = false := by
          cases h : (ei == fi && eg' == fg')
          · rfl
          · simp at h; exact absurd ⟨h.1.symm, h.2.symm⟩ hno
        rw [this]; rfl
      clear hno hok2 hF
      go_wp2_with fail
      obtain ⟨w9, hw9, H3⟩ := H3.name
      rw [hw9]; clear hw9
      refine (rrow_any fr fg Dr c6 Dg c7 ei eg' (by omega) w9 (H3.rd 8 rfl)).mono ?_
      rintro e w10 ⟨⟨v, rfl, hv⟩, hb⟩
      rw [hgone.out] at hv
      obtain rfl : v = .pointer none := hv
      replace H3 := H3.grow hb
      clear hb c0 c1 d0 d1
      go_wp2_with fail
      go_ret
      exact ⟨rfl, H3.bel⟩
    · have hfe' : (fe == 0) = false := by simpa using hfe
      clear hok2
      go_wp2_with fail
      go_ret
      exact ⟨rfl, H3.bel⟩
  · have hee' : (ee == 0) = false := by simpa using hee
    clear hok
    go_wp2_with fail
    go_ret
    exact ⟨rfl, H1.bel⟩
end Go.Proofs.Ytefdblaolmckmaa
