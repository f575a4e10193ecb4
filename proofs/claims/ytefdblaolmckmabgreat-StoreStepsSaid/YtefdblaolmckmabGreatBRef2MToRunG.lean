/- The walk of store.Match at right stores. The walk of store.Get at right stores. What a change of a store answers, as the plain world's. Right stores: small, and read again by the next call. The closed fact ahead of chapter 3's laws. -/
import Derived.Test.YtefdblaolmckmabGreatBStoFToPlainM
import Derived.Test.YtefdblaolmckmabGreatBSortTBToRefW
import Derived.Test.YtefdblaolmckmabGreatBSpecOToSpecR
import Derived.Test.YtefdblaolmckmabGreatBRowToInv
import Derived.Test.YtefdblaolmckmabGreatBStoMToStoQ
import Derived.Test.YtefdblaolmckmabGreatStoS
namespace Go.Proofs.YtefdblaolmckmabGreat
open Go.RowKit
open Brood
set_option linter.unusedVariables false
set_option linter.unusedSimpArgs false
set_option maxRecDepth 20000 in
set_option maxHeartbeats 1600000 in
theorem cmpM_any (a b : BRow) (w : World) : Calls Tryz.prog 83 #[.agg (beCells a).toArray, .agg (beCells b).toArray] w fun e w' => e = .returned (.int .i64 (cmpI a.idx b.idx)) ∧ Below w.heap.size w w' := by
  have e1 : (beCells a).toArray = #[.int .i64 a.idx, .int .i64 a.gen] := rfl
  have e2 : (beCells b).toArray = #[.int .i64 b.idx, .int .i64 b.gen] := rfl
  rw [e1, e2]
  clear e1 e2
  go_enter Tryz.func83, Tryz.ntmps83
  go_wp2_with fail
  refine (cmp_any a.idx b.idx _).mono ?_
  rintro e w' ⟨rfl, rfl⟩
  go_wp2_with fail
  go_ret
  exact ⟨rfl, ((Below.refl _ _).alloc (Nat.le_refl _) _).alloc (by simp) _⟩
theorem cmpM : CmpF beCells BRow.idx 83 := ⟨fun w x y => cmpM_any x y w, fun args W => by kernel_rfl⟩
theorem elsBe : Els beCells 2 := ⟨fun _ => rfl, fun x u hu => by
  simp only [beCells, List.mem_cons, List.not_mem_nil, or_false] at hu
  rcases hu with rfl | rfl <;> rfl⟩
theorem matchG_take {fa fn : Int} {G : List Grp} {k : Nat} (hk : k < G.length) : matchG fa fn (G.take (k + 1)) = matchG fa fn (G.take k) ++ if meetsB fa fn G[k].h then G[k].rs else [] := by
  unfold matchG
  rw [List.take_add_one, List.getElem?_eq_getElem hk, Option.toList_some, List.filter_append, List.flatMap_append]
  congr 1
  rw [List.filter_cons]
  split <;> simp
theorem matchG_le {fa fn : Int} : ∀ G : List Grp, (matchG fa fn G).length ≤ (flatG G).length
  | [] => by simp [matchG, flatG]
  | g :: l => by
    have ih := matchG_le (fa := fa) (fn := fn) l
    unfold matchG flatG at ih ⊢
    rw [List.filter_cons, List.flatMap_cons, List.length_append]
    split
    · rw [List.flatMap_cons, List.length_append]; omega
    · omega
set_option maxRecDepth 20000 in
set_option maxHeartbeats 6400000 in
theorem smatch_any (l : List TabIn) (A : Option Addr) (c : Nat) (gens : List Int) (Ag : Option Addr) (cg : Nat) (rows : List BRow) (hw : RightW rows gens) (hfit : l.map tabOf = tabsW rows) (fa fn : Int) (hfa : isSet fa = true) (hfn : isSet fn = true) (w : World) (h : RdSt w w.heap.size ⟨A, c, l, Ag, cg, gens⟩) :
    Calls Tryz.prog 39 #[.agg #[.slice A l.length c, .slice Ag gens.length cg], .agg #[.int .i64 fa, .int .i64 fn]] w fun e w' =>
      (∃ A c, e = .returned (.slice A (matchV fa fn rows).length c) ∧ w'.ownsRow w.heap.size 24 2 (.slice A (matchV fa fn rows).length c) (matchV fa fn rows).length ((matchV fa fn rows).flatMap beCells)) ∧ Below w.heap.size w w' := by
  obtain ⟨i0', hi0, hz0a, hz0b, hz0c⟩ := info_parts infoBe
  have hfith := Lib.hid hfit; have hwh := Lib.hid hw
  have hlen : l.length = (ofG rows).length := fit_len (G := ofG rows) hfit
  have hlens := Lib.hid (right_len hw)
  have hll : l.length ≤ 60 := by have := hlens.out.1; omega
  have H0 := (((Hp.start w).new w.heap.size rfl 40 [.slice A l.length c, .slice Ag gens.length cg]).new (w.heap.size + 1) (by simp) 26 [.int .i64 fa, .int .i64 fn]).nil_ 24 2
  replace H0 : Hp w _ [.box w.heap.size 40 [.slice A l.length c, .slice Ag gens.length cg], .box (w.heap.size + 1) 26 [.int .i64 fa, .int .i64 fn], .own (.slice none 0 0) 24 2 0 []] := H0
  have hT := h.tabs
  dsimp only at hT
  have hlenh := Lib.hid hlen
  clear h hfit hw hlen
  go_enter Tryz.func39, Tryz.ntmps39
  go_wp2_with fail
  go_loopw [5, 11] (fun s5 q wx => ∃ k : Nat, k ≤ l.length ∧ q = .int .i64 k ∧ ∃ (A' : Option Addr) (c' : Nat) (cur : List BRow), s5 = .slice A' cur.length c' ∧ cur.length ≤ 60 ∧ Hid (cur = matchG fa fn ((ofG rows).take k)) ∧ Hp w wx [.box w.heap.size 40 [.slice A l.length c, .slice Ag gens.length cg], .box (w.heap.size + 1) 26 [.int .i64 fa, .int .i64 fn], .own (.slice A' cur.length c') 24 2 cur.length (cur.flatMap beCells)]) (fun _ q _ => l.length - (intOf q).toNat)
  case atStart => exact ⟨0, by omega, rfl, none, 0, [], rfl, by simp, Lib.hid rfl, H0⟩
  case round =>
    clear H0
    obtain ⟨k, hk, rfl, A', c', cur, rfl, hcl, hcur, H⟩ := hrel
    by_cases hlt : k < l.length
    · have hkG : k < (ofG rows).length := by have := hlenh.out; omega
      have hF := fit_at (G := ofG rows) hfith.out hlt hkG
      have hset := (hwh.out.rep.clean _ (List.getElem_mem hkG)).set_
      have hfull := hwh.out.rep.ok.full _ (List.getElem_mem hkG)
      have hkt := Lib.hid (@matchG_take fa fn (ofG rows) k hkG)
      have hle2 : (matchG fa fn ((ofG rows).take (k + 1))).length ≤ 60 := by
        have h1 := matchG_le (fa := fa) (fn := fn) ((ofG rows).take (k + 1))
        have h2 := flatG_take hkG
        have h3 := flatG_le hkG
        have h4 := hlens.out.2.2
        have h5 := congrArg List.length h2
        rw [List.length_append] at h5
        omega
      have hle2h := Lib.hid hle2
      obtain ⟨b1, off, rfl, hb1, e0, e1, e2⟩ := (hT.under H.bel (Nat.le_refl _)).at_ hlt
      have hrb := hT.bs _ (List.getElem_mem hlt)
      clear hle2
      generalize (ofG rows)[k] = G at *
      generalize l[k] = T at *
      obtain ⟨has, bA, bc, bs, cA, cc, cols⟩ := T
      obtain ⟨gh, rs⟩ := G
      obtain rfl : has = gh := hF.has
      have hbs : bs = rs.map beOf := hF.bs
      have hbl : bs.length = rs.length := hF.len
      dsimp only at e0 e1 e2 hrb hset hfull hkt
      rw [hbl] at e1 hrb
      rw [hbs, be_flat] at hrb
      have hpos : 0 < rs.length := List.length_pos_iff.2 hfull
      obtain ⟨b2, o2, rfl, hb2, hcell⟩ := hrb.2 hpos
      have i0 : (0 : Int) ≤ (k : Int) := by omega
      have i1 : (k : Int) < (l.length : Int) := by omega
      have H1 := H.new wr.heap.size rfl 100 [.int .i64 has, .slice (some ⟨b2, o2, none⟩) rs.length bc, .slice cA cols.length cc]
      have f0 := H.cell 1 0 rfl rfl; have f1 := H.cell 1 1 rfl rfl; have le := H.lt 1 rfl
      clear hF hbs hbl hfull
      go_wp2_with fail
      obtain ⟨wa, hwa, H1⟩ := H1.name
      rw [hwa]
      clear hwa e0 e1 e2 f0 f1 le H
      refine (meets_any fa fn has hfa hfn hset wa).mono ?_
      rintro e wb ⟨rfl, hb⟩
      replace H1 := H1.grow hb
      clear hb
      have f0 := H1.cell 3 1 rfl rfl
      have hgw : wr.heap.size < wb.heap.size := H1.lt 3 rfl
      generalize wr.heap.size = gx at *
      cases hB : meetsB fa fn has with
      | false =>
        have hcur2 : Hid (cur = matchG fa fn ((ofG rows).take (k + 1))) := Lib.hid (by rw [hkt.out, hB, ← hcur.out]; simp)
        have H2 := Lib.hid (H1.drop1 3)
        clear H1
        go_wp2_with fail
        go_roundw
        case rel => exact ⟨k + 1, by omega, by go_num, A', c', cur, rfl, by omega, hcur2, H2.out⟩
        case measure => simp [intOf]; omega
      | true =>
        have hcur2 : Hid (cur ++ rs = matchG fa fn ((ofG rows).take (k + 1))) := Lib.hid (by rw [hkt.out, hB, ← hcur.out]; simp)
        have hsum : cur.length + rs.length ≤ 60 := by
          have := hle2h.out
          rw [← hcur2.out, List.length_append] at this
          exact this
        have hrd := (Rd.under hrb H1.bel (Nat.le_refl _))
        have hce : ∀ j u, (rs.flatMap beCells)[j]? = some u → wb.cell? ((⟨b2, o2, none⟩ : Addr).add j) = some u := by
          intro j u hu
          obtain ⟨b, off, he, _, hc⟩ := hrd.2 hpos
          have he2 := Option.some.inj he
          injection he2 with h1 h2
          rw [add_mk, h1, h2]
          exact hc j u hu
        have hceh := Lib.hid hce
        have hfl : (rs.flatMap beCells).length = rs.length * 2 := els_length elsBe.len rs
        have hone : ∀ u ∈ rs.flatMap beCells, u.oneCell' = true := by
          intro u hu
          obtain ⟨x, _, hx⟩ := List.mem_flatMap.1 hu
          exact elsBe.one x u hx
        have honeh := Lib.hid hone; have hflh := Lib.hid hfl
        have H1h := Lib.hid H1
        clear hce hrd hrb hcell hfl hone H1
        go_wp2_with (at_builtin; refine wpList_append_own_at _ rfl _ _ 58 rfl w.heap.size 24 i0' (.agg #[.int .i64 0, .int .i64 0]) 2 16 Tryz.underlying58 hi0 hz0a hz0b hz0c rfl (by decide) _ _ _ rfl (H1h.out.owns 2 rfl) ⟨b2, o2, none⟩ rs.length bc (rs.flatMap beCells) rfl hflh.out ?c1 ?c2 ?c3 ?c4 ?c5 ?_; rotate_left 5; intro v' w7 hown7 hgrow7 _ hat7; have H8 := H1h.out.app 2 rfl hgrow7 hown7 (hat7.imp id (fun e g hg => by rw [e] at hg; injection hg with hg; omega)); obtain ⟨A3, c3, rfl, hs1, hs2⟩ := own_shape hown7)
        case c1 => exact hceh.out
        case c2 => exact honeh.out
        case c3 => unfold maxLen; omega
        case c4 => omega
        case c5 => exact H1h.out.bel.size
        go_roundw
        have hl : (cur ++ rs).length = cur.length + rs.length := by simp
        case rel =>
          refine ⟨k + 1, by omega, by go_num, A3, c3, cur ++ rs, by rw [hl], by omega, hcur2, ?_⟩
          rw [hl, List.flatMap_append]
          exact H8.drop1 3
        case measure => simp [intOf]; omega
    · obtain rfl : k = l.length := by omega
      rw [hlenh.out, List.take_length] at hcur
      obtain ⟨wo, rfl⟩ : ∃ wo : World, wo = wr := ⟨_, rfl⟩
      have hso := Lib.hid (sortStableB_any beCells elsBe BRow.idx _ cmpM w.heap.size cur (by omega) (.slice A' cur.length c') wo (H.owns 2 rfl))
      have hsl : (sortK BRow.idx cur).length = cur.length := (sortK_stb cur).2.1
      have hmt : Hid (sortK BRow.idx cur = matchV fa fn rows) := Lib.hid (by rw [hcur.out]; exact hwh.out.rep.match_ fa fn)
      have hslh := Lib.hid hsl
      have Hh := Lib.hid H
      clear hsl H
      go_wp2_with fail
      refine hso.out.mono ?_
      rintro e w5 ⟨rfl, hgr, hown⟩
      have H2 := Hh.out.app 2 rfl hgr hown (.inl rfl)
      have hb := H2.bel
      clear H2 hgr hso
      rw [hmt.out] at hown
      have hml : (matchV fa fn rows).length = cur.length := by rw [← hmt.out, hslh.out]
      rw [← hml] at hown
      have hmlh := Lib.hid hml; have hownh := Lib.hid hown
      clear hml hown
      go_wp2_with fail
      go_ret
      exact ⟨⟨A', c', by rw [hmlh.out]; rfl, hownh.out⟩, hb⟩
end Go.Proofs.YtefdblaolmckmabGreat

namespace Go.Proofs.YtefdblaolmckmabGreat
open Go.RowKit
open Brood
set_option linter.unusedVariables false
set_option linter.unusedSimpArgs false
theorem idxQ_mem {z : Int} : ∀ {zs : List Int}, z ∈ zs → ∃ n, idxQ (fun y => z == y) zs = some n ∧ zs[n]? = some z
  | [], h => by simp at h
  | a :: l, h => by
    unfold idxQ
    by_cases e : z = a
    · subst e; exact ⟨0, by simp, by simp⟩
    · have : z ∈ l := by rcases List.mem_cons.1 h with h | h; exact absurd h e; exact h
      obtain ⟨n, h1, h2⟩ := idxQ_mem this
      exact ⟨n + 1, by simp [e, h1], by simpa using h2⟩
set_option maxRecDepth 20000 in
set_option maxHeartbeats 6400000 in
theorem sget_any (l : List TabIn) (A : Option Addr) (c : Nat) (gens : List Int) (Ag : Option Addr) (cg : Nat) (rows : List BRow) (hw : RightW rows gens) (hfit : l.map tabOf = tabsW rows) (i g part : Int) (w : World) (h : RdSt w w.heap.size ⟨A, c, l, Ag, cg, gens⟩) :
    Calls Tryz.prog 12 #[.agg #[.slice A l.length c, .slice Ag gens.length cg], .agg #[.int .i64 i, .int .i64 g], .int .i64 part] w fun e w' => e = .returned (.tuple #[.int .i64 (getP i g rows part).1, .bool (getP i g rows part).2]) ∧ Below w.heap.size w w' := by
  obtain ⟨E, hE⟩ : ∃ E, Hid (E = getP i g rows part) := ⟨_, Lib.hid rfl⟩
  rw [← hE.out]
  have hfith := Lib.hid hfit; have hwh := Lib.hid hw
  have hlen : l.length = (ofG rows).length := fit_len (G := ofG rows) hfit
  have hlens := right_len hw
  have hpl : placeB i g 0 (l.map TabIn.bs) = placeG i g 0 (ofG rows) := by
    rw [← placeB_grps]
    congr 1
    have := congrArg (List.map BTab.bs) hfit
    simpa [tabsW, List.map_map, Function.comp_def, tabOf, tabG] using this
  have hbl : ∀ t ∈ l, t.bs.length ≤ 1000000000 := fun t ht => by
    obtain ⟨k, hk, rfl⟩ := List.getElem_of_mem ht
    have hF := fit_at (G := ofG rows) hfit hk (by omega)
    have := hlens.2.1 _ (List.getElem_mem (show k < (ofG rows).length by omega))
    rw [hF.len]; omega
  have hll : l.length ≤ 60 := by omega
  have H := ((Hp.start w).new w.heap.size rfl 40 [.slice A l.length c, .slice Ag gens.length cg]).new (w.heap.size + 1) (by simp) 24 [.int .i64 i, .int .i64 g]
  replace H : Hp w _ [.box w.heap.size 40 [.slice A l.length c, .slice Ag gens.length cg], .box (w.heap.size + 1) 24 [.int .i64 i, .int .i64 g]] := H
  have hT := h.tabs
  dsimp only at hT
  have hlenh := Lib.hid hlen; have hblh := Lib.hid hbl
  clear h hfit hw hlen hlens hbl
  go_enter Tryz.func12, Tryz.ntmps12
  go_wp2_with fail
  obtain ⟨w0, hw0, H⟩ := H.name
  rw [hw0]; clear hw0
  refine (place_any l A c (.slice Ag gens.length cg) i g (by omega) hblh.out w.heap.size w0 (H.blk 0 rfl) (RdT.more (hT.under H.bel (Nat.le_refl _)) H.bel.size)).mono ?_
  rw [hpl]
  rintro e w1 ⟨rfl, hb1⟩
  replace H := H.grow hb1
  clear hb1 hblh
  have hplr := fun k j => @Rep.place_some (ofG rows) rows hwh.out.rep i g k j
  have hpln := @Rep.place_none (ofG rows) rows hwh.out.rep i g
  generalize placeG i g 0 (ofG rows) = P at *
  clear hpl
  have a0 := H.cell 0 0 rfl rfl
  cases P with
  | none =>
    have hEf : Hid (E = (0, false)) := Lib.hid (by rw [hE.out, getP_none part (hpln rfl)])
    have Hh := Lib.hid H
    clear hplr hpln hE H
    unfold placeV
    dsimp only
    go_wp2_with fail
    refine bodyPost_ret (v := .tuple #[.int .i64 0, .bool false]) (by simp [results, Tryz.results12, go_sem]) rfl ⟨by rw [hEf.out], Hh.out.bel⟩
  | some kj =>
    obtain ⟨k, j⟩ := kj
    obtain ⟨t, hkt, hj, hb, hro⟩ := hplr k j rfl
    have hkG : k < (ofG rows).length := (List.getElem?_eq_some_iff.1 hkt).1
    obtain rfl : (ofG rows)[k] = t := (List.getElem?_eq_some_iff.1 hkt).2
    have hkl : k < l.length := by have := hlenh.out; omega
    have hF := fit_at (G := ofG rows) hfith.out hkl hkG
    have hC := hwh.out.rep.clean _ (List.getElem_mem hkG)
    have hrh := hC.has _ (List.getElem_mem hj)
    have hEs : Hid (E = if hasB (ofG rows)[k].rs[j].has part then ((ofG rows)[k].rs[j].vals.getD part.toNat 0, true) else (0, false)) := Lib.hid (by rw [hE.out, getP_some part hro])
    rw [hrh] at hEs
    have hset := hC.set_
    clear hplr hpln hE hkt hb hro hC hrh
    generalize (ofG rows)[k] = G at *
    obtain ⟨b1, off, rfl, hb1, e0, e1, e2⟩ := (hT.under H.bel (Nat.le_refl _)).at_ hkl
    have hrc := hT.cs _ (List.getElem_mem hkl); have hrz := Lib.hid (hT.zs _ (List.getElem_mem hkl))
    generalize l[k] = T at *
    obtain ⟨has, bA, bc, bs, cA, cc, cols⟩ := T
    obtain ⟨gh, rs⟩ := G
    obtain rfl : has = gh := hF.has
    dsimp only at hj e0 e1 e2 hrc hEs hset
    have i0 : (0 : Int) ≤ (k : Int) := by omega
    have i1 : (k : Int) < (l.length : Int) := by omega
    have hha := fun W => has_any has part hset W
    have hcl : Hid (cols.length = (listS has).length) := Lib.hid hF.clen
    have hcol : Hid (∀ n (h1 : n < cols.length) (h2 : n < (listS has).length), cols[n].zs = colOf rs (listS has)[n]) := Lib.hid (fun n h1 h2 => hF.col h1 h2)
    have hm := mem_listS (k := part) hset
    have hseth := Lib.hid hset
    clear hF hset
    cases hq : hasB has part with
    | false =>
      rw [hq] at hha
      have hEf : Hid (E = (0, false)) := Lib.hid (by rw [hEs.out, hq]; rfl)
      have hhah := Lib.hid hha
      have Hh := Lib.hid H
      clear hha hq hEs hm H
      unfold placeV
      dsimp only
      go_wp2_with fail
      refine (hhah.out _).mono ?_
      rintro e w2 ⟨rfl, rfl⟩
      go_wp2_with fail
      refine bodyPost_ret (v := .tuple #[.int .i64 0, .bool false]) (by simp [results, Tryz.results12, go_sem]) rfl ⟨by rw [hEf.out], Hh.out.bel⟩
    | true =>
      rw [hq] at hha
      have hEf : Hid (E = (rs[j].vals.getD part.toNat 0, true)) := Lib.hid (by rw [hEs.out, hq]; rfl)
      obtain ⟨n, hn, hnz⟩ := idxQ_mem (hm.2 hq)
      obtain ⟨hnl, hne⟩ := List.getElem?_eq_some_iff.1 hnz
      have hnc : n < cols.length := by have := hcl.out; omega
      obtain ⟨d1, o1, rfl, hd1, f0⟩ := rdC_at (Rd.under hrc H.bel (Nat.le_refl _)) hnc
      have hz1 := hrz.out _ (List.getElem_mem hnc)
      have hzs := hcol.out n hnc hnl
      rw [hne] at hzs
      have hhah := Lib.hid hha
      have Hh := Lib.hid H
      have hnh := Lib.hid hn
      generalize cols[n] = X at *
      obtain ⟨zA, zc, zs⟩ := X
      dsimp only at f0 hz1 hzs
      have hjz : j < zs.length := by rw [hzs, colOf_len]; exact hj
      obtain ⟨v1, p1, rfl, hv1, y0⟩ := rdZ_at (Rd.under hz1 Hh.out.bel (Nat.le_refl _)) hjz
      have hzj : zs[j] = rs[j].vals.getD part.toNat 0 := by
        simp only [hzs]
        rw [colOf_get _ _ hj]
      rw [hzj] at y0
      generalize rs[j].vals.getD part.toNat 0 = z at *
      have hl8 := listS_len has
      have i2 : (0 : Int) ≤ (n : Int) := by omega
      have i3 : (n : Int) < (cols.length : Int) := by omega
      have i4 : (0 : Int) ≤ (j : Int) := by omega
      have i5 : (j : Int) < (zs.length : Int) := by omega
      have j1 : decide ((n : Int) ≥ (cols.length : Int)) = false := by simp; omega
      have j2 : decide ((j : Int) ≥ (zs.length : Int)) = false := by simp; omega
      clear hha hq hEs hm H hn hnz hne hnl hzs hzj hz1 hjz hcol hrz hrc
      unfold placeV
      dsimp only
      go_wp2_with fail
      refine (hhah.out _).mono ?_
      rintro e w2 ⟨rfl, rfl⟩
      go_wp2_with fail
      refine (list_any has hseth.out w1).mono ?_
      rintro e w3 ⟨vl, rfl, hol, hb3⟩
      obtain ⟨Al, cl, rfl, _, _⟩ := own_shape hol
      have H3 := Hh.out.got hb3 hol
      have e0' := (hb3.cell (p := ⟨b1, off + k * 3, none⟩) (by have := Hh.out.bel.size; simp; omega)).trans e0
      have e2' := (hb3.cell (p := ⟨b1, off + k * 3 + 2, none⟩) (by have := Hh.out.bel.size; simp; omega)).trans e2
      have f0' := (hb3.cell (p := ⟨d1, o1 + n, none⟩) (by have := Hh.out.bel.size; simp; omega)).trans f0
      have y0' := (hb3.cell (p := ⟨v1, p1 + j, none⟩) (by have := Hh.out.bel.size; simp; omega)).trans y0
      have hix := idxI_any (listS has) Al cl (by omega) part w3 (H3.rd 2 rfl)
      rw [hnh.out] at hix
      have hixh := Lib.hid hix
      have H3h := Lib.hid H3
      clear hix H3 hol hb3 e0 e1 e2 f0 y0 a0
      go_wp2_with fail
      refine hixh.out.mono ?_
      rintro e w4 ⟨rfl, rfl⟩
      unfold ixV
      dsimp only
      go_wp2_with fail
      refine bodyPost_ret (v := .tuple #[.int .i64 z, .bool true]) (by simp [results, Tryz.results12, go_sem]) rfl ⟨by rw [hEf.out], H3h.out.bel⟩
end Go.Proofs.YtefdblaolmckmabGreat

namespace Go.Proofs.YtefdblaolmckmabGreat
open Brood
set_option linter.unusedVariables false
set_option linter.unusedSimpArgs false
theorem erase_keep {rows : List BRow} (hr : Rise rows) {i g : Int} {m : Nat} (h : findR i g rows = some m) : rows.eraseIdx m = keepR (isB i g) rows := by
  obtain ⟨hm, hb⟩ := findR_spec h
  have e1 := isB_iff.1 hb
  refine rise_unique (rise_sub hr (List.eraseIdx_sublist _ _)) (rise_sub hr List.filter_sublist) ?_
  have h1 := (eraseIdx_perm hm).filter (fun r => !isB i g r)
  have h2 : (rows[m] :: rows.eraseIdx m).filter (fun r => !isB i g r) = rows.eraseIdx m := by
    rw [List.filter_cons, hb]
    simp only [Bool.not_true, Bool.false_eq_true, if_false]
    rw [List.filter_eq_self]
    intro q hq
    have := erase_ne hr hm q hq
    cases hq2 : isB i g q with
    | false => rfl
    | true => exact absurd ((isB_iff.1 hq2).1.trans e1.1.symm) this
  rw [h2] at h1
  exact h1.symm
theorem chgW_put {rows : List BRow} {gens : List Int} (hw : RightW rows gens) (i g : Int) (fr : BRow → BRow × Int) :
    chgW rows gens i g (fun r => ((fr r).1, true, (fr r).2)) = ⟨tabsW (changeV rows gens i g fr).rows, (changeV rows gens i g fr).gens, (changeV rows gens i g fr).err⟩ := by
  unfold chgW changeV
  rw [if_neg (by rw [(right_iff rows gens).2 hw]; simp)]
  cases findR i g rows with
  | none => rfl
  | some m =>
    dsimp only
    cases rows[m]? with
    | none => rfl
    | some r =>
      dsimp only
      by_cases he : (fr r).2 = 0
      · simp [he]
      · rw [if_pos he, if_pos he]; rfl
theorem chgW_kill {rows : List BRow} {gens : List Int} (hw : RightW rows gens) (i g : Int) :
    chgW rows gens i g keep3 = ⟨tabsW (killV rows gens i g).rows, (killV rows gens i g).gens, (killV rows gens i g).err⟩ := by
  cases hf : findR i g rows with
  | none =>
    have hk : killV rows gens i g = ⟨[], [], 5⟩ := by
      have hc : changeV rows gens i g keepF = ⟨[], [], 5⟩ := by
        unfold changeV
        rw [if_neg (by rw [(right_iff rows gens).2 hw]; simp), hf]
      unfold killV
      rw [hc]
      rfl
    rw [hk]
    unfold chgW
    rw [hf]
    rfl
  | some m =>
    obtain ⟨hm, hb⟩ := findR_spec hf
    have hk : killV rows gens i g = ⟨keepR (isB i g) rows, gens, 0⟩ := by
      have hc : changeV rows gens i g keepF = ⟨rows, gens, 0⟩ := by
        unfold changeV
        rw [if_neg (by rw [(right_iff rows gens).2 hw]; simp), hf]
        dsimp only
        rw [List.getElem?_eq_getElem hm]
        simp [keepF]
      unfold killV
      rw [hc]
      rfl
    rw [hk]
    unfold chgW
    rw [hf]
    dsimp only
    rw [List.getElem?_eq_getElem hm]
    simp [keep3, erase_keep hw.rise hf]
end Go.Proofs.YtefdblaolmckmabGreat

namespace Go.Proofs.YtefdblaolmckmabGreat
open Go.RowKit
open Brood
set_option linter.unusedVariables false
set_option linter.unusedSimpArgs false
theorem right_small {l : List TabIn} {rows : List BRow} {gens : List Int} (hw : RightW rows gens) (hfit : l.map tabOf = tabsW rows) : StSmall l gens := by
  have hlen : l.length = (ofG rows).length := fit_len (G := ofG rows) hfit
  have hl := right_len hw
  have hg := hw.len
  refine ⟨by omega, ?_, ?_, by omega⟩
  · intro t ht
    obtain ⟨k, hk, rfl⟩ := List.getElem_of_mem ht
    have hkG : k < (ofG rows).length := by omega
    have hF := fit_at (G := ofG rows) hfit hk hkG
    have h1 := hl.2.1 _ (List.getElem_mem hkG)
    refine ⟨by rw [hF.len]; omega, by rw [hF.clen]; have := listS_len (ofG rows)[k].h; omega, ?_⟩
    intro c hc
    obtain ⟨j, hj, rfl⟩ := List.getElem_of_mem hc
    have := hF.col hj (by rw [← hF.clen]; exact hj)
    rw [this, colOf_len]
    omega
  · rw [← flat_sum, hfit]
    show (flatG (((ofG rows).map tabG).map grpOf)).length ≤ _
    rw [hw.rep.back]
    omega
theorem GotSt.rd {w w' : World} {v : Value} {T : List BTab} {gens : List Int} (h : GotSt w w' v T gens) : ∃ A c l Ag cg, v = .agg #[.slice A l.length c, .slice Ag gens.length cg] ∧ l.map tabOf = T ∧ RdSt w' w'.heap.size ⟨A, c, l, Ag, cg, gens⟩ := by
  obtain ⟨A, c, l, Ag, cg, rfl, hl, h⟩ := h
  obtain ⟨h1, h2⟩ := h.rdT (A := A) (c := c) (l := l) (fun p hp => .tail _ hp)
  have ho : w'.ownsRow w.heap.size 3 1 (.slice Ag gens.length cg) gens.length (ints gens) := h.all _ (.head _)
  exact ⟨A, c, l, Ag, cg, rfl, hl, ⟨h1, Rd.of_own ho, h2, fun e => by
    have := holds_nil ho e
    exact ⟨this.1, List.eq_nil_of_length_eq_zero this.2⟩⟩⟩
theorem spawnT_right {rows : List BRow} {gens : List Int} (hw : RightW rows gens) (has n : Int) : spawnT (tabsW rows) gens has n = ⟨tabsW (spawnV rows gens has n).rows, (spawnV rows gens has n).gens, (spawnV rows gens has n).i, (spawnV rows gens has n).g, (spawnV rows gens has n).err⟩ := by
  unfold spawnT
  rw [hw.store, if_neg (by simp), hw.worldT]
theorem putT_right {rows : List BRow} {gens : List Int} (hw : RightW rows gens) (i g part n : Int) : chgT (tabsW rows) gens i g (put3 part n) = ⟨tabsW (putV rows gens i g part n).rows, (putV rows gens i g part n).gens, (putV rows gens i g part n).err⟩ := by
  unfold chgT
  rw [hw.store, if_neg (by simp), hw.worldT]
  exact chgW_put hw i g (putF part n)
theorem dropT_right {rows : List BRow} {gens : List Int} (hw : RightW rows gens) (i g part : Int) : chgT (tabsW rows) gens i g (drop3 part) = ⟨tabsW (dropV rows gens i g part).rows, (dropV rows gens i g part).gens, (dropV rows gens i g part).err⟩ := by
  unfold chgT
  rw [hw.store, if_neg (by simp), hw.worldT]
  exact chgW_put hw i g (dropF part)
theorem killT_right {rows : List BRow} {gens : List Int} (hw : RightW rows gens) (i g : Int) : chgT (tabsW rows) gens i g keep3 = ⟨tabsW (killV rows gens i g).rows, (killV rows gens i g).gens, (killV rows gens i g).err⟩ := by
  unfold chgT
  rw [hw.store, if_neg (by simp), hw.worldT]
  exact chgW_kill hw i g
end Go.Proofs.YtefdblaolmckmabGreat

namespace Go.Proofs.YtefdblaolmckmabGreat
open Go.RowKit
open Brood
set_option linter.unusedVariables false
set_option linter.unusedSimpArgs false
theorem alive3_facts : ∃ xr xg yr yg, spawnV [] [] 5 7 = ⟨xr, xg, 0, 1, 0⟩ ∧ (worldErr ⟨xr, xg⟩).1 = 0 ∧ putV xr xg 0 1 1 9 = ⟨yr, yg, 0⟩ ∧ (worldErr ⟨yr, yg⟩).1 = 0 ∧ getP 0 1 yr 2 = (7, true) ∧ (ofG yr).map Grp.h = [7] ∧ (matchV 2 0 yr).length = 1 ∧ yr.length = 1 :=
  ⟨(spawnV [] [] 5 7).rows, (spawnV [] [] 5 7).gens, (putV (spawnV [] [] 5 7).rows (spawnV [] [] 5 7).gens 0 1 1 9).rows, (putV (spawnV [] [] 5 7).rows (spawnV [] [] 5 7).gens 0 1 1 9).gens,
    by kernel_rfl, by kernel_rfl, by kernel_rfl, by kernel_rfl, by kernel_rfl, by kernel_rfl, by kernel_rfl, by kernel_rfl⟩
theorem RightW.none_ : RightW [] [] := (right_iff [] []).1 (by kernel_rfl)
theorem rdSt_none (w : World) : RdSt w w.heap.size ⟨none, 0, [], none, 0, []⟩ := ⟨⟨Rd.nil_, by simp, by simp, by simp⟩, Rd.nil_, ⟨fun _ => ⟨rfl, rfl⟩, by simp, by simp, by simp⟩, fun _ => ⟨rfl, rfl⟩⟩
theorem fld_err3 (a b : Int) (W : World) : (Instr.field 48 (.agg #[.int .i64 a, .int .i64 b]) 0).run Tryz.prog W = .ok (.int .i64 a) W := by kernel_rfl
theorem fld_rows (a : Option Addr) (b c : Nat) (d : Option Addr) (e f : Nat) (W : World) : (Instr.field 64 (.agg #[.slice a b c, .slice d e f]) 0).run Tryz.prog W = .ok (.slice a b c) W := by kernel_rfl
set_option maxRecDepth 20000 in
set_option maxHeartbeats 6400000 in
theorem alive3_any (w : World) : Calls Tryz.prog 13 #[] w fun e w' => e = .returned (.bool true) ∧ Below w.heap.size w w' := by
  obtain ⟨xr, xg, yr, yg, hX, hwX, hY, hwY, hgY, hGY, hmY, hlY⟩ := alive3_facts
  have hwx : RightW xr xg := (right_iff xr xg).1 hwX
  have hwy : RightW yr yg := (right_iff yr yg).1 hwY
  have lx := hwx.len; have ly := hwy.len
  have hXT := spawnT_right RightW.none_ 5 7
  rw [hX] at hXT
  have hYT := putT_right hwx 0 1 1 9
  rw [hY] at hYT
  dsimp only at hXT hYT
  have hwxh := Lib.hid hwx; have hwyh := Lib.hid hwy; have hXTh := Lib.hid hXT; have hYTh := Lib.hid hYT; have hgYh := Lib.hid hgY; have hGYh := Lib.hid hGY; have hmYh := Lib.hid hmY; have hlYh := Lib.hid hlY
  clear hX hwX hY hwY hXT hYT hgY hGY hmY hlY hwx hwy
  go_enter Tryz.func13, Tryz.ntmps13
  go_wp2_with fail
  refine (sspawn_any [] none 0 [] none 0 5 7 ⟨by simp, by simp, by simp, by simp⟩ w (rdSt_none w)).mono ?_
  rintro e w1 ⟨v, rfl, hG⟩
  rw [show ([] : List TabIn).map tabOf = tabsW [] from rfl, hXTh.out] at hG ⊢
  dsimp only at hG ⊢
  have H1 := (Hp.start w).grow hG.bel
  obtain ⟨A, c, l, Ag, cg, rfl, hl, hR⟩ := hG.rd
  clear hG
  have H2 := (H1.new w1.heap.size rfl 40 [.slice A l.length c, .slice Ag xg.length cg]).new (w1.heap.size + 1) (by simp) 24 [.int .i64 0, .int .i64 1]
  replace H2 : Hp w _ [.box w1.heap.size 40 [.slice A l.length c, .slice Ag xg.length cg], .box (w1.heap.size + 1) 24 [.int .i64 0, .int .i64 1]] := H2
  have hR2 := (hR.alloc (.cells #[.slice A l.length c, .slice Ag xg.length cg] 40)).alloc (.cells #[.int .i64 0, .int .i64 1] 24)
  have hlh := Lib.hid hl
  clear hl hR H1
  go_wp2_with fail
  obtain ⟨w2, hw2, H2⟩ := H2.name
  rw [hw2] at hR2 ⊢
  clear hw2
  refine (sput_any l A c xg Ag cg 0 1 1 9 (right_small hwxh.out hlh.out) w2 hR2).mono ?_
  rintro e w3 ⟨v, rfl, hG⟩
  rw [hlh.out, hYTh.out] at hG ⊢
  dsimp only at hG ⊢
  have H3 := H2.grow hG.bel
  obtain ⟨A', c', l', Ag', cg', rfl, hl', hR3⟩ := hG.rd
  clear hG H2 hR2
  have H4 := H3.new w3.heap.size rfl 40 [.slice A' l'.length c', .slice Ag' yg.length cg']
  have b0 := H3.cell 1 0 rfl rfl; have b1 := H3.cell 1 1 rfl rfl; have lb := H3.lt 1 rfl
  have hR4 := hR3.alloc (.cells #[.slice A' l'.length c', .slice Ag' yg.length cg'] 40)
  have hlh' := Lib.hid hl'
  have hhas : l'.map TabIn.has = [7] := by rw [has_map (G := ofG yr) hl', hGYh.out]
  have hl1 : Hid (l'.length = 1) := Lib.hid (by have := congrArg List.length hhas; simpa using this)
  have hth : Hid (∀ h : 0 < l'.length, l'[0].has = 7) := Lib.hid (fun h => by
    have h1 : (l'.map TabIn.has)[0]? = some 7 := by rw [hhas]; rfl
    rw [List.getElem?_map, List.getElem?_eq_getElem h] at h1
    exact Option.some.inj h1)
  clear hl' hR3 H3 hhas
  go_wp2_with fail
  obtain ⟨w4, hw4, H4⟩ := H4.name
  rw [hw4] at hR4 ⊢
  clear hw4 b0 b1 lb
  refine (sget_any l' A' c' yg Ag' cg' yr hwyh.out hlh'.out 0 1 2 w4 hR4).mono ?_
  rintro e w5 ⟨rfl, hb⟩
  rw [hgYh.out]
  dsimp only
  have H5 := H4.grow hb
  have hR5 := hR4.grow hb
  clear hb H4 hR4
  have h0 : 0 < l'.length := by have := hl1.out; omega
  obtain ⟨b1, off, rfl, hb1, e0, _, _⟩ := hR5.tabs.at_ h0
  rw [hth.out h0] at e0
  simp only [Nat.zero_mul, Nat.add_zero] at e0
  have hq1 : ((l'.length : Int) == 1) = true := by rw [hl1.out]; rfl
  have hq2 : (0 : Int) < (l'.length : Int) := by omega
  have hq3 : (((matchV 2 0 yr).length : Int) == 1) = true := by rw [hmYh.out]; rfl
  have hq4 : ((yr.length : Int) == 1) = true := by rw [hlYh.out]; rfl
  have h0h := Lib.hid h0
  have q0 := H5.cell 2 0 rfl rfl; have q1 := H5.cell 2 1 rfl rfl
  go_wp2_with fail
  refine (smatch_any l' (some ⟨b1, off, none⟩) c' yg Ag' cg' yr hwyh.out hlh'.out 2 0 rfl rfl w5 hR5).mono ?_
  rintro e w6 ⟨⟨Am, cm, rfl, _⟩, hb6⟩
  have H6 := H5.grow hb6
  have hR6 := hR5.grow hb6
  clear H5 hb6 q0 q1 e0
  have q0 := H6.cell 2 0 rfl rfl; have q1 := H6.cell 2 1 rfl rfl
  go_wp2_with fail
  have hlens := right_len hwyh.out
  have hlg : l'.length = (ofG yr).length := fit_len (G := ofG yr) hlh'.out
  refine (world_any l' (some ⟨b1, off, none⟩) c' yg Ag' cg' (ofG yr) hlh'.out hwyh.out.rep.clean (by omega) (by omega) (by omega) w6 hR6.tabs hR6.gen hR6.ng).mono ?_
  rintro e w7 ⟨v, rfl, hG, hb7⟩
  have H7 := H6.grow hb7
  rw [hwyh.out.rep.sorted] at hG
  obtain ⟨vr, vg, rfl, hO⟩ := hG
  obtain ⟨Ar, cr, rfl, _, _⟩ := own_shape hO.rows_
  obtain ⟨Ag3, cg3, rfl, _, _⟩ := own_shape hO.gens_
  have hfl := fun a b c d e f W => fld_rows a b c d e f W
  clear hlens hlg hO H6 hb7
  go_wp2_with fail
  go_ret
  exact ⟨rfl, H7.bel⟩
end Go.Proofs.YtefdblaolmckmabGreat
