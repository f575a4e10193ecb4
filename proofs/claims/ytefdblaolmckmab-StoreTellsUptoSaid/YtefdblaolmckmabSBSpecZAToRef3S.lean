/- The walk of the reference's SameStore: stores alike are the same. -/
import Derived.Test.YtefdblaolmckmabSBSpecVToStoA
import Derived.Test.YtefdblaolmckmabSBStoBToKg
import Derived.Test.YtefdblaolmckmabSBSortTRToStoO
import Derived.Test.YtefdblaolmckmabSBSpecOToSpecR
import Derived.Test.YtefdblaolmckmabSBRowToInv
namespace Go.Proofs.Ytefdblaolmckmab
open Go.RowKit
open Brood
set_option linter.unusedVariables false
set_option linter.unusedSimpArgs false
set_option maxRecDepth 20000 in
set_option maxHeartbeats 3200000 in
theorem samebs_any (l : List (Int × Int)) (A : Option Addr) (c : Nat) (A' : Option Addr) (c' : Nat) (hl : l.length ≤ 1048576) (w : World) (hA : Rd w w.heap.size 2 A l.length (l.flatMap beC)) (hA' : Rd w w.heap.size 2 A' l.length (l.flatMap beC)) :
    Calls Try.prog 29 #[.slice A l.length c, .slice A' l.length c'] w fun e w' => e = .returned (.bool true) ∧ Below w.heap.size w w' := by
  go_enter Try.func29, Try.ntmps29
  go_wp2_with fail
  go_loopw [13] (fun q wx => ∃ k : Nat, k ≤ l.length ∧ q = .int .i64 k ∧ Below w.heap.size w wx) (fun q _ => l.length - (intOf q).toNat)
  case atStart => exact ⟨0, by omega, rfl, Below.refl _ _⟩
  case round =>
    obtain ⟨k, hk, rfl, hbel⟩ := hrel
    by_cases hlt : k < l.length
    · obtain ⟨b, off, rfl, hb, c0, c1⟩ := rdBe_at (Rd.under hA hbel (Nat.le_refl _)) hlt
      obtain ⟨b', off', rfl, hb', d0, d1⟩ := rdBe_at (Rd.under hA' hbel (Nat.le_refl _)) hlt
      clear hA hA'
      generalize l[k] = r at *
      obtain ⟨ri, rg⟩ := r
      dsimp only at c0 c1 d0 d1
      have i0 : (0 : Int) ≤ (k : Int) := by omega
      have i1 : (k : Int) < (l.length : Int) := by omega
      have hne : ∀ W, (binOp .neq 27 (.agg #[.int .i64 ri, .int .i64 rg]) (.agg #[.int .i64 ri, .int .i64 rg])).run Try.prog W = .ok (.bool false) W := fun W => by rw [neBeing]; simp
      go_upto_region 6 with fail
      go_cut [24] (fun s24 wx => s24 = .bool false ∧ ∃ n, wx = wr.drewN n)
      case first =>
        go_quiet (fail)
        go_wp2_with fail
        go_meet
        exact ⟨rfl, _, rfl⟩
      case rest =>
        obtain ⟨rfl, n, rfl⟩ := hcut
        have hbel2 := below_drewN hbel n
        go_wp2_with fail
        go_roundw
        case rel => exact ⟨k + 1, by omega, by go_num, hbel2⟩
        case measure => simp [intOf]; omega
    · obtain rfl : k = l.length := by omega
      go_wp2_with fail
      go_ret
      exact ⟨rfl, hbel⟩
def twoE (B : Nat) (A : Option Addr) (n c : Nat) (Ag : Option Addr) (m cg : Nat) (A' : Option Addr) (c' : Nat) (Ag' : Option Addr) (cg' : Nat) : List Ent := [stBox B A n c Ag m cg, stBox (B + 1) A' n c' Ag' m cg']
def fourE (B : Nat) (A : Option Addr) (n c : Nat) (Ag : Option Addr) (m cg : Nat) (A' : Option Addr) (c' : Nat) (Ag' : Option Addr) (cg' : Nat) (b7 b8 : Nat) (has : Int) (bA : Option Addr) (nb bc : Nat) (cA : Option Addr) (nc cc : Nat) (bA' : Option Addr) (bc' : Nat) (cA' : Option Addr) (cc' : Nat) : List Ent :=
  twoE B A n c Ag m cg A' c' Ag' cg' ++ [.box b7 78 [.int .i64 has, .slice bA nb bc, .slice cA nc cc]] ++ [.box b8 78 [.int .i64 has, .slice bA' nb bc', .slice cA' nc cc']]
set_option maxRecDepth 20000 in
set_option maxHeartbeats 12800000 in
theorem rsamest_any (l l' : List TabIn) (gens : List Int) (A : Option Addr) (c : Nat) (Ag : Option Addr) (cg : Nat) (A' : Option Addr) (c' : Nat) (Ag' : Option Addr) (cg' : Nat) (hs : StSmall l gens) (hll : l'.map tabOf = l.map tabOf)
    (w : World) (h : RdSt w w.heap.size ⟨A, c, l, Ag, cg, gens⟩) (h' : RdSt w w.heap.size ⟨A', c', l', Ag', cg', gens⟩) :
    Calls Try.prog 34 #[.agg #[.slice A l.length c, .slice Ag gens.length cg], .agg #[.slice A' l'.length c', .slice Ag' gens.length cg']] w fun e w' => e = .returned (.bool true) ∧ Below w.heap.size w w' := by
  have hlen : l'.length = l.length := by simpa using congrArg List.length hll
  rw [hlen]
  have hllh := Lib.hid hll; have hlenh := Lib.hid hlen
  obtain ⟨hT, hg, _, _⟩ := h
  obtain ⟨hT', hg', _, _⟩ := h'
  dsimp only at hT hg hT' hg'
  obtain ⟨s1, s2, s3, s4⟩ := hs
  have s2h := Lib.hid s2
  clear hll hlen s2 s3
  have H := ((Hp.start w).new w.heap.size rfl 59 [.slice A l.length c, .slice Ag gens.length cg]).new (w.heap.size + 1) (by simp) 59 [.slice A' l.length c', .slice Ag' gens.length cg']
  replace H : Hp w _ (twoE w.heap.size A l.length c Ag gens.length cg A' c' Ag' cg') := H
  have hTh := Lib.hid hT; have hTh' := Lib.hid hT'
  clear hT hT'
  go_enter Try.func34, Try.ntmps34
  go_wp2_with fail
  go_loopw [30] (fun q wr => ∃ k : Nat, k ≤ gens.length ∧ q = .int .i64 k ∧ Hp w wr (twoE w.heap.size A l.length c Ag gens.length cg A' c' Ag' cg')) (fun q _ => gens.length - (intOf q).toNat)
  case atStart => exact ⟨0, by omega, rfl, H⟩
  case round =>
    clear H
    obtain ⟨k, hk, rfl, H⟩ := hrel
    by_cases hlt : k < gens.length
    · obtain ⟨b1, off, rfl, hb1, c0⟩ := RdG.at_ (Rd.under hg H.bel (Nat.le_refl _)) hlt
      obtain ⟨b2, off2, rfl, hb2, d0⟩ := RdG.at_ (Rd.under hg' H.bel (Nat.le_refl _)) hlt
      clear hg hg'
      generalize gens[k] = r at *
      have i0 : (0 : Int) ≤ (k : Int) := by omega
      have i1 : (k : Int) < (gens.length : Int) := by omega
      have e0 := H.cell 0 1 rfl rfl; have e1 := H.cell 1 1 rfl rfl
      have Hh := Lib.hid H
      clear H
      go_upto_region 6 with fail
      go_cut [43] (fun s wx => s = .bool false ∧ ∃ n, wx = wr.drewN n)
      case first =>
        go_quiet (fail)
        go_wp2_with fail
        go_meet
        exact ⟨by simp, _, rfl⟩
      case rest =>
        obtain ⟨rfl, n, rfl⟩ := hcut
        have H2 := Lib.hid (Hh.out.drewN n)
        go_wp2_with fail
        go_roundw
        case rel => exact ⟨k + 1, by omega, by go_num, H2.out⟩
        case measure => simp [intOf]; omega
    · obtain rfl : k = gens.length := by omega
      have e0 := H.cell 0 0 rfl rfl
      clear hg hg'
      have Hh := Lib.hid H
      clear H
      go_wp2_with fail
      clear e0
      go_loopw [48] (fun q wr => ∃ k : Nat, k ≤ l.length ∧ q = .int .i64 k ∧ Hp w wr (twoE w.heap.size A l.length c Ag gens.length cg A' c' Ag' cg')) (fun q _ => l.length - (intOf q).toNat)
      case atStart => exact ⟨0, by omega, rfl, Hh.out⟩
      case round =>
        clear Hh
        obtain ⟨k, hk, rfl, H⟩ := hrel
        by_cases hlt : k < l.length
        · have hlt' : k < l'.length := by have := hlenh.out; omega
          have hT := hTh.out.under H.bel (Nat.le_refl _); have hT' := hTh'.out.under H.bel (Nat.le_refl _)
          obtain ⟨b1, off, rfl, hb1, f0, f1, f2⟩ := hT.at_ hlt
          obtain ⟨b2, off2, rfl, hb2, g0, g1, g2⟩ := hT'.at_ hlt'
          clear hT hT'
          have hrb := hTh.out.bs _ (List.getElem_mem hlt); have hrc := hTh.out.cs _ (List.getElem_mem hlt); have hrz := Lib.hid (hTh.out.zs _ (List.getElem_mem hlt))
          have hrb' := hTh'.out.bs _ (List.getElem_mem hlt'); have hrc' := hTh'.out.cs _ (List.getElem_mem hlt'); have hrz' := Lib.hid (hTh'.out.zs _ (List.getElem_mem hlt'))
          have hsm := s2h.out _ (List.getElem_mem hlt)
          have hte : tabOf l'[k] = tabOf l[k] := by
            have h1 : (l'.map tabOf)[k]? = (l.map tabOf)[k]? := by rw [hllh.out]
            rw [List.getElem?_map, List.getElem?_map, List.getElem?_eq_getElem hlt, List.getElem?_eq_getElem hlt'] at h1
            exact Option.some.inj h1
          generalize l[k] = t at *
          generalize l'[k] = u at *
          obtain ⟨has, bA, bc, bs, cA, cc, cols⟩ := t
          obtain ⟨has', bA', bc', bs', cA', cc', cols'⟩ := u
          obtain ⟨rfl, rfl, hce⟩ : has' = has ∧ bs' = bs ∧ cols'.map ColIn.zs = cols.map ColIn.zs := by
            have := hte; unfold tabOf at this; injection this with h1 h2 h3; exact ⟨h1, h2, h3⟩
          obtain ⟨m1, m2, m3⟩ := hsm
          have hcl : cols'.length = cols.length := by simpa using congrArg List.length hce
          have m3h := Lib.hid m3; have hceh := Lib.hid hce; have hclh := Lib.hid hcl
          dsimp only at f0 f1 f2 g0 g1 g2 hrb hrb' hrc hrc' m1 m2
          rw [hcl] at g2 hrc'
          clear m3 hte hce hcl
          have i0 : (0 : Int) ≤ (k : Int) := by omega
          have i1 : (k : Int) < (l.length : Int) := by omega
          have e0 := H.cell 0 0 rfl rfl; have e1 := H.cell 1 0 rfl rfl
          have l0 := H.lt 0 rfl; have l1 := H.lt 1 rfl
          have hsz := H.bel.size
          have H4 := (H.new wr.heap.size rfl 78 [.int .i64 has', .slice bA bs'.length bc, .slice cA cols.length cc]).new (wr.heap.size + 1) (by simp) 78 [.int .i64 has', .slice bA' bs'.length bc', .slice cA' cols.length cc']
          have hb1' : b1 < wr.heap.size := by omega
          have hb2' : b2 < wr.heap.size := by omega
          clear H
          go_wp2_with fail
          obtain ⟨w4, hw4, H4⟩ := H4.name
          rw [hw4]
          clear hw4 f0 f1 f2 g0 g1 g2 e0 e1
          obtain ⟨b8, hb8⟩ : ∃ b8, b8 = wr.heap.size + 1 := ⟨_, rfl⟩
          rw [← hb8] at H4 ⊢
          obtain ⟨b7, hb7⟩ : ∃ b7, b7 = wr.heap.size := ⟨_, rfl⟩
          rw [← hb7] at H4 ⊢
          clear hb7 hb8 l0 l1 hsz hb1' hb2'
          replace H4 : Hp w w4 (fourE w.heap.size (some ⟨b1, off, none⟩) l.length c Ag gens.length cg (some ⟨b2, off2, none⟩) c' Ag' cg' b7 b8 has' bA bs'.length bc cA cols.length cc bA' bc' cA' cc') := H4
          refine (samebs_any bs' bA bc bA' bc' m1 w4 (Rd.more (Rd.under hrb H4.bel (Nat.le_refl _)) H4.bel.size) (Rd.more (Rd.under hrb' H4.bel (Nat.le_refl _)) H4.bel.size)).mono ?_
          rintro e w5 ⟨rfl, hb5⟩
          have H5 := H4.grow hb5
          clear H4 hb5
          have e0 := H5.cell 2 2 rfl rfl; have e1 := H5.cell 3 2 rfl rfl
          have H5h := Lib.hid H5
          clear H5
          go_wp2_with fail
          clear e0 e1
          go_loopw [83] (fun q wr => ∃ j : Nat, j ≤ cols.length ∧ q = .int .i64 j ∧ Hp w wr (fourE w.heap.size (some ⟨b1, off, none⟩) l.length c Ag gens.length cg (some ⟨b2, off2, none⟩) c' Ag' cg' b7 b8 has' bA bs'.length bc cA cols.length cc bA' bc' cA' cc')) (fun q _ => cols.length - (intOf q).toNat)
          case atStart => exact ⟨0, by omega, rfl, H5h.out⟩
          case round =>
            clear H5h
            obtain ⟨j, hj, rfl, H5⟩ := hrel
            by_cases hjl : j < cols.length
            · have hjl' : j < cols'.length := by have := hclh.out; omega
              rw [← hclh.out] at hrc'
              obtain ⟨d1, o1, rfl, hd1, f0⟩ := rdC_at (Rd.under hrc H5.bel (Nat.le_refl _)) hjl
              obtain ⟨d2, o2, rfl, hd2, g0⟩ := rdC_at (Rd.under hrc' H5.bel (Nat.le_refl _)) hjl'
              have hz1 := hrz.out _ (List.getElem_mem hjl); have hz2 := hrz'.out _ (List.getElem_mem hjl')
              have hzs := m3h.out _ (List.getElem_mem hjl)
              have hze : cols'[j].zs = cols[j].zs := by
                have h1 : (cols'.map ColIn.zs)[j]? = (cols.map ColIn.zs)[j]? := by rw [hceh.out]
                rw [List.getElem?_map, List.getElem?_map, List.getElem?_eq_getElem hjl, List.getElem?_eq_getElem hjl'] at h1
                exact Option.some.inj h1
              generalize cols[j] = X at *
              generalize cols'[j] = Y at *
              obtain ⟨zA, zc, zs⟩ := X
              obtain ⟨zA', zc', zs'⟩ := Y
              dsimp only at f0 g0 hz1 hz2 hzs hze
              subst hze
              clear hrc hrc' hrb hrb'
              have i2 : (0 : Int) ≤ (j : Int) := by omega
              have i3 : (j : Int) < (cols.length : Int) := by omega
              have e0 := H5.cell 2 2 rfl rfl; have e1 := H5.cell 3 2 rfl rfl
              have H5h := Lib.hid H5
              have hz1h := Lib.hid hz1; have hz2h := Lib.hid hz2
              clear H5 hz1 hz2
              go_upto_region 18 with fail
              go_cut [98] (fun s wx => s = .bool false ∧ ∃ n, wx = wr.drewN n)
              case first =>
                go_quiet (fail)
                go_wp2_with fail
                go_meet
                exact ⟨by simp, _, rfl⟩
              case rest =>
                obtain ⟨rfl, n, rfl⟩ := hcut
                have H6 := H5h.out.drewN n
                clear H5h e0 e1
                have e0 := H6.cell 2 2 rfl rfl
                have f0' : (wr.drewN n).cell? ⟨d1, o1 + j, none⟩ = some (.slice zA zs'.length zc) := f0
                have H6h := Lib.hid H6
                clear H6 f0
                go_wp2_with fail
                clear e0
                go_loopw [105] (fun q wx => ∃ i : Nat, i ≤ zs'.length ∧ q = .int .i64 i ∧ Hp w wx (fourE w.heap.size (some ⟨b1, off, none⟩) l.length c Ag gens.length cg (some ⟨b2, off2, none⟩) c' Ag' cg' b7 b8 has' bA bs'.length bc (some ⟨d1, o1, none⟩) cols.length cc bA' bc' (some ⟨d2, o2, none⟩) cc') ∧ wx.cell? ⟨d1, o1 + j, none⟩ = some (.slice zA zs'.length zc) ∧ wx.cell? ⟨d2, o2 + j, none⟩ = some (.slice zA' zs'.length zc')) (fun q _ => zs'.length - (intOf q).toNat)
                case atStart => exact ⟨0, by omega, rfl, H6h.out, f0', g0⟩
                case round =>
                  clear H6h f0' g0
                  obtain ⟨i, hi, rfl, H7, f0, g0⟩ := hrel
                  by_cases hil : i < zs'.length
                  · obtain ⟨v1, p1, rfl, hv1, y0⟩ := rdZ_at (Rd.under hz1h.out H7.bel (Nat.le_refl _)) hil
                    obtain ⟨v2, p2, rfl, hv2, y1⟩ := rdZ_at (Rd.under hz2h.out H7.bel (Nat.le_refl _)) hil
                    clear hz1h hz2h
                    generalize zs'[i] = z at *
                    have i4 : (0 : Int) ≤ (i : Int) := by omega
                    have i5 : (i : Int) < (zs'.length : Int) := by omega
                    have e0 := H7.cell 2 2 rfl rfl; have e1 := H7.cell 3 2 rfl rfl
                    have H7h := Lib.hid H7
                    clear H7
                    obtain ⟨wr2, rfl⟩ : ∃ wr2 : World, wr2 = wr := ⟨_, rfl⟩
                    go_upto_region 23 with fail
                    go_cut [124] (fun s wx => s = .bool false ∧ ∃ n, wx = wr2.drewN n)
                    case first =>
                      go_quiet (fail)
                      go_wp2_with fail
                      go_meet
                      exact ⟨by simp, _, rfl⟩
                    case rest =>
                      obtain ⟨rfl, n2, rfl⟩ := hcut
                      have H8 := Lib.hid (H7h.out.drewN n2)
                      have f1' : (wr2.drewN n2).cell? ⟨d1, o1 + j, none⟩ = some (.slice (some ⟨v1, p1, none⟩) zs'.length zc) := f0
                      have g1' : (wr2.drewN n2).cell? ⟨d2, o2 + j, none⟩ = some (.slice (some ⟨v2, p2, none⟩) zs'.length zc') := g0
                      go_wp2_with fail
                      go_roundw
                      case rel => exact ⟨i + 1, by omega, by go_num, H8.out, f1', g1'⟩
                      case measure => simp [intOf]; omega
                  · obtain rfl : i = zs'.length := by omega
                    have H7h := Lib.hid H7
                    clear H7
                    go_wp2_with fail
                    go_roundw
                    case rel => exact ⟨j + 1, by omega, by go_num, H7h.out⟩
                    case measure => simp [intOf]; omega
            · obtain rfl : j = cols.length := by omega
              have H6 := Lib.hid ((H5.drop1 3).drop1 2)
              clear H5
              go_wp2_with fail
              go_roundw
              case rel => exact ⟨k + 1, by omega, by go_num, H6.out⟩
              case measure => simp [intOf]; omega
        · obtain rfl : k = l.length := by omega
          have hb := H.bel
          clear H
          go_wp2_with fail
          go_ret
          exact ⟨rfl, hb⟩
end Go.Proofs.Ytefdblaolmckmab
