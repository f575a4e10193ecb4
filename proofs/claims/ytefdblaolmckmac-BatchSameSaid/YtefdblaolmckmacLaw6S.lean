/- The walk of BatchSame. -/
import Derived.Test.YtefdblaolmckmacBBatBToOwnR
import Derived.Test.YtefdblaolmckmacBSpecZAToRef3S
import Derived.Test.YtefdblaolmckmacBSpecDToLaw6W
namespace Go.Proofs.Ytefdblaolmckmac
open Go.RowKit
open Brood
set_option linter.unusedVariables false
set_option linter.unusedSimpArgs false
theorem infoSys : (Try.prog.info? 43).map (fun i => (i.zero, i.size, i.bytes)) = some (some (.agg #[.int .i64 0, .int .i64 0, .int .i64 0, .slice none 0 0]), 4, 48) := by kernel_rfl
def inAt (l : List SysIn) (i : Nat) : SysIn := (l[i]?).getD ⟨⟨0, 0, 0, []⟩, none, 0⟩
theorem inAt_get {l : List SysIn} {i : Nat} (h : i < l.length) : l[i] = inAt l i := by unfold inAt; rw [List.getElem?_eq_getElem h]; rfl
theorem inAt_mem {l : List SysIn} {i : Nat} (h : i < l.length) : inAt l i ∈ l := by rw [← inAt_get h]; exact List.getElem_mem h
theorem inAt_s {l : List SysIn} {i : Nat} (h : i < l.length) : (inAt l i).s = sysAt (sysOf l) i := by
  unfold inAt sysAt sysOf
  rw [List.getElem?_map, List.getElem?_eq_getElem h]
  rfl
def pick (l : List SysIn) (js : List Nat) : List SysIn := js.map (inAt l)
theorem pick_sys {l : List SysIn} {js : List Nat} (h : ∀ j ∈ js, j < l.length) : sysOf (pick l js) = js.map (sysAt (sysOf l)) := by
  unfold pick
  rw [show sysOf (js.map (inAt l)) = (js.map (inAt l)).map SysIn.s from rfl, List.map_map]
  exact List.map_congr_left fun j hj => inAt_s (h j hj)
theorem rows_leS : ∀ (rows : List (List Nat)), (∀ r ∈ rows, r ≠ []) → rows.length ≤ rows.flatten.length
  | [], _ => Nat.le_refl _
  | r :: rows, h => by
    have h1 := rows_leS rows (fun x hx => h x (by simp [hx]))
    have h2 : 0 < r.length := List.length_pos_iff.2 (h r (by simp))
    rw [List.flatten_cons, List.length_append, List.length_cons]
    omega
theorem row_le : ∀ {rows : List (List Nat)} {r : List Nat}, r ∈ rows → r.length ≤ rows.flatten.length
  | [], _, h => by cases h
  | x :: rows, r, h => by
    rw [List.flatten_cons, List.length_append]
    rcases List.mem_cons.1 h with rfl | h
    · omega
    · have := row_le h; omega
theorem turned_take (turn : Bool) {rows : List (List Nat)} {k : Nat} (h : k < rows.length) : turned turn (rows.take (k + 1)) = turned turn (rows.take k) ++ turnRow turn rows[k] := by
  unfold turned
  rw [List.take_add_one, List.getElem?_eq_getElem h, Option.toList_some, List.map_append, List.flatten_append]
  simp
theorem turnRow_len (turn : Bool) (r : List Nat) : (turnRow turn r).length = r.length := by
  unfold turnRow
  split <;> simp
theorem turnRow_at (turn : Bool) {r : List Nat} {e : Nat} (h : e < r.length) : (turnRow turn r).take (e + 1) = (turnRow turn r).take e ++ [r[if turn then r.length - 1 - e else e]'(by split <;> omega)] := by
  have h2 : e < (turnRow turn r).length := by rw [turnRow_len]; exact h
  rw [← List.take_append_getElem h2]
  congr 2
  cases turn with
  | true => simp [turnRow]
  | false => simp [turnRow]
theorem make_facts {ss : List BSys} (h : (makeV ss).2.1 = 0) : (makeV ss).1 = makeRows ss ∧ ss.length ≤ 12 ∧ ∀ s ∈ ss, (sysWrong s).1 = 0 := by
  by_cases hw : (batchWrong ss).1 = 0
  · have hlen : ss.length ≤ 12 := by
      rcases Nat.lt_or_ge 12 ss.length with h | h
      · have : batchWrong ss = (4, 0) := by simp [batchWrong, h]
        rw [this] at hw; cases hw
      · exact h
    refine ⟨by simp [makeV, hw], hlen, ?_⟩
    rw [batchWrong, if_neg (by omega)] at hw
    exact wrongs_right _ 0 hw
  · exfalso
    rw [show makeV ss = ([], batchWrong ss) by simp [makeV, hw]] at h
    exact hw h
theorem same_facts {ss : List BSys} (hs : ∀ s ∈ ss, (sysWrong s).1 = 0) {W : BWorld} (hw : RightB W) (turn : Bool) :
    (allM 0 W ((turned turn (makeRows ss)).map (sysAt ss))).1 = (allM 0 W ss).1 ∧ (allM 0 W ((turned turn (makeRows ss)).map (sysAt ss))).2.1 = (allM 0 W ss).2.1 ∧ ((allM 0 W ss).2.1 = 0 → RightB (allM 0 W ss).1) := by
  have h1 := allM_E ss 0 W
  have h2 := allM_E ((turned turn (makeRows ss)).map (sysAt ss)) 0 W
  have h3 := batch_same hs hw turn
  refine ⟨by rw [h2.1, h1.1, h3], by rw [h2.2, h1.2, h3], fun h => ?_⟩
  rw [h1.1]
  exact allE_right ss W hw (by rw [← h1.2]; exact h)
theorem pick_snoc (l : List SysIn) (js : List Nat) (j : Nat) : pick l (js ++ [j]) = pick l js ++ [inAt l j] := by simp [pick]
def bsO (Am : Option Addr) (cm : Nat) (L : List SysIn) : List Ent := [.own (.slice Am L.length cm) 43 4 L.length (L.flatMap sysCells)]
set_option maxRecDepth 20000 in
set_option maxHeartbeats 12800000 in
theorem batchSame_any (rows : List BRow) (gens : List Int) (Ar : Option Addr) (cr : Nat) (Ag : Option Addr) (cg : Nat) (l0 : List SysIn) (lA : Option Addr) (lc : Nat) (turn : Bool) (hlr : rows.length ≤ 9223372036854775807) (hlg : gens.length ≤ 9223372036854775807) (hnr : Ar = none → cr = 0 ∧ rows = []) (hng : Ag = none → cg = 0 ∧ gens = [])
    (w : World) (hr : RdR w w.heap.size Ar rows) (hg : RdG w w.heap.size Ag gens) (hA : RdS w w.heap.size lA l0) :
    Calls Try.prog 3 #[.agg #[.slice Ar rows.length cr, .slice Ag gens.length cg], .slice lA l0.length lc, .bool turn] w fun e w' => e = .returned (.bool true) ∧ Below w.heap.size w w' := by
  have H0 := (Hp.start w).new w.heap.size rfl 25 [.slice Ar rows.length cr, .slice Ag gens.length cg]
  replace H0 : Hp w _ [.box w.heap.size 25 [.slice Ar rows.length cr, .slice Ag gens.length cg]] := H0
  have hAh := Lib.hid hA
  clear hA
  go_enter Try.func3, Try.ntmps3
  go_wp2_with fail
  obtain ⟨w0, hw0, H0⟩ := H0.name
  rw [hw0]; clear hw0
  refine (alive6_any w0).mono ?_
  rintro e w1 ⟨rfl, hb⟩
  replace H0 := H0.grow hb
  clear hb
  have a0 := H0.cell 0 0 rfl rfl; have a1 := H0.cell 0 1 rfl rfl
  go_wp2_with fail
  refine (sof_any rows gens Ar cr Ag cg hlr hng w1 (H0.old hr) (H0.old hg)).mono ?_
  rintro e w2 ⟨v, rfl, hG⟩
  have H1 := H0.grow hG.bel
  obtain ⟨A, c, l, Ag2, cg2, rfl, hl, hR⟩ := hG.rd
  clear hG H0 a0 a1
  have hrt : Hid ((worldErr ⟨rows, gens⟩).1 = 0 → RightW rows gens) := Lib.hid (right_iff rows gens).1
  have hof : Hid (ofV rows gens = if (worldErr ⟨rows, gens⟩).1 ≠ 0 then ([], []) else (tabsW rows, gens)) := Lib.hid rfl
  generalize worldErr ⟨rows, gens⟩ = F at *
  obtain ⟨f1, f2⟩ := F
  generalize ofV rows gens = O at *
  obtain ⟨oT, oG⟩ := O
  unfold fV
  dsimp only at hl hR hrt hof ⊢
  have H2 := (H1.new w2.heap.size rfl 30 [.slice A l.length c, .slice Ag2 oG.length cg2]).new (w2.heap.size + 1) (by simp) 33 [.int .i64 f1, .int .i64 f2]
  have hR2 := Lib.hid ((hR.alloc (.cells #[.slice A l.length c, .slice Ag2 oG.length cg2] 30)).alloc (.cells #[.int .i64 f1, .int .i64 f2] 33))
  have hlh := Lib.hid hl
  have l0' := H1.lt 0 rfl
  clear H1 hR hl
  have H2h := Lib.hid H2
  clear H2
  go_upto_region 4 with fail
  obtain ⟨w3, hw3, H2⟩ := H2h.out.name
  rw [hw3] at hR2 ⊢
  clear hw3 l0' H2h
  replace H2 : Hp w w3 [.box w.heap.size 25 [.slice Ar rows.length cr, .slice Ag gens.length cg], .box w2.heap.size 30 [.slice A l.length c, .slice Ag2 oG.length cg2], .box (w2.heap.size + 1) 33 [.int .i64 f1, .int .i64 f2]] := H2
  have hmk := Lib.hid (make_any l0 lA lc w3 ((hAh.out.under H2.bel (Nat.le_refl _)).more H2.bel.size))
  have hmf := Lib.hid (make_facts (ss := sysOf l0))
  generalize makeV (sysOf l0) = M at *
  obtain ⟨mr, g1, g2⟩ := M
  dsimp only at hmk hmf
  go_wp2_with fail
  refine hmk.out.mono ?_
  clear hmk
  rintro e w4 ⟨v, us, rfl, hO, hb4⟩
  have H3 := H2.grow hb4
  have hR3 := hR2.out.grow hb4
  have H4 := H3.new w4.heap.size rfl 33 [.int .i64 g1, .int .i64 g2]
  have hR4 := Lib.hid (hR3.alloc (.cells #[.int .i64 g1, .int .i64 g2] 33))
  have hO4 := Lib.hid (hO.alloc (.cells #[.int .i64 g1, .int .i64 g2] 33))
  obtain ⟨VA, vc, rfl, _, _⟩ := hO.shape
  rw [rowsI_length] at hO4 ⊢
  have l0' := H3.lt 0 rfl
  clear H2 hb4 H3 hR2 hR3 hO
  have H4h := Lib.hid H4
  clear H4
  go_upto_region 5 with fail
  obtain ⟨wN, hwN, H4⟩ := H4h.out.name
  rw [hwN] at hR4 hO4 ⊢
  clear hwN l0' H4h
  replace H4 : Hp w wN [.box w.heap.size 25 [.slice Ar rows.length cr, .slice Ag gens.length cg], .box w2.heap.size 30 [.slice A l.length c, .slice Ag2 oG.length cg2], .box (w2.heap.size + 1) 33 [.int .i64 f1, .int .i64 f2], .box w4.heap.size 33 [.int .i64 g1, .int .i64 g2]] := H4
  have ff := H4.cell 2 0 rfl rfl; have gg := H4.cell 3 0 rfl rfl
  have H4h := Lib.hid H4
  clear H4
  by_cases hf : f1 = 0
  case neg =>
    have hf' : (f1 != 0) = true := by simpa using hf
    clear hf
    go_wp2_with fail
    go_ret
    exact ⟨rfl, H4h.out.bel⟩
  subst hf
  by_cases hg1 : g1 = 0
  case neg =>
    have hg' : (g1 != 0) = true := by simpa using hg1
    clear hg1
    go_wp2_with fail
    go_ret
    exact ⟨rfl, H4h.out.bel⟩
  subst hg1
  have hRw := hrt.out rfl
  have hOO : oT = tabsW rows ∧ oG = gens := by
    have h1 := hof.out
    rw [if_neg (by simp)] at h1
    exact ⟨congrArg Prod.fst h1, congrArg Prod.snd h1⟩
  obtain ⟨rfl, rfl⟩ := hOO
  obtain ⟨rfl, hlen, hsr⟩ := hmf.out rfl
  rw [sysOf_length] at hlen
  have hsame := Lib.hid (same_facts hsr (W := ⟨rows, oG⟩) hRw turn)
  have hlev := lev_rows (sysOf l0)
  have hslen := sysOf_length l0
  rw [hslen] at hlev
  generalize makeRows (sysOf l0) = rs at *
  have hlt0 : Hid (∀ r ∈ rs, ∀ j ∈ r, j < l0.length) := Lib.hid (fun r hr j hj => List.mem_range.1 (hlev.perm.mem_iff.1 (List.mem_flatten.2 ⟨r, hr, hj⟩)))
  have hltT : Hid (∀ j ∈ turned turn rs, j < l0.length) := Lib.hid (fun j hj => List.mem_range.1 (hlev.perm.mem_iff.1 ((turned_perm turn rs).mem_iff.1 hj)))
  have hflat : rs.flatten.length = l0.length := by have := hlev.perm.length_eq; rw [List.length_range] at this; exact this
  have hrl : rs.length ≤ 12 := by have := rows_leS rs hlev.ne; omega
  have hrowl : Hid (∀ r ∈ rs, r.length ≤ 12) := Lib.hid (fun r hr => by have := row_le hr; omega)
  have hTl : Hid (∀ k, (turned turn (rs.take k)).length ≤ 12) := Lib.hid (fun k => by
    have h1 := (turned_perm turn (rs.take k)).length_eq
    have h2 : rs.flatten = (rs.take k).flatten ++ (rs.drop k).flatten := by rw [← List.flatten_append, List.take_append_drop]
    have h3 := congrArg List.length h2
    rw [List.length_append] at h3
    omega)
  have hRwh := Lib.hid hRw
  clear hRw hof hrt hmf hsr hlev hslen hflat
  go_wp2_with fail
  go_loopw [11, 41] (fun m q wr => ∃ (k : Nat) (Am : Option Addr) (cm : Nat), k ≤ rs.length ∧ q = .int .i64 k ∧ m = .slice Am (pick l0 (turned turn (rs.take k))).length cm ∧ Hp wN wr (bsO Am cm (pick l0 (turned turn (rs.take k))))) (fun _ q _ => rs.length - (intOf q).toNat)
  case atStart => exact ⟨0, none, 0, by omega, rfl, rfl, (Hp.start wN).nil_ 43 4⟩
  case round =>
    obtain ⟨k, Am, cm, hk, rfl, rfl, H⟩ := hrel
    by_cases hlt : k < rs.length
    · obtain ⟨g, A', c', rfl, hgl, hc3, hRd3⟩ := hO4.out.at_rows hlt
      have hc := (H.bel.cell (p := ⟨g, k, none⟩) hgl).trans hc3
      have htt := Lib.hid (turned_take turn hlt)
      have hrl2 := hrowl.out _ (List.getElem_mem hlt)
      have hj2 := Lib.hid (hlt0.out _ (List.getElem_mem hlt))
      have hT1 := hTl.out k
      have hT2 := hTl.out (k + 1)
      rw [htt.out, List.length_append, turnRow_len] at hT2
      generalize rs[k] = row at *
      generalize turned turn (rs.take k) = T0 at *
      have i0 : (0 : Int) ≤ (k : Int) := by omega
      have i1 : (k : Int) < (rs.length : Int) := by omega
      have hRo := Lib.hid hRd3
      have Hh := Lib.hid H
      clear H hRd3 hc3
      go_wp2_with fail
      clear hc i1
      go_loopw [11, 47] (fun m q wr => ∃ (e : Nat) (Am : Option Addr) (cm : Nat), e ≤ row.length ∧ q = .int .i64 e ∧ m = .slice Am (pick l0 (T0 ++ (turnRow turn row).take e)).length cm ∧ Hp wN wr (bsO Am cm (pick l0 (T0 ++ (turnRow turn row).take e)))) (fun _ q _ => row.length - (intOf q).toNat)
      case atStart => exact ⟨0, Am, cm, by omega, rfl, by simp, by simpa using Hh.out⟩
      case round =>
        clear Hh
        obtain ⟨e, Am, cm, he, rfl, rfl, H⟩ := hrel
        by_cases hlt2 : e < row.length
        · have hRl : RdS wr w.heap.size lA l0 := hAh.out.under (H4h.out.bel.trans (H.bel.mono H4h.out.bel.size)) (Nat.le_refl _)
          have hRr := hRo.out.grow H.bel
          cases turn with
          | true =>
            have htk0 := turnRow_at true hlt2
            have hw1 : IntKind.i64.wrap ((row.length : Int) - 1) = (row.length : Int) - 1 := by rw [IntKind.wrap_i64]; omega
            have hw2 : IntKind.i64.wrap ((row.length : Int) - 1 - (e : Int)) = ((row.length - 1 - e : Nat) : Int) := by rw [IntKind.wrap_i64]; omega
            simp only [if_true] at htk0
            obtain ⟨j, hje⟩ : ∃ j, j = row.length - 1 - e := ⟨_, rfl⟩
            have hjl : j < row.length := by omega
            have htk1 : (turnRow true row).take (e + 1) = (turnRow true row).take e ++ [row[j]'hjl] := by rw [htk0]; simp only [hje]
            rw [← hje] at hw2
            clear htk0 hje
            have htk0 := htk1
            clear htk1
            obtain ⟨b2, off2, rfl, hb2, hce⟩ := hRr.at_ (k := j) (by rw [natsI_length]; exact hjl)
            rw [natsI_get hjl] at hce
            have hil := hj2.out row[j] (List.getElem_mem hjl)
            generalize row[j] = i at *
            obtain ⟨b3, off3, rfl, hb3, d0, d1, d2, d3⟩ := hRl.at_ hil
            rw [inAt_get hil] at d0 d1 d2 d3
            obtain ⟨X, hX⟩ : ∃ X, inAt l0 i = X := ⟨_, rfl⟩
            rw [hX] at d0 d1 d2 d3
            obtain ⟨x, xA, xc⟩ := X
            have hxe := Lib.hid hX
            dsimp only at d0 d1 d2 d3
            have htk := Lib.hid (show T0 ++ (turnRow true row).take (e + 1) = (T0 ++ (turnRow true row).take e) ++ [i] by rw [htk0, List.append_assoc])
            have hL : (pick l0 (T0 ++ (turnRow true row).take e)).length ≤ 24 := by
              simp only [pick, List.length_map, List.length_append, List.length_take, turnRow_len]
              omega
            generalize T0 ++ (turnRow true row).take e = L0 at *
            have j0 : (0 : Int) ≤ (j : Int) := by omega
            have j1 : (j : Int) < (row.length : Int) := by omega
            have n0 : (0 : Int) ≤ (i : Int) := by omega
            have n1 : (i : Int) < (l0.length : Int) := by omega
            clear htk0 hX hRl hRr
            obtain ⟨i0', hi0, hz0a, hz0b, hz0c⟩ := info_parts infoSys
            have HN := H.new wr.heap.size rfl 43 [.int .i64 x.mod, .int .i64 x.all, .int .i64 x.non, .slice xA x.acts.length xc]
            clear H
            go_wp2_with (at_builtin; refine wpList_append_own_at _ rfl _ _ 26 rfl wN.heap.size 43 i0' (.agg #[.int .i64 0, .int .i64 0, .int .i64 0, .slice none 0 0]) 4 48 Try.underlying26 hi0 hz0a hz0b hz0c rfl (by decide) _ _ _ rfl (HN.owns 0 rfl) ⟨wr.heap.size, 0, none⟩ 1 1 [.int .i64 x.mod, .int .i64 x.all, .int .i64 x.non, .slice xA x.acts.length xc] rfl rfl ?c1 ?c2 ?c3 ?c4 ?c5 ?_; rotate_left 5; intro v' w7 hown7 hgrow7 _ hat7; have H8 := HN.app 0 rfl hgrow7 hown7 (hat7.imp id (fun e g hg => by rw [e] at hg; injection hg with hg; omega)); obtain ⟨A3, c3, rfl, hs1, hs2⟩ := own_shape hown7)
            case c1 => exact news_blk (HN.blk 1 rfl)
            case c2 => simp [Value.oneCell']
            case c3 => unfold maxLen; omega
            case c4 => omega
            case c5 => simpa using HN.bel.size
            go_roundw
            case rel =>
              refine ⟨e + 1, A3, c3, by omega, by go_num, ?_, ?_⟩
              · rw [htk.out, pick_snoc]
                simp
              · rw [htk.out, pick_snoc, hxe.out]
                unfold bsO
                rw [show (pick l0 L0 ++ [(⟨x, xA, xc⟩ : SysIn)]).length = (pick l0 L0).length + 1 by simp, List.flatMap_append, show [(⟨x, xA, xc⟩ : SysIn)].flatMap sysCells = [.int .i64 x.mod, .int .i64 x.all, .int .i64 x.non, .slice xA x.acts.length xc] from by simp [sysCells]]
                exact H8.drop1 1
            case measure => simp [intOf]; omega
          | false =>
            have htk0 := turnRow_at false hlt2
            have hjl : e < row.length := hlt2
            simp only [Bool.false_eq_true, if_false] at htk0
            obtain ⟨j, hje⟩ : ∃ j, j = e := ⟨_, rfl⟩
            have htk1 : (turnRow false row).take (e + 1) = (turnRow false row).take e ++ [row[j]'(by omega)] := by rw [htk0]; simp only [hje]
            clear htk0
            have htk0 := htk1
            clear htk1
            replace hjl : j < row.length := by omega
            subst hje
            obtain ⟨b2, off2, rfl, hb2, hce⟩ := hRr.at_ (k := j) (by rw [natsI_length]; exact hjl)
            rw [natsI_get hjl] at hce
            have hil := hj2.out row[j] (List.getElem_mem hjl)
            generalize row[j] = i at *
            obtain ⟨b3, off3, rfl, hb3, d0, d1, d2, d3⟩ := hRl.at_ hil
            rw [inAt_get hil] at d0 d1 d2 d3
            obtain ⟨X, hX⟩ : ∃ X, inAt l0 i = X := ⟨_, rfl⟩
            rw [hX] at d0 d1 d2 d3
            obtain ⟨x, xA, xc⟩ := X
            have hxe := Lib.hid hX
            dsimp only at d0 d1 d2 d3
            have htk := Lib.hid (show T0 ++ (turnRow false row).take (j + 1) = (T0 ++ (turnRow false row).take j) ++ [i] by rw [htk0, List.append_assoc])
            have hL : (pick l0 (T0 ++ (turnRow false row).take j)).length ≤ 24 := by
              simp only [pick, List.length_map, List.length_append, List.length_take, turnRow_len]
              omega
            generalize T0 ++ (turnRow false row).take j = L0 at *
            have j0 : (0 : Int) ≤ (j : Int) := by omega
            have j1 : (j : Int) < (row.length : Int) := by omega
            have n0 : (0 : Int) ≤ (i : Int) := by omega
            have n1 : (i : Int) < (l0.length : Int) := by omega
            clear htk0 hX hRl hRr
            obtain ⟨i0', hi0, hz0a, hz0b, hz0c⟩ := info_parts infoSys
            have HN := H.new wr.heap.size rfl 43 [.int .i64 x.mod, .int .i64 x.all, .int .i64 x.non, .slice xA x.acts.length xc]
            clear H
            go_wp2_with (at_builtin; refine wpList_append_own_at _ rfl _ _ 26 rfl wN.heap.size 43 i0' (.agg #[.int .i64 0, .int .i64 0, .int .i64 0, .slice none 0 0]) 4 48 Try.underlying26 hi0 hz0a hz0b hz0c rfl (by decide) _ _ _ rfl (HN.owns 0 rfl) ⟨wr.heap.size, 0, none⟩ 1 1 [.int .i64 x.mod, .int .i64 x.all, .int .i64 x.non, .slice xA x.acts.length xc] rfl rfl ?c1 ?c2 ?c3 ?c4 ?c5 ?_; rotate_left 5; intro v' w7 hown7 hgrow7 _ hat7; have H8 := HN.app 0 rfl hgrow7 hown7 (hat7.imp id (fun e g hg => by rw [e] at hg; injection hg with hg; omega)); obtain ⟨A3, c3, rfl, hs1, hs2⟩ := own_shape hown7)
            case c1 => exact news_blk (HN.blk 1 rfl)
            case c2 => simp [Value.oneCell']
            case c3 => unfold maxLen; omega
            case c4 => omega
            case c5 => simpa using HN.bel.size
            go_roundw
            case rel =>
              refine ⟨j + 1, A3, c3, by omega, by go_num, ?_, ?_⟩
              · rw [htk.out, pick_snoc]
                simp
              · rw [htk.out, pick_snoc, hxe.out]
                unfold bsO
                rw [show (pick l0 L0 ++ [(⟨x, xA, xc⟩ : SysIn)]).length = (pick l0 L0).length + 1 by simp, List.flatMap_append, show [(⟨x, xA, xc⟩ : SysIn)].flatMap sysCells = [.int .i64 x.mod, .int .i64 x.all, .int .i64 x.non, .slice xA x.acts.length xc] from by simp [sysCells]]
                exact H8.drop1 1
            case measure => simp [intOf]; omega
        · obtain rfl : e = row.length := by omega
          have hT3 : T0 ++ (turnRow turn row).take row.length = turned turn (rs.take (k + 1)) := by rw [List.take_of_length_le (by rw [turnRow_len]; exact Nat.le_refl _), htt.out]
          rw [hT3] at H ⊢
          have Hh := Lib.hid H
          clear H
          go_wp2_with fail
          go_roundw
          case rel => exact ⟨k + 1, Am, cm, by omega, by go_num, rfl, Hh.out⟩
          case measure => simp [intOf]; omega
    · obtain rfl : k = rs.length := by omega
      rw [List.take_length] at H ⊢
      have hTT := hTl.out rs.length
      rw [List.take_length] at hTT
      generalize turned turn rs = T at *
      have H5 := H4h.out.join H
      have hR5 := hR4.out.grow H.bel
      have hLA : RdS wr wr.heap.size lA l0 := (hAh.out.under H5.bel (Nat.le_refl _)).more H5.bel.size
      have hLS : RdS wr wr.heap.size Am (pick l0 T) := ⟨Rd.of_own (H.owns 0 rfl), fun x hx => by
        obtain ⟨j, hj, rfl⟩ := List.mem_map.1 hx
        exact hLA.acts _ (inAt_mem (hltT.out j hj))⟩
      have hps := pick_sys hltT.out
      have hpl : (pick l0 T).length ≤ 12 := by simpa [pick] using hTT
      generalize pick l0 T = L at *
      have hsm := Lib.hid (right_small hRwh.out hlh.out)
      have hall1 := Lib.hid (sall_any l A c oG Ag2 cg2 hsm.out l0 lA lc (by omega) wr hLA hR5)
      rw [hlh.out, allT_right hRwh.out] at hall1
      have hall2 := Lib.hid (fun W (hb : Below wr.heap.size wr W) => sall_any l A c oG Ag2 cg2 hsm.out L Am cm (by omega) W ((hLS.under hb (Nat.le_refl _)).more hb.size) (hR5.grow hb))
      rw [hlh.out, allT_right hRwh.out, hps] at hall2
      have hsame2 := hsame.out
      generalize allM 0 ⟨rows, oG⟩ (T.map (sysAt (sysOf l0))) = Q at *
      generalize allM 0 ⟨rows, oG⟩ (sysOf l0) = P at *
      obtain ⟨⟨pr, pg⟩, pe, pa⟩ := P
      obtain ⟨⟨qr, qg⟩, qe, qa⟩ := Q
      dsimp only at hsame2 hall1 hall2
      obtain ⟨hs1, rfl, hs3⟩ := hsame2
      injection hs1 with hs1 hs2
      subst hs1 hs2
      have hrgt : Hid (qe = 0 → RightW qr qg) := Lib.hid hs3
      have x0 := H5.cell 1 0 rfl rfl; have x1 := H5.cell 1 1 rfl rfl
      have H5h := Lib.hid H5
      have hR5h := Lib.hid hR5
      clear hs3 H H5 hLA hLS hps hsame hR5
      obtain ⟨wS, hwS⟩ : ∃ wS : World, wS = wr := ⟨_, rfl⟩
      rw [← hwS] at H5h hR5h hall1 hall2 x0 x1 ⊢
      clear hwS
      go_wp2_with fail
      refine hall1.out.mono ?_
      clear hall1 x0 x1
      rintro e w8 ⟨v, rfl, hG⟩
      have H6 := H5h.out.grow hG.bel
      obtain ⟨A3, c3, l3, Ag3, cg3, rfl, hl3, hR3⟩ := hG.rd
      have hl3h := Lib.hid hl3
      have hB8 := hG.bel
      have H7 := (H6.new w8.heap.size rfl 30 [.slice A3 l3.length c3, .slice Ag3 qg.length cg3]).new (w8.heap.size + 1) (by simp) 33 [.int .i64 qe, .int .i64 pa]
      have hRp := Lib.hid ((hR3.alloc (.cells #[.slice A3 l3.length c3, .slice Ag3 qg.length cg3] 30)).alloc (.cells #[.int .i64 qe, .int .i64 pa] 33))
      have hB9 := Lib.hid ((hB8.alloc hB8.size (.cells #[.slice A3 l3.length c3, .slice Ag3 qg.length cg3] 30)).alloc (by have := hB8.size; simp; omega) (.cells #[.int .i64 qe, .int .i64 pa] 33))
      have l0' := H6.lt 0 rfl
      clear hG H6 hl3 hR3 hB8 H5h
      have H7h := Lib.hid H7
      clear H7
      go_upto_region 20 with fail
      obtain ⟨w9, hw9, H7⟩ := H7h.out.name
      rw [hw9] at hRp hB9 ⊢
      clear hw9 l0' H7h
      have x0 := H7.cell 1 0 rfl rfl; have x1 := H7.cell 1 1 rfl rfl
      have H7h := Lib.hid H7
      clear H7
      have hal := Lib.hid (hall2.out w9 hB9.out)
      clear hall2 hB9
      go_wp2_with fail
      refine hal.out.mono ?_
      clear hal x0 x1
      rintro e wa ⟨v, rfl, hG⟩
      have H8 := H7h.out.grow hG.bel
      have hRp2 := hRp.out.grow hG.bel
      obtain ⟨A4, c4, l4, Ag4, cg4, rfl, hl4, hR4'⟩ := hG.rd
      have hl4h := Lib.hid hl4
      have H9 := (H8.new wa.heap.size rfl 30 [.slice A4 l4.length c4, .slice Ag4 qg.length cg4]).new (wa.heap.size + 1) (by simp) 33 [.int .i64 qe, .int .i64 qa]
      have hRp3 := Lib.hid ((hRp2.alloc (.cells #[.slice A4 l4.length c4, .slice Ag4 qg.length cg4] 30)).alloc (.cells #[.int .i64 qe, .int .i64 qa] 33))
      have hRq3 := Lib.hid ((hR4'.alloc (.cells #[.slice A4 l4.length c4, .slice Ag4 qg.length cg4] 30)).alloc (.cells #[.int .i64 qe, .int .i64 qa] 33))
      have l0' := H8.lt 0 rfl
      clear hG H8 hl4 hR4' hRp2 H7h hRp
      have H9h := Lib.hid H9
      clear H9
      go_upto_region 21 with fail
      obtain ⟨wb, hwb, H9⟩ := H9h.out.name
      rw [hwb] at hRp3 hRq3 ⊢
      clear hwb l0' H9h
      have u0 := H9.cell 5 0 rfl rfl; have u1 := H9.cell 5 1 rfl rfl; have u2 := H9.cell 6 0 rfl rfl
      have v0 := H9.cell 7 0 rfl rfl; have v1 := H9.cell 7 1 rfl rfl; have v2 := H9.cell 8 0 rfl rfl
      have H9h := Lib.hid H9
      clear H9
      by_cases he : qe = 0
      case neg =>
        have he' : (qe != 0) = true := by simpa using he
        have he2 : (qe == qe) = true := by simp
        clear he
        go_wp2_with fail
        go_ret
        exact ⟨by simp, H9h.out.bel⟩
      subst he
      have hRr := Lib.hid (hrgt.out rfl)
      go_wp2_with fail
      refine (rsamest_any l3 l4 qg A3 c3 Ag3 cg3 A4 c4 Ag4 cg4 (right_small hRr.out hl3h.out) (hl4h.out.trans hl3h.out.symm) wb hRp3.out hRq3.out).mono ?_
      rintro e wd ⟨rfl, hbd⟩
      have H10 := Lib.hid (H9h.out.grow hbd)
      clear hbd H9h hRp3 hRq3 u0 u1 u2 v0 v1 v2
      go_wp2_with fail
      go_ret
      exact ⟨rfl, H10.out.bel⟩
end Go.Proofs.Ytefdblaolmckmac
