/- The walk of the reference's Batches. -/
import Derived.Test.YtefdblaolmckmaaRef4F
import Derived.Test.YtefdblaolmckmaaBatM
import Derived.Test.YtefdblaolmckmaaSpecE
namespace Go.Proofs.Ytefdblaolmckmaa
open Go.RowKit
open Brood
set_option linter.unusedVariables false
set_option linter.unusedSimpArgs false

theorem rows_le_flat : ∀ (rows : List (List Nat)), (∀ r ∈ rows, r ≠ []) → rows.length ≤ rows.flatten.length
  | [], _ => Nat.le_refl _
  | r :: rows, h => by
    have h1 := rows_le_flat rows (fun x hx => h x (by simp [hx]))
    have h2 : 0 < r.length := List.length_pos_iff.2 (h r (by simp))
    rw [List.flatten_cons, List.length_append, List.length_cons]
    omega
/-- n numbers as values. -/
def atArr (n : Nat) (f : Nat → Nat) : Array Value := ((List.range n).map fun j => Value.int .i64 (f j : Int)).toArray
theorem atArr_get (n : Nat) (f : Nat → Nat) {j : Nat} (hj : j < n) : (atArr n f)[j]? = some (.int .i64 (f j : Int)) := by simp [atArr, hj]
theorem atArr_congr {n : Nat} {f f' : Nat → Nat} (h : ∀ j, j < n → f j = f' j) : atArr n f = atArr n f' := by
  unfold atArr
  congr 1
  exact List.map_congr_left fun j hj => by rw [h j (List.mem_range.1 hj)]
theorem atArr_set (n : Nat) (f : Nat → Nat) {i : Nat} (hi : i < n) (v : Nat) : (atArr n f).setIfInBounds i (.int .i64 (v : Int)) = atArr n (fun j => if j = i then v else f j) := by
  apply Array.ext_getElem?
  intro j
  rw [Array.getElem?_setIfInBounds]
  by_cases hj : j < n
  · by_cases e : i = j
    · subst e; simp [atArr, hi]
    · rw [if_neg e, atArr_get n f hj, atArr_get n _ hj, if_neg (Ne.symm e)]
  · have h1 : (atArr n f)[j]? = none := by simp [atArr]; omega
    have h2 : (atArr n fun j => if j = i then v else f j)[j]? = none := by simp [atArr]; omega
    rw [h1, h2]
    rw [if_neg (by omega)]
theorem made_zero (n : Nat) : madeCells #[.int .i64 0] n = atArr n (fun _ => 0) := by
  apply Array.toList_inj.1
  rw [toList_madeCells_one]
  simp [atArr, List.map_const']
/-- Levels below k, and what has come of k's. -/
def lvTo (rows : List (List Nat)) (k m : Nat) (x : Nat) : Nat := if x < k then lvOf rows x else if x = k then m else 0
theorem lvTo_next (rows : List (List Nat)) (k n : Nat) : atArr n (lvTo rows k (lvOf rows k)) = atArr n (lvTo rows (k + 1) 0) := by
  refine atArr_congr fun x _ => ?_
  unfold lvTo
  by_cases h1 : x < k
  · rw [if_pos h1, if_pos (by omega)]
  · by_cases h2 : x = k
    · subst h2; rw [if_neg (by omega), if_pos rfl, if_pos (by omega)]
    · rw [if_neg h1, if_neg h2, if_neg (by omega)]; split <;> rfl
theorem lvTo_set (rows : List (List Nat)) (k m m' n : Nat) (hk : k < n) : (atArr n (lvTo rows k m)).setIfInBounds k (.int .i64 (m' : Int)) = atArr n (lvTo rows k m') := by
  rw [atArr_set n _ hk]
  refine atArr_congr fun x _ => ?_
  unfold lvTo
  by_cases h1 : x < k
  · have : ¬ x = k := by omega
    simp [h1, this]
  · by_cases h2 : x = k <;> simp [h2]
theorem lvTo_zero (rows : List (List Nat)) (n : Nat) : atArr n (fun _ => 0) = atArr n (lvTo rows 0 0) := atArr_congr fun x _ => by unfold lvTo; simp
theorem OwnLL.made (w : World) (base n : Nat) (hb : base ≤ w.heap.size) (hn : n ≤ maxLen) : OwnLL (w.alloc (.cells (madeCells #[.slice none 0 0] n) 32)) base (.slice (some ⟨w.heap.size, 0, none⟩) n n) (List.replicate n (.slice none 0 0)) (List.replicate n []) := by
  have hsz : (madeCells #[Value.slice none 0 0] n).size = n * 1 := by rw [← Array.length_toList, toList_madeCells_one]; simp
  have h := World.ownsRow_lit (base := base) (e := 32) (size := 1) w (madeCells #[.slice none 0 0] n) n hb hn hsz
  rw [toList_madeCells_one] at h
  refine ⟨by simpa using h, by simp, ?_, ?_, ?_⟩
  · intro k u r h1 h2
    have e1 : u = .slice none 0 0 := (List.mem_replicate.1 (List.mem_of_getElem? h1)).2
    have e2 : r = [] := (List.mem_replicate.1 (List.mem_of_getElem? h2)).2
    subst e1 e2
    exact own_nil _ _ _ _
  · intro k k' u u' h1 _ _ b hb
    have e1 : u = .slice none 0 0 := (List.mem_replicate.1 (List.mem_of_getElem? h1)).2
    subst e1
    cases hb
  · intro k u h1 b hb
    have e1 : u = .slice none 0 0 := (List.mem_replicate.1 (List.mem_of_getElem? h1)).2
    subst e1
    cases hb

set_option maxRecDepth 20000 in
set_option maxHeartbeats 12800000 in
theorem batches_any (l : List SysIn) (A : Option Addr) (c : Nat) (w : World) (hA : RdS w w.heap.size A l) :
    Calls Try.prog 44 #[.slice A l.length c] w fun e w' =>
      ∃ v us, e = .returned (.tuple #[v, .agg #[.int .i64 (makeV (sysOf l)).2.1, .int .i64 (makeV (sysOf l)).2.2]]) ∧ OwnLL w' w.heap.size v us (rowsI (makeV (sysOf l)).1) ∧ Below w.heap.size w w' := by
  obtain ⟨i0', hi0, hz0a, hz0b, hz0c⟩ := info_parts infoInt
  obtain ⟨i1', hi1, hz1a, hz1b, hz1c⟩ := info_parts infoInts
  go_enter Try.func44, Try.ntmps44
  go_wp2_with fail
  refine (rwrongs_any l A c _ ((hA.alloc (Nat.le_refl _) _).more (by simp))).mono ?_
  rintro e w1 ⟨rfl, hb1⟩
  have HR := (Blk.new w 43 #[.int .i64 0, .int .i64 0]).below hb1 (by simp)
  have hbel1 : Below w.heap.size w w1 := grow_below ((Below.refl _ _).alloc (Nat.le_refl _) _) hb1
  have hA1 : RdS w1 w.heap.size A l := (hA.alloc (Nat.le_refl _) _).under hb1 (by simp)
  have F1 := Blk.new w1 43 #[.int .i64 (batchWrong (sysOf l)).1, .int .i64 (batchWrong (sysOf l)).2]
  have hs1 := HR.lt
  clear hb1 hA
  by_cases hw : (batchWrong (sysOf l)).1 = 0
  case neg =>
    have hmv : Hid (makeV (sysOf l) = ([], batchWrong (sysOf l))) := Lib.hid (by simp [makeV, hw])
    have hx' : ((batchWrong (sysOf l)).1 != 0) = true := by simpa using hw
    have f0 := F1.cell 0; have f1 := F1.cell 1; have z0 := HR.frozen 0; have z1 := HR.frozen 1; have y0 := HR.cell 0; have y1 := HR.cell 1
    simp at f0 f1 y0 y1
    go_wp2_with fail
    go_region
    go_wp2_with fail
    have HQ := ((HR.set_ 0 (.int .i64 (batchWrong (sysOf l)).1)).set_ 1 (.int .i64 (batchWrong (sysOf l)).2)).alloc (.cells #[.int .i64 (batchWrong (sysOf l)).1, .int .i64 (batchWrong (sysOf l)).2] 43)
    have r0 := HQ.cell 0; have r1 := HQ.cell 1
    simp at r0 r1
    refine bodyPost_ret (v := .tuple #[.slice none 0 0, .agg #[.int .i64 (batchWrong (sysOf l)).1, .int .i64 (batchWrong (sysOf l)).2]]) (by simp [results, Try.results44, go_sem, r0, r1]) rfl ⟨_, [], by rw [hmv.out], ?_, ?_⟩
    · rw [hmv.out]; exact OwnLL.nil_ _ _
    · exact (((hbel1.setCell (by simp) _).setCell (by simp) _).alloc (by simp; omega) _).drew
  case pos =>
    have hmv : Hid (makeV (sysOf l) = (makeRows (sysOf l), (0, 0))) := Lib.hid (by simp [makeV, hw])
    rw [hw] at F1 ⊢
    have hlen : l.length ≤ 12 := by
      rcases Nat.lt_or_ge 12 l.length with h | h
      · have : batchWrong (sysOf l) = (4, 0) := by simp [batchWrong, sysOf_length, h]
        rw [this] at hw; cases hw
      · exact h
    have hall : ∀ y ∈ l, Right y.s := by
      intro y hy
      have h : (wrongsFrom 0 (sysOf l)).1 = 0 := by
        have : ¬ 12 < (sysOf l).length := by rw [sysOf_length]; omega
        rw [batchWrong, if_neg this] at hw; exact hw
      exact right_of (wrongs_right _ 0 h y.s (List.mem_map.2 ⟨y, hy, rfl⟩))
    have hlev := lev_rows (sysOf l)
    have hsrt := sorted_rows (sysOf l)
    have hslen := sysOf_length l
    generalize makeRows (sysOf l) = rows at *
    have hmka := fun W : World => run_make (P := Try.prog) W 32 3 i0' (.int .i64 0) Try.underlying32 hi0 hz0a .i64 .i64 l.length l.length (by omega) (Int.le_refl _) (by rw [hz0c]; omega) (by omega)
    simp only [Int.toNat_natCast, hz0b] at hmka
    have HR2 := HR.alloc (.cells #[.int .i64 0, .int .i64 (batchWrong (sysOf l)).2] 43)
    have hA2 := hA1.alloc hbel1.size (.cells #[.int .i64 0, .int .i64 (batchWrong (sysOf l)).2] 43)
    have hbel2 := hbel1.alloc hbel1.size (.cells #[.int .i64 0, .int .i64 (batchWrong (sysOf l)).2] 43)
    have f0 := F1.cell 0
    simp at f0
    clear HR hA1 hbel1 hw
    have hrl : rows.length ≤ 12 := by
      have := rows_le_flat rows hlev.ne
      have hfl := hlev.perm.length_eq
      rw [List.length_range, hslen] at hfl
      omega
    go_wp2_with fail
    have hs3 : w1.heap.size + 1 = (w1.alloc (.cells #[.int .i64 0, .int .i64 (batchWrong (sysOf l)).2] 43)).heap.size := by simp
    rw [hs3]
    clear F1 f0
    generalize w1.alloc (.cells #[.int .i64 0, .int .i64 (batchWrong (sysOf l)).2] 43) = w3 at *
    have HG := Blk.new w3 3 (madeCells #[.int .i64 0] l.length)
    rw [made_zero, lvTo_zero rows] at HG
    rw [made_zero, lvTo_zero rows]
    have HR4 := HR2.alloc (.cells (atArr l.length (lvTo rows 0 0)) 3)
    have hA4 := hA2.alloc hbel2.size (.cells (atArr l.length (lvTo rows 0 0)) 3)
    have hbel4 := hbel2.alloc hbel2.size (.cells (atArr l.length (lvTo rows 0 0)) 3)
    have hgw : w.heap.size < w3.heap.size := HR2.lt
    clear HR2 hA2 hbel2 hmka
    have hlv : ∀ i, i < l.length → lvOf rows i < rows.length := fun i hi => lv_lt_len hlev (by omega)
    generalize hgd : w3.heap.size = g at *
    go_loopw [6, 23] (fun n i wr => ∃ k : Nat, k ≤ l.length ∧ i = .int .i64 k ∧ n = .int .i64 (nTo rows k : Nat) ∧ Below w.heap.size w wr ∧ RdS wr w.heap.size A l ∧ Blk wr w.heap.size 43 #[.int .i64 0, .int .i64 0] ∧ Blk wr g 3 (atArr l.length (lvTo rows k 0))) (fun _ i _ => l.length - (intOf i).toNat)
    case atStart => exact ⟨0, by omega, rfl, rfl, hbel4, hA4, HR4, HG⟩
    case round =>
      clear HR4 hA4 hbel4 HG
      obtain ⟨i, hi, rfl, rfl, hbel, hA, HR, HG⟩ := hrel
      by_cases hlti : i < l.length
      · go_wp2_with fail
        go_loopw [27] (fun q wr => ∃ j : Nat, j ≤ i ∧ q = .int .i64 j ∧ Below w.heap.size w wr ∧ RdS wr w.heap.size A l ∧ Blk wr w.heap.size 43 #[.int .i64 0, .int .i64 0] ∧ Blk wr g 3 (atArr l.length (lvTo rows i (mxTo (sysOf l) rows i j)))) (fun q _ => i - (intOf q).toNat)
        case atStart => exact ⟨0, by omega, rfl, hbel, hA, HR, HG⟩
        case round =>
          clear hbel hA HR HG
          obtain ⟨j, hj, rfl, hbel, hA, HR, HG⟩ := hrel
          have hsw : w.heap.size ≤ wr.heap.size := hbel.size
          have hgl := HG.lt
          by_cases hltj : j < i
          · have hjl : j < l.length := by omega
            have ka := HG.cell j; have kb := HG.cell i
            rw [atArr_get _ _ (by omega)] at ka kb
            have e1 : lvTo rows i (mxTo (sysOf l) rows i j) j = lvOf rows j := by unfold lvTo; rw [if_pos hltj]
            have e2 : lvTo rows i (mxTo (sysOf l) rows i j) i = mxTo (sysOf l) rows i j := by unfold lvTo; rw [if_neg (by omega), if_pos rfl]
            rw [e1] at ka
            rw [e2] at kb
            clear e1 e2
            have hlj := hlv j hjl
            have hmx : mxTo (sysOf l) rows i j ≤ 12 := by
              have h1 := mx_le (ss := sysOf l) (rows := rows) (i := i) (b := rows.length) (fun j' hj' _ => by have := hlv j' (by omega); omega) j (by omega)
              omega
            have hnext := Lib.hid (show mxTo (sysOf l) rows i (j + 1) = (if clashAt (sysOf l) j i && decide (mxTo (sysOf l) rows i j < lvOf rows j + 1) then lvOf rows j + 1 else mxTo (sysOf l) rows i j) from rfl)
            have hset := Lib.hid (fun m' => lvTo_set rows i (mxTo (sysOf l) rows i j) m' l.length hlti)
            generalize mxTo (sysOf l) rows i j = mx at *
            generalize lvOf rows j = lj at *
            go_upto_region 12 with fail
            go_cut [50] (fun s50 wx => s50 = .bool (clashAt (sysOf l) j i && decide (mx < lj + 1)) ∧ Below wr.heap.size wr wx)
            case first =>
              have hs15 := hsw
              obtain ⟨b, off, rfl, hb0, hc0, hc1, hc2, hc3⟩ := hA.at_ hlti
              obtain ⟨b', off', hbo, hb0', hd0, hd1, hd2, hd3⟩ := hA.at_ hjl
              injection hbo with hbo
              injection hbo with hbo1 hbo2
              subst hbo1 hbo2
              have hai := hA.acts l[i] (List.getElem_mem hlti)
              have haj := hA.acts l[j] (List.getElem_mem hjl)
              have hri := hall l[i] (List.getElem_mem hlti)
              have hrj := hall l[j] (List.getElem_mem hjl)
              have hcl : clashAt (sysOf l) j i = clash l[j].s l[i].s := by simp [clashAt, sysOf, hlti, hjl]
              clear hA HR HG
              have i0 : (0 : Int) ≤ (i : Int) := by omega
              have i1 : (i : Int) < (l.length : Int) := by omega
              have j0 : (0 : Int) ≤ (j : Int) := by omega
              have j1 : (j : Int) < (l.length : Int) := by omega
              generalize l[i] = x at *
              generalize l[j] = y at *
              obtain ⟨s, sA, sc⟩ := x
              obtain ⟨t, tA, tc⟩ := y
              simp only at hc0 hc1 hc2 hc3 hd0 hd1 hd2 hd3 hai haj hri hrj hcl
              have hcl := Lib.hid hcl
              cases hq0 : clash t s
              case false =>
                have hq := Lib.hid hq0
                clear hq0
                refine wp_region_guarded mixed (by kernel_rfl) (by kernel_rfl) (tab [.slice (some ⟨b, off, none⟩) l.length c, .int .i64 (j : Int), .pointer (some ⟨b, off + j * 4, none⟩), .agg #[.int .i64 t.mod, .int .i64 t.all, .int .i64 t.non, .slice tA t.acts.length tc], .slice (some ⟨b, off, none⟩) l.length c, .int .i64 (i : Int), .pointer (some ⟨b, off + i * 4, none⟩), .agg #[.int .i64 s.mod, .int .i64 s.all, .int .i64 s.non, .slice sA s.acts.length sc], .bool false, .bool false, undef, undef, undef, undef, undef, undef, undef, undef, undef, undef, .bool false]) ?_ ?_ ?_
                · intro w' hb'
                  rw [putAll_tab _ _ _ _ [(some 30, .slice (some ⟨b, off, none⟩) l.length c), (some 31, .int .i64 (j : Int)), (some 32, .pointer (some ⟨b, off + j * 4, none⟩)), (some 33, .agg #[.int .i64 t.mod, .int .i64 t.all, .int .i64 t.non, .slice tA t.acts.length tc]), (some 34, .slice (some ⟨b, off, none⟩) l.length c), (some 35, .int .i64 (i : Int)), (some 36, .pointer (some ⟨b, off + i * 4, none⟩)), (some 37, .agg #[.int .i64 s.mod, .int .i64 s.all, .int .i64 s.non, .slice sA s.acts.length sc]), (some 38, .bool false), (some 39, .bool false), (some 40, undef), (some 41, undef), (some 42, undef), (some 43, undef), (some 44, undef), (some 45, undef), (some 46, undef), (some 47, undef), (some 48, undef), (some 49, undef), (some 50, .bool false)] rfl]
                  simp only [putL_eq, putT, List.set_cons_succ, List.set_cons_zero]
                  go_wp2_with fail
                  go_meet
                  exact ⟨by rw [hcl.out, hq.out]; rfl, hb'⟩
                · intro p o ho hno
                  have hp : p < 21 := lt_of_some ho
                  match p, hp, ho with
                  | 0, _, ho => obtain rfl := Option.some.inj ho; cases hno
                  | 1, _, ho => obtain rfl := Option.some.inj ho; cases hno
                  | 2, _, ho => obtain rfl := Option.some.inj ho; cases hno
                  | 3, _, ho => obtain rfl := Option.some.inj ho; cases hno
                  | 4, _, ho => obtain rfl := Option.some.inj ho; cases hno
                  | 5, _, ho => obtain rfl := Option.some.inj ho; cases hno
                  | 6, _, ho => obtain rfl := Option.some.inj ho; cases hno
                  | 7, _, ho => obtain rfl := Option.some.inj ho; cases hno
                  | 8, _, ho => obtain rfl := Option.some.inj ho; cases hno
                  | 9, _, ho => obtain rfl := Option.some.inj ho; cases hno
                  | 10, _, ho => rfl
                  | 11, _, ho => rfl
                  | 12, _, ho => rfl
                  | 13, _, ho => rfl
                  | 14, _, ho => rfl
                  | 15, _, ho => rfl
                  | 16, _, ho => rfl
                  | 17, _, ho => rfl
                  | 18, _, ho => rfl
                  | 19, _, ho => rfl
                  | 20, _, ho => obtain rfl := Option.some.inj ho; cases hno
                · intro p o ho hyes act w' hb' hv hwas K hK
                  have e0 := hwas 0 rfl; have e5 := hwas 5 rfl; have e7 := hwas 7 rfl; have e8 := hwas 8 rfl
                  simp at e0 e5 e7 e8
                  replace hc0 := (hb'.cell (p := ⟨b, off + i * 4, none⟩) (by simp only; omega)).trans hc0
                  replace hc1 := (hb'.cell (p := ⟨b, off + i * 4 + 1, none⟩) (by simp only; omega)).trans hc1
                  replace hc2 := (hb'.cell (p := ⟨b, off + i * 4 + 2, none⟩) (by simp only; omega)).trans hc2
                  replace hc3 := (hb'.cell (p := ⟨b, off + i * 4 + 3, none⟩) (by simp only; omega)).trans hc3
                  replace hd0 := (hb'.cell (p := ⟨b, off + j * 4, none⟩) (by simp only; omega)).trans hd0
                  replace hd1 := (hb'.cell (p := ⟨b, off + j * 4 + 1, none⟩) (by simp only; omega)).trans hd1
                  replace hd2 := (hb'.cell (p := ⟨b, off + j * 4 + 2, none⟩) (by simp only; omega)).trans hd2
                  replace hd3 := (hb'.cell (p := ⟨b, off + j * 4 + 3, none⟩) (by simp only; omega)).trans hd3
                  replace ka := (hb'.cell (p := ⟨g, j, none⟩) (by simp only; omega)).trans ka
                  replace kb := (hb'.cell (p := ⟨g, i, none⟩) (by simp only; omega)).trans kb
                  have hp : p < 21 := lt_of_some ho
                  match p, hp, ho with
                  | 0, _, ho =>
                    obtain rfl := Option.some.inj ho
                    clear hv hwas
                    go_simp
                    exact hK _ hb'
                  | 1, _, ho =>
                    obtain rfl := Option.some.inj ho
                    clear hv hwas
                    go_simp
                    exact hK _ hb'
                  | 2, _, ho =>
                    obtain rfl := Option.some.inj ho
                    have v0 : act.tmps[30]?.getD undef = .slice (some ⟨b, off, none⟩) l.length c := hv 0 30 rfl rfl
                    have v1 : act.tmps[31]?.getD undef = .int .i64 (j : Int) := hv 1 31 rfl rfl
                    clear hv hwas
                    go_simp
                    exact hK _ hb'
                  | 3, _, ho =>
                    obtain rfl := Option.some.inj ho
                    have v0 : act.tmps[32]?.getD undef = .pointer (some ⟨b, off + j * 4, none⟩) := hv 2 32 rfl rfl
                    clear hv hwas
                    go_simp
                    exact hK _ hb'
                  | 4, _, ho =>
                    obtain rfl := Option.some.inj ho
                    clear hv hwas
                    go_simp
                    exact hK _ hb'
                  | 5, _, ho =>
                    obtain rfl := Option.some.inj ho
                    clear hv hwas
                    go_simp
                    exact hK _ hb'
                  | 6, _, ho =>
                    obtain rfl := Option.some.inj ho
                    have v0 : act.tmps[34]?.getD undef = .slice (some ⟨b, off, none⟩) l.length c := hv 4 34 rfl rfl
                    have v1 : act.tmps[35]?.getD undef = .int .i64 (i : Int) := hv 5 35 rfl rfl
                    clear hv hwas
                    go_simp
                    exact hK _ hb'
                  | 7, _, ho =>
                    obtain rfl := Option.some.inj ho
                    have v0 : act.tmps[36]?.getD undef = .pointer (some ⟨b, off + i * 4, none⟩) := hv 6 36 rfl rfl
                    clear hv hwas
                    go_simp
                    exact hK _ hb'
                  | 8, _, ho =>
                    obtain rfl := Option.some.inj ho
                    have v0 : act.tmps[33]?.getD undef = .agg #[.int .i64 t.mod, .int .i64 t.all, .int .i64 t.non, .slice tA t.acts.length tc] := hv 3 33 rfl rfl
                    have v1 : act.tmps[37]?.getD undef = .agg #[.int .i64 s.mod, .int .i64 s.all, .int .i64 s.non, .slice sA s.acts.length sc] := hv 7 37 rfl rfl
                    clear hv hwas
                    go_simp
                    have hcc := rclash_any t s hrj hri tA sA tc sc w' (Rd.more (Rd.under haj hb' hs15) (Nat.le_trans hs15 hb'.size)) (Rd.more (Rd.under hai hb' hs15) (Nat.le_trans hs15 hb'.size))
                    rw [hq.out] at hcc
                    refine hcc.mono ?_
                    rintro e w'' ⟨rfl, hb''⟩
                    exact hK _ (grow_below hb' hb'')
                  | 9, _, ho =>
                    obtain rfl := Option.some.inj ho
                    have v0 : act.tmps[38]?.getD undef = .bool false := hv 8 38 rfl rfl
                    clear hv hwas
                    go_simp
                    exact hK _ hb'
                  | 10, _, ho =>
                    obtain rfl := Option.some.inj ho
                    cases hyes
                  | 11, _, ho =>
                    obtain rfl := Option.some.inj ho
                    cases hyes
                  | 12, _, ho =>
                    obtain rfl := Option.some.inj ho
                    cases hyes
                  | 13, _, ho =>
                    obtain rfl := Option.some.inj ho
                    cases hyes
                  | 14, _, ho =>
                    obtain rfl := Option.some.inj ho
                    cases hyes
                  | 15, _, ho =>
                    obtain rfl := Option.some.inj ho
                    cases hyes
                  | 16, _, ho =>
                    obtain rfl := Option.some.inj ho
                    cases hyes
                  | 17, _, ho =>
                    obtain rfl := Option.some.inj ho
                    cases hyes
                  | 18, _, ho =>
                    obtain rfl := Option.some.inj ho
                    cases hyes
                  | 19, _, ho =>
                    obtain rfl := Option.some.inj ho
                    cases hyes
                  | 20, _, ho =>
                    obtain rfl := Option.some.inj ho
                    have v0 : act.tmps[39]?.getD undef = .bool false := hv 9 39 rfl rfl
                    have v1 : act.tmps[49]?.getD undef = undef := hv 19 49 rfl rfl
                    clear hv hwas
                    go_simp
                    exact hK _ hb'
              case true =>
                have hq := Lib.hid hq0
                clear hq0
                by_cases hlm : mx < lj + 1
                · have hdq : Hid (decide (mx < lj + 1) = true) := Lib.hid (by simpa using hlm)
                  have hli : (mx : Int) < (lj : Int) + 1 := by omega
                  have hwr : IntKind.i64.wrap ((lj : Int) + 1) = (lj : Int) + 1 := by rw [IntKind.wrap_i64]; omega
                  refine wp_region_guarded mixed (by kernel_rfl) (by kernel_rfl) (tab [.slice (some ⟨b, off, none⟩) l.length c, .int .i64 (j : Int), .pointer (some ⟨b, off + j * 4, none⟩), .agg #[.int .i64 t.mod, .int .i64 t.all, .int .i64 t.non, .slice tA t.acts.length tc], .slice (some ⟨b, off, none⟩) l.length c, .int .i64 (i : Int), .pointer (some ⟨b, off + i * 4, none⟩), .agg #[.int .i64 s.mod, .int .i64 s.all, .int .i64 s.non, .slice sA s.acts.length sc], .bool true, .bool true, .slice (some ⟨g, 0, none⟩) l.length l.length, .int .i64 (j : Int), .pointer (some ⟨g, j, none⟩), .int .i64 (lj : Int), .int .i64 ((lj : Int) + 1), .slice (some ⟨g, 0, none⟩) l.length l.length, .int .i64 (i : Int), .pointer (some ⟨g, i, none⟩), .int .i64 (mx : Int), .bool true, .bool true]) ?_ ?_ ?_
                  · intro w' hb'
                    rw [putAll_tab _ _ _ _ [(some 30, .slice (some ⟨b, off, none⟩) l.length c), (some 31, .int .i64 (j : Int)), (some 32, .pointer (some ⟨b, off + j * 4, none⟩)), (some 33, .agg #[.int .i64 t.mod, .int .i64 t.all, .int .i64 t.non, .slice tA t.acts.length tc]), (some 34, .slice (some ⟨b, off, none⟩) l.length c), (some 35, .int .i64 (i : Int)), (some 36, .pointer (some ⟨b, off + i * 4, none⟩)), (some 37, .agg #[.int .i64 s.mod, .int .i64 s.all, .int .i64 s.non, .slice sA s.acts.length sc]), (some 38, .bool true), (some 39, .bool true), (some 40, .slice (some ⟨g, 0, none⟩) l.length l.length), (some 41, .int .i64 (j : Int)), (some 42, .pointer (some ⟨g, j, none⟩)), (some 43, .int .i64 (lj : Int)), (some 44, .int .i64 ((lj : Int) + 1)), (some 45, .slice (some ⟨g, 0, none⟩) l.length l.length), (some 46, .int .i64 (i : Int)), (some 47, .pointer (some ⟨g, i, none⟩)), (some 48, .int .i64 (mx : Int)), (some 49, .bool true), (some 50, .bool true)] rfl]
                    simp only [putL_eq, putT, List.set_cons_succ, List.set_cons_zero]
                    go_wp2_with fail
                    go_meet
                    exact ⟨by rw [hcl.out, hq.out, hdq.out]; rfl, hb'⟩
                  · intro p o ho hno
                    have hp : p < 21 := lt_of_some ho
                    match p, hp, ho with
                    | 0, _, ho => obtain rfl := Option.some.inj ho; cases hno
                    | 1, _, ho => obtain rfl := Option.some.inj ho; cases hno
                    | 2, _, ho => obtain rfl := Option.some.inj ho; cases hno
                    | 3, _, ho => obtain rfl := Option.some.inj ho; cases hno
                    | 4, _, ho => obtain rfl := Option.some.inj ho; cases hno
                    | 5, _, ho => obtain rfl := Option.some.inj ho; cases hno
                    | 6, _, ho => obtain rfl := Option.some.inj ho; cases hno
                    | 7, _, ho => obtain rfl := Option.some.inj ho; cases hno
                    | 8, _, ho => obtain rfl := Option.some.inj ho; cases hno
                    | 9, _, ho => obtain rfl := Option.some.inj ho; cases hno
                    | 10, _, ho => obtain rfl := Option.some.inj ho; cases hno
                    | 11, _, ho => obtain rfl := Option.some.inj ho; cases hno
                    | 12, _, ho => obtain rfl := Option.some.inj ho; cases hno
                    | 13, _, ho => obtain rfl := Option.some.inj ho; cases hno
                    | 14, _, ho => obtain rfl := Option.some.inj ho; cases hno
                    | 15, _, ho => obtain rfl := Option.some.inj ho; cases hno
                    | 16, _, ho => obtain rfl := Option.some.inj ho; cases hno
                    | 17, _, ho => obtain rfl := Option.some.inj ho; cases hno
                    | 18, _, ho => obtain rfl := Option.some.inj ho; cases hno
                    | 19, _, ho => obtain rfl := Option.some.inj ho; cases hno
                    | 20, _, ho => obtain rfl := Option.some.inj ho; cases hno
                  · intro p o ho hyes act w' hb' hv hwas K hK
                    have e0 := hwas 0 rfl; have e5 := hwas 5 rfl; have e7 := hwas 7 rfl; have e8 := hwas 8 rfl
                    simp at e0 e5 e7 e8
                    replace hc0 := (hb'.cell (p := ⟨b, off + i * 4, none⟩) (by simp only; omega)).trans hc0
                    replace hc1 := (hb'.cell (p := ⟨b, off + i * 4 + 1, none⟩) (by simp only; omega)).trans hc1
                    replace hc2 := (hb'.cell (p := ⟨b, off + i * 4 + 2, none⟩) (by simp only; omega)).trans hc2
                    replace hc3 := (hb'.cell (p := ⟨b, off + i * 4 + 3, none⟩) (by simp only; omega)).trans hc3
                    replace hd0 := (hb'.cell (p := ⟨b, off + j * 4, none⟩) (by simp only; omega)).trans hd0
                    replace hd1 := (hb'.cell (p := ⟨b, off + j * 4 + 1, none⟩) (by simp only; omega)).trans hd1
                    replace hd2 := (hb'.cell (p := ⟨b, off + j * 4 + 2, none⟩) (by simp only; omega)).trans hd2
                    replace hd3 := (hb'.cell (p := ⟨b, off + j * 4 + 3, none⟩) (by simp only; omega)).trans hd3
                    replace ka := (hb'.cell (p := ⟨g, j, none⟩) (by simp only; omega)).trans ka
                    replace kb := (hb'.cell (p := ⟨g, i, none⟩) (by simp only; omega)).trans kb
                    have hp : p < 21 := lt_of_some ho
                    match p, hp, ho with
                    | 0, _, ho =>
                      obtain rfl := Option.some.inj ho
                      clear hv hwas
                      go_simp
                      exact hK _ hb'
                    | 1, _, ho =>
                      obtain rfl := Option.some.inj ho
                      clear hv hwas
                      go_simp
                      exact hK _ hb'
                    | 2, _, ho =>
                      obtain rfl := Option.some.inj ho
                      have v0 : act.tmps[30]?.getD undef = .slice (some ⟨b, off, none⟩) l.length c := hv 0 30 rfl rfl
                      have v1 : act.tmps[31]?.getD undef = .int .i64 (j : Int) := hv 1 31 rfl rfl
                      clear hv hwas
                      go_simp
                      exact hK _ hb'
                    | 3, _, ho =>
                      obtain rfl := Option.some.inj ho
                      have v0 : act.tmps[32]?.getD undef = .pointer (some ⟨b, off + j * 4, none⟩) := hv 2 32 rfl rfl
                      clear hv hwas
                      go_simp
                      exact hK _ hb'
                    | 4, _, ho =>
                      obtain rfl := Option.some.inj ho
                      clear hv hwas
                      go_simp
                      exact hK _ hb'
                    | 5, _, ho =>
                      obtain rfl := Option.some.inj ho
                      clear hv hwas
                      go_simp
                      exact hK _ hb'
                    | 6, _, ho =>
                      obtain rfl := Option.some.inj ho
                      have v0 : act.tmps[34]?.getD undef = .slice (some ⟨b, off, none⟩) l.length c := hv 4 34 rfl rfl
                      have v1 : act.tmps[35]?.getD undef = .int .i64 (i : Int) := hv 5 35 rfl rfl
                      clear hv hwas
                      go_simp
                      exact hK _ hb'
                    | 7, _, ho =>
                      obtain rfl := Option.some.inj ho
                      have v0 : act.tmps[36]?.getD undef = .pointer (some ⟨b, off + i * 4, none⟩) := hv 6 36 rfl rfl
                      clear hv hwas
                      go_simp
                      exact hK _ hb'
                    | 8, _, ho =>
                      obtain rfl := Option.some.inj ho
                      have v0 : act.tmps[33]?.getD undef = .agg #[.int .i64 t.mod, .int .i64 t.all, .int .i64 t.non, .slice tA t.acts.length tc] := hv 3 33 rfl rfl
                      have v1 : act.tmps[37]?.getD undef = .agg #[.int .i64 s.mod, .int .i64 s.all, .int .i64 s.non, .slice sA s.acts.length sc] := hv 7 37 rfl rfl
                      clear hv hwas
                      go_simp
                      have hcc := rclash_any t s hrj hri tA sA tc sc w' (Rd.more (Rd.under haj hb' hs15) (Nat.le_trans hs15 hb'.size)) (Rd.more (Rd.under hai hb' hs15) (Nat.le_trans hs15 hb'.size))
                      rw [hq.out] at hcc
                      refine hcc.mono ?_
                      rintro e w'' ⟨rfl, hb''⟩
                      exact hK _ (grow_below hb' hb'')
                    | 9, _, ho =>
                      obtain rfl := Option.some.inj ho
                      have v0 : act.tmps[38]?.getD undef = .bool true := hv 8 38 rfl rfl
                      clear hv hwas
                      go_simp
                      exact hK _ hb'
                    | 10, _, ho =>
                      obtain rfl := Option.some.inj ho
                      clear hv hwas
                      go_simp
                      exact hK _ hb'
                    | 11, _, ho =>
                      obtain rfl := Option.some.inj ho
                      clear hv hwas
                      go_simp
                      exact hK _ hb'
                    | 12, _, ho =>
                      obtain rfl := Option.some.inj ho
                      have v0 : act.tmps[40]?.getD undef = .slice (some ⟨g, 0, none⟩) l.length l.length := hv 10 40 rfl rfl
                      have v1 : act.tmps[41]?.getD undef = .int .i64 (j : Int) := hv 11 41 rfl rfl
                      clear hv hwas
                      go_simp
                      exact hK _ hb'
                    | 13, _, ho =>
                      obtain rfl := Option.some.inj ho
                      have v0 : act.tmps[42]?.getD undef = .pointer (some ⟨g, j, none⟩) := hv 12 42 rfl rfl
                      clear hv hwas
                      go_simp
                      exact hK _ hb'
                    | 14, _, ho =>
                      obtain rfl := Option.some.inj ho
                      have v0 : act.tmps[43]?.getD undef = .int .i64 (lj : Int) := hv 13 43 rfl rfl
                      clear hv hwas
                      go_simp
                      exact hK _ hb'
                    | 15, _, ho =>
                      obtain rfl := Option.some.inj ho
                      clear hv hwas
                      go_simp
                      exact hK _ hb'
                    | 16, _, ho =>
                      obtain rfl := Option.some.inj ho
                      clear hv hwas
                      go_simp
                      exact hK _ hb'
                    | 17, _, ho =>
                      obtain rfl := Option.some.inj ho
                      have v0 : act.tmps[45]?.getD undef = .slice (some ⟨g, 0, none⟩) l.length l.length := hv 15 45 rfl rfl
                      have v1 : act.tmps[46]?.getD undef = .int .i64 (i : Int) := hv 16 46 rfl rfl
                      clear hv hwas
                      go_simp
                      exact hK _ hb'
                    | 18, _, ho =>
                      obtain rfl := Option.some.inj ho
                      have v0 : act.tmps[47]?.getD undef = .pointer (some ⟨g, i, none⟩) := hv 17 47 rfl rfl
                      clear hv hwas
                      go_simp
                      exact hK _ hb'
                    | 19, _, ho =>
                      obtain rfl := Option.some.inj ho
                      have v0 : act.tmps[44]?.getD undef = .int .i64 ((lj : Int) + 1) := hv 14 44 rfl rfl
                      have v1 : act.tmps[48]?.getD undef = .int .i64 (mx : Int) := hv 18 48 rfl rfl
                      clear hv hwas
                      go_simp
                      exact hK _ hb'
                    | 20, _, ho =>
                      obtain rfl := Option.some.inj ho
                      have v0 : act.tmps[39]?.getD undef = .bool true := hv 9 39 rfl rfl
                      have v1 : act.tmps[49]?.getD undef = .bool true := hv 19 49 rfl rfl
                      clear hv hwas
                      go_simp
                      exact hK _ hb'
                · have hdq : Hid (decide (mx < lj + 1) = false) := Lib.hid (by simpa using hlm)
                  have hli : ¬ ((mx : Int) < (lj : Int) + 1) := by omega
                  have hwr : IntKind.i64.wrap ((lj : Int) + 1) = (lj : Int) + 1 := by rw [IntKind.wrap_i64]; omega
                  refine wp_region_guarded mixed (by kernel_rfl) (by kernel_rfl) (tab [.slice (some ⟨b, off, none⟩) l.length c, .int .i64 (j : Int), .pointer (some ⟨b, off + j * 4, none⟩), .agg #[.int .i64 t.mod, .int .i64 t.all, .int .i64 t.non, .slice tA t.acts.length tc], .slice (some ⟨b, off, none⟩) l.length c, .int .i64 (i : Int), .pointer (some ⟨b, off + i * 4, none⟩), .agg #[.int .i64 s.mod, .int .i64 s.all, .int .i64 s.non, .slice sA s.acts.length sc], .bool true, .bool true, .slice (some ⟨g, 0, none⟩) l.length l.length, .int .i64 (j : Int), .pointer (some ⟨g, j, none⟩), .int .i64 (lj : Int), .int .i64 ((lj : Int) + 1), .slice (some ⟨g, 0, none⟩) l.length l.length, .int .i64 (i : Int), .pointer (some ⟨g, i, none⟩), .int .i64 (mx : Int), .bool false, .bool false]) ?_ ?_ ?_
                  · intro w' hb'
                    rw [putAll_tab _ _ _ _ [(some 30, .slice (some ⟨b, off, none⟩) l.length c), (some 31, .int .i64 (j : Int)), (some 32, .pointer (some ⟨b, off + j * 4, none⟩)), (some 33, .agg #[.int .i64 t.mod, .int .i64 t.all, .int .i64 t.non, .slice tA t.acts.length tc]), (some 34, .slice (some ⟨b, off, none⟩) l.length c), (some 35, .int .i64 (i : Int)), (some 36, .pointer (some ⟨b, off + i * 4, none⟩)), (some 37, .agg #[.int .i64 s.mod, .int .i64 s.all, .int .i64 s.non, .slice sA s.acts.length sc]), (some 38, .bool true), (some 39, .bool true), (some 40, .slice (some ⟨g, 0, none⟩) l.length l.length), (some 41, .int .i64 (j : Int)), (some 42, .pointer (some ⟨g, j, none⟩)), (some 43, .int .i64 (lj : Int)), (some 44, .int .i64 ((lj : Int) + 1)), (some 45, .slice (some ⟨g, 0, none⟩) l.length l.length), (some 46, .int .i64 (i : Int)), (some 47, .pointer (some ⟨g, i, none⟩)), (some 48, .int .i64 (mx : Int)), (some 49, .bool false), (some 50, .bool false)] rfl]
                    simp only [putL_eq, putT, List.set_cons_succ, List.set_cons_zero]
                    go_wp2_with fail
                    go_meet
                    exact ⟨by rw [hcl.out, hq.out, hdq.out]; rfl, hb'⟩
                  · intro p o ho hno
                    have hp : p < 21 := lt_of_some ho
                    match p, hp, ho with
                    | 0, _, ho => obtain rfl := Option.some.inj ho; cases hno
                    | 1, _, ho => obtain rfl := Option.some.inj ho; cases hno
                    | 2, _, ho => obtain rfl := Option.some.inj ho; cases hno
                    | 3, _, ho => obtain rfl := Option.some.inj ho; cases hno
                    | 4, _, ho => obtain rfl := Option.some.inj ho; cases hno
                    | 5, _, ho => obtain rfl := Option.some.inj ho; cases hno
                    | 6, _, ho => obtain rfl := Option.some.inj ho; cases hno
                    | 7, _, ho => obtain rfl := Option.some.inj ho; cases hno
                    | 8, _, ho => obtain rfl := Option.some.inj ho; cases hno
                    | 9, _, ho => obtain rfl := Option.some.inj ho; cases hno
                    | 10, _, ho => obtain rfl := Option.some.inj ho; cases hno
                    | 11, _, ho => obtain rfl := Option.some.inj ho; cases hno
                    | 12, _, ho => obtain rfl := Option.some.inj ho; cases hno
                    | 13, _, ho => obtain rfl := Option.some.inj ho; cases hno
                    | 14, _, ho => obtain rfl := Option.some.inj ho; cases hno
                    | 15, _, ho => obtain rfl := Option.some.inj ho; cases hno
                    | 16, _, ho => obtain rfl := Option.some.inj ho; cases hno
                    | 17, _, ho => obtain rfl := Option.some.inj ho; cases hno
                    | 18, _, ho => obtain rfl := Option.some.inj ho; cases hno
                    | 19, _, ho => obtain rfl := Option.some.inj ho; cases hno
                    | 20, _, ho => obtain rfl := Option.some.inj ho; cases hno
                  · intro p o ho hyes act w' hb' hv hwas K hK
                    have e0 := hwas 0 rfl; have e5 := hwas 5 rfl; have e7 := hwas 7 rfl; have e8 := hwas 8 rfl
                    simp at e0 e5 e7 e8
                    replace hc0 := (hb'.cell (p := ⟨b, off + i * 4, none⟩) (by simp only; omega)).trans hc0
                    replace hc1 := (hb'.cell (p := ⟨b, off + i * 4 + 1, none⟩) (by simp only; omega)).trans hc1
                    replace hc2 := (hb'.cell (p := ⟨b, off + i * 4 + 2, none⟩) (by simp only; omega)).trans hc2
                    replace hc3 := (hb'.cell (p := ⟨b, off + i * 4 + 3, none⟩) (by simp only; omega)).trans hc3
                    replace hd0 := (hb'.cell (p := ⟨b, off + j * 4, none⟩) (by simp only; omega)).trans hd0
                    replace hd1 := (hb'.cell (p := ⟨b, off + j * 4 + 1, none⟩) (by simp only; omega)).trans hd1
                    replace hd2 := (hb'.cell (p := ⟨b, off + j * 4 + 2, none⟩) (by simp only; omega)).trans hd2
                    replace hd3 := (hb'.cell (p := ⟨b, off + j * 4 + 3, none⟩) (by simp only; omega)).trans hd3
                    replace ka := (hb'.cell (p := ⟨g, j, none⟩) (by simp only; omega)).trans ka
                    replace kb := (hb'.cell (p := ⟨g, i, none⟩) (by simp only; omega)).trans kb
                    have hp : p < 21 := lt_of_some ho
                    match p, hp, ho with
                    | 0, _, ho =>
                      obtain rfl := Option.some.inj ho
                      clear hv hwas
                      go_simp
                      exact hK _ hb'
                    | 1, _, ho =>
                      obtain rfl := Option.some.inj ho
                      clear hv hwas
                      go_simp
                      exact hK _ hb'
                    | 2, _, ho =>
                      obtain rfl := Option.some.inj ho
                      have v0 : act.tmps[30]?.getD undef = .slice (some ⟨b, off, none⟩) l.length c := hv 0 30 rfl rfl
                      have v1 : act.tmps[31]?.getD undef = .int .i64 (j : Int) := hv 1 31 rfl rfl
                      clear hv hwas
                      go_simp
                      exact hK _ hb'
                    | 3, _, ho =>
                      obtain rfl := Option.some.inj ho
                      have v0 : act.tmps[32]?.getD undef = .pointer (some ⟨b, off + j * 4, none⟩) := hv 2 32 rfl rfl
                      clear hv hwas
                      go_simp
                      exact hK _ hb'
                    | 4, _, ho =>
                      obtain rfl := Option.some.inj ho
                      clear hv hwas
                      go_simp
                      exact hK _ hb'
                    | 5, _, ho =>
                      obtain rfl := Option.some.inj ho
                      clear hv hwas
                      go_simp
                      exact hK _ hb'
                    | 6, _, ho =>
                      obtain rfl := Option.some.inj ho
                      have v0 : act.tmps[34]?.getD undef = .slice (some ⟨b, off, none⟩) l.length c := hv 4 34 rfl rfl
                      have v1 : act.tmps[35]?.getD undef = .int .i64 (i : Int) := hv 5 35 rfl rfl
                      clear hv hwas
                      go_simp
                      exact hK _ hb'
                    | 7, _, ho =>
                      obtain rfl := Option.some.inj ho
                      have v0 : act.tmps[36]?.getD undef = .pointer (some ⟨b, off + i * 4, none⟩) := hv 6 36 rfl rfl
                      clear hv hwas
                      go_simp
                      exact hK _ hb'
                    | 8, _, ho =>
                      obtain rfl := Option.some.inj ho
                      have v0 : act.tmps[33]?.getD undef = .agg #[.int .i64 t.mod, .int .i64 t.all, .int .i64 t.non, .slice tA t.acts.length tc] := hv 3 33 rfl rfl
                      have v1 : act.tmps[37]?.getD undef = .agg #[.int .i64 s.mod, .int .i64 s.all, .int .i64 s.non, .slice sA s.acts.length sc] := hv 7 37 rfl rfl
                      clear hv hwas
                      go_simp
                      have hcc := rclash_any t s hrj hri tA sA tc sc w' (Rd.more (Rd.under haj hb' hs15) (Nat.le_trans hs15 hb'.size)) (Rd.more (Rd.under hai hb' hs15) (Nat.le_trans hs15 hb'.size))
                      rw [hq.out] at hcc
                      refine hcc.mono ?_
                      rintro e w'' ⟨rfl, hb''⟩
                      exact hK _ (grow_below hb' hb'')
                    | 9, _, ho =>
                      obtain rfl := Option.some.inj ho
                      have v0 : act.tmps[38]?.getD undef = .bool true := hv 8 38 rfl rfl
                      clear hv hwas
                      go_simp
                      exact hK _ hb'
                    | 10, _, ho =>
                      obtain rfl := Option.some.inj ho
                      clear hv hwas
                      go_simp
                      exact hK _ hb'
                    | 11, _, ho =>
                      obtain rfl := Option.some.inj ho
                      clear hv hwas
                      go_simp
                      exact hK _ hb'
                    | 12, _, ho =>
                      obtain rfl := Option.some.inj ho
                      have v0 : act.tmps[40]?.getD undef = .slice (some ⟨g, 0, none⟩) l.length l.length := hv 10 40 rfl rfl
                      have v1 : act.tmps[41]?.getD undef = .int .i64 (j : Int) := hv 11 41 rfl rfl
                      clear hv hwas
                      go_simp
                      exact hK _ hb'
                    | 13, _, ho =>
                      obtain rfl := Option.some.inj ho
                      have v0 : act.tmps[42]?.getD undef = .pointer (some ⟨g, j, none⟩) := hv 12 42 rfl rfl
                      clear hv hwas
                      go_simp
                      exact hK _ hb'
                    | 14, _, ho =>
                      obtain rfl := Option.some.inj ho
                      have v0 : act.tmps[43]?.getD undef = .int .i64 (lj : Int) := hv 13 43 rfl rfl
                      clear hv hwas
                      go_simp
                      exact hK _ hb'
                    | 15, _, ho =>
                      obtain rfl := Option.some.inj ho
                      clear hv hwas
                      go_simp
                      exact hK _ hb'
                    | 16, _, ho =>
                      obtain rfl := Option.some.inj ho
                      clear hv hwas
                      go_simp
                      exact hK _ hb'
                    | 17, _, ho =>
                      obtain rfl := Option.some.inj ho
                      have v0 : act.tmps[45]?.getD undef = .slice (some ⟨g, 0, none⟩) l.length l.length := hv 15 45 rfl rfl
                      have v1 : act.tmps[46]?.getD undef = .int .i64 (i : Int) := hv 16 46 rfl rfl
                      clear hv hwas
                      go_simp
                      exact hK _ hb'
                    | 18, _, ho =>
                      obtain rfl := Option.some.inj ho
                      have v0 : act.tmps[47]?.getD undef = .pointer (some ⟨g, i, none⟩) := hv 17 47 rfl rfl
                      clear hv hwas
                      go_simp
                      exact hK _ hb'
                    | 19, _, ho =>
                      obtain rfl := Option.some.inj ho
                      have v0 : act.tmps[44]?.getD undef = .int .i64 ((lj : Int) + 1) := hv 14 44 rfl rfl
                      have v1 : act.tmps[48]?.getD undef = .int .i64 (mx : Int) := hv 18 48 rfl rfl
                      clear hv hwas
                      go_simp
                      exact hK _ hb'
                    | 20, _, ho =>
                      obtain rfl := Option.some.inj ho
                      have v0 : act.tmps[39]?.getD undef = .bool true := hv 9 39 rfl rfl
                      have v1 : act.tmps[49]?.getD undef = .bool false := hv 19 49 rfl rfl
                      clear hv hwas
                      go_simp
                      exact hK _ hb'
            case rest =>
              obtain ⟨rfl, hb5⟩ := hcut
              have hbel5 := grow_below hbel hb5
              have hA5 := hA.under hb5 hsw
              have HR5 := HR.below hb5 HR.lt
              have HG5 := HG.below hb5 HG.lt
              replace ka := (hb5.cell (p := ⟨g, j, none⟩) hgl).trans ka
              replace kb := (hb5.cell (p := ⟨g, i, none⟩) hgl).trans kb
              have hgl5 := HG5.lt
              have kz := HG5.frozen i
              have i0 : (0 : Int) ≤ (i : Int) := by omega
              have i1 : (i : Int) < (l.length : Int) := by omega
              have j0 : (0 : Int) ≤ (j : Int) := by omega
              have j1 : (j : Int) < (l.length : Int) := by omega
              clear hb5 hbel hA HR HG
              cases hq : (clashAt (sysOf l) j i && decide (mx < lj + 1))
              case false =>
                rw [hq, if_neg (by decide)] at hnext
                have hn2 := Lib.hid hnext.out
                go_wp2_with fail
                go_roundw
                case rel => exact ⟨j + 1, by omega, by go_num, hbel5, hA5, HR5, by rw [hn2.out]; exact HG5⟩
                case measure => simp [intOf]; omega
              case true =>
                rw [hq, if_pos rfl] at hnext
                have hn2 := Lib.hid hnext.out
                go_wp2_with fail
                go_roundw
                case rel =>
                  have h := HG5.set_ i (.int .i64 ((lj + 1 : Nat) : Int))
                  rw [hset.out] at h
                  exact ⟨j + 1, by omega, by go_num, hbel5.setCell (by simp only; omega) _, hA5.setCell (by simp only; omega) _, HR5.far (by simp only; omega) _, by rw [hn2.out]; exact h⟩
                case measure => simp [intOf]; omega
          · obtain rfl : j = i := by omega
            have hmx := mx_all hlev (i := j) (by omega)
            rw [hmx, lvTo_next] at HG
            have kb := HG.cell j
            rw [atArr_get _ _ hlti] at kb
            have e2 : lvTo rows (j + 1) 0 j = lvOf rows j := by unfold lvTo; rw [if_pos (by omega)]
            rw [e2] at kb
            have hlj := hlv j hlti
            have hnt : nTo rows j ≤ 12 := by
              have h1 := n_le (rows := rows) (b := rows.length) (k := j) (fun i' hi' => by have := hlv i' (by omega); omega) j (Nat.le_refl _)
              omega
            have hnn := Lib.hid (show nTo rows (j + 1) = (if nTo rows j < lvOf rows j + 1 then lvOf rows j + 1 else nTo rows j) from rfl)
            clear hmx e2
            generalize lvOf rows j = lj at *
            generalize nTo rows j = nj at *
            have i0 : (0 : Int) ≤ (j : Int) := by omega
            have i1 : (j : Int) < (l.length : Int) := by omega
            by_cases hlm : nj < lj + 1
            · have hli : (nj : Int) < (lj : Int) + 1 := by omega
              have hn2 : Hid (nTo rows (j + 1) = lj + 1) := Lib.hid (by rw [hnn.out, if_pos hlm])
              go_wp2_with fail
              go_roundw
              case rel => exact ⟨j + 1, by omega, by go_num, by rw [hn2.out]; go_num, hbel, hA, HR, HG⟩
              case measure => simp [intOf]; omega
            · have hli : ¬ ((nj : Int) < (lj : Int) + 1) := by omega
              have hn2 : Hid (nTo rows (j + 1) = nj) := Lib.hid (by rw [hnn.out, if_neg hlm])
              go_wp2_with fail
              go_roundw
              case rel => exact ⟨j + 1, by omega, by go_num, by rw [hn2.out], hbel, hA, HR, HG⟩
              case measure => simp [intOf]; omega
      · obtain rfl : i = l.length := by omega
        have hna := n_all hlev
        rw [hslen] at hna
        rw [hna]
        have hmkb := fun W : World => run_make (P := Try.prog) W 54 32 i1' (.slice none 0 0) Try.underlying54 hi1 hz1a .i64 .i64 rows.length rows.length (by omega) (Int.le_refl _) (by rw [hz1c]; omega) (by omega)
        simp only [Int.toNat_natCast, hz1b, Nat.mul_one] at hmkb
        have hcell1 : (Value.slice none 0 0).cells = #[.slice none 0 0] := rfl
        have O5 := OwnLL.made wr (g + 1) rows.length HG.lt (by unfold maxLen; omega)
        have hri : rowsI (colsTo rows 0) = List.replicate rows.length [] := by rw [cols_zero]; simp [rowsI, natsI]
        rw [← hri] at O5
        have hsz5 : wr.heap.size < (wr.alloc (.cells (madeCells #[.slice none 0 0] rows.length) 32)).heap.size := by simp
        have HR5 := HR.alloc (.cells (madeCells #[.slice none 0 0] rows.length) 32)
        have HG5 := HG.alloc (.cells (madeCells #[.slice none 0 0] rows.length) 32)
        have hbel5 := hbel.alloc hbel.size (.cells (madeCells #[.slice none 0 0] rows.length) 32)
        have hgwr := HG.lt
        clear HR HG hbel hA
        go_wp2_with fail
        clear hmkb
        generalize wr.alloc (.cells (madeCells #[.slice none 0 0] rows.length) 32) = w6 at *
        generalize wr.heap.size = g2 at *
        go_loopw [77] (fun i wr => ∃ (k : Nat) (us : List Value), k ≤ l.length ∧ i = .int .i64 k ∧ Below w.heap.size w wr ∧ Blk wr w.heap.size 43 #[.int .i64 0, .int .i64 0] ∧ Blk wr g 3 (atArr l.length (lvTo rows l.length 0)) ∧ OwnLL wr (g + 1) (.slice (some ⟨g2, 0, none⟩) rows.length rows.length) us (rowsI (colsTo rows k))) (fun i _ => l.length - (intOf i).toNat)
        case atStart => exact ⟨0, _, by omega, rfl, hbel5, HR5, HG5, O5⟩
        case round =>
          clear HR5 HG5 hbel5 O5
          obtain ⟨k, us, hk, rfl, hbel, HR, HG, O2⟩ := hrel
          by_cases hltk : k < l.length
          · have ka := HG.cell k
            rw [atArr_get _ _ hltk] at ka
            have e1 : lvTo rows l.length 0 k = lvOf rows k := by unfold lvTo; rw [if_pos hltk]
            rw [e1] at ka
            have hlk := hlv k hltk
            have hcs := Lib.hid (cols_succ (rows := rows) hlk)
            obtain ⟨g3, cap3, hv', hg1, hg2, hg3, hcell, hfr⟩ := O2.place (by rw [rowsI_length, cols_length]; omega)
            rw [rowsI_length, cols_length] at hv' hg3 hcell
            injection hv' with hv1 hv2 hv3
            injection hv1 with hv1
            injection hv1 with hv1
            subst hv1
            clear hv3 hv2
            have hca := cols_at (rows := rows) (k := k) hlk
            have hr3 : (rowsI (colsTo rows k))[lvOf rows k]? = some (natsI ((List.range k).filter fun i => lvOf rows i == lvOf rows k)) := by rw [rowsI, List.getElem?_map, hca]; rfl
            have hul : lvOf rows k < us.length := by rw [O2.len, rowsI_length, cols_length]; exact hlk
            obtain ⟨u, hu⟩ : ∃ u, us[lvOf rows k]? = some u := ⟨_, List.getElem?_eq_getElem hul⟩
            have hrow := O2.row _ _ _ hu hr3
            have hcq := hcell _ hlk
            have hfz := hfr (lvOf rows k)
            rw [hu] at hcq
            have hrlen : ((List.range k).filter fun i => lvOf rows i == lvOf rows k).length ≤ k := by
              have := List.length_filter_le (fun i => lvOf rows i == lvOf rows k) (List.range k)
              simpa using this
            rw [natsI_length] at hrow
            generalize (List.range k).filter (fun i => lvOf rows i == lvOf rows k) = row at *
            have O3 : OwnLL wr (g + 1) (.slice (some ⟨g2, 0, none⟩) (rowsI (colsTo rows k)).length rows.length) us (rowsI (colsTo rows k)) := by rw [rowsI_length, cols_length]; exact O2
            obtain ⟨A', c', hu', _, _⟩ := own_shape hrow
            subst hu'
            have hgl := HG.lt
            have i0 : (0 : Int) ≤ (k : Int) := by omega
            have i1 : (k : Int) < (l.length : Int) := by omega
            generalize lvOf rows k = q at *
            have q0 : (0 : Int) ≤ (q : Int) := by omega
            have q1 : (q : Int) < (rows.length : Int) := by omega
            clear e1 hcell hca
            go_wp2_with ((at_builtin; refine wpList_append_own_at _ rfl _ _ 32 rfl (g + 1) 3 i0' (.int .i64 0) 1 8 Try.underlying32 hi0 hz0a hz0b hz0c rfl (by decide) _ _ _ rfl (hrow.alloc (.cells #[.int .i64 (k : Int)] 3)) ⟨wr.heap.size, 0, none⟩ 1 1 [.int .i64 (k : Int)] rfl rfl ?d1 ?d2 ?d3 ?d4 ?d5 ?_; rotate_left 5; intro v2 w4 hown4 hgrow4 _ hat4; have hko := (O3.alloc (.cells #[.int .i64 (k : Int)] 3)).keepOut hu hgrow4; have hko1 := hko.1; have hko2 := hko.2; have hown5 := hown4; obtain ⟨A2, c2, hv2, _, _⟩ := own_shape hown4; subst hv2))
            case d2 => rfl
            case d3 => unfold maxLen; omega
            case d4 => omega
            case d5 => have := hbel.size; simp; omega
            go_roundw
            case rel =>
              have hput := OwnLL.put (r' := natsI row ++ [(k : Int)]) (O3.alloc (.cells #[.int .i64 (k : Int)] 3)) hu hr3 (by rw [List.length_append, natsI_length, ← ints_snoc]; exact hown5) hgrow4 hat4
              rw [rowsI_length, cols_length] at hput
              have e : (rowsI (colsTo rows k)).set q (natsI row ++ [(k : Int)]) = rowsI (colsTo rows (k + 1)) := by
                rw [hcs.out, rowsI, rowsI, List.map_set]
                simp [natsI]
              rw [e] at hput
              have hbk : ∀ z, (Value.slice A' row.length c').ownBlock = some z → g + 1 ≤ z := fun z hz => (hrow.lt z hz).1
              exact ⟨k + 1, _, by omega, by go_num, ((hbel.alloc hbel.size _).grown hgrow4 (by have := hbel.size; simp; omega) (fun z e => by have := hbk z e; omega)).setCell (by simp only; omega) _,
                ((HR.alloc _).grown hgrow4 (fun e => by have := hbk _ e.symm; omega)).far (by simp only; omega) _, ((HG.alloc _).grown hgrow4 (fun e => by have := hbk _ e.symm; omega)).far (by simp only; omega) _, hput⟩
            case measure => simp [intOf]; omega
          · obtain rfl : k = l.length := by omega
            have hca := cols_all hlev hsrt
            rw [hslen] at hca
            rw [hca] at O2
            have f0 := HR.cell 0; have f1 := HR.cell 1; have z0 := HR.frozen 0; have z1 := HR.frozen 1
            simp at f0 f1
            have HQ := (HR.set_ 0 (.int .i64 0)).set_ 1 (.int .i64 0)
            have r0 := HQ.cell 0; have r1 := HQ.cell 1
            simp at r0 r1
            have hrl2 := HR.lt
            go_wp2_with fail
            refine bodyPost_ret (v := .tuple #[.slice (some ⟨g2, 0, none⟩) rows.length rows.length, .agg #[.int .i64 0, .int .i64 0]]) (by simp [results, Try.results44, go_sem, r0, r1]) rfl ⟨_, us, by rw [hmv.out], ?_, ?_⟩
            · rw [hmv.out]
              exact ((O2.far (by simp only; omega) _).far (by simp only; omega) _).lower (by omega)
            · exact (hbel.setCell (by simp) _).setCell (by simp) _
end Go.Proofs.Ytefdblaolmckmaa
