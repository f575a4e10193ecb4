/- BatchAll: each once, and none clashes. -/
import Derived.Test.YtefdblaolmckmaaLaw6W
import Derived.Test.YtefdblaolmckmaaSpecD
import Derived.Test.YtefdblaolmckmaaMapI
import Derived.Test.YtefdblaolmckmaaLaw4B
namespace Go.Proofs.Ytefdblaolmckmaa
open Go.RowKit Go.Maps
open Brood
set_option linter.unusedVariables false
set_option linter.unusedSimpArgs false

/-- The map's entries: number and row. -/
def ent : Nat → List (List Nat) → List (Nat × Nat)
  | _, [] => []
  | q, r :: rs => (r.map fun i => (i, q)) ++ ent (q + 1) rs
theorem ent_keys : ∀ (rs : List (List Nat)) (q : Nat), (ent q rs).map (·.1) = rs.flatten
  | [], _ => rfl
  | r :: rs, q => by rw [ent, List.map_append, ent_keys rs (q + 1), List.map_map, List.flatten_cons]; congr 1; simp [Function.comp_def]
theorem ent_snoc : ∀ (rs : List (List Nat)) (q : Nat) (r : List Nat), ent q (rs ++ [r]) = ent q rs ++ r.map fun i => (i, q + rs.length)
  | [], q, r => by simp [ent]
  | x :: rs, q, r => by rw [List.cons_append, ent, ent, ent_snoc rs (q + 1) r, List.append_assoc]; simp only [List.length_cons]; congr 3; funext i; congr 1; omega
theorem ent_mem : ∀ (rs : List (List Nat)) (s q i : Nat) (r : List Nat), rs[q]? = some r → i ∈ r → (i, s + q) ∈ ent s rs
  | [], s, q, i, r, h, _ => by simp at h
  | x :: rs, s, 0, i, r, h, hi => by
    simp at h; subst h
    rw [ent]; exact List.mem_append_left _ (List.mem_map.2 ⟨i, hi, rfl⟩)
  | x :: rs, s, q + 1, i, r, h, hi => by
    rw [ent]
    have := ent_mem rs (s + 1) q i r (by simpa using h) hi
    rw [show s + 1 + q = s + (q + 1) by omega] at this
    exact List.mem_append_right _ this
theorem ent_take {rows : List (List Nat)} {q : Nat} (hq : q < rows.length) : ent 0 (rows.take (q + 1)) = ent 0 (rows.take q) ++ rows[q].map fun i => (i, q) := by
  rw [List.take_add_one, List.getElem?_eq_getElem hq, Option.toList_some, ent_snoc]
  congr 3
  funext i
  congr 1
  simp; omega
/-- The entries when e of row q have come. -/
def entTo (rows : List (List Nat)) (q : Nat) (r : List Nat) (e : Nat) : List (Nat × Nat) := ent 0 (rows.take q) ++ (r.take e).map fun i => (i, q)
theorem entTo_zero (rows : List (List Nat)) (q : Nat) (r : List Nat) : entTo rows q r 0 = ent 0 (rows.take q) := by simp [entTo]
theorem entTo_succ (rows : List (List Nat)) (q : Nat) (r : List Nat) {e : Nat} (he : e < r.length) : entTo rows q r (e + 1) = entTo rows q r e ++ [(r[e], q)] := by
  unfold entTo
  rw [List.take_add_one, List.getElem?_eq_getElem he, Option.toList_some, List.map_append, ← List.append_assoc]
  rfl
theorem entTo_all {rows : List (List Nat)} {q : Nat} (hq : q < rows.length) : entTo rows q rows[q] rows[q].length = ent 0 (rows.take (q + 1)) := by
  rw [entTo, List.take_length, ent_take hq]
theorem flat_split {rows : List (List Nat)} {q e : Nat} (hq : q < rows.length) (he : e < rows[q].length) :
    ∃ rest, rows.flatten = ((rows.take q).flatten ++ rows[q].take e) ++ (rows[q][e] :: rest) := by
  refine ⟨rows[q].drop (e + 1) ++ (rows.drop (q + 1)).flatten, ?_⟩
  have h1 : rows.flatten = (rows.take q).flatten ++ (rows.drop q).flatten := by rw [← List.flatten_append, List.take_append_drop]
  have h2 : rows[q] = rows[q].take e ++ (rows[q][e] :: rows[q].drop (e + 1)) := by rw [← List.drop_eq_getElem_cons he, List.take_append_drop]
  rw [h1, List.drop_eq_getElem_cons hq, List.flatten_cons]
  rw [List.append_assoc]
  congr 1
  have h3 := congrArg (fun z => z ++ (rows.drop (q + 1)).flatten) h2
  simpa only [List.append_assoc, List.cons_append] using h3
theorem entTo_new {rows : List (List Nat)} (hnd : rows.flatten.Nodup) {q e : Nat} (hq : q < rows.length) (he : e < rows[q].length) : ∀ p ∈ entTo rows q rows[q] e, p.1 ≠ rows[q][e] := by
  intro p hp heq
  obtain ⟨rest, hs⟩ := flat_split hq he
  rw [hs, List.nodup_append] at hnd
  have hk : p.1 ∈ (rows.take q).flatten ++ rows[q].take e := by
    rw [← ent_keys (rows.take q) 0]
    rcases List.mem_append.1 hp with h | h
    · exact List.mem_append_left _ (List.mem_map.2 ⟨p, h, rfl⟩)
    · obtain ⟨i, hi, rfl⟩ := List.mem_map.1 h
      exact List.mem_append_right _ hi
  exact hnd.2.2 p.1 hk rows[q][e] (by simp) heq
theorem entTo_length {rows : List (List Nat)} {q e : Nat} (hq : q < rows.length) (he : e < rows[q].length) : (entTo rows q rows[q] e).length ≤ rows.flatten.length := by
  obtain ⟨rest, hs⟩ := flat_split hq he
  have h1 := congrArg List.length hs
  have h2 := congrArg List.length (ent_keys (rows.take q) 0)
  simp only [List.length_append, List.length_map, List.length_cons] at h1 h2
  simp only [entTo, List.length_append, List.length_map]
  omega
theorem ent_length (rows : List (List Nat)) : (ent 0 rows).length = rows.flatten.length := by
  have := congrArg List.length (ent_keys rows 0)
  rwa [List.length_map] at this
/-- Is system i held to its row by one of the first j? -/
def heldTo (ss : List BSys) (rows : List (List Nat)) (i j : Nat) : Bool :=
  ((lvOf rows i : Int) == 0) || (List.range j).any fun j => clashAt ss j i && ((lvOf rows j : Int) == (lvOf rows i : Int) - 1)
theorem heldTo_succ (ss : List BSys) (rows : List (List Nat)) (i j : Nat) : heldTo ss rows i (j + 1) = (heldTo ss rows i j || (clashAt ss j i && ((lvOf rows j : Int) == (lvOf rows i : Int) - 1))) := by
  simp [heldTo, List.range_succ, Bool.or_assoc]
theorem heldTo_all {ss : List BSys} {rows : List (List Nat)} (h : LevInv ss ss.length rows) {i : Nat} (hi : i < ss.length) : heldTo ss rows i i = true := by
  have hm : ∀ j, j < ss.length → At rows (lvOf rows j) j := fun j hj => lvOf_at (h.perm.mem_iff.2 (List.mem_range.2 hj))
  have hnd : rows.flatten.Nodup := h.perm.nodup_iff.2 List.nodup_range
  unfold heldTo
  rcases h.held _ i (hm i hi) with h0 | ⟨j, hj, hji, hc⟩
  · simp [h0]
  · by_cases h0 : lvOf rows i = 0
    · simp [h0]
    · have hl : lvOf rows j = lvOf rows i - 1 := at_unique hnd (hm j (by omega)) hj
      rw [Bool.or_eq_true]
      refine .inr (List.any_eq_true.2 ⟨j, List.mem_range.2 hji, ?_⟩)
      rw [Bool.and_eq_true]
      refine ⟨hc, ?_⟩
      simp only [beq_iff_eq]
      omega
theorem lev_lt {ss : List BSys} {rows : List (List Nat)} (h : LevInv ss ss.length rows) {i j : Nat} (hji : j < i) (hi : i < ss.length) (hc : clashAt ss j i = true) : lvOf rows j < lvOf rows i :=
  h.up _ _ j i (lvOf_at (h.perm.mem_iff.2 (List.mem_range.2 (by omega)))) (lvOf_at (h.perm.mem_iff.2 (List.mem_range.2 hi))) hji hc

theorem rows_le : ∀ (rows : List (List Nat)), (∀ r ∈ rows, r ≠ []) → rows.length ≤ rows.flatten.length
  | [], _ => Nat.le_refl _
  | r :: rows, h => by
    have h1 := rows_le rows (fun x hx => h x (by simp [hx]))
    have h2 : 0 < r.length := List.length_pos_iff.2 (h r (by simp))
    rw [List.flatten_cons, List.length_append, List.length_cons]
    omega
theorem OwnLL.at_rows {w : World} {base : Nat} {A : Option Addr} {c : Nat} {us : List Value} {rows : List (List Nat)} (h : OwnLL w base (.slice A rows.length c) us (rowsI rows)) {q : Nat} (hq : q < rows.length) :
    ∃ g A' c', A = some ⟨g, 0, none⟩ ∧ g < w.heap.size ∧ w.cell? ⟨g, q, none⟩ = some (.slice A' rows[q].length c') ∧ RdI w A' (natsI rows[q]) := by
  obtain ⟨g, cap, hv, hg1, hg2, hg3, hcell, hfr⟩ := h.place (by rw [rowsI_length]; omega)
  rw [rowsI_length] at hv hcell
  injection hv with hv1 hv2 hv3
  obtain ⟨u, hu, hrow⟩ := h.rowAt (k := q) (by rw [rowsI_length]; exact hq)
  obtain ⟨A', c', rfl, hlen', hRd⟩ := own_at hrow
  have hcq := hcell q hq
  rw [hu] at hcq
  have hrq : (rowsI rows)[q]'(by rw [rowsI_length]; exact hq) = natsI rows[q] := by simp [rowsI]
  rw [hrq, natsI_length] at hcq
  rw [hrq] at hRd
  exact ⟨g, A', c', hv1, hg2, hcq, hRd⟩

set_option maxRecDepth 20000 in
set_option maxHeartbeats 12800000 in
theorem batchAll_any (l : List SysIn) (A : Option Addr) (c : Nat) (w : World) (hA : RdS w w.heap.size A l) :
    Calls Try.prog 10 #[.slice A l.length c] w fun e w' => e = .returned (.bool true) ∧ Below w.heap.size w w' := by
  have hmm := @run_makeMap Try.prog
  go_enter Try.func10, Try.ntmps10
  go_wp2_with fail
  refine (alive6_any _).mono ?_
  rintro e w1 ⟨rfl, hb1⟩
  have hA1 : RdS w1 w1.heap.size A l := (hA.under hb1 (Nat.le_refl _)).more hb1.size
  clear hA
  go_wp2_with fail
  refine (make_any l A c _ hA1).mono ?_
  rintro e w2 ⟨v, us, rfl, hown, hb2⟩
  have hbel2 := grow_below hb1 hb2
  have hA2 : RdS w2 w1.heap.size A l := hA1.under hb2 (Nat.le_refl _)
  clear hb1 hA1
  have hs12 := hb2.size
  by_cases hw : (batchWrong (sysOf l)).1 = 0
  case neg =>
    have hmv : makeV (sysOf l) = ([], batchWrong (sysOf l)) := by simp [makeV, hw]
    have hx' : ((batchWrong (sysOf l)).1 != 0) = true := by simpa using hw
    rw [hmv] at hown ⊢
    obtain ⟨VA, vc, rfl, _, _⟩ := hown.shape
    go_wp2_with fail
    go_ret
    exact ⟨ret_bool (by simp [rowsI]), hbel2.alloc hbel2.size _⟩
  case pos =>
    have hmv : makeV (sysOf l) = (makeRows (sysOf l), (0, 0)) := by simp [makeV, hw]
    rw [hmv] at hown ⊢
    have hlen : l.length ≤ 12 := by
      rcases Nat.lt_or_ge 12 l.length with h | h
      · have : batchWrong (sysOf l) = (4, 0) := by simp [batchWrong, sysOf_length, h]
        rw [this] at hw; cases hw
      · exact h
    have hall : ∀ y ∈ l, Right y.s := by
      intro y hy
      have h : (wrongsFrom 0 (sysOf l)).1 = 0 := by
        have : ¬ 12 < (sysOf l).length := by rw [sysOf_length]; omega
        rw [batchWrong, if_neg this] at hw; exact hw
      exact right_of (wrongs_right _ 0 h y.s (List.mem_map.2 ⟨y, hy, rfl⟩))
    have hlev := lev_rows (sysOf l)
    have hslen := sysOf_length l
    simp only at hown ⊢
    generalize makeRows (sysOf l) = rows at *
    have hnd : rows.flatten.Nodup := hlev.perm.nodup_iff.2 List.nodup_range
    have hfl : rows.flatten.length = l.length := by have := hlev.perm.length_eq; rw [List.length_range, hslen] at this; exact this
    clear hmv hw
    obtain ⟨VA, vc, rfl, hvc, hvm⟩ := hown.shape
    rw [rowsI_length] at hown hvc ⊢
    have O3 := hown.alloc (.cells #[.int .i64 0, .int .i64 0] 43)
    have hA3 := hA2.alloc hs12 (.cells #[.int .i64 0, .int .i64 0] 43)
    have hbel3 := hbel2.alloc hbel2.size (.cells #[.int .i64 0, .int .i64 0] 43)
    have HF := Blk.new w2 43 #[.int .i64 0, .int .i64 0]
    have hrl : rows.length ≤ 12 := by have := rows_le rows hlev.ne; omega
    clear hown hA2 hbel2 hb2
    go_wp2_with fail
    have hs3 : w2.heap.size + 1 = (w2.alloc (.cells #[.int .i64 0, .int .i64 0] 43)).heap.size := by simp
    rw [hs3]
    clear HF
    generalize w2.alloc (.cells #[.int .i64 0, .int .i64 0] 43) = w3 at *
    have hs13 : w1.heap.size ≤ w3.heap.size := by omega
    go_loopw [31] (fun i wr => ∃ q : Nat, q ≤ rows.length ∧ i = .int .i64 q ∧ Below w3.heap.size w3 wr ∧ MapI wr w3.heap.size (ent 0 (rows.take q))) (fun i _ => rows.length - (intOf i).toNat)
    case atStart => exact ⟨0, by omega, rfl, (Below.refl _ _).alloc (Nat.le_refl _) _, MapI.made _⟩
    case round =>
      obtain ⟨q, hq, rfl, hbel, hM⟩ := hrel
      by_cases hlt : q < rows.length
      · obtain ⟨g, A', c', rfl, hg, hc3, hRd3⟩ := O3.at_rows hlt
        have hc := (hbel.cell (p := ⟨g, q, none⟩) hg).trans hc3
        clear hc3
        have hne : rows[q] ≠ [] := hlev.ne _ (List.getElem_mem hlt)
        have hpos : 0 < rows[q].length := List.length_pos_iff.2 hne
        have hnew := Lib.hid (fun e he => @entTo_new rows hnd q e hlt he)
        have hlenE := Lib.hid (fun e he => @entTo_length rows q e hlt he)
        have hall2 := Lib.hid (entTo_all hlt)
        have hrowAt : ∀ i ∈ rows[q], i < l.length := by
          intro i hi
          have := hlev.lt (q := q) (i := i) ⟨_, List.getElem?_eq_getElem hlt, hi⟩
          omega
        have hrowlen : rows[q].length ≤ 13 := by
          have := entTo_length hlt (e := rows[q].length - 1) (by omega)
          simp only [entTo, List.length_append, List.length_map, List.length_take] at this
          omega
        have i0 : (0 : Int) ≤ (q : Int) := by omega
        have i1 : (q : Int) < (rows.length : Int) := by omega
        generalize rows[q] = row at *
        have hgm : g ≠ w3.heap.size := by
          have := (O3.out.lt g rfl).2
          omega
        have hpe : ¬ ((row.length : Int) = 0) := by omega
        clear hne
        go_wp2_with fail
        obtain ⟨wo, rfl⟩ : ∃ wo : World, wo = wr := ⟨_, rfl⟩
        go_loopw [41] (fun j wr => ∃ e : Nat, e ≤ row.length ∧ j = .int .i64 e ∧ Below w3.heap.size w3 wr ∧ MapI wr w3.heap.size (entTo rows q row e)) (fun j _ => row.length - (intOf j).toNat)
        case atStart => exact ⟨0, by omega, rfl, hbel, by rw [entTo_zero]; exact hM⟩
        case round =>
          clear hM hbel hc
          obtain ⟨e, he, rfl, hbel, hM⟩ := hrel
          by_cases hlt2 : e < row.length
          · obtain ⟨b2, off2, rfl, hb2, hce⟩ := (hRd3.grow hbel).at_ (k := e) (by rw [natsI_length]; exact hlt2)
            rw [natsI_get hlt2] at hce
            have hil := hrowAt row[e] (List.getElem_mem hlt2)
            have hno := hnew.out e hlt2
            have hlE := hlenE.out e hlt2
            have hES := Lib.hid (entTo_succ rows q row hlt2)
            generalize row[e] = i at *
            have hno' := Lib.hid hno
            have hlk := hM.none_ hno (by omega)
            obtain ⟨D, m1, m2, m3, m4⟩ := hM
            have hm2 := Lib.hid m2; have hm3 := Lib.hid m3; have hm4 := Lib.hid m4
            have j0 : (0 : Int) ≤ (e : Int) := by omega
            have j1 : (e : Int) < (row.length : Int) := by omega
            have n0 : ¬ ((i : Int) < 0) := by omega
            have n1 : ¬ ((l.length : Int) ≤ (i : Int)) := by omega
            have hmx : (entTo rows q row e).length < maxLen := by unfold maxLen; omega
            clear hno m2 m3 m4
            go_wp2_with (at_mapUpdate; refine wpList_mapUpdate_own _ rfl _ _ _ 61 rfl 3 3 keyInt Try.underlying61 _ w3.heap.size _ D rfl m1 hmx _ _ (.int .i64 (i : Int)) rfl rfl (keyOf_int_mk Try.underlying3 (nat_wf (by omega))) (.lit (.int .i64 (q : Int))) [] (plainElem_int Try.underlying3 (nat_wf (by omega))) ?_; intro w5 hown5 hgrow5)
            refine ⟨⟨_, _, _, _, _, ⟨e + 1, by omega, ?hn, hbel.grown hgrow5 hbel.size (fun k e => by cases e; exact Nat.le_refl _), by rw [hES.out]; exact MapI.put m1 hm2.out hm3.out hm4.out hno'.out hown5⟩, rfl, rfl, rfl, rfl, rfl⟩, ?hm⟩
            case hn => go_num
            case hm => simp [intOf]; omega
          · obtain rfl : e = row.length := by omega
            rw [hall2.out] at hM
            go_wp2_with fail
            go_roundw
            case rel => exact ⟨q + 1, by omega, by go_num, hbel, hM⟩
            case measure => simp [intOf]; omega
      · obtain rfl : q = rows.length := by omega
        rw [List.take_length] at hM
        have hlook := Lib.hid (fun W (hW : Below wr.heap.size wr W) i (hi : i < l.length) => (hM.below hW).look (k := i) (q := lvOf rows i) (by
          obtain ⟨r, hr, hir⟩ := lvOf_at (rows := rows) (i := i) (hlev.perm.mem_iff.2 (List.mem_range.2 (by omega)))
          have := ent_mem rows 0 _ i r hr hir
          rwa [Nat.zero_add] at this) (by omega))
        have hE := ent_length rows
        obtain ⟨D, m1, m2, m3, m4⟩ := hM
        rw [hE, hfl] at m4
        clear m2 m3 hE
        have hA4 := (hA3.under hbel hs13)
        have hbel4 := grow_below hbel3 hbel
        have hs14 : w1.heap.size ≤ wr.heap.size := by have := hbel.size; omega
        clear hA3 O3 hbel hbel3
        go_wp2_with (at_len; refine wpList_len_own _ rfl _ 61 rfl 3 3 Try.underlying61 _ w3.heap.size _ D rfl m1 ?_; rw [m4])
        have hlv : ∀ i, i < l.length → lvOf rows i ≤ 13 := by
          intro i hi
          obtain ⟨r, hr, _⟩ := lvOf_at (rows := rows) (i := i) (hlev.perm.mem_iff.2 (List.mem_range.2 (by omega)))
          have := (List.getElem?_eq_some_iff.1 hr).1
          omega
        clear m1 m4
        obtain ⟨w4, rfl⟩ : ∃ w4 : World, w4 = wr := ⟨_, rfl⟩
        go_loopw [74] (fun i wr => ∃ k : Nat, k ≤ l.length ∧ i = .int .i64 k ∧ Below w4.heap.size w4 wr) (fun i _ => l.length - (intOf i).toNat)
        case atStart => exact ⟨0, by omega, rfl, Below.refl _ _⟩
        case round =>
          obtain ⟨i, hi, rfl, hbel⟩ := hrel
          by_cases hlti : i < l.length
          · have hli := hlook.out wr hbel i hlti
            have hlvi := hlv i hlti
            have hall3 := Lib.hid (heldTo_all hlev (i := i) (by omega))
            go_wp2_with fail
            obtain ⟨wo, rfl⟩ : ∃ wo : World, wo = wr := ⟨_, rfl⟩
            clear hli
            go_loopw [13, 82] (fun h j wr => ∃ (jn : Nat) (hb : Bool), jn ≤ i ∧ j = .int .i64 jn ∧ h = .bool hb ∧ Hid (hb = heldTo (sysOf l) rows i jn) ∧ Below w4.heap.size w4 wr) (fun _ j _ => i - (intOf j).toNat)
            case atStart => exact ⟨0, _, by omega, rfl, rfl, Lib.hid (by simp [heldTo]), hbel⟩
            case round =>
              clear hbel
              obtain ⟨j, hb, hj, rfl, rfl, hhb, hbel⟩ := hrel
              by_cases hltj : j < i
              · have hjl : j < l.length := by omega
                go_upto_region 30 with fail
                go_cut [93] (fun s93 wx => s93 = .bool (clashAt (sysOf l) j i) ∧ Below wr.heap.size wr wx)
                case first =>
                  have hA5 := hA4.under hbel hs14
                  obtain ⟨b, off, rfl, hb0, hc0, hc1, hc2, hc3⟩ := hA5.at_ hlti
                  obtain ⟨b', off', hbo, hb0', hd0, hd1, hd2, hd3⟩ := hA5.at_ hjl
                  injection hbo with hbo
                  injection hbo with hbo1 hbo2
                  subst hbo1 hbo2
                  have hai := hA5.acts l[i] (List.getElem_mem hlti)
                  have haj := hA5.acts l[j] (List.getElem_mem hjl)
                  have hri := hall l[i] (List.getElem_mem hlti)
                  have hrj := hall l[j] (List.getElem_mem hjl)
                  have hcl : clashAt (sysOf l) j i = clash l[i].s l[j].s := by
                    rw [clash_comm]
                    simp [clashAt, sysOf, hlti, hjl]
                  have hs15 : w1.heap.size ≤ wr.heap.size := Nat.le_trans hs14 hbel.size
                  clear hA5 hA4
                  generalize l[i] = x at *
                  generalize l[j] = y at *
                  obtain ⟨s, sA, sc⟩ := x
                  obtain ⟨t, tA, tc⟩ := y
                  simp only at hc0 hc1 hc2 hc3 hd0 hd1 hd2 hd3 hai haj hri hrj hcl
                  have hcl := Lib.hid hcl
                  refine wp_region_fixed mixed (by kernel_rfl) (by kernel_rfl) (tab [.slice (some ⟨b, off, none⟩) l.length c, .int .i64 (i : Int), .pointer (some ⟨b, off + i * 4, none⟩), .agg #[.int .i64 s.mod, .int .i64 s.all, .int .i64 s.non, .slice sA s.acts.length sc],
                    .slice (some ⟨b, off, none⟩) l.length c, .int .i64 (j : Int), .pointer (some ⟨b, off + j * 4, none⟩), .agg #[.int .i64 t.mod, .int .i64 t.all, .int .i64 t.non, .slice tA t.acts.length tc], .bool (clash s t)]) ?_ ?_
                  · intro w' hb'
                    rw [putAll_tab _ _ _ _ [(some 85, .slice (some ⟨b, off, none⟩) l.length c), (some 86, .int .i64 (i : Int)), (some 87, .pointer (some ⟨b, off + i * 4, none⟩)), (some 88, .agg #[.int .i64 s.mod, .int .i64 s.all, .int .i64 s.non, .slice sA s.acts.length sc]),
                      (some 89, .slice (some ⟨b, off, none⟩) l.length c), (some 90, .int .i64 (j : Int)), (some 91, .pointer (some ⟨b, off + j * 4, none⟩)), (some 92, .agg #[.int .i64 t.mod, .int .i64 t.all, .int .i64 t.non, .slice tA t.acts.length tc]), (some 93, .bool (clash s t))] rfl]
                    simp only [putL_eq, putT, List.set_cons_succ, List.set_cons_zero]
                    go_wp2_with fail
                    go_meet
                    exact ⟨by rw [hcl.out], hb'⟩
                  · intro p o ho act w' hb' hv hwas K hK
                    have e0 := hwas 0 rfl; have e12 := hwas 12 rfl; have e14 := hwas 14 rfl
                    simp at e0 e12 e14
                    replace hc0 := (hb'.cell (p := ⟨b, off + i * 4, none⟩) (by simp only; omega)).trans hc0
                    replace hc1 := (hb'.cell (p := ⟨b, off + i * 4 + 1, none⟩) (by simp only; omega)).trans hc1
                    replace hc2 := (hb'.cell (p := ⟨b, off + i * 4 + 2, none⟩) (by simp only; omega)).trans hc2
                    replace hc3 := (hb'.cell (p := ⟨b, off + i * 4 + 3, none⟩) (by simp only; omega)).trans hc3
                    replace hd0 := (hb'.cell (p := ⟨b, off + j * 4, none⟩) (by simp only; omega)).trans hd0
                    replace hd1 := (hb'.cell (p := ⟨b, off + j * 4 + 1, none⟩) (by simp only; omega)).trans hd1
                    replace hd2 := (hb'.cell (p := ⟨b, off + j * 4 + 2, none⟩) (by simp only; omega)).trans hd2
                    replace hd3 := (hb'.cell (p := ⟨b, off + j * 4 + 3, none⟩) (by simp only; omega)).trans hd3
                    have i0 : (0 : Int) ≤ (i : Int) := by omega
                    have i1 : (i : Int) < (l.length : Int) := by omega
                    have j0 : (0 : Int) ≤ (j : Int) := by omega
                    have j1 : (j : Int) < (l.length : Int) := by omega
                    have hp : p < 9 := lt_of_some ho
                    match p, hp, ho with
                    | 0, _, ho =>
                      obtain rfl := Option.some.inj ho
                      clear hv hwas
                      go_simp
                      exact hK _ hb'
                    | 1, _, ho =>
                      obtain rfl := Option.some.inj ho
                      clear hv hwas
                      go_simp
                      exact hK _ hb'
                    | 2, _, ho =>
                      obtain rfl := Option.some.inj ho
                      have v0 : act.tmps[85]?.getD undef = .slice (some ⟨b, off, none⟩) l.length c := hv 0 85 rfl rfl
                      have v1 : act.tmps[86]?.getD undef = .int .i64 (i : Int) := hv 1 86 rfl rfl
                      clear hv hwas
                      go_simp
                      exact hK _ hb'
                    | 3, _, ho =>
                      obtain rfl := Option.some.inj ho
                      have v0 : act.tmps[87]?.getD undef = .pointer (some ⟨b, off + i * 4, none⟩) := hv 2 87 rfl rfl
                      clear hv hwas
                      go_simp
                      exact hK _ hb'
                    | 4, _, ho =>
                      obtain rfl := Option.some.inj ho
                      clear hv hwas
                      go_simp
                      exact hK _ hb'
                    | 5, _, ho =>
                      obtain rfl := Option.some.inj ho
                      clear hv hwas
                      go_simp
                      exact hK _ hb'
                    | 6, _, ho =>
                      obtain rfl := Option.some.inj ho
                      have v0 : act.tmps[89]?.getD undef = .slice (some ⟨b, off, none⟩) l.length c := hv 4 89 rfl rfl
                      have v1 : act.tmps[90]?.getD undef = .int .i64 (j : Int) := hv 5 90 rfl rfl
                      clear hv hwas
                      go_simp
                      exact hK _ hb'
                    | 7, _, ho =>
                      obtain rfl := Option.some.inj ho
                      have v0 : act.tmps[91]?.getD undef = .pointer (some ⟨b, off + j * 4, none⟩) := hv 6 91 rfl rfl
                      clear hv hwas
                      go_simp
                      exact hK _ hb'
                    | 8, _, ho =>
                      obtain rfl := Option.some.inj ho
                      have v0 : act.tmps[88]?.getD undef = .agg #[.int .i64 s.mod, .int .i64 s.all, .int .i64 s.non, .slice sA s.acts.length sc] := hv 3 88 rfl rfl
                      have v1 : act.tmps[92]?.getD undef = .agg #[.int .i64 t.mod, .int .i64 t.all, .int .i64 t.non, .slice tA t.acts.length tc] := hv 7 92 rfl rfl
                      clear hv hwas
                      go_simp
                      refine (clash_any s t hri hrj sA tA sc tc w' (Rd.more (Rd.under hai hb' hs15) (Nat.le_trans hs15 hb'.size)) (Rd.more (Rd.under haj hb' hs15) (Nat.le_trans hs15 hb'.size))).mono ?_
                      rintro e w'' ⟨rfl, hb''⟩
                      exact hK _ (grow_below hb' hb'')
                case rest =>
                  obtain ⟨rfl, hb5⟩ := hcut
                  have hbel5 := grow_below hbel hb5
                  clear hb5 hbel
                  have hst := Lib.hid (heldTo_succ (sysOf l) rows i j)
                  cases hcc : clashAt (sysOf l) j i
                  case false =>
                    have hst2 : Hid (hb = heldTo (sysOf l) rows i (j + 1)) := Lib.hid (by rw [hst.out, hcc, Bool.false_and, Bool.or_false]; exact hhb.out)
                    go_wp2_with fail
                    go_roundw
                    case rel => exact ⟨j + 1, hb, by omega, by go_num, rfl, hst2, hbel5⟩
                    case measure => simp [intOf]; omega
                  case true =>
                    have hlt3 := lev_lt hlev hltj (by omega) hcc
                    have hli := hlook.out wc hbel5 i hlti
                    have hlj := hlook.out wc hbel5 j hjl
                    have hlvj := hlv j hjl
                    have hst2 : Hid (heldTo (sysOf l) rows i (j + 1) = (hb || ((lvOf rows j : Int) == (lvOf rows i : Int) - 1))) := Lib.hid (by rw [hst.out, hcc, Bool.true_and, ← hhb.out])
                    have hng : ¬ ((lvOf rows i : Int) ≤ (lvOf rows j : Int)) := by omega
                    clear hst hhb
                    cases hb
                    case false =>
                      rw [Bool.false_or] at hst2
                      go_wp2_with fail
                      go_roundw
                      case rel => exact ⟨j + 1, _, by omega, by go_num, rfl, Lib.hid hst2.out.symm, hbel5⟩
                      case measure => simp [intOf]; omega
                    case true =>
                      rw [Bool.true_or] at hst2
                      go_wp2_with fail
                      go_roundw
                      case rel => exact ⟨j + 1, _, by omega, by go_num, rfl, Lib.hid hst2.out.symm, hbel5⟩
                      case measure => simp [intOf]; omega
              · obtain rfl : j = i := by omega
                obtain rfl : hb = true := by rw [hhb.out, hall3.out]
                clear hhb
                go_wp2_with fail
                go_roundw
                case rel => exact ⟨j + 1, by omega, by go_num, hbel⟩
                case measure => simp [intOf]; omega
          · obtain rfl : i = l.length := by omega
            go_wp2_with fail
            go_ret
            exact ⟨rfl, grow_below hbel4 hbel⟩
end Go.Proofs.Ytefdblaolmckmaa
