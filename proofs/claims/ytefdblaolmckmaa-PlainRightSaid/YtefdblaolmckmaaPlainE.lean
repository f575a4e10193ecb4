/- The walks of plain.Get and slices.Clone. -/
import Derived.Test.YtefdblaolmckmaaPlainD
import Derived.Laws.AppendOwnNone
namespace Go.Proofs.Ytefdblaolmckmaa
open Go.RowKit
open Brood
set_option linter.unusedVariables false
set_option linter.unusedSimpArgs false

def getP (i g : Int) (rows : List BRow) (part : Int) : Int × Bool :=
  match findR i g rows with
  | some k => match rows[k]? with
    | some r => if hasB r.has part then (r.vals.getD part.toNat 0, true) else (0, false)
    | none => (0, false)
  | none => (0, false)
theorem findR_lt {i g : Int} : ∀ {rows : List BRow} {k : Nat}, findR i g rows = some k → k < rows.length
  | [], k, h => by simp [findR] at h
  | r :: l, k, h => by
    rw [findR] at h
    split at h
    · have := Option.some.inj h; simp; omega
    · cases h' : findR i g l with
      | none => rw [h'] at h; cases h
      | some q =>
        rw [h'] at h
        have h2 := findR_lt h'
        have h3 : q + 1 = k := Option.some.inj h
        simp only [List.length_cons]
        omega

set_option maxRecDepth 20000 in
set_option maxHeartbeats 3200000 in
theorem get_any (rows : List BRow) (gens : List Int) (Ar : Option Addr) (cr : Nat) (Ag : Option Addr) (cg : Nat) (hlenr : rows.length ≤ 1000000) (hset : ∀ r ∈ rows, isSet r.has = true) (i g part : Int) (w : World) (hr : RdR w w.heap.size Ar rows) :
    Calls Try.prog 58 #[.agg #[.slice Ar rows.length cr, .slice Ag gens.length cg], .agg #[.int .i64 i, .int .i64 g], .int .i64 part] w fun e w' => e = .returned (.tuple #[.int .i64 (getP i g rows part).1, .bool (getP i g rows part).2]) ∧ Below w.heap.size w w' := by
  have HB := (Blk.new w 66 #[.slice Ar rows.length cr, .slice Ag gens.length cg]).alloc (.cells #[.int .i64 i, .int .i64 g] 68)
  have hr0 : RdR ((w.alloc (.cells #[.slice Ar rows.length cr, .slice Ag gens.length cg] 66)).alloc (.cells #[.int .i64 i, .int .i64 g] 68)) w.heap.size Ar rows := Rd.alloc (Rd.alloc hr (Nat.le_refl _) _) (by simp) _
  have hbel0 : Below w.heap.size w ((w.alloc (.cells #[.slice Ar rows.length cr, .slice Ag gens.length cg] 66)).alloc (.cells #[.int .i64 i, .int .i64 g] 68)) := ((Below.refl _ _).alloc (Nat.le_refl _) _).alloc (by simp) _
  obtain ⟨G, hGP⟩ : ∃ G, G = getP i g rows part := ⟨_, rfl⟩
  rw [← hGP]
  have hf := Lib.hid (find_any rows Ar cr (.slice Ag gens.length cg) hlenr i g w.heap.size _ (Rd.more hr0 (by simp; omega)) HB)
  go_enter Try.func58, Try.ntmps58
  go_wp2_with fail
  refine hf.out.mono ?_
  rintro e w1 ⟨rfl, hb1⟩
  have HB1 := HB.below hb1 HB.lt
  have hr1 : RdR w1 w.heap.size Ar rows := Rd.under hr0 hb1 (by simp; omega)
  have hbel1 := hbel0.trans (hb1.mono (by simp; omega))
  clear HB hr0 hbel0 hf hb1 hr
  cases hfk : findR i g rows with
  | none =>
    have h1 : findI i g rows = -1 := by unfold findI; rw [hfk]
    have h2 : Hid (G = (0, false)) := Lib.hid (by rw [hGP]; unfold getP; rw [hfk])
    rw [h1]
    go_wp2_with fail
    refine bodyPost_ret (v := .tuple #[.int .i64 0, .bool false]) (by simp [results, Try.results58, go_sem]) rfl ⟨by rw [h2.out], hbel1⟩
  | some k =>
    have hk := findR_lt hfk
    have h1 : findI i g rows = (k : Int) := by unfold findI; rw [hfk]
    rw [h1]
    obtain ⟨b, off, rfl, hb, hrow⟩ := hr1.at_ hk
    have hsr := hset rows[k] (List.getElem_mem hk)
    have h2 : Hid (G = if hasB rows[k].has part then (rows[k].vals.getD part.toNat 0, true) else (0, false)) := Lib.hid (by rw [hGP]; unfold getP; rw [hfk]; simp only [List.getElem?_eq_getElem hk])
    have e0 := HB1.cell 0
    simp at e0
    obtain ⟨_, _, c2⟩ := hrow.head
    have hval := fun (q : Nat) (hq : q < 8) => hrow.val (k := q) hq
    have hlen8 := rows[k].h8
    clear hfk h1 hset hr1
    have hsw := hbel1.size
    clear hGP
    generalize rows[k] = r at *
    have hh := has_any r.has part hsr w1
    have k0 : (0 : Int) ≤ (k : Int) := by omega
    have k1 : (k : Int) < (rows.length : Int) := by omega
    have kn : ¬ ((k : Int) < 0) := by omega
    cases hq : hasB r.has part
    case false =>
      rw [hq] at hh
      have hhh := Lib.hid hh
      rw [hq, if_neg (by decide)] at h2
      have h3 := Lib.hid h2.out
      clear hh h2 hval
      go_wp2_with fail
      refine hhh.out.mono ?_
      rintro e w2 ⟨rfl, rfl⟩
      go_wp2_with fail
      refine bodyPost_ret (v := .tuple #[.int .i64 0, .bool false]) (by simp [results, Try.results58, go_sem]) rfl ⟨by rw [h3.out], hbel1⟩
    case true =>
      rw [hq] at hh
      have hhh := Lib.hid hh
      rw [hq, if_pos rfl] at h2
      have hp : isPart part = true := by
        simp only [hasB, Bool.and_eq_true] at hq
        exact hq.1
      obtain ⟨p0, p1⟩ := isPart_iff.1 hp
      obtain ⟨p, rfl⟩ := nat_of p0
      have hp8 : p < 8 := by omega
      have hv := hval p hp8
      have hgd : r.vals.getD ((p : Int)).toNat 0 = r.vals[p]'(by rw [hlen8]; exact hp8) := by simp [List.getD_eq_getElem?_getD, hlen8, hp8]
      rw [hgd] at h2
      generalize r.vals[p]'(by rw [hlen8]; exact hp8) = z at *
      have h3 := Lib.hid h2.out
      clear hh h2 hval hgd
      go_wp2_with fail
      refine hhh.out.mono ?_
      rintro e w2 ⟨rfl, rfl⟩
      go_wp2_with fail
      refine bodyPost_ret (v := .tuple #[.int .i64 z, .bool true]) (by simp [results, Try.results58, go_sem]) rfl ⟨by rw [h3.out], hbel1⟩

theorem infoRow : (Try.prog.info? 82).map (fun i => (i.zero, i.size, i.bytes)) = some (some (.agg #[.int .i64 0, .int .i64 0, .int .i64 0, .int .i64 0, .int .i64 0, .int .i64 0, .int .i64 0, .int .i64 0, .int .i64 0, .int .i64 0, .int .i64 0]), 11, 88) := by kernel_rfl
theorem rows_one (rows : List BRow) : ∀ u ∈ rows.flatMap rowCells, u.oneCell' = true := by
  intro u hu
  obtain ⟨r, _, hu⟩ := List.mem_flatMap.1 hu
  simp only [rowCells, ints, List.mem_append, List.mem_cons, List.not_mem_nil, or_false, List.mem_map] at hu
  rcases hu with (rfl | rfl | rfl) | ⟨z, _, rfl⟩ <;> rfl

theorem sl_some_g (ad : Addr) (n c : Nat) (w : World) : (binOp .eql 32 (.slice (some ad) n c) (.slice none 0 0)).run Try.prog w = .ok (.bool false) w := by kernel_rfl
theorem sl_none_g (n c : Nat) (w : World) : (binOp .eql 32 (.slice none n c) (.slice none 0 0)).run Try.prog w = .ok (.bool true) w := by kernel_rfl

set_option maxRecDepth 20000 in
set_option maxHeartbeats 1600000 in
theorem cloneG_any (zs : List Int) (A : Option Addr) (c : Nat) (hlen : zs.length ≤ 1000000) (hn : A = none → c = 0 ∧ zs = []) (w : World) (hA : RdG w w.heap.size A zs) :
    Calls Try.prog 86 #[.slice A zs.length c] w fun e w' => ∃ v, e = .returned v ∧ w'.ownsRow w.heap.size 3 1 v zs.length (ints zs) ∧ Below w.heap.size w w' := by
  obtain ⟨i0', hi0, hz0a, hz0b, hz0c⟩ := info_parts infoInt
  have hs1 := sl_some_g
  have hs2 := sl_none_g
  cases A with
  | none =>
    obtain ⟨rfl, rfl⟩ := hn rfl
    go_enter Try.func86, Try.ntmps86
    go_wp2_with fail
    go_ret
    exact ⟨_, rfl, own_nil _ _ _ _, Below.refl _ _⟩
  | some ad =>
    have hown0 : (w.alloc (.cells #[] 3)).ownsRow w.heap.size 3 1 (.slice (some ⟨w.heap.size, 0, none⟩) 0 0) 0 [] := World.ownsRow_lit w #[] 0 (Nat.le_refl _) (by unfold maxLen; omega) (by simp)
    have hA' := Rd.alloc hA (Nat.le_refl _) (.cells #[] 3)
    have hce : ∀ j u, (ints zs)[j]? = some u → (w.alloc (.cells #[] 3)).cell? (ad.add j) = some u := by
      intro j u hu
      have h0 : 0 < zs.length := by
        rcases Nat.eq_zero_or_pos zs.length with e | e
        · have : zs = [] := List.eq_nil_of_length_eq_zero e
          subst this
          simp [ints] at hu
        · exact e
      obtain ⟨b, off, he, _, hc⟩ := hA'.2 h0
      obtain rfl := Option.some.inj he
      rw [add_mk]
      exact hc j u hu
    have hcl : (ints zs).length = zs.length * 1 := hA.1
    go_enter Try.func86, Try.ntmps86
    go_wp2_with (at_builtin; refine wpList_append_own _ rfl _ _ 32 rfl w.heap.size 3 i0' (.int .i64 0) 1 8 Try.underlying32 hi0 hz0a hz0b hz0c rfl (by decide) _ _ _ rfl hown0 ad zs.length c (ints zs) rfl hcl hce (ints_one _) ?c3 ?c4 ?c5 ?_; rotate_left 3; intro v' w1 hown' hgrow _)
    case c3 => unfold maxLen; omega
    case c4 => omega
    case c5 => simp
    go_ret
    exact ⟨_, rfl, by simpa using hown', ((Below.refl _ _).alloc (Nat.le_refl _) _).grown hgrow (by simp) (fun k e => by cases e; exact Nat.le_refl _)⟩

theorem sl_some_r (ad : Addr) (n c : Nat) (w : World) : (binOp .eql 64 (.slice (some ad) n c) (.slice none 0 0)).run Try.prog w = .ok (.bool false) w := by kernel_rfl
theorem sl_none_r (n c : Nat) (w : World) : (binOp .eql 64 (.slice none n c) (.slice none 0 0)).run Try.prog w = .ok (.bool true) w := by kernel_rfl

set_option maxRecDepth 20000 in
set_option maxHeartbeats 1600000 in
theorem cloneR_any (zs : List BRow) (A : Option Addr) (c : Nat) (hlen : zs.length ≤ 1000000) (hn : A = none → c = 0 ∧ zs = []) (w : World) (hA : RdR w w.heap.size A zs) :
    Calls Try.prog 85 #[.slice A zs.length c] w fun e w' => ∃ v, e = .returned v ∧ w'.ownsRow w.heap.size 82 11 v zs.length (zs.flatMap rowCells) ∧ Below w.heap.size w w' := by
  obtain ⟨i0', hi0, hz0a, hz0b, hz0c⟩ := info_parts infoRow
  have hs1 := sl_some_r
  have hs2 := sl_none_r
  cases A with
  | none =>
    obtain ⟨rfl, rfl⟩ := hn rfl
    go_enter Try.func85, Try.ntmps85
    go_wp2_with fail
    go_ret
    exact ⟨_, rfl, own_nil _ _ _ _, Below.refl _ _⟩
  | some ad =>
    have hown0 : (w.alloc (.cells #[] 82)).ownsRow w.heap.size 82 11 (.slice (some ⟨w.heap.size, 0, none⟩) 0 0) 0 [] := World.ownsRow_lit w #[] 0 (Nat.le_refl _) (by unfold maxLen; omega) (by simp)
    have hA' := Rd.alloc hA (Nat.le_refl _) (.cells #[] 82)
    have hce : ∀ j u, (zs.flatMap rowCells)[j]? = some u → (w.alloc (.cells #[] 82)).cell? (ad.add j) = some u := by
      intro j u hu
      have h0 : 0 < zs.length := by
        rcases Nat.eq_zero_or_pos zs.length with e | e
        · have : zs = [] := List.eq_nil_of_length_eq_zero e
          subst this
          simp [ints] at hu
        · exact e
      obtain ⟨b, off, he, _, hc⟩ := hA'.2 h0
      obtain rfl := Option.some.inj he
      rw [add_mk]
      exact hc j u hu
    have hcl : (zs.flatMap rowCells).length = zs.length * 11 := hA.1
    go_enter Try.func85, Try.ntmps85
    go_wp2_with (at_builtin; refine wpList_append_own _ rfl _ _ 64 rfl w.heap.size 82 i0' (.agg #[.int .i64 0, .int .i64 0, .int .i64 0, .int .i64 0, .int .i64 0, .int .i64 0, .int .i64 0, .int .i64 0, .int .i64 0, .int .i64 0, .int .i64 0]) 11 88 Try.underlying64 hi0 hz0a hz0b hz0c rfl (by decide) _ _ _ rfl hown0 ad zs.length c (zs.flatMap rowCells) rfl hcl hce (rows_one _) ?c3 ?c4 ?c5 ?_; rotate_left 3; intro v' w1 hown' hgrow _)
    case c3 => unfold maxLen; omega
    case c4 => omega
    case c5 => simp
    go_ret
    exact ⟨_, rfl, by simpa using hown', ((Below.refl _ _).alloc (Nat.le_refl _) _).grown hgrow (by simp) (fun k e => by cases e; exact Nat.le_refl _)⟩

end Go.Proofs.Ytefdblaolmckmaa
