/- A set of ints as a map of the call's own, whose size is told too; as many tables as kinds. The walk of StoreTables. -/
import Derived.Test.YtefdblaolmckmabBSpecOToSpecR
import Derived.Test.YtefdblaolmckmabBPlainAToHp
import Derived.Test.YtefdblaolmckmabBRef2MToRunG
import Derived.Test.YtefdblaolmckmabBStoFToPlainM
import Derived.Test.YtefdblaolmckmabBRef2AToTwoB
namespace Go.Proofs.Ytefdblaolmckmab
open Go.RowKit Go.Maps
open Brood
set_option linter.unusedVariables false
set_option linter.unusedSimpArgs false
def uniF (u : List Int) (x : Int) : List Int := if u.contains x = true then u else u ++ [x]
def uniS (xs : List Int) : List Int := xs.foldl uniF []
theorem uniF_mem {u : List Int} {x y : Int} : y ∈ uniF u x ↔ y ∈ u ∨ y = x := by
  unfold uniF
  split
  · rename_i h
    rw [List.contains_iff_mem] at h
    constructor
    · exact .inl
    · rintro (h1 | rfl)
      · exact h1
      · exact h
  · simp
theorem uni_mem_ : ∀ {xs u : List Int} {y : Int}, y ∈ xs.foldl uniF u ↔ y ∈ u ∨ y ∈ xs
  | [], u, y => by simp
  | x :: l, u, y => by
    rw [List.foldl_cons, uni_mem_, uniF_mem, List.mem_cons, or_assoc]
theorem uni_mem {xs : List Int} {y : Int} : y ∈ uniS xs ↔ y ∈ xs := by
  unfold uniS
  rw [uni_mem_]
  simp
theorem uniF_nodup {u : List Int} (h : u.Nodup) (x : Int) : (uniF u x).Nodup := by
  unfold uniF
  split
  · exact h
  · rename_i hc
    have hx : x ∉ u := fun hm => hc (List.contains_iff_mem.2 hm)
    rw [List.nodup_append]
    refine ⟨h, by simp, ?_⟩
    intro a ha b hb
    have : b = x := by simpa using hb
    subst this
    intro e
    subst e
    exact hx ha
theorem uni_nodup_ : ∀ {xs u : List Int}, u.Nodup → (xs.foldl uniF u).Nodup
  | [], _, h => h
  | x :: l, u, h => uni_nodup_ (xs := l) (uniF_nodup h x)
theorem uni_nodup (xs : List Int) : (uniS xs).Nodup := uni_nodup_ List.nodup_nil
theorem uni_snoc (xs : List Int) (x : Int) : uniS (xs ++ [x]) = uniF (uniS xs) x := by
  unfold uniS
  rw [List.foldl_append]
  rfl
theorem nd_le : ∀ {l m : List Int}, l.Nodup → (∀ x ∈ l, x ∈ m) → l.length ≤ m.length
  | [], m, _, _ => Nat.zero_le _
  | a :: l, m, h, hs => by
    rw [List.nodup_cons] at h
    have ha := hs a (by simp)
    have h1 := nd_le (l := l) (m := m.erase a) h.2 (fun x hx => (List.mem_erase_of_ne (fun e : x = a => h.1 (by rw [← e]; exact hx))).2 (hs x (by simp [hx])))
    rw [List.length_erase_of_mem ha] at h1
    have : 0 < m.length := List.length_pos_of_mem ha
    rw [List.length_cons]
    omega
theorem kinds_len {rows : List BRow} {gens : List Int} (h : RightW rows gens) : (uniS (rows.map (·.has))).length = (ofG rows).length := by
  have hr := h.rep
  have hmem : ∀ x, x ∈ rows.map (·.has) ↔ x ∈ (ofG rows).map Grp.h := by
    intro x
    constructor
    · intro hx
      obtain ⟨r, hr1, rfl⟩ := List.mem_map.1 hx
      obtain ⟨g, hg, hrg⟩ := List.mem_flatMap.1 (hr.perm.mem_iff.2 hr1)
      exact List.mem_map.2 ⟨g, hg, (hr.ok.fit g hg r hrg).symm⟩
    · intro hx
      obtain ⟨g, hg, rfl⟩ := List.mem_map.1 hx
      obtain ⟨r, hrg⟩ := List.exists_mem_of_ne_nil _ (hr.ok.full g hg)
      exact List.mem_map.2 ⟨r, hr.perm.mem_iff.1 (List.mem_flatMap.2 ⟨g, hg, hrg⟩), hr.ok.fit g hg r hrg⟩
  have hnd : ((ofG rows).map Grp.h).Nodup := by
    unfold List.Nodup
    rw [List.pairwise_map]
    exact hr.ok.up.imp fun h e => by omega
  have h1 := nd_le (uni_nodup (rows.map (·.has))) (fun x hx => (hmem x).1 (uni_mem.1 hx))
  have h2 := nd_le hnd (fun x hx => uni_mem.2 ((hmem x).2 hx))
  rw [List.length_map] at h1 h2
  omega
def MapS (w : World) (b : Nat) (zs : List Int) : Prop :=
  ∃ D : DataW Unit, w.ownsMap Try.prog 3 (plainElem Try.prog 4) b zs.length D ∧ (∀ k : Int, D.atKey (.int .i64 k) (.lit (.bool false)) = .lit (.bool (zs.contains k))) ∧
    (∀ k : Int, has D (.int .i64 k) = zs.contains k) ∧ size D = (uniS zs).length
section
variable {w w' : World} {b : Nat} {zs : List Int}
theorem MapS.u (h : MapS w b zs) : MapU w b zs := by
  obtain ⟨D, h1, h2, _⟩ := h
  exact ⟨D, h1, h2⟩
theorem MapS.lt (h : MapS w b zs) : b < w.heap.size := h.u.lt
theorem MapS.below (h : MapS w b zs) (hb : Below w.heap.size w w') : MapS w' b zs := by
  have hlt := h.lt
  obtain ⟨D, ⟨es', clock, h1, h2⟩, h3⟩ := h
  exact ⟨D, ⟨es', clock, (hb.block b hlt).trans h1, h2⟩, h3⟩
theorem MapS.alloc (h : MapS w b zs) (o : Obj) : MapS (w.alloc o) b zs := h.below ((Below.refl _ _).alloc (Nat.le_refl _) o)
theorem MapS.made (w : World) : MapS (w.alloc (.map #[] 0)) w.heap.size [] :=
  ⟨.map [], World.ownsMap_made _ _ _ _, fun k => rfl, fun k => rfl, rfl⟩
theorem MapS.size_ (h : MapS w b zs) (ty : TypeId) : (Builtin.len_ #[75] ty #[.map (some b)]).run Try.prog w = .ok (.int .i64 ((uniS zs).length : Nat)) w := by
  obtain ⟨D, h1, _, _, h4⟩ := h
  rw [h1.len Try.underlying75 ty, h4]
theorem MapS.put {z : Int} {D : DataW Unit} (h1 : w.ownsMap Try.prog 3 (plainElem Try.prog 4) b zs.length D) (h2 : ∀ k : Int, D.atKey (.int .i64 k) (.lit (.bool false)) = .lit (.bool (zs.contains k)))
    (h3 : ∀ k : Int, has D (.int .i64 k) = zs.contains k) (h4 : size D = (uniS zs).length)
    (hown : w'.ownsMap Try.prog 3 (plainElem Try.prog 4) b (zs.length + 1) (D.put (.int .i64 z) (.lit (.bool true)))) : MapS w' b (zs ++ [z]) := by
  have ht := h1.tidy keyInt
  obtain ⟨D', g1, g2⟩ := MapU.put h1 h2 hown
  refine ⟨_, by simpa using hown, ?_, ?_, ?_⟩
  · intro j
    by_cases hj : j = z
    · subst hj
      rw [atKey_put_same ht.isMap (int_key _)]
      simp
    · have : (Lit.int .i64 j) ≠ Lit.int .i64 z := by
        intro e; injection e with _ e; exact hj e
      rw [atKey_put_other this, h2]
      simp [hj]
  · intro j
    by_cases hj : j = z
    · subst hj
      rw [has_put_same ht.isMap (int_key _)]
      simp
    · have : (Lit.int .i64 j) ≠ Lit.int .i64 z := by
        intro e; injection e with _ e; exact hj e
      rw [has_put_other this, h3]
      simp [hj]
  · rw [size_put ht, h3, h4, uni_snoc]
    unfold uniF
    have hc : (uniS zs).contains z = zs.contains z := by
      rw [Bool.eq_iff_iff, List.contains_iff_mem, List.contains_iff_mem, uni_mem]
    rw [hc]
    split <;> simp
end
end Go.Proofs.Ytefdblaolmckmab

namespace Go.Proofs.Ytefdblaolmckmab
open Go.RowKit Go.Maps
open Brood
set_option linter.unusedVariables false
set_option linter.unusedSimpArgs false
theorem kind_wf {n : Int} (h : isSet n = true) : (Lit.int .i64 n).wf = true := by
  have := isSet_iff.1 h
  exact wf_of (by omega) (by omega)
theorem tab_facts {rows : List BRow} {gens : List Int} (h : RightW rows gens) {g : Grp} (hg : g ∈ ofG rows) : g.rs.length ≠ 0 ∧ (rows.map (·.has)).contains g.h = true ∧ isSet g.h = true := by
  have hr := h.rep
  refine ⟨fun e => hr.ok.full g hg (List.eq_nil_of_length_eq_zero e), ?_, (hr.clean g hg).set_⟩
  obtain ⟨r, hrg⟩ := List.exists_mem_of_ne_nil _ (hr.ok.full g hg)
  rw [List.contains_iff_mem]
  exact List.mem_map.2 ⟨r, hr.perm.mem_iff.1 (List.mem_flatMap.2 ⟨g, hg, hrg⟩), hr.ok.fit g hg r hrg⟩
set_option maxRecDepth 20000 in
set_option maxHeartbeats 12800000 in
theorem storeTables_any (rows : List BRow) (gens : List Int) (Ar : Option Addr) (cr : Nat) (Ag : Option Addr) (cg : Nat) (hlr : rows.length ≤ 9223372036854775807) (hlg : gens.length ≤ 9223372036854775807) (hnr : Ar = none → cr = 0 ∧ rows = []) (hng : Ag = none → cg = 0 ∧ gens = [])
    (w : World) (hr : RdR w w.heap.size Ar rows) (hg : RdG w w.heap.size Ag gens) :
    Calls Try.prog 5 #[.agg #[.slice Ar rows.length cr, .slice Ag gens.length cg]] w fun e w' => e = .returned (.bool true) ∧ Below w.heap.size w w' := by
  have hmm := @run_makeMap Try.prog
  have H0 := (Hp.start w).new w.heap.size rfl 25 [.slice Ar rows.length cr, .slice Ag gens.length cg]
  replace H0 : Hp w _ [.box w.heap.size 25 [.slice Ar rows.length cr, .slice Ag gens.length cg]] := H0
  go_enter Try.func5, Try.ntmps5
  go_wp2_with fail
  obtain ⟨w0, hw0, H0⟩ := H0.name
  rw [hw0]; clear hw0
  refine (alive3_any w0).mono ?_
  rintro e w1 ⟨rfl, hb⟩
  replace H0 := H0.grow hb
  clear hb
  have a0 := H0.cell 0 0 rfl rfl; have a1 := H0.cell 0 1 rfl rfl
  go_wp2_with fail
  refine (sof_any rows gens Ar cr Ag cg hlr hng w1 (H0.old hr) (H0.old hg)).mono ?_
  rintro e w2 ⟨v, rfl, hG⟩
  have H1 := H0.grow hG.bel
  obtain ⟨A, c, l, Ag2, cg2, rfl, hl, hR⟩ := hG.rd
  have hrt : Hid ((worldErr ⟨rows, gens⟩).1 = 0 → RightW rows gens) := Lib.hid (right_iff rows gens).1
  have hof : Hid (ofV rows gens = if (worldErr ⟨rows, gens⟩).1 ≠ 0 then ([], []) else (tabsW rows, gens)) := Lib.hid rfl
  generalize worldErr ⟨rows, gens⟩ = F at *
  obtain ⟨f1, f2⟩ := F
  clear hG H0 a0 a1
  unfold fV
  dsimp only at hrt hof ⊢
  by_cases hf : f1 = 0
  case neg =>
    have hf' : (f1 != 0) = true := by simpa using hf
    have H2 := (H1.new w2.heap.size rfl 59 [.slice A l.length c, .slice Ag2 (ofV rows gens).2.length cg2]).new (w2.heap.size + 1) (by simp) 32 [.int .i64 f1, .int .i64 f2]
    have H2h := Lib.hid H2
    clear H1 hR hl hof hrt H2 hf
    generalize (ofV rows gens).2 = gs at *
    go_wp2_with fail
    go_ret
    exact ⟨rfl, H2h.out.bel⟩
  subst hf
  have hRw := hrt.out rfl
  rw [show ofV rows gens = (tabsW rows, gens) by rw [hof.out, if_neg (by simp)]] at hl hR ⊢
  dsimp only at hl hR ⊢
  have hlr60 : rows.length ≤ 60 := Nat.le_trans hRw.rows_le hRw.len
  have hset := Lib.hid (fun r hr => kind_wf (hRw.set_ r hr))
  have hflat := Lib.hid (show (flatG (ofG rows)).length = rows.length from hRw.rep.perm.length_eq)
  have hkl := Lib.hid (kinds_len hRw)
  have hll := Lib.hid (fit_len (G := ofG rows) hl)
  have hl60 : l.length ≤ 60 := by have h1 := (right_len hRw).1; have h2 := fit_len (G := ofG rows) hl; omega
  have htf := Lib.hid (fun g hg => tab_facts hRw (g := g) hg)
  have H2 := (H1.new w2.heap.size rfl 59 [.slice A l.length c, .slice Ag2 gens.length cg2]).new (w2.heap.size + 1) (by simp) 32 [.int .i64 0, .int .i64 f2]
  have hR2 := Lib.hid ((hR.alloc (.cells #[.slice A l.length c, .slice Ag2 gens.length cg2] 59)).alloc (.cells #[.int .i64 0, .int .i64 f2] 32))
  have hlh := Lib.hid hl
  clear hof hrt H1 hR hRw hl
  have l0 := H2.lt 0 rfl
  have H2h := Lib.hid H2
  clear H2
  go_upto_region 4 with fail
  obtain ⟨w3, hw3, H2⟩ := H2h.out.name
  rw [hw3] at hR2 ⊢
  clear hw3 l0 H2h
  replace H2 : Hp w w3 [.box w.heap.size 25 [.slice Ar rows.length cr, .slice Ag gens.length cg], .box w2.heap.size 59 [.slice A l.length c, .slice Ag2 gens.length cg2], .box (w2.heap.size + 1) 32 [.int .i64 0, .int .i64 f2]] := H2
  have e0 := H2.cell 0 0 rfl rfl; have ff := H2.cell 2 0 rfl rfl
  have hb0 : Below w3.heap.size w3 (w3.alloc (.map #[] 0)) := (Below.refl _ _).alloc (Nat.le_refl _) _
  have hM0 := MapS.made w3
  have l0 := H2.lt 0 rfl
  have H2h := Lib.hid H2
  clear H2
  have hbh := Lib.hid hb0; have hMh := Lib.hid hM0
  clear hb0 hM0
  go_wp2_with fail
  go_loopw [25] (fun i wr => ∃ k : Nat, k ≤ rows.length ∧ i = .int .i64 k ∧ Below w3.heap.size w3 wr ∧ MapS wr w3.heap.size ((rows.take k).map (·.has))) (fun i _ => rows.length - (intOf i).toNat)
  case atStart => exact ⟨0, by omega, rfl, hbh.out, by simpa using hMh.out⟩
  case round =>
    clear hbh hMh e0 ff l0
    obtain ⟨k, hk, rfl, hbel, hM⟩ := hrel
    have hMlt := hM.lt
    by_cases hlt : k < rows.length
    · have hBw := (H2h.out.grow hbel).bel
      have hR : RdR wr w.heap.size Ar rows := Rd.under hr hBw (Nat.le_refl _)
      obtain ⟨b, off, rfl, hb, hrow⟩ := hR.at_ hlt
      have hwz := hset.out rows[k] (List.getElem_mem hlt)
      have htk : Hid ((rows.take (k + 1)).map (·.has) = (rows.take k).map (·.has) ++ [rows[k].has]) := Lib.hid (by rw [List.take_add_one, List.getElem?_eq_getElem hlt, Option.toList_some, List.map_append]; rfl)
      generalize rows[k] = r at *
      have i0 : (0 : Int) ≤ (k : Int) := by omega
      have i1 : (k : Int) < (rows.length : Int) := by omega
      obtain ⟨c0, c1, c2⟩ := hrow.head
      obtain ⟨idx, gen, has', vals, h8⟩ := r
      obtain ⟨a0, a1, a2, a3, a4, a5, a6, a7, rfl⟩ := vals_eight h8
      have v0 := hrow 3 (.int .i64 a0) rfl; have v1 := hrow 4 (.int .i64 a1) rfl; have v2 := hrow 5 (.int .i64 a2) rfl; have v3 := hrow 6 (.int .i64 a3) rfl; have v4 := hrow 7 (.int .i64 a4) rfl; have v5 := hrow 8 (.int .i64 a5) rfl; have v6 := hrow 9 (.int .i64 a6) rfl; have v7 := hrow 10 (.int .i64 a7) rfl
      simp only at c0 c1 c2 hwz
      have hbw : b ≠ wr.heap.size := by have := hBw.size; omega
      have hbel2 := hbel.alloc hbel.size (.cells #[.int .i64 idx, .int .i64 gen, .int .i64 has', .int .i64 a0, .int .i64 a1, .int .i64 a2, .int .i64 a3, .int .i64 a4, .int .i64 a5, .int .i64 a6, .int .i64 a7] 51)
      have hM2 := hM.alloc (.cells #[.int .i64 idx, .int .i64 gen, .int .i64 has', .int .i64 a0, .int .i64 a1, .int .i64 a2, .int .i64 a3, .int .i64 a4, .int .i64 a5, .int .i64 a6, .int .i64 a7] 51)
      obtain ⟨D, m1, m2, m3, m4⟩ := hM2
      have hm2 := Lib.hid m2; have hm3 := Lib.hid m3; have hm4 := Lib.hid m4
      have hlk : ((rows.take k).map (·.has)).length = k := by simp; omega
      rw [hlk] at m1
      have m1' := Lib.hid m1
      have hmx : k < maxLen := by unfold maxLen; omega
      have hwzh := Lib.hid hwz
      clear m2 m3 m4 hrow hM m1 hwz hBw hR
      have hbelh := Lib.hid hbel2
      clear hbel2 hbel
      go_wp2_with (at_mapUpdate; refine wpList_mapUpdate_own _ rfl _ _ _ 75 rfl 3 4 keyInt Try.underlying75 _ w3.heap.size _ D rfl m1'.out hmx _ _ (.int .i64 has') rfl rfl (keyOf_int_mk Try.underlying3 hwzh.out) (.lit (.bool true)) [] (plainElem_bool Try.underlying4 true) ?_; intro w5 hown5 hgrow5)
      have hM5 : MapS w5 w3.heap.size ((rows.take (k + 1)).map (·.has)) := by
        rw [htk.out]
        exact MapS.put (by rw [hlk]; exact m1'.out) hm2.out hm3.out hm4.out (by rw [hlk]; exact hown5)
      refine ⟨⟨k + 1, by omega, ?hn, hbelh.out.grown hgrow5 hbelh.out.size (fun k e => by cases e; omega), hM5⟩, ?hm⟩
      case hn => go_num
      case hm => simp [intOf]; omega
    · obtain rfl : k = rows.length := by omega
      rw [List.take_length] at hM
      obtain ⟨wo, rfl⟩ : ∃ wo : World, wo = wr := ⟨_, rfl⟩
      have H3 := H2h.out.grow hbel
      have hR3 := hR2.out.grow hbel
      have s0 := H3.cell 1 0 rfl rfl
      have hMh := Lib.hid hM; have hR3h := Lib.hid hR3; have H3h := Lib.hid H3
      clear hM hR3 H3 hbel H2h hR2
      go_wp2_with fail
      go_loopw [8, 36] (fun n i wr => ∃ k : Nat, k ≤ l.length ∧ i = .int .i64 k ∧ n = .int .i64 ((flatG ((ofG rows).take k)).length : Nat) ∧ Below wo.heap.size wo wr) (fun _ i _ => l.length - (intOf i).toNat)
      case atStart => exact ⟨0, by omega, rfl, by simp [flatG], Below.refl _ _⟩
      case round =>
        clear s0
        obtain ⟨k, hk, rfl, rfl, hbel⟩ := hrel
        by_cases hlt : k < l.length
        · have hkG : k < (ofG rows).length := by have := hll.out; omega
          have hF := fit_at hlh.out hlt hkG
          have hfl := flatG_le hkG
          have hft := Lib.hid (flatG_take hkG)
          obtain ⟨ht1, ht2, ht3⟩ := htf.out _ (List.getElem_mem hkG)
          obtain ⟨b1, off, rfl, hb1, e0, e1, e2⟩ := (hR3h.out.grow hbel).tabs.at_ hlt
          have hfr := hflat.out
          have hlk := hMh.out.below hbel
          generalize flatG ((ofG rows).take k) = R0 at *
          generalize (ofG rows)[k] = g at *
          generalize l[k] = t at *
          obtain ⟨th, bA, bc, bs, cA, cc, cols⟩ := t
          have hth : th = g.h := hF.has
          have hbs : bs.length = g.rs.length := by rw [show bs = g.rs.map beOf from hF.bs]; simp
          have hR1 := Lib.hid (congrArg List.length hft.out)
          obtain ⟨gh, rs⟩ := g
          dsimp only at e0 e1 e2 hth hbs ht1 ht2 ht3 hfl hR1
          subst hth
          rw [← hbs] at ht1 hfl
          have hb0 : ((bs.length : Int) == 0) = false := by rw [beq_eq_false_iff_ne]; omega
          have hlook := hlk.u.look (k := th) (kind_wf ht3)
          rw [ht2] at hlook
          have hw1 := hlook
          have hR1' : Hid ((flatG ((ofG rows).take (k + 1))).length = R0.length + bs.length) := Lib.hid (by rw [hbs, hR1.out, List.length_append])
          have i0 : (0 : Int) ≤ (k : Int) := by omega
          have i1 : (k : Int) < (l.length : Int) := by omega
          have hwrap : IntKind.i64.wrap ((R0.length : Int) + (bs.length : Int)) = ((R0.length : Int) + (bs.length : Int)) := by rw [IntKind.wrap_i64]; omega
          have hlook2 := fun o => (((hMh.out.below hbel).alloc o).u.look (k := th) (kind_wf ht3))
          rw [ht2] at hlook2
          have hbelh := Lib.hid hbel
          clear hF hft hR1 hlk ht1 ht2 ht3 hlook hw1 hbs hbel
          go_wp2_with fail
          go_roundw
          case rel => exact ⟨k + 1, by omega, by go_num, by rw [hR1'.out]; rfl, hbelh.out.alloc hbelh.out.size _⟩
          case measure => simp [intOf]; omega
        · obtain rfl : k = l.length := by omega
          have H4 := H3h.out.grow hbel
          have hsz := (hMh.out.below hbel).size_
          have s0 := H4.cell 0 0 rfl rfl; have s1 := H4.cell 1 0 rfl rfl
          have hfr : (flatG ((ofG rows).take l.length)).length = rows.length := by rw [List.take_of_length_le (by have := hll.out; omega)]; exact hflat.out
          rw [hfr]
          have hkl2 : (uniS (rows.map (·.has))).length = l.length := by rw [hkl.out, hll.out]
          rw [hkl2] at hsz
          have H4h := Lib.hid H4
          clear H4 hfr hkl2 hbel
          go_wp2_with fail
          go_ret
          exact ⟨by simp, H4h.out.bel⟩
end Go.Proofs.Ytefdblaolmckmab
