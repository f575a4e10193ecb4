/- A set of ints as a map that the call itself makes; the walk of plain.Next. -/
import Derived.Test.YtefdblaolmckmaaPlainF
import Derived.Test.YtefdblaolmckmaaMapI
namespace Go.Proofs.Ytefdblaolmckmaa
open Go.RowKit Go.Maps
open Brood
set_option linter.unusedVariables false
set_option linter.unusedSimpArgs false

theorem zeroBool (w : World) : (zeroValue 4).run Try.prog w = .ok (.bool false) w := by kernel_rfl
/-- Block b is a map that tells true of just these keys. -/
def MapU (w : World) (b : Nat) (zs : List Int) : Prop :=
  ∃ D : DataW Unit, w.ownsMap Try.prog 3 (plainElem Try.prog 4) b zs.length D ∧ ∀ k : Int, D.atKey (.int .i64 k) (.lit (.bool false)) = .lit (.bool (zs.contains k))
theorem plainElem_bool_inv {P : Program} {e : TypeId} (he : P.underlying e = some .bool) {v : Value} {z : DataW Unit × List MemPlace} (h : plainElem P e v = some z) : ∃ x, v = .bool x ∧ z = (.lit (.bool x), []) := by
  unfold plainElem at h
  rw [he] at h
  cases v <;> simp at h
  exact ⟨_, rfl, h.symm⟩
section
variable {w w' : World} {b : Nat} {zs : List Int}
theorem MapU.lt (h : MapU w b zs) : b < w.heap.size := by obtain ⟨D, h1, _⟩ := h; exact h1.lt
theorem MapU.below (h : MapU w b zs) (hb : Below w.heap.size w w') : MapU w' b zs := by
  have hlt := h.lt
  obtain ⟨D, ⟨es', clock, h1, h2⟩, h3⟩ := h
  exact ⟨D, ⟨es', clock, (hb.block b hlt).trans h1, h2⟩, h3⟩
theorem MapU.alloc (h : MapU w b zs) (o : Obj) : MapU (w.alloc o) b zs := h.below ((Below.refl _ _).alloc (Nat.le_refl _) o)
theorem MapU.far (h : MapU w b zs) {a : Addr} (ha : b ≠ a.block) (u : Value) : MapU (w.setCell a u) b zs := by
  obtain ⟨D, h1, h2⟩ := h
  exact ⟨D, h1.setCell ha u, h2⟩
theorem MapU.made (w : World) : MapU (w.alloc (.map #[] 0)) w.heap.size [] :=
  ⟨.map [], World.ownsMap_made _ _ _ _, fun k => rfl⟩
theorem MapU.look (h : MapU w b zs) {k : Int} (hk : (Lit.int .i64 k).wf = true) : (Instr.lookup 115 (.map (some b)) (.int .i64 k) false).run Try.prog w = .ok (.bool (zs.contains k)) w := by
  obtain ⟨D, h1, h2⟩ := h
  obtain ⟨v, ps, hrun, hv⟩ := h1.lookup keyInt Try.underlying115 (zeroBool w) (plainElem_bool Try.underlying4 false) (keyOf_int_mk Try.underlying3 hk)
  obtain ⟨c, rfl, hc⟩ := plainElem_bool_inv Try.underlying4 hv
  rw [h2] at hc
  simp only [Prod.mk.injEq, DataW.lit.injEq, Lit.bool.injEq] at hc
  rw [hrun, hc.1]
theorem MapU.put {z : Int} {D : DataW Unit} (h1 : w.ownsMap Try.prog 3 (plainElem Try.prog 4) b zs.length D) (h2 : ∀ k : Int, D.atKey (.int .i64 k) (.lit (.bool false)) = .lit (.bool (zs.contains k)))
    (hown : w'.ownsMap Try.prog 3 (plainElem Try.prog 4) b (zs.length + 1) (D.put (.int .i64 z) (.lit (.bool true)))) : MapU w' b (zs ++ [z]) := by
  have ht := h1.tidy keyInt
  refine ⟨_, by simpa using hown, fun j => ?_⟩
  by_cases hj : j = z
  · subst hj
    rw [atKey_put_same ht.isMap (int_key _)]
    simp
  · have : (Lit.int .i64 j) ≠ Lit.int .i64 z := by
      intro e; injection e with _ e; exact hj e
    rw [atKey_put_other this, h2]
    simp [hj]
end

/-- The first number that is not used, and not used up. -/
def nextFrom (used : List Int) : Nat → List Int → Option (Int × Int)
  | _, [] => none
  | i, n :: l => if !used.contains (i : Int) && decide (n < 1000) then some ((i : Int), n + 1) else nextFrom used (i + 1) l
def nextV (rows : List BRow) (gens : List Int) : Int × Int × Int :=
  match nextFrom (rows.map (·.idx)) 0 gens with
  | some p => (p.1, p.2, 0)
  | none => if 60 ≤ gens.length then (0, 0, 4) else ((gens.length : Int), 1, 0)
theorem wf_of {z : Int} (h1 : -9223372036854775808 ≤ z) (h2 : z < 9223372036854775808) : (Lit.int .i64 z).wf = true := by
  have e : IntKind.i64.wrap z = z := by rw [IntKind.wrap_i64]; omega
  rw [← e]; exact wf_wrap _ _

set_option maxRecDepth 20000 in
set_option maxHeartbeats 6400000 in
theorem next_any (rows : List BRow) (gens : List Int) (Ar : Option Addr) (cr : Nat) (Ag : Option Addr) (cg : Nat) (hlr : rows.length ≤ 1000000) (hlg : gens.length ≤ 1000000)
    (hwr : ∀ r ∈ rows, (Lit.int .i64 r.idx).wf = true) (hwg : ∀ n ∈ gens, -9223372036854775808 ≤ n) (w : World) (hr : RdR w w.heap.size Ar rows) (hg : RdG w w.heap.size Ag gens) :
    Calls Try.prog 66 #[.agg #[.slice Ar rows.length cr, .slice Ag gens.length cg]] w fun e w' => e = .returned (.tuple #[.agg #[.int .i64 (nextV rows gens).1, .int .i64 (nextV rows gens).2.1], .int .i64 (nextV rows gens).2.2]) ∧ Below w.heap.size w w' := by
  have hmm := @run_makeMap Try.prog
  have HB0 := ((Blk.new w 66 #[.slice Ar rows.length cr, .slice Ag gens.length cg]).alloc (.cells #[.int .i64 0, .int .i64 0] 68)).alloc (.map #[] 0)
  have HQ0 := (Blk.new (w.alloc (.cells #[.slice Ar rows.length cr, .slice Ag gens.length cg] 66)) 68 #[.int .i64 0, .int .i64 0]).alloc (.map #[] 0)
  simp only [World.size_alloc] at HQ0
  have hbel0 : Below w.heap.size w (((w.alloc (.cells #[.slice Ar rows.length cr, .slice Ag gens.length cg] 66)).alloc (.cells #[.int .i64 0, .int .i64 0] 68)).alloc (.map #[] 0)) := (((Below.refl _ _).alloc (Nat.le_refl _) _).alloc (by simp) _).alloc (by simp; omega) _
  have hM0 := MapU.made ((w.alloc (.cells #[.slice Ar rows.length cr, .slice Ag gens.length cg] 66)).alloc (.cells #[.int .i64 0, .int .i64 0] 68))
  simp only [World.size_alloc] at hM0
  have hnv : Hid (nextV rows gens = match nextFrom (rows.map (·.idx)) 0 gens with | some p => (p.1, p.2, 0) | none => if 60 ≤ gens.length then (0, 0, 4) else ((gens.length : Int), 1, 0)) := Lib.hid rfl
  generalize nextV rows gens = E at *
  go_enter Try.func66, Try.ntmps66
  go_wp2_with fail
  go_loopw [13] (fun i wr => ∃ k : Nat, k ≤ rows.length ∧ i = .int .i64 k ∧ Below w.heap.size w wr ∧ MapU wr (w.heap.size + 1 + 1) ((rows.take k).map (·.idx)) ∧
      Blk wr w.heap.size 66 #[.slice Ar rows.length cr, .slice Ag gens.length cg] ∧ Blk wr (w.heap.size + 1) 68 #[.int .i64 0, .int .i64 0]) (fun i _ => rows.length - (intOf i).toNat)
  case atStart => exact ⟨0, by omega, rfl, hbel0, by simpa using hM0, HB0, HQ0⟩
  case round =>
    clear HB0 HQ0 hbel0 hM0
    obtain ⟨k, hk, rfl, hbel, hM, HB, HQ⟩ := hrel
    have hMlt := hM.lt
    by_cases hlt : k < rows.length
    · have hR : RdR wr w.heap.size Ar rows := Rd.under hr hbel (Nat.le_refl _)
      obtain ⟨b, off, rfl, hb, hrow⟩ := hR.at_ hlt
      have hwz := hwr rows[k] (List.getElem_mem hlt)
      have htk : Hid ((rows.take (k + 1)).map (·.idx) = (rows.take k).map (·.idx) ++ [rows[k].idx]) := Lib.hid (by rw [List.take_add_one, List.getElem?_eq_getElem hlt, Option.toList_some, List.map_append]; rfl)
      generalize rows[k] = r at *
      have i0 : (0 : Int) ≤ (k : Int) := by omega
      have i1 : (k : Int) < (rows.length : Int) := by omega
      obtain ⟨c0, c1, c2⟩ := hrow.head
      obtain ⟨idx, gen, has, vals, h8⟩ := r
      obtain ⟨a0, a1, a2, a3, a4, a5, a6, a7, rfl⟩ := vals_eight h8
      have v0 := hrow 3 (.int .i64 a0) rfl; have v1 := hrow 4 (.int .i64 a1) rfl; have v2 := hrow 5 (.int .i64 a2) rfl; have v3 := hrow 6 (.int .i64 a3) rfl; have v4 := hrow 7 (.int .i64 a4) rfl; have v5 := hrow 8 (.int .i64 a5) rfl; have v6 := hrow 9 (.int .i64 a6) rfl; have v7 := hrow 10 (.int .i64 a7) rfl
      simp only at c0 c1 c2 hwz
      have hbw : b ≠ wr.heap.size := by have := hbel.size; omega
      have HB2 := HB.alloc (.cells #[.int .i64 idx, .int .i64 gen, .int .i64 has, .int .i64 a0, .int .i64 a1, .int .i64 a2, .int .i64 a3, .int .i64 a4, .int .i64 a5, .int .i64 a6, .int .i64 a7] 82)
      have HQ2 := HQ.alloc (.cells #[.int .i64 idx, .int .i64 gen, .int .i64 has, .int .i64 a0, .int .i64 a1, .int .i64 a2, .int .i64 a3, .int .i64 a4, .int .i64 a5, .int .i64 a6, .int .i64 a7] 82)
      have hbel2 := hbel.alloc hbel.size (.cells #[.int .i64 idx, .int .i64 gen, .int .i64 has, .int .i64 a0, .int .i64 a1, .int .i64 a2, .int .i64 a3, .int .i64 a4, .int .i64 a5, .int .i64 a6, .int .i64 a7] 82)
      have hM2 := hM.alloc (.cells #[.int .i64 idx, .int .i64 gen, .int .i64 has, .int .i64 a0, .int .i64 a1, .int .i64 a2, .int .i64 a3, .int .i64 a4, .int .i64 a5, .int .i64 a6, .int .i64 a7] 82)
      obtain ⟨D, m1, m2⟩ := hM2
      have hm2 := Lib.hid m2
      have hlk : ((rows.take k).map (·.idx)).length = k := by simp; omega
      rw [hlk] at m1
      have m1' := Lib.hid m1
      have hmx : k < maxLen := by unfold maxLen; omega
      clear m2 hrow hM HB HQ m1
      have HBh := Lib.hid HB2; have HQh := Lib.hid HQ2; have hbelh := Lib.hid hbel2
      clear HB2 HQ2 hbel2
      go_wp2_with (at_mapUpdate; refine wpList_mapUpdate_own _ rfl _ _ _ 115 rfl 3 4 keyInt Try.underlying115 _ (w.heap.size + 1 + 1) _ D rfl m1'.out hmx _ _ (.int .i64 idx) rfl rfl (keyOf_int_mk Try.underlying3 hwz) (.lit (.bool true)) [] (plainElem_bool Try.underlying4 true) ?_; intro w5 hown5 hgrow5)
      have hM5 : MapU w5 (w.heap.size + 1 + 1) ((rows.take (k + 1)).map (·.idx)) := by
        rw [htk.out]
        exact MapU.put (by rw [hlk]; exact m1'.out) hm2.out (by rw [hlk]; exact hown5)
      refine ⟨⟨k + 1, by omega, ?hn, hbelh.out.grown hgrow5 hbelh.out.size (fun k e => by cases e; omega), hM5, HBh.out.grown hgrow5 (by simp; omega), HQh.out.grown hgrow5 (by simp)⟩, ?hm⟩
      case hn => go_num
      case hm => simp [intOf]; omega
    · obtain rfl : k = rows.length := by omega
      rw [List.take_length] at hM
      have e0 := HB.cell 0; have e1 := HB.cell 1
      have q0 := HQ.cell 0; have q1 := HQ.cell 1; have z0 := HQ.frozen 0; have z1 := HQ.frozen 1
      simp at e0 e1 q0 q1
      have hblt := HB.lt; have hqlt := HQ.lt
      have hG : RdG wr w.heap.size Ag gens := Rd.under hg hbel (Nat.le_refl _)
      have hlook := Lib.hid (fun k (h : (Lit.int .i64 k).wf = true) => hM.look (k := k) h)
      have hSz := hbel.size
      generalize rows.map (·.idx) = used at *
      go_wp2_with fail
      obtain ⟨wo, rfl⟩ : ∃ wo : World, wo = wr := ⟨_, rfl⟩
      go_loopw [25] (fun i wr => ∃ k : Nat, k ≤ gens.length ∧ i = .int .i64 k ∧ wr = wo ∧ Hid (nextFrom used 0 gens = nextFrom used k (gens.drop k))) (fun i _ => gens.length - (intOf i).toNat)
      case atStart => exact ⟨0, by omega, rfl, rfl, Lib.hid (by simp)⟩
      case round =>
        obtain ⟨k, hk, rfl, rfl, hnf⟩ := hrel
        by_cases hlt : k < gens.length
        · obtain ⟨b, off, rfl, hb, hc⟩ := hG.at_ hlt
          have hst := Lib.hid (drop_cons hlt)
          have hwn := hwg gens[k] (List.getElem_mem hlt)
          generalize gens[k] = n at *
          have i0 : (0 : Int) ≤ (k : Int) := by omega
          have i1 : (k : Int) < (gens.length : Int) := by omega
          have hlk := hlook.out (k : Int) (wf_of (by omega) (by omega))
          have hnf2 : Hid (nextFrom used 0 gens = if !used.contains (k : Int) && decide (n < 1000) then some ((k : Int), n + 1) else nextFrom used (k + 1) (gens.drop (k + 1))) := Lib.hid (by rw [hnf.out, hst.out, nextFrom])
          clear hnf hst hM HB
          generalize used.contains (k : Int) = uk at *
          cases uk with
          | true =>
            have hnf3 : Hid (nextFrom used 0 gens = nextFrom used (k + 1) (gens.drop (k + 1))) := Lib.hid (by rw [hnf2.out, if_neg (by simp)])
            go_wp2_with fail
            go_roundw
            case rel => exact ⟨k + 1, by omega, by go_num, trivial, hnf3⟩
            case measure => simp [intOf]; omega
          | false =>
            by_cases hn : n < 1000
            · have hE : Hid (E = ((k : Int), n + 1, 0)) := Lib.hid (by rw [hnv.out, hnf2.out, if_pos (by simp [hn])])
              have hwrap : IntKind.i64.wrap (n + 1) = n + 1 := by rw [IntKind.wrap_i64]; omega
              have HQ2 := (HQ.set_ 0 (.int .i64 (k : Int))).set_ 1 (.int .i64 (n + 1))
              have r0 := HQ2.cell 0; have r1 := HQ2.cell 1
              simp at r0 r1
              go_wp2_with fail
              refine bodyPost_ret (v := .tuple #[.agg #[.int .i64 (k : Int), .int .i64 (n + 1)], .int .i64 0]) (by simp [results, Try.results66, go_sem, r0, r1]) rfl ⟨by rw [hE.out], (hbel.setCell (by simp) _).setCell (by simp) _⟩
            · have hnf3 : Hid (nextFrom used 0 gens = nextFrom used (k + 1) (gens.drop (k + 1))) := Lib.hid (by rw [hnf2.out, if_neg (by simp [hn])])
              go_wp2_with fail
              go_roundw
              case rel => exact ⟨k + 1, by omega, by go_num, trivial, hnf3⟩
              case measure => simp [intOf]; omega
        · obtain rfl : k = gens.length := by omega
          have hnf3 : Hid (E = if 60 ≤ gens.length then (0, 0, 4) else ((gens.length : Int), 1, 0)) := Lib.hid (by rw [hnv.out, hnf.out, List.drop_length]; rfl)
          clear hnf
          by_cases h60 : 60 ≤ gens.length
          · have hE : Hid (E = (0, 0, 4)) := Lib.hid (by rw [hnf3.out, if_pos h60])
            have HQ2 := (HQ.set_ 0 (.int .i64 0)).set_ 1 (.int .i64 0)
            have r0 := HQ2.cell 0; have r1 := HQ2.cell 1
            simp at r0 r1
            go_wp2_with fail
            refine bodyPost_ret (v := .tuple #[.agg #[.int .i64 0, .int .i64 0], .int .i64 4]) (by simp [results, Try.results66, go_sem, r0, r1]) rfl ⟨by rw [hE.out], (hbel.setCell (by simp) _).setCell (by simp) _⟩
          · have hE : Hid (E = ((gens.length : Int), 1, 0)) := Lib.hid (by rw [hnf3.out, if_neg h60])
            have HQ2 := (HQ.set_ 0 (.int .i64 (gens.length : Int))).set_ 1 (.int .i64 1)
            have r0 := HQ2.cell 0; have r1 := HQ2.cell 1
            simp at r0 r1
            go_wp2_with fail
            refine bodyPost_ret (v := .tuple #[.agg #[.int .i64 (gens.length : Int), .int .i64 1], .int .i64 0]) (by simp [results, Try.results66, go_sem, r0, r1]) rfl ⟨by rw [hE.out], (hbel.setCell (by simp) _).setCell (by simp) _⟩
end Go.Proofs.Ytefdblaolmckmaa
