/- The walks of the reference's Row and Same. Rows set by set. append onto a slice of the call's own, as one operation of a region that draws its order. -/
import Derived.Maps.AppendAt
import Derived.Test.YtefdblaolmckmabSBSpecOToSpecR
import Derived.Test.YtefdblaolmckmabSBSpecVToStoA
import Derived.Test.YtefdblaolmckmabSBPlainAToHp
namespace Go.Proofs.Ytefdblaolmckmab
open Go.RowKit
open Brood
set_option linter.unusedVariables false
set_option linter.unusedSimpArgs false
def RowAns (w : World) (v : Value) (o : Option BRow) : Prop :=
  match o with
  | none => v = .pointer none
  | some r => ∃ b o, v = .pointer (some ⟨b, o, none⟩) ∧ b < w.heap.size ∧ RowAt w b o r
theorem rowPtr_ans {w : World} {B : Nat} {A : Option Addr} {rows : List BRow} (hr : RdR w B A rows) (hB : B ≤ w.heap.size) (i g : Int) : RowAns w (rowPtr A i g rows) (rowOf i g rows) := by
  rw [findR_rowOf]
  unfold rowPtr
  cases h : findR i g rows with
  | none => exact rfl
  | some k =>
    have hk := findR_lt h
    obtain ⟨b, off, rfl, hb, hrow⟩ := hr.at_ hk
    simp only [Option.bind_some, List.getElem?_eq_getElem hk]
    exact ⟨b, off + k * 11, by simp [ptrAt], by omega, hrow⟩
set_option maxRecDepth 20000 in
set_option maxHeartbeats 3200000 in
theorem rrow_at (rows : List BRow) (gens : List Int) (Ar : Option Addr) (cr : Nat) (Ag : Option Addr) (cg : Nat) (i g : Int) (hlr : rows.length ≤ 9223372036854775807) (w : World) (hr : RdR w w.heap.size Ar rows) :
    Calls Try.prog 26 #[.agg #[.slice Ar rows.length cr, .slice Ag gens.length cg], .agg #[.int .i64 i, .int .i64 g]] w fun e w' => e = .returned (rowPtr Ar i g rows) ∧ Below w.heap.size w w' := by
  have hE : Hid (rowPtr Ar i g rows = ptrAt Ar (findR i g (rows.drop 0)) 0) := Lib.hid rfl
  generalize rowPtr Ar i g rows = E at *
  have H0 := ((Hp.start w).new w.heap.size rfl 25 [.slice Ar rows.length cr, .slice Ag gens.length cg]).new (w.heap.size + 1) (by simp) 27 [.int .i64 i, .int .i64 g]
  go_enter Try.func26, Try.ntmps26
  go_wp2_with fail
  go_loopw [9] (fun q wr => ∃ k : Nat, k ≤ rows.length ∧ q = .int .i64 k ∧ Hid (E = ptrAt Ar (findR i g (rows.drop k)) k) ∧ Hp w wr [.box w.heap.size 25 [.slice Ar rows.length cr, .slice Ag gens.length cg], .box (w.heap.size + 1) 27 [.int .i64 i, .int .i64 g]]) (fun q _ => rows.length - (intOf q).toNat)
  case atStart => exact ⟨0, by omega, rfl, hE, H0⟩
  case round =>
    clear H0 hE
    obtain ⟨k, hk, rfl, hE, H⟩ := hrel
    by_cases hlt : k < rows.length
    · have hR1 : RdR wr w.heap.size Ar rows := Rd.under hr H.bel (Nat.le_refl _)
      obtain ⟨b1, off, rfl, hb1, hrow⟩ := hR1.at_ hlt
      have hst := Lib.hid (@ptr_drop (some ⟨b1, off, none⟩) i g rows k hlt)
      generalize rows[k] = r at *
      have i0 : (0 : Int) ≤ (k : Int) := by omega
      have i1 : (k : Int) < (rows.length : Int) := by omega
      obtain ⟨c0, c1, c2⟩ := hrow.head
      have e0 := H.cell 0 0 rfl rfl; have e1 := H.cell 1 0 rfl rfl; have e2 := H.cell 1 1 rfl rfl
      have hq : ∀ W, (binOp .eql 27 (.agg #[.int .i64 r.idx, .int .i64 r.gen]) (.agg #[.int .i64 i, .int .i64 g])).run Try.prog W = .ok (.bool (isB i g r)) W := fun W => eqBeing _ _ _ _ W
      go_upto_region 4 with fail
      go_cut [19] (fun s19 wx => s19 = .bool (isB i g r) ∧ ∃ n, wx = wr.drewN n)
      case first =>
        go_quiet (fail)
        go_wp2_with fail
        go_meet
        exact ⟨rfl, _, rfl⟩
      case rest =>
        obtain ⟨rfl, n, rfl⟩ := hcut
        have H2 := H.drewN n
        have e0 := H2.cell 0 0 rfl rfl
        cases hB : isB i g r
        · rw [hB] at hst
          go_wp2_with fail
          go_roundw
          case rel => exact ⟨k + 1, by omega, by go_num, Lib.hid (by rw [hE.out, hst.out]; simp), H2⟩
          case measure => simp [intOf]; omega
        · rw [hB] at hst
          go_wp2_with fail
          go_ret
          refine ⟨?_, H2.bel⟩
          rw [hE.out, hst.out]
          rfl
    · obtain rfl : k = rows.length := by omega
      go_wp2_with fail
      go_ret
      refine ⟨?_, H.bel⟩
      rw [hE.out, List.drop_length]
      rfl
theorem rrow_any (rows : List BRow) (gens : List Int) (Ar : Option Addr) (cr : Nat) (Ag : Option Addr) (cg : Nat) (i g : Int) (hlr : rows.length ≤ 9223372036854775807) (w : World) (hr : RdR w w.heap.size Ar rows) :
    Calls Try.prog 26 #[.agg #[.slice Ar rows.length cr, .slice Ag gens.length cg], .agg #[.int .i64 i, .int .i64 g]] w fun e w' => (∃ v, e = .returned v ∧ RowAns w v (rowOf i g rows)) ∧ Below w.heap.size w w' := by
  refine (rrow_at rows gens Ar cr Ag cg i g hlr w hr).mono ?_
  rintro e w' ⟨rfl, hb⟩
  exact ⟨⟨_, rfl, rowPtr_ans hr (Nat.le_refl _) i g⟩, hb⟩
set_option maxRecDepth 20000 in
set_option maxHeartbeats 6400000 in
theorem rsame_any (rows : List BRow) (gens : List Int) (Ar : Option Addr) (cr : Nat) (Ag : Option Addr) (cg : Nat) (Ar' : Option Addr) (cr' : Nat) (Ag' : Option Addr) (cg' : Nat) (hlr : rows.length ≤ 9223372036854775807) (hlg : gens.length ≤ 9223372036854775807)
    (w : World) (hr : RdR w w.heap.size Ar rows) (hr' : RdR w w.heap.size Ar' rows) (hg : RdG w w.heap.size Ag gens) (hg' : RdG w w.heap.size Ag' gens) :
    Calls Try.prog 13 #[.agg #[.slice Ar rows.length cr, .slice Ag gens.length cg], .agg #[.slice Ar' rows.length cr', .slice Ag' gens.length cg']] w fun e w' => e = .returned (.bool true) ∧ Below w.heap.size w w' := by
  have H0 := ((Hp.start w).new w.heap.size rfl 25 [.slice Ar rows.length cr, .slice Ag gens.length cg]).new (w.heap.size + 1) (by simp) 25 [.slice Ar' rows.length cr', .slice Ag' gens.length cg']
  go_enter Try.func13, Try.ntmps13
  go_wp2_with fail
  go_loopw [26] (fun q wr => ∃ k : Nat, k ≤ rows.length ∧ q = .int .i64 k ∧ Hp w wr [.box w.heap.size 25 [.slice Ar rows.length cr, .slice Ag gens.length cg], .box (w.heap.size + 1) 25 [.slice Ar' rows.length cr', .slice Ag' gens.length cg']]) (fun q _ => rows.length - (intOf q).toNat)
  case atStart => exact ⟨0, by omega, rfl, H0⟩
  case round =>
    clear H0
    obtain ⟨k, hk, rfl, H⟩ := hrel
    by_cases hlt : k < rows.length
    · have hR1 : RdR wr w.heap.size Ar rows := Rd.under hr H.bel (Nat.le_refl _)
      have hR2 : RdR wr w.heap.size Ar' rows := Rd.under hr' H.bel (Nat.le_refl _)
      obtain ⟨b1, off, rfl, hb1, hrow⟩ := hR1.at_ hlt
      obtain ⟨b2, off2, rfl, hb2, hrow2⟩ := hR2.at_ hlt
      clear hR1 hR2
      generalize rows[k] = r at *
      have i0 : (0 : Int) ≤ (k : Int) := by omega
      have i1 : (k : Int) < (rows.length : Int) := by omega
      have e0 := H.cell 0 0 rfl rfl; have e1 := H.cell 1 0 rfl rfl
      have hq := fun W => neRow r r W
      obtain ⟨c0, c1, c2⟩ := hrow.head
      obtain ⟨d0, d1, d2⟩ := hrow2.head
      obtain ⟨idx, gen, has, vals, h8⟩ := r
      obtain ⟨a0, a1, a2, a3, a4, a5, a6, a7, rfl⟩ := vals_eight h8
      have v0 := hrow 3 (.int .i64 a0) rfl; have v1 := hrow 4 (.int .i64 a1) rfl; have v2 := hrow 5 (.int .i64 a2) rfl; have v3 := hrow 6 (.int .i64 a3) rfl; have v4 := hrow 7 (.int .i64 a4) rfl; have v5 := hrow 8 (.int .i64 a5) rfl; have v6 := hrow 9 (.int .i64 a6) rfl; have v7 := hrow 10 (.int .i64 a7) rfl
      have u0 := hrow2 3 (.int .i64 a0) rfl; have u1 := hrow2 4 (.int .i64 a1) rfl; have u2 := hrow2 5 (.int .i64 a2) rfl; have u3 := hrow2 6 (.int .i64 a3) rfl; have u4 := hrow2 7 (.int .i64 a4) rfl; have u5 := hrow2 8 (.int .i64 a5) rfl; have u6 := hrow2 9 (.int .i64 a6) rfl; have u7 := hrow2 10 (.int .i64 a7) rfl
      simp only at c0 c1 c2 d0 d1 d2
      have hrv : rowV ⟨idx, gen, has, [a0, a1, a2, a3, a4, a5, a6, a7], h8⟩ = .agg #[.int .i64 idx, .int .i64 gen, .int .i64 has, .int .i64 a0, .int .i64 a1, .int .i64 a2, .int .i64 a3, .int .i64 a4, .int .i64 a5, .int .i64 a6, .int .i64 a7] := rfl
      rw [hrv] at hq
      simp only [decide_true, Bool.not_true] at hq
      clear hrv hrow hrow2
      go_upto_region 6 with fail
      go_cut [39] (fun s39 wx => s39 = .bool false ∧ ∃ n, wx = wr.drewN n)
      case first =>
        go_quiet (fail)
        go_wp2_with fail
        go_meet
        exact ⟨rfl, _, rfl⟩
      case rest =>
        obtain ⟨rfl, n, rfl⟩ := hcut
        have H2 := H.drewN n
        go_wp2_with fail
        go_roundw
        case rel => exact ⟨k + 1, by omega, by go_num, H2⟩
        case measure => simp [intOf]; omega
    · obtain rfl : k = rows.length := by omega
      have e0 := H.cell 0 1 rfl rfl; have e1 := H.cell 1 1 rfl rfl
      clear hr hr'
      go_wp2_with fail
      go_loopw [44] (fun q wx => ∃ k : Nat, k ≤ gens.length ∧ q = .int .i64 k ∧ Hp w wx [.box w.heap.size 25 [.slice Ar rows.length cr, .slice Ag gens.length cg], .box (w.heap.size + 1) 25 [.slice Ar' rows.length cr', .slice Ag' gens.length cg']]) (fun q _ => gens.length - (intOf q).toNat)
      case atStart => exact ⟨0, by omega, rfl, H⟩
      case round =>
        clear H e0 e1
        obtain ⟨k, hk, rfl, H⟩ := hrel
        by_cases hlt : k < gens.length
        · have hR1 : RdG wr w.heap.size Ag gens := Rd.under hg H.bel (Nat.le_refl _)
          have hR2 : RdG wr w.heap.size Ag' gens := Rd.under hg' H.bel (Nat.le_refl _)
          obtain ⟨b1, off, rfl, hb1, c0⟩ := hR1.at_ hlt
          obtain ⟨b2, off2, rfl, hb2, d0⟩ := hR2.at_ hlt
          clear hR1 hR2 hg hg'
          generalize gens[k] = r at *
          have i0 : (0 : Int) ≤ (k : Int) := by omega
          have i1 : (k : Int) < (gens.length : Int) := by omega
          have e0 := H.cell 0 1 rfl rfl; have e1 := H.cell 1 1 rfl rfl
          go_upto_region 12 with fail
          go_cut [57] (fun s57 wx => s57 = .bool false ∧ ∃ n, wx = wr.drewN n)
          case first =>
            go_quiet (fail)
            go_wp2_with fail
            go_meet
            exact ⟨rfl, _, rfl⟩
          case rest =>
            obtain ⟨rfl, n, rfl⟩ := hcut
            have H2 := H.drewN n
            go_wp2_with fail
            go_roundw
            case rel => exact ⟨k + 1, by omega, by go_num, H2⟩
            case measure => simp [intOf]; omega
        · obtain rfl : k = gens.length := by omega
          go_wp2_with fail
          go_ret
          exact ⟨rfl, H.bel⟩
end Go.Proofs.Ytefdblaolmckmab

namespace Go.Proofs.Ytefdblaolmckmab
open Brood
set_option linter.unusedVariables false
set_option linter.unusedSimpArgs false
def grpAt (rows : List BRow) (k : Nat) : Grp := ⟨(k : Int), rows.filter (fun r => r.has == (k : Int))⟩
def upG (rows : List BRow) : Nat → List Grp
  | 0 => []
  | k + 1 => upG rows k ++ (if (grpAt rows k).rs = [] then [] else [grpAt rows k])
theorem upG_mem {rows : List BRow} : ∀ {k : Nat} {g : Grp}, g ∈ upG rows k ↔ ∃ j, j < k ∧ g = grpAt rows j ∧ (grpAt rows j).rs ≠ []
  | 0, g => by simp [upG]
  | k + 1, g => by
    rw [upG, List.mem_append, upG_mem]
    constructor
    · rintro (⟨j, h1, h2, h3⟩ | h)
      · exact ⟨j, by omega, h2, h3⟩
      · split at h
        · cases h
        · rename_i hn
          exact ⟨k, by omega, List.mem_singleton.1 h, hn⟩
    · rintro ⟨j, h1, h2, h3⟩
      by_cases e : j = k
      · subst e
        refine .inr ?_
        rw [if_neg h3, h2]
        exact List.mem_singleton.2 rfl
      · exact .inl ⟨j, by omega, h2, h3⟩
theorem upG_up {rows : List BRow} : ∀ k, (upG rows k).Pairwise (fun a b => a.h < b.h)
  | 0 => List.Pairwise.nil
  | k + 1 => by
    rw [upG, List.pairwise_append]
    refine ⟨upG_up k, ?_, fun a ha b hb => ?_⟩
    · split <;> simp
    · obtain ⟨j, h1, rfl, _⟩ := upG_mem.1 ha
      split at hb
      · cases hb
      · rw [List.mem_singleton.1 hb]
        show (j : Int) < (k : Int)
        omega
theorem flat_upG {rows : List BRow} : ∀ k, (flatG (upG rows k)).Perm (rows.filter (fun r => decide (0 ≤ r.has ∧ r.has < (k : Int))))
  | 0 => by
    have : rows.filter (fun r => decide (0 ≤ r.has ∧ r.has < ((0 : Nat) : Int))) = [] := by
      rw [List.filter_eq_nil_iff]
      intro r _
      simp <;> omega
    rw [this]
    exact List.Perm.refl _
  | k + 1 => by
    have ih := flat_upG (rows := rows) k
    have e1 : flatG (upG rows (k + 1)) = flatG (upG rows k) ++ (grpAt rows k).rs := by
      rw [upG]
      unfold flatG
      rw [List.flatMap_append]
      congr 1
      split
      · rename_i h
        rw [h]; rfl
      · simp
    rw [e1]
    refine (ih.append_right _).trans ?_
    unfold grpAt
    dsimp only
    clear ih e1
    induction rows with
    | nil => simp
    | cons r l ih =>
      simp only [List.filter_cons]
      by_cases h1 : 0 ≤ r.has ∧ r.has < (k : Int)
      · have h2 : ¬ r.has = (k : Int) := by omega
        have h3 : 0 ≤ r.has ∧ r.has < ((k + 1 : Nat) : Int) := by omega
        simp only [h1, h2, h3, decide_true, if_true, beq_eq_false_iff_ne.2 h2, and_self, Bool.false_eq_true, if_false, List.cons_append]
        exact ih.cons r
      · by_cases h2 : r.has = (k : Int)
        · have h3 : 0 ≤ r.has ∧ r.has < ((k + 1 : Nat) : Int) := by omega
          have h1' : decide (0 ≤ r.has ∧ r.has < (k : Int)) = false := decide_eq_false h1
          have h3' : decide (0 ≤ r.has ∧ r.has < ((k + 1 : Nat) : Int)) = true := decide_eq_true h3
          have h2' : (r.has == (k : Int)) = true := beq_iff_eq.2 h2
          rw [h1', h3', h2']
          simp only [Bool.false_eq_true, if_false, if_true]
          exact List.perm_middle.trans (ih.cons r)
        · have h3 : ¬ (0 ≤ r.has ∧ r.has < ((k + 1 : Nat) : Int)) := by omega
          have h1' : decide (0 ≤ r.has ∧ r.has < (k : Int)) = false := decide_eq_false h1
          have h3' : decide (0 ≤ r.has ∧ r.has < ((k + 1 : Nat) : Int)) = false := decide_eq_false h3
          have h2' : (r.has == (k : Int)) = false := beq_eq_false_iff_ne.2 h2
          rw [h1', h3', h2']
          simp only [Bool.false_eq_true, if_false]
          exact ih
theorem upG_all {rows : List BRow} {gens : List Int} (h : RightW rows gens) : upG rows 256 = ofG rows := by
  refine Rep.uniq (rows := rows) ⟨⟨upG_up 256, ?_, ?_, ?_, ?_⟩, ?_, h.rise⟩ h.rep
  · intro g hg
    obtain ⟨j, _, rfl, hn⟩ := upG_mem.1 hg
    exact hn
  · intro g hg r hr
    obtain ⟨j, _, rfl, _⟩ := upG_mem.1 hg
    exact beq_iff_eq.1 (List.mem_filter.1 hr).2
  · intro g hg
    obtain ⟨j, _, rfl, _⟩ := upG_mem.1 hg
    exact rise_sub h.rise List.filter_sublist
  · intro g hg r hr
    obtain ⟨j, _, rfl, _⟩ := upG_mem.1 hg
    exact h.row r (List.mem_filter.1 hr).1
  · have h1 := flat_upG (rows := rows) 256
    have h2 : rows.filter (fun r => decide (0 ≤ r.has ∧ r.has < ((256 : Nat) : Int))) = rows := by
      rw [List.filter_eq_self]
      intro r hr
      have := isSet_iff.1 (h.set_ r hr)
      exact decide_eq_true (by omega)
    rw [h2] at h1
    exact h1
end Go.Proofs.Ytefdblaolmckmab

namespace Go.Proofs.Ytefdblaolmckmab
open Go.RowKit
theorem eval_tmp {a : Act} {t : Nat} {v : Value} (h : a.tmps[t]?.getD undef = v) : a.eval (.tmp t) = v := by
  rw [← h]
  simp [Act.eval, Array.getD_eq_getD_getElem?]
theorem oper_append_own {P : Program} {o : Oper} {a : Act} {w : World} {K : Act → World → Prop} {Q : Exit → Act → World → Prop} (s x : Operand) (t : TypeId)
    (ho : o.op = .call { callee := .builtin .append, args := #[s, x], argTypes := #[t, t] })
    (base : Nat) (e : TypeId) (i : TypeInfo) (z : Value) (size bytes : Nat) (ht : P.underlying t = some (.slice e)) (hi : P.info? e = some i) (hz : i.zero = some z)
    (hsize : i.size = size) (hby : i.bytes = bytes) (hzs : z.cells.size = size) (hsz : 0 < size)
    (v : Value) (n : Nat) (xs : List Value) (hs : a.eval s = v) (hown : w.ownsRow base e size v n xs)
    (ad : Addr) (m c : Nat) (news : List Value) (hx : a.eval x = .slice (some ad) m c) (hl : news.length = m * size) (hnews : ∀ j u, news[j]? = some u → w.cell? (ad.add j) = some u) (h1 : ∀ u ∈ news, u.oneCell' = true)
    (h63 : n + m ≤ maxLen) (hbytes : (n + m) * bytes ≤ 140737488355328) (hbase : base ≤ w.heap.size)
    (h : ∀ v' w', w'.ownsRow base e size v' (n + m) (xs ++ news) → w.grownBy w' v.ownBlock → (v'.ownBlock = v.ownBlock ∨ v'.ownBlock = some w.heap.size) → K (a.put o.dst v') w') :
    o.wp P a w K Q := by
  obtain ⟨v', w', hr, h2, h3, h4, h5⟩ := run_append_own_at (P := P) w base t o.type e i z size bytes ht hi hz hsize hby hzs hsz v n xs hown ad m c news hl hnews h1 h63 hbytes hbase
  unfold Oper.wp execOp
  simp only [ho, resolve, invoke, builtin, Sem.run_bind, Sem.run_pure, Result.andThen_ok, List.map_toArray, List.map_cons, List.map_nil, hs, hx, hr]
  exact h v' w' h2 h3 h5
end Go.Proofs.Ytefdblaolmckmab
