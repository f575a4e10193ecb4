/- From a walk to a statement: whatever a law takes, its arguments read behind the call as they did, if nothing that was there has turned. What comes in, read as plain data: slices of whatever elements. A world as a value that can be read. A world that comes in, read as plain data. How large what comes in can be: the form's own reach, at a world. -/
import Derived.Test.YtefdblaolmckmabRows
import Derived.WalkKit
import Derived.ProofKit
import Derived.OpenShut
import Derived.ChangeOld
import Derived.Below
import Derived.JoinedCond
import Derived.Deep.CondSized
import Derived.Deep.Slices
import Derived.Test.YtefdblaolmckmabBMem
import Derived.Test.YtefdblaolmckmabBRule
import Derived.Test.YtefdblaolmckmabBSpec
namespace Go.Proofs.Ytefdblaolmckmab
open Go.ChangeShapes Go.WideShapes Go.ChangeAt Go.RowKit

theorem own : ownKnob Try.prog.godebug = none := by kernel_rfl
theorem laidOut : laidOutB Try.prog = true := by kernel_rfl
theorem boolT : Try.prog.underlying 4 = some .bool := Try.underlying4

section
variable {H : Type} {enc : TypeId × Value → H} {W W' : World}
theorem below_all : ∀ (ts : List TypeId) (vs : List Value) (ds : List (DataW H)) (p : List MemPlace),
    (∀ t ∈ ts, Try.prog.readableRec t = true ∧ t < Try.prog.types.size) →
    DataW.TrodAll enc Try.prog W 0 (fun _ => true) true ts vs ds p → Below W.heap.size W W' → (∀ x ∈ p, x.block < W.heap.size) →
    DataW.TrodAll enc Try.prog W' 0 (fun b => decide (b < W.heap.size)) true ts vs ds p := by
  intro ts
  induction ts with
  | nil =>
    intro vs ds p _ h _ _
    obtain ⟨rfl, rfl, rfl⟩ := trodAll_nil h
    exact trodAll_mk0
  | cons t ts ih =>
    intro vs ds p hr h hb hlt
    obtain ⟨v, vs', d, ds', p1, q1, rfl, rfl, rfl, h0, r0⟩ := trodAll_cons h
    have ht := hr t (by simp)
    exact trodAll_cons_mk (Below.trod laidOut ht.1 ht.2 h0 hb (fun x hx => hlt x (by simp [hx]))) (ih _ _ _ (fun u hu => hr u (by simp [hu])) r0 hb (fun x hx => hlt x (by simp [hx])))
theorem lt_all : ∀ (ts : List TypeId) (vs : List Value) (ds : List (DataW H)) (p : List MemPlace),
    DataW.TrodAll enc Try.prog W 0 (fun _ => true) true ts vs ds p → ∀ x ∈ p, x.block < W.heap.size := by
  intro ts
  induction ts with
  | nil =>
    intro vs ds p h
    obtain ⟨rfl, rfl, rfl⟩ := trodAll_nil h
    simp
  | cons t ts ih =>
    intro vs ds p h
    obtain ⟨v, vs', d, ds', p1, q1, rfl, rfl, rfl, h0, r0⟩ := trodAll_cons h
    intro x hx
    rcases List.mem_append.1 hx with hx | hx
    · obtain ⟨m, hm⟩ := h0
      exact DataW.trod_lt m _ _ _ hm x hx
    · exact ih _ _ _ r0 x hx
theorem len_all : ∀ (ts : List TypeId) (vs : List Value) (ds : List (DataW H)) (p : List MemPlace) {base : Nat} {sp : Nat → Bool} {hd : Bool},
    DataW.TrodAll enc Try.prog W base sp hd ts vs ds p → ds.length = ts.length := by
  intro ts
  induction ts with
  | nil =>
    intro vs ds p _ _ _ h
    obtain ⟨rfl, rfl, rfl⟩ := trodAll_nil h
    rfl
  | cons t ts ih =>
    intro vs ds p _ _ _ h
    obtain ⟨v, vs', d, ds', p1, q1, rfl, rfl, rfl, h0, r0⟩ := trodAll_cons h
    simp [ih _ _ _ r0]
theorem law_post {f : Func} {s : ChangeSpec} {args : Array Value} {ds gs : List (DataW H)} {before : List MemPlace}
    (hv : s.vars = []) (hr : f.resultTypes = #[4]) (hrd : ∀ t ∈ f.params.toList, Try.prog.readableRec t = true ∧ t < Try.prog.types.size)
    (hs : ∀ ds : List (DataW H), ds.length = f.params.toList.length → s.fn H ds = { results := [.lit (.bool true)], args := ds })
    (hW : DataW.Whole enc Try.prog f.params.toList s.vars false W args.toList ds gs before) (hb : Below W.heap.size W W') :
    s.post enc Try.prog f false true false false W args (.bool true) W' := by
  have hW' := hW
  obtain ⟨p, q, hA, hV, rfl, hfz, hnd⟩ := hW
  rw [hv] at hV
  obtain ⟨rfl, rfl⟩ := trodVars_none hV
  have hl := len_all _ _ _ _ hA
  have e : s.fn H (ds ++ []) = { results := [.lit (.bool true)], args := ds } := by rw [List.append_nil]; exact hs ds hl
  refine ⟨ds, [], p ++ [], [], p, [], hW', ?_, ?_, ?_, hb.frame _, fun h => by cases h⟩
  · rw [e, hr]
    exact trodAll_mk1 (shut_bool boolT _)
  · rw [e]
    exact below_all _ _ _ _ hrd hA hb (lt_all _ _ _ _ hA)
  · rw [hv, e]
    exact rfl
end
end Go.Proofs.Ytefdblaolmckmab

namespace Go.Proofs.Ytefdblaolmckmab
open Go.ChangeShapes Go.WideShapes Go.ChangeAt Go.RowKit Go.Deep
set_option linter.unusedVariables false
set_option linter.unusedSimpArgs false

section
variable {H : Type} {enc : TypeId × Value → H} {w : World} {base : Nat} {spare : Nat → Bool} {held : Bool}
theorem addr_add (a : Addr) (h : a.spot = none) (i : Nat) : a.add i = ⟨a.block, a.off + i, none⟩ := by
  obtain ⟨b, o, s⟩ := a
  simp only at h
  subst h
  exact add_mk b o i
/-- A slice that came in, element by element: 'R' says what an element's cells read as. -/
theorem open_list {α : Type} (d0 : α) (R : List Value → α → Prop) {t e : TypeId} {m : Nat} {fuel : Nat} {cs : List Value} {x : DataW H × List MemPlace}
    (ht : Try.prog.underlying t = some (.slice e)) (hm : Try.prog.cellsOf e = m) (hm0 : 0 < m)
    (hread : ∀ (n : Nat) (cs' : List Value) (y : DataW H × List MemPlace), cs'.length = m → DataW.trod enc Try.prog w base spare held n e cs' = some y → ∃ a, R cs' a)
    (h : DataW.trod enc Try.prog w base spare held fuel t cs = some x) :
    ∃ (A : Option Addr) (len cap : Nat) (l : List α) (css : List (List Value)), cs = [.slice A len cap] ∧ l.length = len ∧ css.length = len ∧ len ≤ cap ∧ cap ≤ maxLen ∧
      (∀ c ∈ css, c.length = m) ∧ (∀ (i : Nat) (c : List Value) (a : α), css[i]? = some c → l[i]? = some a → R c a) ∧ Rd w w.heap.size m A len css.flatten := by
  rcases open_slice ht h with ⟨rfl, _⟩ | ⟨a, len, cap, k, n, D, Pl, rfl, hb, hl, hc, hk, _, hi⟩
  · exact ⟨none, 0, 0, [], [], rfl, rfl, rfl, Nat.le_refl _, Nat.zero_le _, by simp, by simp, Rd.nil_⟩
  · have hkl : len ≤ k := by rw [hk]; split <;> omega
    have hex : ∀ i, ∃ p : List Value × α, i < len → p.1.length = m ∧ (∀ j, j < m → w.cell? ((a.add (i * m)).add j) = p.1[j]?) ∧ R p.1 p.2 := by
      intro i
      by_cases hlt : i < len
      · obtain ⟨cs', h1, h2⟩ := hi i (by omega)
        rw [hm] at h1
        obtain ⟨_, hlen, hcell⟩ := World.cells?_some h1
        obtain ⟨y, hy⟩ := hread n cs' _ hlen h2
        exact ⟨(cs', y), fun _ => ⟨hlen, hcell, hy⟩⟩
      · exact ⟨([], d0), fun h => absurd h hlt⟩
    obtain ⟨p, hp⟩ := Classical.axiomOfChoice hex
    refine ⟨some a, len, cap, (List.range len).map fun i => (p i).2, (List.range len).map fun i => (p i).1, rfl, by simp, by simp, hl, hc, ?_, ?_, ?_, ?_⟩
    · intro c hc
      simp only [List.mem_map, List.mem_range] at hc
      obtain ⟨i, hi, rfl⟩ := hc
      exact (hp i hi).1
    · intro i c a' h1 h2
      by_cases hlt : i < len
      · simp [hlt] at h1 h2
        subst h1 h2
        exact (hp i hlt).2.2
      · simp [hlt] at h1
    · have hf : ∀ q, q ≤ len → ((List.range q).map fun i => (p i).1).flatten.length = q * m := by
        intro q
        induction q with
        | zero => intro _; simp
        | succ q ih =>
          intro hq
          rw [List.range_succ, List.map_append, List.flatten_append, List.length_append, ih (by omega)]
          simp [(hp q (by omega)).1, Nat.succ_mul]
      exact hf len (Nat.le_refl _)
    · intro hn
      have hc0 := (hp 0 hn).2.1 0 hm0
      have hsome : ∃ u, (p 0).1[0]? = some u := ⟨_, List.getElem?_eq_getElem (by rw [(hp 0 hn).1]; exact hm0)⟩
      obtain ⟨u, hu⟩ := hsome
      rw [hu] at hc0
      have ha0 : (a.add (0 * m)).add 0 = a := by simp [Addr.add]
      rw [ha0] at hc0
      have hspot : a.spot = none := World.cell?_spot hc0
      have hblk : a.block < w.heap.size := by
        rcases Nat.lt_or_ge a.block w.heap.size with h | h
        · exact h
        · exfalso
          have : w.cell? a = none := by simp [World.cell?, Array.getElem?_eq_none h]
          rw [this] at hc0
          cases hc0
      refine ⟨a.block, a.off, by obtain ⟨b, o, s⟩ := a; simp only at hspot; subst hspot; rfl, hblk, ?_⟩
      intro j u hu
      have key : ∀ q, q ≤ len → ∀ j u, ((List.range q).map fun i => (p i).1).flatten[j]? = some u → w.cell? ⟨a.block, a.off + j, none⟩ = some u := by
        have hfl : ∀ q, q ≤ len → ((List.range q).map fun i => (p i).1).flatten.length = q * m := by
          intro q
          induction q with
          | zero => intro _; simp
          | succ q ih =>
            intro hq
            rw [List.range_succ, List.map_append, List.flatten_append, List.length_append, ih (by omega)]
            simp [(hp q (by omega)).1, Nat.succ_mul]
        intro q
        induction q with
        | zero => intro _ j u h; simp at h
        | succ q ih =>
          intro hq j u h
          rw [List.range_succ, List.map_append, List.flatten_append] at h
          by_cases hj : j < q * m
          · rw [List.getElem?_append_left (by rw [hfl q (by omega)]; exact hj)] at h
            exact ih (by omega) j u h
          · rw [List.getElem?_append_right (by rw [hfl q (by omega)]; omega), hfl q (by omega)] at h
            simp only [List.map_cons, List.map_nil, List.flatten_cons, List.flatten_nil, List.append_nil] at h
            have hjm : j - q * m < m := by
              have := (List.getElem?_eq_some_iff.1 h).1
              rw [(hp q (by omega)).1] at this
              exact this
            have hcell := (hp q (by omega)).2.1 (j - q * m) hjm
            rw [h, addr_add a hspot, add_mk] at hcell
            have e : a.off + q * m + (j - q * m) = a.off + j := by omega
            rw [e] at hcell
            exact hcell
      exact key len (Nat.le_refl _) j u hu
theorem flat_of {α : Type} {f : α → List Value} : ∀ {l : List α} {css : List (List Value)}, css.length = l.length → (∀ (i : Nat) (c : List Value) (a : α), css[i]? = some c → l[i]? = some a → c = f a) → css.flatten = l.flatMap f := by
  intro l
  induction l with
  | nil => intro css h _; simp at h; subst h; rfl
  | cons a l ih =>
    intro css h hr
    cases css with
    | nil => simp at h
    | cons c css =>
      have h0 := hr 0 c a rfl rfl
      subst h0
      rw [List.flatten_cons, List.flatMap_cons, ih (by simpa using h) (fun i c b h1 h2 => hr (i + 1) c b (by simpa using h1) (by simpa using h2))]
theorem fld {n : Nat} {fs : Array Field} {cs : List Value} {xs : List (DataW H × List MemPlace)} (hf : ∀ (i : Nat) (f : Field), fs[i]? = some f → DataW.trod enc Try.prog w base spare held n f.type (List.take (Try.prog.cellsOf f.type) (List.drop f.offset cs)) = xs[i]?)
    (i : Nat) (f : Field) (h : fs[i]? = some f) (T off k : Nat) (hT : f.type = T) (ho : f.offset = off) (hk : Try.prog.cellsOf T = k) : DataW.trod enc Try.prog w base spare held n T (List.take k (List.drop off cs)) = xs[i]? := by
  subst hT ho hk
  exact hf i f h
theorem cInt : Try.prog.cellsOf 3 = 1 := by kernel_rfl
theorem cBool : Try.prog.cellsOf 4 = 1 := by kernel_rfl
theorem cFilter : Try.prog.cellsOf 29 = 2 := by kernel_rfl
end
end Go.Proofs.Ytefdblaolmckmab

namespace Go.Proofs.Ytefdblaolmckmab
open Go.RowKit
open Brood
set_option linter.unusedVariables false
set_option linter.unusedSimpArgs false

end Go.Proofs.Ytefdblaolmckmab

namespace Go.Proofs.Ytefdblaolmckmab
open Go.ChangeShapes Go.WideShapes Go.ChangeAt Go.RowKit Go.Deep
open Brood
set_option linter.unusedVariables false
set_option linter.unusedSimpArgs false
section
variable {H : Type} {enc : TypeId × Value → H} {w : World} {base : Nat} {spare : Nat → Bool} {held : Bool}
theorem cBeing : Try.prog.cellsOf 27 = 2 := by kernel_rfl
theorem cVals : Try.prog.cellsOf 49 = 8 := by kernel_rfl
theorem cRows : Try.prog.cellsOf 22 = 1 := by kernel_rfl
theorem cGens : Try.prog.cellsOf 23 = 1 := by kernel_rfl
theorem slice_nil {t e : TypeId} {fuel n c : Nat} {x : DataW H × List MemPlace} (ht : Try.prog.underlying t = some (.slice e)) (h : DataW.trod enc Try.prog w base spare held fuel t [.slice none n c] = some x) : n = 0 ∧ c = 0 := by
  rcases DataW.trod_slice ht h with ⟨h, _⟩ | ⟨a, len, cap, _, _, _, _, h, _⟩
  · injection h with h; injection h with _ h1 h2; exact ⟨h1, h2⟩
  · injection h with h; injection h with h1; cases h1
theorem open_vals {fuel : Nat} {cs : List Value} {x : DataW H × List MemPlace} (hlen : cs.length = 8) (h : DataW.trod enc Try.prog w base spare held fuel 49 cs = some x) :
    ∃ vs : List Int, vs.length = 8 ∧ cs = ints vs := by
  obtain ⟨xs, m, _, _, _, hx, hi⟩ := DataW.trod_array Try.underlying49 h
  rw [cInt] at hi
  have key : ∀ i, i < 8 → ∃ n : Int, cs[i]? = some (.int .i64 n) := by
    intro i h8
    have hxi : xs[i]? = some xs[i] := List.getElem?_eq_getElem (by omega)
    obtain ⟨n, hn, _, _⟩ := DataW.trod_int Try.underlying3 ((hi i h8).trans hxi)
    refine ⟨n, ?_⟩
    have h0 : ((cs.drop (i * 1)).take 1)[0]? = some (.int .i64 n) := by rw [hn]; rfl
    rw [List.getElem?_take_of_lt (by omega), List.getElem?_drop] at h0
    simpa using h0
  clear h hi hx
  match cs, hlen, key with
  | [c0, c1, c2, c3, c4, c5, c6, c7], _, key =>
    obtain ⟨n0, e0⟩ := key 0 (by omega); obtain ⟨n1, e1⟩ := key 1 (by omega); obtain ⟨n2, e2⟩ := key 2 (by omega); obtain ⟨n3, e3⟩ := key 3 (by omega)
    obtain ⟨n4, e4⟩ := key 4 (by omega); obtain ⟨n5, e5⟩ := key 5 (by omega); obtain ⟨n6, e6⟩ := key 6 (by omega); obtain ⟨n7, e7⟩ := key 7 (by omega)
    simp at e0 e1 e2 e3 e4 e5 e6 e7
    subst e0 e1 e2 e3 e4 e5 e6 e7
    exact ⟨[n0, n1, n2, n3, n4, n5, n6, n7], rfl, rfl⟩
set_option maxRecDepth 100000 in
theorem open_row {fuel : Nat} {cs : List Value} {x : DataW H × List MemPlace} (hlen : cs.length = 11) (hf : DataW.trod enc Try.prog w base spare held fuel 51 cs = some x) :
    ∃ r : BRow, cs = rowCells r ∧ (Lit.int .i64 r.idx).wf = true := by
  match cs, hlen with
  | [c0, c1, c2, c3, c4, c5, c6, c7, c8, c9, c10], _ =>
    obtain ⟨xs, n, _, _, _, hxl, hg⟩ := DataW.trod_struct Try.underlying51 hf
    have g0 := fld hg 0 _ rfl 27 0 2 rfl rfl cBeing; have g1 := fld hg 1 _ rfl 3 2 1 rfl rfl cInt; have g2 := fld hg 2 _ rfl 49 3 8 rfl rfl cVals
    match xs, hxl with
    | [y0, y1, y2], _ =>
      obtain ⟨xs', n', _, _, _, hxl', hg'⟩ := DataW.trod_struct Try.underlying27 g0
      have k0 := fld hg' 0 _ rfl 3 0 1 rfl rfl cInt; have k1 := fld hg' 1 _ rfl 3 1 1 rfl rfl cInt
      match xs', hxl' with
      | [z0, z1], _ =>
        obtain ⟨i, e0, _, hwf⟩ := DataW.trod_int Try.underlying3 k0
        obtain ⟨g, e1, _, _⟩ := DataW.trod_int Try.underlying3 k1
        obtain ⟨has, e2, _, _⟩ := DataW.trod_int Try.underlying3 g1
        obtain ⟨vs, h8, e3⟩ := open_vals (by simp) g2
        simp at e0 e1 e2 e3
        subst e0 e1 e2
        exact ⟨⟨i, g, has, vs, h8⟩, by simp [rowCells, e3], hwf⟩
set_option maxRecDepth 100000 in
theorem open_gens {fuel : Nat} {cs : List Value} {x : DataW H × List MemPlace} (h : DataW.trod enc Try.prog w base spare held fuel 23 cs = some x) :
    ∃ (A : Option Addr) (cap : Nat) (l : List Int), cs = [.slice A l.length cap] ∧ l.length ≤ cap ∧ cap ≤ maxLen ∧ RdG w w.heap.size A l ∧ ∀ n ∈ l, (Lit.int .i64 n).wf = true := by
  obtain ⟨A, len, cap, l, css, rfl, hl, hcl, h1, h2, hc1, hR, hrd⟩ := open_list (m := 1) (α := Int) 0 (fun c a => c = [.int .i64 a] ∧ (Lit.int .i64 a).wf = true) Try.underlying23 (by kernel_rfl) (by omega) (by
    intro n cs' y hlen hy
    obtain ⟨a, e, _, hwf⟩ := DataW.trod_int Try.underlying3 hy
    exact ⟨a, e, hwf⟩) h
  subst hl
  refine ⟨A, cap, l, rfl, h1, h2, ?_, ?_⟩
  · unfold RdG
    have e : ints l = l.flatMap (fun a => [Value.int .i64 a]) := by
      unfold ints
      exact List.map_eq_flatMap
    rw [e, ← flat_of hcl (fun i c a h1 h2 => (hR i c a h1 h2).1)]; exact hrd
  · intro x hx
    obtain ⟨i, hi⟩ := List.getElem?_of_mem hx
    have hlt : i < css.length := by rw [hcl]; exact (List.getElem?_eq_some_iff.1 hi).1
    exact (hR i css[i] x (List.getElem?_eq_getElem hlt) hi).2
set_option maxRecDepth 100000 in
theorem open_rows {fuel : Nat} {cs : List Value} {x : DataW H × List MemPlace} (h : DataW.trod enc Try.prog w base spare held fuel 22 cs = some x) :
    ∃ (A : Option Addr) (cap : Nat) (l : List BRow), cs = [.slice A l.length cap] ∧ l.length ≤ cap ∧ cap ≤ maxLen ∧ RdR w w.heap.size A l ∧ ∀ r ∈ l, (Lit.int .i64 r.idx).wf = true := by
  obtain ⟨A, len, cap, l, css, rfl, hl, hcl, h1, h2, hc1, hR, hrd⟩ := open_list (m := 11) (α := BRow) ⟨0, 0, 0, [0, 0, 0, 0, 0, 0, 0, 0], rfl⟩ (fun c a => c = rowCells a ∧ (Lit.int .i64 a.idx).wf = true) Try.underlying22 (by kernel_rfl) (by omega) (by
    intro n cs' y hlen hy
    exact open_row hlen hy) h
  subst hl
  refine ⟨A, cap, l, rfl, h1, h2, ?_, ?_⟩
  · unfold RdR
    rw [← flat_of hcl (fun i c a h1 h2 => (hR i c a h1 h2).1)]; exact hrd
  · intro x hx
    obtain ⟨i, hi⟩ := List.getElem?_of_mem hx
    have hlt : i < css.length := by rw [hcl]; exact (List.getElem?_eq_some_iff.1 hi).1
    exact (hR i css[i] x (List.getElem?_eq_getElem hlt) hi).2
set_option maxRecDepth 100000 in
theorem open_world {r : Reach} {b0 : Nat} {v : Value} {d : DataW H} {p : List MemPlace} (hv : Value.okWide Try.prog w r b0 25 v) (h : DataW.Trod enc Try.prog w base spare held 25 v d p) :
    ∃ (rows : List BRow) (gens : List Int) (Ar : Option Addr) (cr : Nat) (Ag : Option Addr) (cg : Nat), v = .agg #[.slice Ar rows.length cr, .slice Ag gens.length cg] ∧ WIn w w.heap.size v rows gens Ar cr Ag cg ∧
      rows.length ≤ maxLen ∧ gens.length ≤ maxLen ∧ (∀ r ∈ rows, (Lit.int .i64 r.idx).wf = true) ∧ (∀ n ∈ gens, (Lit.int .i64 n).wf = true) := by
  obtain ⟨cs, rfl, hsz⟩ := okWide_struct Try.underlying25 hv
  obtain ⟨fuel, hf⟩ := h
  rw [show Try.prog.cellsOf 25 = 2 from by kernel_rfl] at hsz
  obtain ⟨l⟩ := cs
  match l, hsz with
  | [c0, c1], _ =>
    obtain ⟨xs, n, _, _, _, hxl, hg⟩ := DataW.trod_struct Try.underlying25 hf
    have g0 := fld hg 0 _ rfl 22 0 1 rfl rfl cRows; have g1 := fld hg 1 _ rfl 23 1 1 rfl rfl cGens
    match xs, hxl with
    | [y0, y1], _ =>
      have n0 := g0; have n1 := g1
      obtain ⟨A, cap, rows, e0, h1, h2, hrd, hw⟩ := open_rows g0
      obtain ⟨A', cap', gens, e1, h1', h2', hrd', hw'⟩ := open_gens g1
      simp [Value.cells] at e0 e1
      subst e0 e1
      refine ⟨rows, gens, A, cap, A', cap', rfl, ⟨rfl, hrd, hrd', ?_, ?_⟩, by omega, by omega, hw, hw'⟩
      · rintro rfl
        obtain ⟨q1, q2⟩ := slice_nil Try.underlying22 n0
        exact ⟨q2, List.eq_nil_of_length_eq_zero q1⟩
      · rintro rfl
        obtain ⟨q1, q2⟩ := slice_nil Try.underlying23 n1
        exact ⟨q2, List.eq_nil_of_length_eq_zero q1⟩
theorem cFilt : Try.prog.cellsOf 29 = 2 := by kernel_rfl
set_option maxRecDepth 100000 in
theorem open_being {r : Reach} {b0 : Nat} {v : Value} {d : DataW H} {p : List MemPlace} (hv : Value.okWide Try.prog w r b0 27 v) (h : DataW.Trod enc Try.prog w base spare held 27 v d p) :
    ∃ i g : Int, v = .agg #[.int .i64 i, .int .i64 g] := by
  obtain ⟨cs, rfl, hsz⟩ := okWide_struct Try.underlying27 hv
  obtain ⟨fuel, hf⟩ := h
  rw [cBeing] at hsz
  obtain ⟨l⟩ := cs
  match l, hsz with
  | [c0, c1], _ =>
    obtain ⟨xs, n, _, _, _, hxl, hg⟩ := DataW.trod_struct Try.underlying27 hf
    have g0 := fld hg 0 _ rfl 3 0 1 rfl rfl cInt; have g1 := fld hg 1 _ rfl 3 1 1 rfl rfl cInt
    match xs, hxl with
    | [y0, y1], _ =>
      obtain ⟨a, e0, _, _⟩ := DataW.trod_int Try.underlying3 g0
      obtain ⟨b, e1, _, _⟩ := DataW.trod_int Try.underlying3 g1
      simp [Value.cells] at e0 e1
      subst e0 e1
      exact ⟨a, b, rfl⟩
set_option maxRecDepth 100000 in
theorem open_filter {r : Reach} {b0 : Nat} {v : Value} {d : DataW H} {p : List MemPlace} (hv : Value.okWide Try.prog w r b0 29 v) (h : DataW.Trod enc Try.prog w base spare held 29 v d p) :
    ∃ a n : Int, v = .agg #[.int .i64 a, .int .i64 n] := by
  obtain ⟨cs, rfl, hsz⟩ := okWide_struct Try.underlying29 hv
  obtain ⟨fuel, hf⟩ := h
  rw [cFilt] at hsz
  obtain ⟨l⟩ := cs
  match l, hsz with
  | [c0, c1], _ =>
    obtain ⟨xs, n, _, _, _, hxl, hg⟩ := DataW.trod_struct Try.underlying29 hf
    have g0 := fld hg 0 _ rfl 3 0 1 rfl rfl cInt; have g1 := fld hg 1 _ rfl 3 1 1 rfl rfl cInt
    match xs, hxl with
    | [y0, y1], _ =>
      obtain ⟨a, e0, _, _⟩ := DataW.trod_int Try.underlying3 g0
      obtain ⟨b, e1, _, _⟩ := DataW.trod_int Try.underlying3 g1
      simp [Value.cells] at e0 e1
      subst e0 e1
      exact ⟨a, b, rfl⟩
end
end Go.Proofs.Ytefdblaolmckmab

namespace Go.Proofs.Ytefdblaolmckmab
open Go.ChangeShapes Go.WideShapes Go.ChangeAt Go.RowKit Go.Deep
open Brood
set_option linter.unusedVariables false
set_option linter.unusedSimpArgs false
section
variable {H : Type} {enc : TypeId × Value → H} {w : World} {base : Nat} {spare : Nat → Bool} {held : Bool}
theorem slice_bulk {t e : TypeId} {fuel n c sz : Nat} {A : Option Addr} {x : DataW H × List MemPlace} (ht : Try.prog.underlying t = some (.slice e)) (hs : Try.prog.bytesOf e = sz) (h : DataW.trod enc Try.prog w base spare held fuel t [.slice A n c] = some x)
    (hw : ∀ k ∈ x.1.weights Try.prog t, k ≤ reachBytes) : n * sz ≤ reachBytes := by
  rcases DataW.trod_slice ht h with ⟨h1, rfl⟩ | ⟨a, len, cap, elems, rest, _, _, h1, rfl, _, _, _, hl, _⟩
  · injection h1 with h1
    injection h1 with _ h1 _
    subst h1
    simp
  · injection h1 with h1
    injection h1 with _ h1 _
    subst h1
    have := hw ((elems.length + rest.length) * Try.prog.bytesOf e) (by simp [DataW.weights, ht])
    rw [hs] at this
    exact Nat.le_trans (Nat.mul_le_mul_right sz (by omega)) this
theorem bRow : Try.prog.bytesOf 51 = 88 := by kernel_rfl
theorem bInt : Try.prog.bytesOf 3 = 8 := by kernel_rfl
set_option maxRecDepth 100000 in
theorem world_bulk {n m cr cg : Nat} {Ar Ag : Option Addr} {d : DataW H} {p : List MemPlace} (h : DataW.Trod enc Try.prog w base spare held 25 (.agg #[.slice Ar n cr, .slice Ag m cg]) d p)
    (hw : ∀ k ∈ d.weights Try.prog 25, k ≤ reachBytes) : n * 88 ≤ reachBytes ∧ m * 8 ≤ reachBytes := by
  obtain ⟨fuel, hf⟩ := h
  obtain ⟨xs, n', _, hx, _, hxl, hg⟩ := DataW.trod_struct Try.underlying25 hf
  have g0 := fld hg 0 _ rfl 22 0 1 rfl rfl cRows; have g1 := fld hg 1 _ rfl 23 1 1 rfl rfl cGens
  match xs, hxl with
  | [y0, y1], _ =>
    simp only [List.map_cons, List.map_nil] at hx
    injection hx with hx1 _
    subst hx1
    have e : ∀ k, k ∈ y0.1.weights Try.prog 22 ∨ k ∈ y1.1.weights Try.prog 23 → k ≤ reachBytes := by
      intro k hk
      refine hw k ?_
      rw [DataW.weights, Try.underlying25]
      simp only [List.map_cons, List.map_nil, DataW.weightsEach, List.append_nil]
      exact List.mem_append.2 hk
    exact ⟨slice_bulk Try.underlying22 bRow g0 (fun k hk => e k (.inl hk)), slice_bulk Try.underlying23 bInt g1 (fun k hk => e k (.inr hk))⟩
theorem lit_low {n : Int} (h : (Lit.int .i64 n).wf = true) : -9223372036854775808 ≤ n := by
  rw [Lit.wf, Bool.and_eq_true] at h
  have h1 := of_decide_eq_true h.1
  have e : IntKind.i64.min = -9223372036854775808 := by decide
  omega
end
end Go.Proofs.Ytefdblaolmckmab
