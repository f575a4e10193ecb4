/- A world that comes in, read as plain data. -/
import Derived.Test.YtefdblaolmckmaaOpen
import Derived.Test.YtefdblaolmckmaaWin
namespace Go.Proofs.Ytefdblaolmckmaa
open Go.ChangeShapes Go.WideShapes Go.ChangeAt Go.RowKit Go.Deep
open Brood
set_option linter.unusedVariables false
set_option linter.unusedSimpArgs false
section
variable {H : Type} {enc : TypeId × Value → H} {w : World} {base : Nat} {spare : Nat → Bool} {held : Bool}
theorem cBeing : Try.prog.cellsOf 68 = 2 := by kernel_rfl
theorem cVals : Try.prog.cellsOf 80 = 8 := by kernel_rfl
theorem cRows : Try.prog.cellsOf 64 = 1 := by kernel_rfl
theorem cGens : Try.prog.cellsOf 32 = 1 := by kernel_rfl
theorem slice_nil {t e : TypeId} {fuel n c : Nat} {x : DataW H × List MemPlace} (ht : Try.prog.underlying t = some (.slice e)) (h : DataW.trod enc Try.prog w base spare held fuel t [.slice none n c] = some x) : n = 0 ∧ c = 0 := by
  rcases DataW.trod_slice ht h with ⟨h, _⟩ | ⟨a, len, cap, _, _, _, _, h, _⟩
  · injection h with h; injection h with _ h1 h2; exact ⟨h1, h2⟩
  · injection h with h; injection h with h1; cases h1
theorem open_vals {fuel : Nat} {cs : List Value} {x : DataW H × List MemPlace} (hlen : cs.length = 8) (h : DataW.trod enc Try.prog w base spare held fuel 80 cs = some x) :
    ∃ vs : List Int, vs.length = 8 ∧ cs = ints vs := by
  obtain ⟨xs, m, _, _, _, hx, hi⟩ := DataW.trod_array Try.underlying80 h
  rw [cInt] at hi
  have key : ∀ i, i < 8 → ∃ n : Int, cs[i]? = some (.int .i64 n) := by
    intro i h8
    have hxi : xs[i]? = some xs[i] := List.getElem?_eq_getElem (by omega)
    obtain ⟨n, hn, _, _⟩ := DataW.trod_int Try.underlying3 ((hi i h8).trans hxi)
    refine ⟨n, ?_⟩
    have h0 : ((cs.drop (i * 1)).take 1)[0]? = some (.int .i64 n) := by rw [hn]; rfl
    rw [List.getElem?_take_of_lt (by omega), List.getElem?_drop] at h0
    simpa using h0
  clear h hi hx
  match cs, hlen, key with
  | [c0, c1, c2, c3, c4, c5, c6, c7], _, key =>
    obtain ⟨n0, e0⟩ := key 0 (by omega); obtain ⟨n1, e1⟩ := key 1 (by omega); obtain ⟨n2, e2⟩ := key 2 (by omega); obtain ⟨n3, e3⟩ := key 3 (by omega)
    obtain ⟨n4, e4⟩ := key 4 (by omega); obtain ⟨n5, e5⟩ := key 5 (by omega); obtain ⟨n6, e6⟩ := key 6 (by omega); obtain ⟨n7, e7⟩ := key 7 (by omega)
    simp at e0 e1 e2 e3 e4 e5 e6 e7
    subst e0 e1 e2 e3 e4 e5 e6 e7
    exact ⟨[n0, n1, n2, n3, n4, n5, n6, n7], rfl, rfl⟩
set_option maxRecDepth 100000 in
theorem open_row {fuel : Nat} {cs : List Value} {x : DataW H × List MemPlace} (hlen : cs.length = 11) (hf : DataW.trod enc Try.prog w base spare held fuel 82 cs = some x) :
    ∃ r : BRow, cs = rowCells r ∧ (Lit.int .i64 r.idx).wf = true := by
  match cs, hlen with
  | [c0, c1, c2, c3, c4, c5, c6, c7, c8, c9, c10], _ =>
    obtain ⟨xs, n, _, _, _, hxl, hg⟩ := DataW.trod_struct Try.underlying82 hf
    have g0 := fld hg 0 _ rfl 68 0 2 rfl rfl cBeing; have g1 := fld hg 1 _ rfl 3 2 1 rfl rfl cInt; have g2 := fld hg 2 _ rfl 80 3 8 rfl rfl cVals
    match xs, hxl with
    | [y0, y1, y2], _ =>
      obtain ⟨xs', n', _, _, _, hxl', hg'⟩ := DataW.trod_struct Try.underlying68 g0
      have k0 := fld hg' 0 _ rfl 3 0 1 rfl rfl cInt; have k1 := fld hg' 1 _ rfl 3 1 1 rfl rfl cInt
      match xs', hxl' with
      | [z0, z1], _ =>
        obtain ⟨i, e0, _, hwf⟩ := DataW.trod_int Try.underlying3 k0
        obtain ⟨g, e1, _, _⟩ := DataW.trod_int Try.underlying3 k1
        obtain ⟨has, e2, _, _⟩ := DataW.trod_int Try.underlying3 g1
        obtain ⟨vs, h8, e3⟩ := open_vals (by simp) g2
        simp at e0 e1 e2 e3
        subst e0 e1 e2
        exact ⟨⟨i, g, has, vs, h8⟩, by simp [rowCells, e3], hwf⟩
set_option maxRecDepth 100000 in
theorem open_gens {fuel : Nat} {cs : List Value} {x : DataW H × List MemPlace} (h : DataW.trod enc Try.prog w base spare held fuel 32 cs = some x) :
    ∃ (A : Option Addr) (cap : Nat) (l : List Int), cs = [.slice A l.length cap] ∧ l.length ≤ cap ∧ cap ≤ maxLen ∧ RdG w w.heap.size A l ∧ ∀ n ∈ l, (Lit.int .i64 n).wf = true := by
  obtain ⟨A, len, cap, l, css, rfl, hl, hcl, h1, h2, hc1, hR, hrd⟩ := open_list (m := 1) (α := Int) 0 (fun c a => c = [.int .i64 a] ∧ (Lit.int .i64 a).wf = true) Try.underlying32 (by kernel_rfl) (by omega) (by
    intro n cs' y hlen hy
    obtain ⟨a, e, _, hwf⟩ := DataW.trod_int Try.underlying3 hy
    exact ⟨a, e, hwf⟩) h
  subst hl
  refine ⟨A, cap, l, rfl, h1, h2, ?_, ?_⟩
  · unfold RdG
    have e : ints l = l.flatMap (fun a => [Value.int .i64 a]) := by
      unfold ints
      exact List.map_eq_flatMap
    rw [e, ← flat_of hcl (fun i c a h1 h2 => (hR i c a h1 h2).1)]; exact hrd
  · intro x hx
    obtain ⟨i, hi⟩ := List.getElem?_of_mem hx
    have hlt : i < css.length := by rw [hcl]; exact (List.getElem?_eq_some_iff.1 hi).1
    exact (hR i css[i] x (List.getElem?_eq_getElem hlt) hi).2
set_option maxRecDepth 100000 in
theorem open_rows {fuel : Nat} {cs : List Value} {x : DataW H × List MemPlace} (h : DataW.trod enc Try.prog w base spare held fuel 64 cs = some x) :
    ∃ (A : Option Addr) (cap : Nat) (l : List BRow), cs = [.slice A l.length cap] ∧ l.length ≤ cap ∧ cap ≤ maxLen ∧ RdR w w.heap.size A l ∧ ∀ r ∈ l, (Lit.int .i64 r.idx).wf = true := by
  obtain ⟨A, len, cap, l, css, rfl, hl, hcl, h1, h2, hc1, hR, hrd⟩ := open_list (m := 11) (α := BRow) ⟨0, 0, 0, [0, 0, 0, 0, 0, 0, 0, 0], rfl⟩ (fun c a => c = rowCells a ∧ (Lit.int .i64 a.idx).wf = true) Try.underlying64 (by kernel_rfl) (by omega) (by
    intro n cs' y hlen hy
    exact open_row hlen hy) h
  subst hl
  refine ⟨A, cap, l, rfl, h1, h2, ?_, ?_⟩
  · unfold RdR
    rw [← flat_of hcl (fun i c a h1 h2 => (hR i c a h1 h2).1)]; exact hrd
  · intro x hx
    obtain ⟨i, hi⟩ := List.getElem?_of_mem hx
    have hlt : i < css.length := by rw [hcl]; exact (List.getElem?_eq_some_iff.1 hi).1
    exact (hR i css[i] x (List.getElem?_eq_getElem hlt) hi).2
set_option maxRecDepth 100000 in
theorem open_world {r : Reach} {b0 : Nat} {v : Value} {d : DataW H} {p : List MemPlace} (hv : Value.okWide Try.prog w r b0 66 v) (h : DataW.Trod enc Try.prog w base spare held 66 v d p) :
    ∃ (rows : List BRow) (gens : List Int) (Ar : Option Addr) (cr : Nat) (Ag : Option Addr) (cg : Nat), v = .agg #[.slice Ar rows.length cr, .slice Ag gens.length cg] ∧ WIn w w.heap.size v rows gens Ar cr Ag cg ∧
      rows.length ≤ maxLen ∧ gens.length ≤ maxLen ∧ (∀ r ∈ rows, (Lit.int .i64 r.idx).wf = true) ∧ (∀ n ∈ gens, (Lit.int .i64 n).wf = true) := by
  obtain ⟨cs, rfl, hsz⟩ := okWide_struct Try.underlying66 hv
  obtain ⟨fuel, hf⟩ := h
  rw [show Try.prog.cellsOf 66 = 2 from by kernel_rfl] at hsz
  obtain ⟨l⟩ := cs
  match l, hsz with
  | [c0, c1], _ =>
    obtain ⟨xs, n, _, _, _, hxl, hg⟩ := DataW.trod_struct Try.underlying66 hf
    have g0 := fld hg 0 _ rfl 64 0 1 rfl rfl cRows; have g1 := fld hg 1 _ rfl 32 1 1 rfl rfl cGens
    match xs, hxl with
    | [y0, y1], _ =>
      have n0 := g0; have n1 := g1
      obtain ⟨A, cap, rows, e0, h1, h2, hrd, hw⟩ := open_rows g0
      obtain ⟨A', cap', gens, e1, h1', h2', hrd', hw'⟩ := open_gens g1
      simp [Value.cells] at e0 e1
      subst e0 e1
      refine ⟨rows, gens, A, cap, A', cap', rfl, ⟨rfl, hrd, hrd', ?_, ?_⟩, by omega, by omega, hw, hw'⟩
      · rintro rfl
        obtain ⟨q1, q2⟩ := slice_nil Try.underlying64 n0
        exact ⟨q2, List.eq_nil_of_length_eq_zero q1⟩
      · rintro rfl
        obtain ⟨q1, q2⟩ := slice_nil Try.underlying32 n1
        exact ⟨q2, List.eq_nil_of_length_eq_zero q1⟩
theorem cFilt : Try.prog.cellsOf 26 = 2 := by kernel_rfl
set_option maxRecDepth 100000 in
theorem open_being {r : Reach} {b0 : Nat} {v : Value} {d : DataW H} {p : List MemPlace} (hv : Value.okWide Try.prog w r b0 68 v) (h : DataW.Trod enc Try.prog w base spare held 68 v d p) :
    ∃ i g : Int, v = .agg #[.int .i64 i, .int .i64 g] := by
  obtain ⟨cs, rfl, hsz⟩ := okWide_struct Try.underlying68 hv
  obtain ⟨fuel, hf⟩ := h
  rw [cBeing] at hsz
  obtain ⟨l⟩ := cs
  match l, hsz with
  | [c0, c1], _ =>
    obtain ⟨xs, n, _, _, _, hxl, hg⟩ := DataW.trod_struct Try.underlying68 hf
    have g0 := fld hg 0 _ rfl 3 0 1 rfl rfl cInt; have g1 := fld hg 1 _ rfl 3 1 1 rfl rfl cInt
    match xs, hxl with
    | [y0, y1], _ =>
      obtain ⟨a, e0, _, _⟩ := DataW.trod_int Try.underlying3 g0
      obtain ⟨b, e1, _, _⟩ := DataW.trod_int Try.underlying3 g1
      simp [Value.cells] at e0 e1
      subst e0 e1
      exact ⟨a, b, rfl⟩
set_option maxRecDepth 100000 in
theorem open_filter {r : Reach} {b0 : Nat} {v : Value} {d : DataW H} {p : List MemPlace} (hv : Value.okWide Try.prog w r b0 26 v) (h : DataW.Trod enc Try.prog w base spare held 26 v d p) :
    ∃ a n : Int, v = .agg #[.int .i64 a, .int .i64 n] := by
  obtain ⟨cs, rfl, hsz⟩ := okWide_struct Try.underlying26 hv
  obtain ⟨fuel, hf⟩ := h
  rw [cFilt] at hsz
  obtain ⟨l⟩ := cs
  match l, hsz with
  | [c0, c1], _ =>
    obtain ⟨xs, n, _, _, _, hxl, hg⟩ := DataW.trod_struct Try.underlying26 hf
    have g0 := fld hg 0 _ rfl 3 0 1 rfl rfl cInt; have g1 := fld hg 1 _ rfl 3 1 1 rfl rfl cInt
    match xs, hxl with
    | [y0, y1], _ =>
      obtain ⟨a, e0, _, _⟩ := DataW.trod_int Try.underlying3 g0
      obtain ⟨b, e1, _, _⟩ := DataW.trod_int Try.underlying3 g1
      simp [Value.cells] at e0 e1
      subst e0 e1
      exact ⟨a, b, rfl⟩
end
end Go.Proofs.Ytefdblaolmckmaa
