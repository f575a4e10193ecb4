/- What comes in, read as plain data: ints, systems, slices of structs. -/
import Derived.Test.YtefdblaolmckmaaRuleA
import Derived.Test.YtefdblaolmckmaaRow
import Derived.Deep.Slices
namespace Go.Proofs.Ytefdblaolmckmaa
open Go.ChangeShapes Go.WideShapes Go.ChangeAt Go.RowKit Go.Deep
open Brood
set_option linter.unusedVariables false
set_option linter.unusedSimpArgs false

section
variable {H : Type} {enc : TypeId × Value → H} {w : World} {base : Nat} {spare : Nat → Bool} {held : Bool}
theorem addr_add (a : Addr) (h : a.spot = none) (i : Nat) : a.add i = ⟨a.block, a.off + i, none⟩ := by
  obtain ⟨b, o, s⟩ := a
  simp only at h
  subst h
  exact add_mk b o i
/-- A slice that came in, element by element: 'R' says what an element's cells read as. -/
theorem open_list {α : Type} (d0 : α) (R : List Value → α → Prop) {t e : TypeId} {m : Nat} {fuel : Nat} {cs : List Value} {x : DataW H × List MemPlace}
    (ht : Try.prog.underlying t = some (.slice e)) (hm : Try.prog.cellsOf e = m) (hm0 : 0 < m)
    (hread : ∀ (n : Nat) (cs' : List Value) (y : DataW H × List MemPlace), cs'.length = m → DataW.trod enc Try.prog w base spare held n e cs' = some y → ∃ a, R cs' a)
    (h : DataW.trod enc Try.prog w base spare held fuel t cs = some x) :
    ∃ (A : Option Addr) (len cap : Nat) (l : List α) (css : List (List Value)), cs = [.slice A len cap] ∧ l.length = len ∧ css.length = len ∧ len ≤ cap ∧ cap ≤ maxLen ∧
      (∀ c ∈ css, c.length = m) ∧ (∀ (i : Nat) (c : List Value) (a : α), css[i]? = some c → l[i]? = some a → R c a) ∧ Rd w w.heap.size m A len css.flatten := by
  rcases open_slice ht h with ⟨rfl, _⟩ | ⟨a, len, cap, k, n, D, Pl, rfl, hb, hl, hc, hk, _, hi⟩
  · exact ⟨none, 0, 0, [], [], rfl, rfl, rfl, Nat.le_refl _, Nat.zero_le _, by simp, by simp, Rd.nil_⟩
  · have hkl : len ≤ k := by rw [hk]; split <;> omega
    have hex : ∀ i, ∃ p : List Value × α, i < len → p.1.length = m ∧ (∀ j, j < m → w.cell? ((a.add (i * m)).add j) = p.1[j]?) ∧ R p.1 p.2 := by
      intro i
      by_cases hlt : i < len
      · obtain ⟨cs', h1, h2⟩ := hi i (by omega)
        rw [hm] at h1
        obtain ⟨_, hlen, hcell⟩ := World.cells?_some h1
        obtain ⟨y, hy⟩ := hread n cs' _ hlen h2
        exact ⟨(cs', y), fun _ => ⟨hlen, hcell, hy⟩⟩
      · exact ⟨([], d0), fun h => absurd h hlt⟩
    obtain ⟨p, hp⟩ := Classical.axiomOfChoice hex
    refine ⟨some a, len, cap, (List.range len).map fun i => (p i).2, (List.range len).map fun i => (p i).1, rfl, by simp, by simp, hl, hc, ?_, ?_, ?_, ?_⟩
    · intro c hc
      simp only [List.mem_map, List.mem_range] at hc
      obtain ⟨i, hi, rfl⟩ := hc
      exact (hp i hi).1
    · intro i c a' h1 h2
      by_cases hlt : i < len
      · simp [hlt] at h1 h2
        subst h1 h2
        exact (hp i hlt).2.2
      · simp [hlt] at h1
    · have hf : ∀ q, q ≤ len → ((List.range q).map fun i => (p i).1).flatten.length = q * m := by
        intro q
        induction q with
        | zero => intro _; simp
        | succ q ih =>
          intro hq
          rw [List.range_succ, List.map_append, List.flatten_append, List.length_append, ih (by omega)]
          simp [(hp q (by omega)).1, Nat.succ_mul]
      exact hf len (Nat.le_refl _)
    · intro hn
      have hc0 := (hp 0 hn).2.1 0 hm0
      have hsome : ∃ u, (p 0).1[0]? = some u := ⟨_, List.getElem?_eq_getElem (by rw [(hp 0 hn).1]; exact hm0)⟩
      obtain ⟨u, hu⟩ := hsome
      rw [hu] at hc0
      have ha0 : (a.add (0 * m)).add 0 = a := by simp [Addr.add]
      rw [ha0] at hc0
      have hspot : a.spot = none := World.cell?_spot hc0
      have hblk : a.block < w.heap.size := by
        rcases Nat.lt_or_ge a.block w.heap.size with h | h
        · exact h
        · exfalso
          have : w.cell? a = none := by simp [World.cell?, Array.getElem?_eq_none h]
          rw [this] at hc0
          cases hc0
      refine ⟨a.block, a.off, by obtain ⟨b, o, s⟩ := a; simp only at hspot; subst hspot; rfl, hblk, ?_⟩
      intro j u hu
      have key : ∀ q, q ≤ len → ∀ j u, ((List.range q).map fun i => (p i).1).flatten[j]? = some u → w.cell? ⟨a.block, a.off + j, none⟩ = some u := by
        have hfl : ∀ q, q ≤ len → ((List.range q).map fun i => (p i).1).flatten.length = q * m := by
          intro q
          induction q with
          | zero => intro _; simp
          | succ q ih =>
            intro hq
            rw [List.range_succ, List.map_append, List.flatten_append, List.length_append, ih (by omega)]
            simp [(hp q (by omega)).1, Nat.succ_mul]
        intro q
        induction q with
        | zero => intro _ j u h; simp at h
        | succ q ih =>
          intro hq j u h
          rw [List.range_succ, List.map_append, List.flatten_append] at h
          by_cases hj : j < q * m
          · rw [List.getElem?_append_left (by rw [hfl q (by omega)]; exact hj)] at h
            exact ih (by omega) j u h
          · rw [List.getElem?_append_right (by rw [hfl q (by omega)]; omega), hfl q (by omega)] at h
            simp only [List.map_cons, List.map_nil, List.flatten_cons, List.flatten_nil, List.append_nil] at h
            have hjm : j - q * m < m := by
              have := (List.getElem?_eq_some_iff.1 h).1
              rw [(hp q (by omega)).1] at this
              exact this
            have hcell := (hp q (by omega)).2.1 (j - q * m) hjm
            rw [h, addr_add a hspot, add_mk] at hcell
            have e : a.off + q * m + (j - q * m) = a.off + j := by omega
            rw [e] at hcell
            exact hcell
      exact key len (Nat.le_refl _) j u hu
theorem flat_of {α : Type} {f : α → List Value} : ∀ {l : List α} {css : List (List Value)}, css.length = l.length → (∀ (i : Nat) (c : List Value) (a : α), css[i]? = some c → l[i]? = some a → c = f a) → css.flatten = l.flatMap f := by
  intro l
  induction l with
  | nil => intro css h _; simp at h; subst h; rfl
  | cons a l ih =>
    intro css h hr
    cases css with
    | nil => simp at h
    | cons c css =>
      have h0 := hr 0 c a rfl rfl
      subst h0
      rw [List.flatten_cons, List.flatMap_cons, ih (by simpa using h) (fun i c b h1 h2 => hr (i + 1) c b (by simpa using h1) (by simpa using h2))]
theorem fld {n : Nat} {fs : Array Field} {cs : List Value} {xs : List (DataW H × List MemPlace)} (hf : ∀ (i : Nat) (f : Field), fs[i]? = some f → DataW.trod enc Try.prog w base spare held n f.type (List.take (Try.prog.cellsOf f.type) (List.drop f.offset cs)) = xs[i]?)
    (i : Nat) (f : Field) (h : fs[i]? = some f) (T off k : Nat) (hT : f.type = T) (ho : f.offset = off) (hk : Try.prog.cellsOf T = k) : DataW.trod enc Try.prog w base spare held n T (List.take k (List.drop off cs)) = xs[i]? := by
  subst hT ho hk
  exact hf i f h
theorem cInt : Try.prog.cellsOf 3 = 1 := by kernel_rfl
theorem cBool : Try.prog.cellsOf 4 = 1 := by kernel_rfl
theorem cFilter : Try.prog.cellsOf 26 = 2 := by kernel_rfl
theorem cActs : Try.prog.cellsOf 36 = 1 := by kernel_rfl
set_option maxRecDepth 100000 in
theorem open_acts {fuel : Nat} {cs : List Value} {x : DataW H × List MemPlace} (h : DataW.trod enc Try.prog w base spare held fuel 36 cs = some x) :
    ∃ (A : Option Addr) (cap : Nat) (l : List BAct), cs = [.slice A l.length cap] ∧ l.length ≤ cap ∧ cap ≤ maxLen ∧ RdAB w w.heap.size A l := by
  obtain ⟨A, len, cap, l, css, rfl, hl, hcl, h1, h2, _, hR, hrd⟩ := open_list (m := 4) (α := BAct) ⟨0, 0, 0, 0⟩ (fun c a => c = actCells a) Try.underlying36 (by kernel_rfl) (by omega) (by
    intro n cs' y hlen hy
    obtain ⟨xs, n', _, _, _, hxl, hf⟩ := DataW.trod_struct Try.underlying91 hy
    match cs', hlen with
    | [c0, c1, c2, c3], _ =>
      have f0 := fld hf 0 _ rfl 3 0 1 rfl rfl cInt; have f1 := fld hf 1 _ rfl 3 1 1 rfl rfl cInt; have f2 := fld hf 2 _ rfl 3 2 1 rfl rfl cInt; have f3 := fld hf 3 _ rfl 3 3 1 rfl rfl cInt
      match xs, hxl with
      | [y0, y1, y2, y3], _ =>
        obtain ⟨a0, e0, _, _⟩ := DataW.trod_int Try.underlying3 f0
        obtain ⟨a1, e1, _, _⟩ := DataW.trod_int Try.underlying3 f1
        obtain ⟨a2, e2, _, _⟩ := DataW.trod_int Try.underlying3 f2
        obtain ⟨a3, e3, _, _⟩ := DataW.trod_int Try.underlying3 f3
        simp at e0 e1 e2 e3
        subst e0 e1 e2 e3
        exact ⟨⟨a0, a1, a2, a3⟩, rfl⟩) h
  subst hl
  exact ⟨A, cap, l, rfl, h1, h2, by unfold RdAB; rw [← flat_of hcl hR]; exact hrd⟩
set_option maxRecDepth 100000 in
theorem open_system {r : Reach} {b0 : Nat} {v : Value} {d : DataW H} {p : List MemPlace} (hv : Value.okWide Try.prog w r b0 38 v) (h : DataW.Trod enc Try.prog w base spare held 38 v d p) :
    ∃ (s : BSys) (A : Option Addr) (c : Nat), v = .agg #[.int .i64 s.mod, .int .i64 s.all, .int .i64 s.non, .slice A s.acts.length c] ∧ s.acts.length ≤ c ∧ c ≤ maxLen ∧ RdA w A s.acts := by
  obtain ⟨cs, rfl, hsz⟩ := okWide_struct Try.underlying38 hv
  obtain ⟨fuel, hf⟩ := h
  rw [show Try.prog.cellsOf 38 = 4 from by kernel_rfl] at hsz
  obtain ⟨l⟩ := cs
  match l, hsz with
  | [c0, c1, c2, c3], _ =>
    obtain ⟨xs, n, _, _, _, hxl, hg⟩ := DataW.trod_struct Try.underlying38 hf
    have g0 := fld hg 0 _ rfl 3 0 1 rfl rfl cInt; have g1 := fld hg 1 _ rfl 26 1 2 rfl rfl cFilter; have g2 := fld hg 2 _ rfl 36 3 1 rfl rfl cActs
    match xs, hxl with
    | [y0, y1, y2], _ =>
      obtain ⟨mod, e0, _, _⟩ := DataW.trod_int Try.underlying3 g0
      obtain ⟨xs', n', _, _, _, hxl', hg'⟩ := DataW.trod_struct Try.underlying26 g1
      have k0 := fld hg' 0 _ rfl 3 0 1 rfl rfl cInt; have k1 := fld hg' 1 _ rfl 3 1 1 rfl rfl cInt
      match xs', hxl' with
      | [z0, z1], _ =>
        obtain ⟨all, e1, _, _⟩ := DataW.trod_int Try.underlying3 k0
        obtain ⟨non, e2, _, _⟩ := DataW.trod_int Try.underlying3 k1
        obtain ⟨A, cap, acts, e3, h1, h2, hrd⟩ := open_acts g2
        simp [Value.cells] at e0 e1 e2 e3
        subst e0 e1 e2 e3
        exact ⟨⟨mod, all, non, acts⟩, A, cap, rfl, h1, h2, hrd⟩
set_option maxRecDepth 100000 in
theorem open_mod {r : Reach} {b0 : Nat} {v : Value} {d : DataW H} {p : List MemPlace} (hv : Value.okWide Try.prog w r b0 40 v) (h : DataW.Trod enc Try.prog w base spare held 40 v d p) :
    ∃ m : BMod, v = .agg #[.int .i64 m.reads, .int .i64 m.writes, .bool m.life] := by
  obtain ⟨cs, rfl, hsz⟩ := okWide_struct Try.underlying40 hv
  obtain ⟨fuel, hf⟩ := h
  rw [show Try.prog.cellsOf 40 = 3 from by kernel_rfl] at hsz
  obtain ⟨l⟩ := cs
  match l, hsz with
  | [c0, c1, c2], _ =>
    obtain ⟨xs, n, _, _, _, hxl, hg⟩ := DataW.trod_struct Try.underlying40 hf
    have g0 := fld hg 0 _ rfl 3 0 1 rfl rfl cInt; have g1 := fld hg 1 _ rfl 3 1 1 rfl rfl cInt; have g2 := fld hg 2 _ rfl 4 2 1 rfl rfl cBool
    match xs, hxl with
    | [y0, y1, y2], _ =>
      obtain ⟨a, e0, _, _⟩ := DataW.trod_int Try.underlying3 g0
      obtain ⟨b, e1, _, _⟩ := DataW.trod_int Try.underlying3 g1
      obtain ⟨c, e2, _⟩ := DataW.trod_bool Try.underlying4 g2
      simp [Value.cells] at e0 e1 e2
      subst e0 e1 e2
      exact ⟨⟨a, b, c⟩, rfl⟩
end
end Go.Proofs.Ytefdblaolmckmaa
