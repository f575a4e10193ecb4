/- A world as a value that can be read. -/
import Derived.Test.YtefdblaolmckmaaRowEq
namespace Go.Proofs.Ytefdblaolmckmaa
open Go.RowKit
open Brood
set_option linter.unusedVariables false
set_option linter.unusedSimpArgs false

/-- A world as a value, read below block B. -/
structure WIn (w : World) (B : Nat) (v : Value) (rows : List BRow) (gens : List Int) (Ar : Option Addr) (cr : Nat) (Ag : Option Addr) (cg : Nat) : Prop where
  val : v = .agg #[.slice Ar rows.length cr, .slice Ag gens.length cg]
  row : RdR w B Ar rows
  gen : RdG w B Ag gens
  nr : Ar = none → cr = 0 ∧ rows = []
  ng : Ag = none → cg = 0 ∧ gens = []
theorem own_none {w : World} {base : Nat} {e : TypeId} {sz n c : Nat} {xs : List Value} (h : w.ownsRow base e sz (.slice none n c) n xs) : c = 0 ∧ n = 0 := by
  rcases h.2 with ⟨hv, hn⟩ | ⟨g, cap, cur, hv, _⟩
  · injection hv with _ _ h3
    exact ⟨h3, hn⟩
  · cases hv
theorem GotW.open_ {w : World} {base : Nat} {v : Value} {rows : List BRow} {gens : List Int} (h : GotW w base v rows gens) : ∃ Ar cr Ag cg, WIn w w.heap.size v rows gens Ar cr Ag cg := by
  obtain ⟨vr, vg, rfl, hO⟩ := h
  obtain ⟨Ar, cr, rfl, _, _⟩ := own_shape hO.rows_
  obtain ⟨Ag, cg, rfl, _, _⟩ := own_shape hO.gens_
  refine ⟨Ar, cr, Ag, cg, rfl, Rd.of_own hO.rows_, Rd.of_own hO.gens_, ?_, ?_⟩
  · rintro rfl
    have h := own_none hO.rows_
    exact ⟨h.1, List.eq_nil_of_length_eq_zero h.2⟩
  · rintro rfl
    have h := own_none hO.gens_
    exact ⟨h.1, List.eq_nil_of_length_eq_zero h.2⟩
theorem WIn.under {w w' : World} {B : Nat} {v : Value} {rows : List BRow} {gens : List Int} {Ar : Option Addr} {cr : Nat} {Ag : Option Addr} {cg : Nat} (h : WIn w B v rows gens Ar cr Ag cg) {C : Nat} (hb : Below C w w') (hC : B ≤ C) : WIn w' B v rows gens Ar cr Ag cg :=
  ⟨h.val, Rd.under h.row hb hC, Rd.under h.gen hb hC, h.nr, h.ng⟩
theorem WIn.more {w : World} {B B' : Nat} {v : Value} {rows : List BRow} {gens : List Int} {Ar : Option Addr} {cr : Nat} {Ag : Option Addr} {cg : Nat} (h : WIn w B v rows gens Ar cr Ag cg) (hB : B ≤ B') : WIn w B' v rows gens Ar cr Ag cg :=
  ⟨h.val, Rd.more h.row hB, Rd.more h.gen hB, h.nr, h.ng⟩
/-- What was read stays readable while the call goes on. -/
theorem WIn.grow {w w' : World} {v : Value} {rows : List BRow} {gens : List Int} {Ar : Option Addr} {cr : Nat} {Ag : Option Addr} {cg : Nat} (h : WIn w w.heap.size v rows gens Ar cr Ag cg) (hb : Below w.heap.size w w') : WIn w' w'.heap.size v rows gens Ar cr Ag cg :=
  (h.under hb (Nat.le_refl _)).more hb.size
theorem WIn.zero (w : World) (B : Nat) : WIn w B (.agg #[.slice none 0 0, .slice none 0 0]) [] [] none 0 none 0 :=
  ⟨rfl, Rd.nil_, Rd.nil_, fun _ => ⟨rfl, rfl⟩, fun _ => ⟨rfl, rfl⟩⟩
end Go.Proofs.Ytefdblaolmckmaa
