/- Worlds as plain data: what is wrong with one. -/
import Derived.Test.YtefdblaolmckmaaSpecA
namespace Brood

structure BRow where
  idx : Int
  gen : Int
  has : Int
  vals : List Int
  h8 : vals.length = 8
instance : DecidableEq BRow := fun a b => decidable_of_iff (a.idx = b.idx ∧ a.gen = b.gen ∧ a.has = b.has ∧ a.vals = b.vals) (by cases a; cases b; simp)
structure BWorld where
  rows : List BRow
  gens : List Int

def gensFrom : Nat → List Int → Int × Int
  | _, [] => (0, 0)
  | i, n :: l => if n < 1 ∨ 1000 < n then (3, (i : Int)) else gensFrom (i + 1) l
def gensErr (l : List Int) : Int × Int := if 60 < l.length then (4, 0) else gensFrom 0 l
def valBad (has : Int) (k : Nat) (v : Int) : Bool := !isVal v || (decide (v ≠ 0) && !hasB has (k : Int))
def valsBad (has : Int) : Nat → List Int → Bool
  | _, [] => false
  | k, v :: l => valBad has k v || valsBad has (k + 1) l
def rowErr (r : BRow) : Int := if isSet r.has && !valsBad r.has 0 r.vals then 0 else 3
/-- Is the row ahead not below this number? -/
def prevGe (p : Option Int) (i : Int) : Bool := match p with | some q => decide (i ≤ q) | none => false
def rowsFrom (gens : List Int) : Nat → Option Int → List BRow → Int × Int
  | _, _, [] => (0, 0)
  | i, p, r :: l =>
    if rowErr r ≠ 0 then (rowErr r, (i : Int))
    else if r.idx < 0 ∨ (gens.length : Int) ≤ r.idx then (3, (i : Int))
    else if prevGe p r.idx = true then (2, (i : Int))
    else if r.gen ≠ gens.getD r.idx.toNat 0 then (7, (i : Int))
    else rowsFrom gens (i + 1) (some r.idx) l
def worldErr (w : BWorld) : Int × Int := if (gensErr w.gens).1 ≠ 0 then gensErr w.gens else rowsFrom w.gens 0 none w.rows
theorem valsBad_drop (has : Int) {l : List Int} {k : Nat} (h : k < l.length) : valsBad has k (l.drop k) = (valBad has k l[k] || valsBad has (k + 1) (l.drop (k + 1))) := by
  rw [List.drop_eq_getElem_cons h, valsBad]
end Brood
