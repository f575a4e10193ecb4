/- What package rule computes, as plain functions. Worlds as plain data: what is wrong with one. The walks of package rule. The walk of rule.act, for every act; of rule.Wrong. Worlds in memory; the walks of plain.gens and row. The walk of plain.row. The walk of plain.Wrong. Worlds as plain data, and in memory: all that names no function of the program. -/
import Derived.Deep.QuietTactic
import Derived.BigQuiet
import Derived.Deep.RegionHeld3
import Derived.Deep.DeepCutAuto
import Derived.Deep.LoopGhost
import Derived.Deep.RegionLaw
import Derived.Lib.Overlaps
import Derived.Lib.AppendZerosOnto
import Derived.Laws.IdiomCopy
import Derived.Laws.NewBlocks
import Derived.Laws.Externs
import Derived.Test.YtefdblaolmckmabBMem
namespace Brood

structure BAct where
  kind : Int
  part : Int
  src : Int
  n : Int
structure BSys where
  mod : Int
  all : Int
  non : Int
  acts : List BAct
structure BNeed where
  reads : Int
  writes : Int
  moves : Bool
  life : Bool
structure BMod where
  reads : Int
  writes : Int
  life : Bool

def isFrom (a : BAct) : Bool := decide (a.kind = 2) || decide (a.kind = 3)
def isOwn (a : BAct) : Bool := decide (a.kind = 3) || decide (a.kind = 4)
def isWrite (k : Int) : Bool := decide (1 ≤ k ∧ k ≤ 5)

def actErr (all : Int) (a : BAct) : Int :=
  if a.kind = 6 then 0
  else if a.kind = 7 then (if !isSet a.part || !isVal a.n then 3 else 0)
  else if isWrite a.kind then
    (if !isPart a.part || (isFrom a && !isPart a.src) || (!isFrom a && !decide (a.kind = 5) && !isVal a.n) then 3
     else if (isFrom a && !hasB all a.src) || (isOwn a && !hasB all a.part) then 7
     else 0)
  else 1
def goneErr (g : Int) (a : BAct) : Bool := (isFrom a && hasB g a.src) || (isOwn a && hasB g a.part)
def goneNext (g : Int) (a : BAct) : Int :=
  if a.kind = 5 then withS g a.part else if a.kind = 1 ∨ a.kind = 2 then withoutS g a.part else g
def wrongFrom (all : Int) : Int → Nat → List BAct → Int × Int
  | _, _, [] => (0, 0)
  | g, i, a :: l => if actErr all a ≠ 0 then (actErr all a, (i : Int)) else if goneErr g a then (7, (i : Int)) else wrongFrom all (goneNext g a) (i + 1) l
def sysHead (s : BSys) : Bool := decide (0 ≤ s.mod) && decide (s.mod < 6) && isSet s.all && isSet s.non
def sysWrong (s : BSys) : Int × Int :=
  if sysHead s then (if 8 < s.acts.length then (4, 0) else wrongFrom s.all 0 0 s.acts) else (3, 0)

def orS (s t : Int) : Int := ((s.toNat ||| t.toNat : Nat) : Int)
def needAct (all : Int) (n : BNeed) (a : BAct) : BNeed :=
  if a.kind = 6 then { n with life := true }
  else if a.kind = 7 then { n with life := true, writes := orS n.writes a.part }
  else
    { reads := (if isOwn a then withS (if isFrom a then withS n.reads a.src else n.reads) a.part else (if isFrom a then withS n.reads a.src else n.reads)),
      writes := withS n.writes a.part,
      moves := n.moves || decide (a.kind = 5) || !hasB all a.part,
      life := n.life }
def needs (s : BSys) : BNeed := s.acts.foldl (needAct s.all) ⟨0, 0, false, false⟩
def subS (s t : Int) : Bool := s.toNat &&& t.toNat == s.toNat
def may (m : BMod) (s : BSys) : Bool :=
  subS (orS (orS (needs s).reads s.all) s.non) m.reads && subS (needs s).writes m.writes && (m.life || !(needs s).life)
def meetS (s t : Int) : Bool := !(s.toNat &&& t.toNat == 0)
def clashN (x y : BNeed) : Bool :=
  x.moves || y.moves || x.life || y.life || meetS x.writes (orS y.reads y.writes) || meetS y.writes x.reads
def clash (a b : BSys) : Bool := clashN (needs a) (needs b)
end Brood

namespace Brood

structure BRow where
  idx : Int
  gen : Int
  has : Int
  vals : List Int
  h8 : vals.length = 8
instance : DecidableEq BRow := fun a b => decidable_of_iff (a.idx = b.idx ∧ a.gen = b.gen ∧ a.has = b.has ∧ a.vals = b.vals) (by cases a; cases b; simp)
structure BWorld where
  rows : List BRow
  gens : List Int

def gensFrom : Nat → List Int → Int × Int
  | _, [] => (0, 0)
  | i, n :: l => if n < 1 ∨ 1000 < n then (3, (i : Int)) else gensFrom (i + 1) l
def gensErr (l : List Int) : Int × Int := if 60 < l.length then (4, 0) else gensFrom 0 l
def valBad (has : Int) (k : Nat) (v : Int) : Bool := !isVal v || (decide (v ≠ 0) && !hasB has (k : Int))
def valsBad (has : Int) : Nat → List Int → Bool
  | _, [] => false
  | k, v :: l => valBad has k v || valsBad has (k + 1) l
def rowErr (r : BRow) : Int := if isSet r.has && !valsBad r.has 0 r.vals then 0 else 3
/-- Is the row ahead not below this number? -/
def prevGe (p : Option Int) (i : Int) : Bool := match p with | some q => decide (i ≤ q) | none => false
def rowsFrom (gens : List Int) : Nat → Option Int → List BRow → Int × Int
  | _, _, [] => (0, 0)
  | i, p, r :: l =>
    if rowErr r ≠ 0 then (rowErr r, (i : Int))
    else if r.idx < 0 ∨ (gens.length : Int) ≤ r.idx then (3, (i : Int))
    else if prevGe p r.idx = true then (2, (i : Int))
    else if r.gen ≠ gens.getD r.idx.toNat 0 then (7, (i : Int))
    else rowsFrom gens (i + 1) (some r.idx) l
def worldErr (w : BWorld) : Int × Int := if (gensErr w.gens).1 ≠ 0 then gensErr w.gens else rowsFrom w.gens 0 none w.rows
theorem valsBad_drop (has : Int) {l : List Int} {k : Nat} (h : k < l.length) : valsBad has k (l.drop k) = (valBad has k l[k] || valsBad has (k + 1) (l.drop (k + 1))) := by
  rw [List.drop_eq_getElem_cons h, valsBad]
end Brood

namespace Go.Proofs.Ytefdblaolmckmab
open Go.RowKit
open Brood
set_option linter.unusedVariables false
set_option linter.unusedSimpArgs false

/-- The four cells of an act. -/
def ActAt (w : World) (b o : Nat) (a : BAct) : Prop :=
  w.cell? ⟨b, o, none⟩ = some (.int .i64 a.kind) ∧ w.cell? ⟨b, o + 1, none⟩ = some (.int .i64 a.part) ∧
  w.cell? ⟨b, o + 2, none⟩ = some (.int .i64 a.src) ∧ w.cell? ⟨b, o + 3, none⟩ = some (.int .i64 a.n)

set_option maxRecDepth 20000 in
set_option maxHeartbeats 800000 in
theorem act_1_0 (all non part src n : Int) (hall : isSet all = true) (b o : Nat) (w : World) (hb : b < w.heap.size) (c0 : w.cell? ⟨b, o, none⟩ = some (.int .i64 1)) (c1 : w.cell? ⟨b, o + 1, none⟩ = some (.int .i64 part)) (c2 : w.cell? ⟨b, o + 2, none⟩ = some (.int .i64 src)) (c3 : w.cell? ⟨b, o + 3, none⟩ = some (.int .i64 n)) (e0 : isPart part = false) :
    Calls Try.prog 98 #[.agg #[.int .i64 all, .int .i64 non], .pointer (some ⟨b, o, none⟩)] w fun e w' => e = .returned (.int .i64 3) ∧ Below w.heap.size w w' := by
  go_enter Try.func98, Try.ntmps98
  go_wp2_with (first
    | (go_at_call 59; refine (set_any _ _).mono ?_; rintro e w' ⟨rfl, rfl⟩)
    | (go_at_call 73; refine (part_any _ _).mono ?_; rintro e w' ⟨rfl, rfl⟩)
    | (go_at_call 60; refine (value_any _ _).mono ?_; rintro e w' ⟨rfl, rfl⟩))
  go_ret
  exact ⟨rfl, by first | exact (Below.refl _ _).alloc (Nat.le_refl _) _ | exact below_drewN ((Below.refl _ _).alloc (Nat.le_refl _) _) _⟩
set_option maxRecDepth 20000 in
set_option maxHeartbeats 800000 in
theorem act_1_1 (all non part src n : Int) (hall : isSet all = true) (b o : Nat) (w : World) (hb : b < w.heap.size) (c0 : w.cell? ⟨b, o, none⟩ = some (.int .i64 1)) (c1 : w.cell? ⟨b, o + 1, none⟩ = some (.int .i64 part)) (c2 : w.cell? ⟨b, o + 2, none⟩ = some (.int .i64 src)) (c3 : w.cell? ⟨b, o + 3, none⟩ = some (.int .i64 n)) (e0 : isPart part = true) (e1 : isVal n = false) :
    Calls Try.prog 98 #[.agg #[.int .i64 all, .int .i64 non], .pointer (some ⟨b, o, none⟩)] w fun e w' => e = .returned (.int .i64 3) ∧ Below w.heap.size w w' := by
  go_enter Try.func98, Try.ntmps98
  go_wp2_with (first
    | (go_at_call 59; refine (set_any _ _).mono ?_; rintro e w' ⟨rfl, rfl⟩)
    | (go_at_call 73; refine (part_any _ _).mono ?_; rintro e w' ⟨rfl, rfl⟩)
    | (go_at_call 60; refine (value_any _ _).mono ?_; rintro e w' ⟨rfl, rfl⟩))
  go_ret
  exact ⟨rfl, by first | exact (Below.refl _ _).alloc (Nat.le_refl _) _ | exact below_drewN ((Below.refl _ _).alloc (Nat.le_refl _) _) _⟩
set_option maxRecDepth 20000 in
set_option maxHeartbeats 800000 in
theorem act_1_2 (all non part src n : Int) (hall : isSet all = true) (b o : Nat) (w : World) (hb : b < w.heap.size) (c0 : w.cell? ⟨b, o, none⟩ = some (.int .i64 1)) (c1 : w.cell? ⟨b, o + 1, none⟩ = some (.int .i64 part)) (c2 : w.cell? ⟨b, o + 2, none⟩ = some (.int .i64 src)) (c3 : w.cell? ⟨b, o + 3, none⟩ = some (.int .i64 n)) (e0 : isPart part = true) (e1 : isVal n = true) :
    Calls Try.prog 98 #[.agg #[.int .i64 all, .int .i64 non], .pointer (some ⟨b, o, none⟩)] w fun e w' => e = .returned (.int .i64 0) ∧ Below w.heap.size w w' := by
  go_enter Try.func98, Try.ntmps98
  go_wp2_with (first
    | (go_at_call 59; refine (set_any _ _).mono ?_; rintro e w' ⟨rfl, rfl⟩)
    | (go_at_call 73; refine (part_any _ _).mono ?_; rintro e w' ⟨rfl, rfl⟩)
    | (go_at_call 60; refine (value_any _ _).mono ?_; rintro e w' ⟨rfl, rfl⟩))
  go_quiet ((go_at_call 77; exact quiet_same (has_any _ _ hall _)))
  go_wp2_with fail
  go_ret
  exact ⟨rfl, by first | exact (Below.refl _ _).alloc (Nat.le_refl _) _ | exact below_drewN ((Below.refl _ _).alloc (Nat.le_refl _) _) _⟩
set_option maxRecDepth 20000 in
set_option maxHeartbeats 800000 in
theorem act_2_0 (all non part src n : Int) (hall : isSet all = true) (b o : Nat) (w : World) (hb : b < w.heap.size) (c0 : w.cell? ⟨b, o, none⟩ = some (.int .i64 2)) (c1 : w.cell? ⟨b, o + 1, none⟩ = some (.int .i64 part)) (c2 : w.cell? ⟨b, o + 2, none⟩ = some (.int .i64 src)) (c3 : w.cell? ⟨b, o + 3, none⟩ = some (.int .i64 n)) (e0 : isPart part = false) :
    Calls Try.prog 98 #[.agg #[.int .i64 all, .int .i64 non], .pointer (some ⟨b, o, none⟩)] w fun e w' => e = .returned (.int .i64 3) ∧ Below w.heap.size w w' := by
  go_enter Try.func98, Try.ntmps98
  go_wp2_with (first
    | (go_at_call 59; refine (set_any _ _).mono ?_; rintro e w' ⟨rfl, rfl⟩)
    | (go_at_call 73; refine (part_any _ _).mono ?_; rintro e w' ⟨rfl, rfl⟩)
    | (go_at_call 60; refine (value_any _ _).mono ?_; rintro e w' ⟨rfl, rfl⟩))
  go_ret
  exact ⟨rfl, by first | exact (Below.refl _ _).alloc (Nat.le_refl _) _ | exact below_drewN ((Below.refl _ _).alloc (Nat.le_refl _) _) _⟩
set_option maxRecDepth 20000 in
set_option maxHeartbeats 800000 in
theorem act_2_1 (all non part src n : Int) (hall : isSet all = true) (b o : Nat) (w : World) (hb : b < w.heap.size) (c0 : w.cell? ⟨b, o, none⟩ = some (.int .i64 2)) (c1 : w.cell? ⟨b, o + 1, none⟩ = some (.int .i64 part)) (c2 : w.cell? ⟨b, o + 2, none⟩ = some (.int .i64 src)) (c3 : w.cell? ⟨b, o + 3, none⟩ = some (.int .i64 n)) (e0 : isPart part = true) (e1 : isPart src = false) :
    Calls Try.prog 98 #[.agg #[.int .i64 all, .int .i64 non], .pointer (some ⟨b, o, none⟩)] w fun e w' => e = .returned (.int .i64 3) ∧ Below w.heap.size w w' := by
  go_enter Try.func98, Try.ntmps98
  go_wp2_with (first
    | (go_at_call 59; refine (set_any _ _).mono ?_; rintro e w' ⟨rfl, rfl⟩)
    | (go_at_call 73; refine (part_any _ _).mono ?_; rintro e w' ⟨rfl, rfl⟩)
    | (go_at_call 60; refine (value_any _ _).mono ?_; rintro e w' ⟨rfl, rfl⟩))
  go_ret
  exact ⟨rfl, by first | exact (Below.refl _ _).alloc (Nat.le_refl _) _ | exact below_drewN ((Below.refl _ _).alloc (Nat.le_refl _) _) _⟩
set_option maxRecDepth 20000 in
set_option maxHeartbeats 800000 in
theorem act_2_2 (all non part src n : Int) (hall : isSet all = true) (b o : Nat) (w : World) (hb : b < w.heap.size) (c0 : w.cell? ⟨b, o, none⟩ = some (.int .i64 2)) (c1 : w.cell? ⟨b, o + 1, none⟩ = some (.int .i64 part)) (c2 : w.cell? ⟨b, o + 2, none⟩ = some (.int .i64 src)) (c3 : w.cell? ⟨b, o + 3, none⟩ = some (.int .i64 n)) (e0 : isPart part = true) (e1 : isPart src = true) (e2 : hasB all src = false) :
    Calls Try.prog 98 #[.agg #[.int .i64 all, .int .i64 non], .pointer (some ⟨b, o, none⟩)] w fun e w' => e = .returned (.int .i64 7) ∧ Below w.heap.size w w' := by
  go_enter Try.func98, Try.ntmps98
  go_wp2_with (first
    | (go_at_call 59; refine (set_any _ _).mono ?_; rintro e w' ⟨rfl, rfl⟩)
    | (go_at_call 73; refine (part_any _ _).mono ?_; rintro e w' ⟨rfl, rfl⟩)
    | (go_at_call 60; refine (value_any _ _).mono ?_; rintro e w' ⟨rfl, rfl⟩))
  go_quiet ((go_at_call 77; exact quiet_same (has_any _ _ hall _)))
  go_wp2_with fail
  go_ret
  exact ⟨rfl, by first | exact (Below.refl _ _).alloc (Nat.le_refl _) _ | exact below_drewN ((Below.refl _ _).alloc (Nat.le_refl _) _) _⟩
set_option maxRecDepth 20000 in
set_option maxHeartbeats 800000 in
theorem act_2_3 (all non part src n : Int) (hall : isSet all = true) (b o : Nat) (w : World) (hb : b < w.heap.size) (c0 : w.cell? ⟨b, o, none⟩ = some (.int .i64 2)) (c1 : w.cell? ⟨b, o + 1, none⟩ = some (.int .i64 part)) (c2 : w.cell? ⟨b, o + 2, none⟩ = some (.int .i64 src)) (c3 : w.cell? ⟨b, o + 3, none⟩ = some (.int .i64 n)) (e0 : isPart part = true) (e1 : isPart src = true) (e2 : hasB all src = true) :
    Calls Try.prog 98 #[.agg #[.int .i64 all, .int .i64 non], .pointer (some ⟨b, o, none⟩)] w fun e w' => e = .returned (.int .i64 0) ∧ Below w.heap.size w w' := by
  go_enter Try.func98, Try.ntmps98
  go_wp2_with (first
    | (go_at_call 59; refine (set_any _ _).mono ?_; rintro e w' ⟨rfl, rfl⟩)
    | (go_at_call 73; refine (part_any _ _).mono ?_; rintro e w' ⟨rfl, rfl⟩)
    | (go_at_call 60; refine (value_any _ _).mono ?_; rintro e w' ⟨rfl, rfl⟩))
  go_quiet ((go_at_call 77; exact quiet_same (has_any _ _ hall _)))
  go_wp2_with fail
  go_ret
  exact ⟨rfl, by first | exact (Below.refl _ _).alloc (Nat.le_refl _) _ | exact below_drewN ((Below.refl _ _).alloc (Nat.le_refl _) _) _⟩
set_option maxRecDepth 20000 in
set_option maxHeartbeats 800000 in
theorem act_3_0 (all non part src n : Int) (hall : isSet all = true) (b o : Nat) (w : World) (hb : b < w.heap.size) (c0 : w.cell? ⟨b, o, none⟩ = some (.int .i64 3)) (c1 : w.cell? ⟨b, o + 1, none⟩ = some (.int .i64 part)) (c2 : w.cell? ⟨b, o + 2, none⟩ = some (.int .i64 src)) (c3 : w.cell? ⟨b, o + 3, none⟩ = some (.int .i64 n)) (e0 : isPart part = false) :
    Calls Try.prog 98 #[.agg #[.int .i64 all, .int .i64 non], .pointer (some ⟨b, o, none⟩)] w fun e w' => e = .returned (.int .i64 3) ∧ Below w.heap.size w w' := by
  go_enter Try.func98, Try.ntmps98
  go_wp2_with (first
    | (go_at_call 59; refine (set_any _ _).mono ?_; rintro e w' ⟨rfl, rfl⟩)
    | (go_at_call 73; refine (part_any _ _).mono ?_; rintro e w' ⟨rfl, rfl⟩)
    | (go_at_call 60; refine (value_any _ _).mono ?_; rintro e w' ⟨rfl, rfl⟩))
  go_ret
  exact ⟨rfl, by first | exact (Below.refl _ _).alloc (Nat.le_refl _) _ | exact below_drewN ((Below.refl _ _).alloc (Nat.le_refl _) _) _⟩
set_option maxRecDepth 20000 in
set_option maxHeartbeats 800000 in
theorem act_3_1 (all non part src n : Int) (hall : isSet all = true) (b o : Nat) (w : World) (hb : b < w.heap.size) (c0 : w.cell? ⟨b, o, none⟩ = some (.int .i64 3)) (c1 : w.cell? ⟨b, o + 1, none⟩ = some (.int .i64 part)) (c2 : w.cell? ⟨b, o + 2, none⟩ = some (.int .i64 src)) (c3 : w.cell? ⟨b, o + 3, none⟩ = some (.int .i64 n)) (e0 : isPart part = true) (e1 : isPart src = false) :
    Calls Try.prog 98 #[.agg #[.int .i64 all, .int .i64 non], .pointer (some ⟨b, o, none⟩)] w fun e w' => e = .returned (.int .i64 3) ∧ Below w.heap.size w w' := by
  go_enter Try.func98, Try.ntmps98
  go_wp2_with (first
    | (go_at_call 59; refine (set_any _ _).mono ?_; rintro e w' ⟨rfl, rfl⟩)
    | (go_at_call 73; refine (part_any _ _).mono ?_; rintro e w' ⟨rfl, rfl⟩)
    | (go_at_call 60; refine (value_any _ _).mono ?_; rintro e w' ⟨rfl, rfl⟩))
  go_ret
  exact ⟨rfl, by first | exact (Below.refl _ _).alloc (Nat.le_refl _) _ | exact below_drewN ((Below.refl _ _).alloc (Nat.le_refl _) _) _⟩
set_option maxRecDepth 20000 in
set_option maxHeartbeats 800000 in
theorem act_3_2 (all non part src n : Int) (hall : isSet all = true) (b o : Nat) (w : World) (hb : b < w.heap.size) (c0 : w.cell? ⟨b, o, none⟩ = some (.int .i64 3)) (c1 : w.cell? ⟨b, o + 1, none⟩ = some (.int .i64 part)) (c2 : w.cell? ⟨b, o + 2, none⟩ = some (.int .i64 src)) (c3 : w.cell? ⟨b, o + 3, none⟩ = some (.int .i64 n)) (e0 : isPart part = true) (e1 : isPart src = true) (e2 : hasB all src = false) :
    Calls Try.prog 98 #[.agg #[.int .i64 all, .int .i64 non], .pointer (some ⟨b, o, none⟩)] w fun e w' => e = .returned (.int .i64 7) ∧ Below w.heap.size w w' := by
  go_enter Try.func98, Try.ntmps98
  go_wp2_with (first
    | (go_at_call 59; refine (set_any _ _).mono ?_; rintro e w' ⟨rfl, rfl⟩)
    | (go_at_call 73; refine (part_any _ _).mono ?_; rintro e w' ⟨rfl, rfl⟩)
    | (go_at_call 60; refine (value_any _ _).mono ?_; rintro e w' ⟨rfl, rfl⟩))
  go_quiet ((go_at_call 77; exact quiet_same (has_any _ _ hall _)))
  go_wp2_with fail
  go_ret
  exact ⟨rfl, by first | exact (Below.refl _ _).alloc (Nat.le_refl _) _ | exact below_drewN ((Below.refl _ _).alloc (Nat.le_refl _) _) _⟩
set_option maxRecDepth 20000 in
set_option maxHeartbeats 800000 in
theorem act_3_3 (all non part src n : Int) (hall : isSet all = true) (b o : Nat) (w : World) (hb : b < w.heap.size) (c0 : w.cell? ⟨b, o, none⟩ = some (.int .i64 3)) (c1 : w.cell? ⟨b, o + 1, none⟩ = some (.int .i64 part)) (c2 : w.cell? ⟨b, o + 2, none⟩ = some (.int .i64 src)) (c3 : w.cell? ⟨b, o + 3, none⟩ = some (.int .i64 n)) (e0 : isPart part = true) (e1 : isPart src = true) (e2 : hasB all src = true) (e3 : hasB all part = false) :
    Calls Try.prog 98 #[.agg #[.int .i64 all, .int .i64 non], .pointer (some ⟨b, o, none⟩)] w fun e w' => e = .returned (.int .i64 7) ∧ Below w.heap.size w w' := by
  go_enter Try.func98, Try.ntmps98
  go_wp2_with (first
    | (go_at_call 59; refine (set_any _ _).mono ?_; rintro e w' ⟨rfl, rfl⟩)
    | (go_at_call 73; refine (part_any _ _).mono ?_; rintro e w' ⟨rfl, rfl⟩)
    | (go_at_call 60; refine (value_any _ _).mono ?_; rintro e w' ⟨rfl, rfl⟩))
  go_quiet ((go_at_call 77; exact quiet_same (has_any _ _ hall _)))
  go_wp2_with fail
  go_ret
  exact ⟨rfl, by first | exact (Below.refl _ _).alloc (Nat.le_refl _) _ | exact below_drewN ((Below.refl _ _).alloc (Nat.le_refl _) _) _⟩
set_option maxRecDepth 20000 in
set_option maxHeartbeats 800000 in
theorem act_3_4 (all non part src n : Int) (hall : isSet all = true) (b o : Nat) (w : World) (hb : b < w.heap.size) (c0 : w.cell? ⟨b, o, none⟩ = some (.int .i64 3)) (c1 : w.cell? ⟨b, o + 1, none⟩ = some (.int .i64 part)) (c2 : w.cell? ⟨b, o + 2, none⟩ = some (.int .i64 src)) (c3 : w.cell? ⟨b, o + 3, none⟩ = some (.int .i64 n)) (e0 : isPart part = true) (e1 : isPart src = true) (e2 : hasB all src = true) (e3 : hasB all part = true) :
    Calls Try.prog 98 #[.agg #[.int .i64 all, .int .i64 non], .pointer (some ⟨b, o, none⟩)] w fun e w' => e = .returned (.int .i64 0) ∧ Below w.heap.size w w' := by
  go_enter Try.func98, Try.ntmps98
  go_wp2_with (first
    | (go_at_call 59; refine (set_any _ _).mono ?_; rintro e w' ⟨rfl, rfl⟩)
    | (go_at_call 73; refine (part_any _ _).mono ?_; rintro e w' ⟨rfl, rfl⟩)
    | (go_at_call 60; refine (value_any _ _).mono ?_; rintro e w' ⟨rfl, rfl⟩))
  go_quiet ((go_at_call 77; exact quiet_same (has_any _ _ hall _)))
  go_wp2_with fail
  go_ret
  exact ⟨rfl, by first | exact (Below.refl _ _).alloc (Nat.le_refl _) _ | exact below_drewN ((Below.refl _ _).alloc (Nat.le_refl _) _) _⟩
set_option maxRecDepth 20000 in
set_option maxHeartbeats 800000 in
theorem act_4_0 (all non part src n : Int) (hall : isSet all = true) (b o : Nat) (w : World) (hb : b < w.heap.size) (c0 : w.cell? ⟨b, o, none⟩ = some (.int .i64 4)) (c1 : w.cell? ⟨b, o + 1, none⟩ = some (.int .i64 part)) (c2 : w.cell? ⟨b, o + 2, none⟩ = some (.int .i64 src)) (c3 : w.cell? ⟨b, o + 3, none⟩ = some (.int .i64 n)) (e0 : isPart part = false) :
    Calls Try.prog 98 #[.agg #[.int .i64 all, .int .i64 non], .pointer (some ⟨b, o, none⟩)] w fun e w' => e = .returned (.int .i64 3) ∧ Below w.heap.size w w' := by
  go_enter Try.func98, Try.ntmps98
  go_wp2_with (first
    | (go_at_call 59; refine (set_any _ _).mono ?_; rintro e w' ⟨rfl, rfl⟩)
    | (go_at_call 73; refine (part_any _ _).mono ?_; rintro e w' ⟨rfl, rfl⟩)
    | (go_at_call 60; refine (value_any _ _).mono ?_; rintro e w' ⟨rfl, rfl⟩))
  go_ret
  exact ⟨rfl, by first | exact (Below.refl _ _).alloc (Nat.le_refl _) _ | exact below_drewN ((Below.refl _ _).alloc (Nat.le_refl _) _) _⟩
set_option maxRecDepth 20000 in
set_option maxHeartbeats 800000 in
theorem act_4_1 (all non part src n : Int) (hall : isSet all = true) (b o : Nat) (w : World) (hb : b < w.heap.size) (c0 : w.cell? ⟨b, o, none⟩ = some (.int .i64 4)) (c1 : w.cell? ⟨b, o + 1, none⟩ = some (.int .i64 part)) (c2 : w.cell? ⟨b, o + 2, none⟩ = some (.int .i64 src)) (c3 : w.cell? ⟨b, o + 3, none⟩ = some (.int .i64 n)) (e0 : isPart part = true) (e1 : isVal n = false) :
    Calls Try.prog 98 #[.agg #[.int .i64 all, .int .i64 non], .pointer (some ⟨b, o, none⟩)] w fun e w' => e = .returned (.int .i64 3) ∧ Below w.heap.size w w' := by
  go_enter Try.func98, Try.ntmps98
  go_wp2_with (first
    | (go_at_call 59; refine (set_any _ _).mono ?_; rintro e w' ⟨rfl, rfl⟩)
    | (go_at_call 73; refine (part_any _ _).mono ?_; rintro e w' ⟨rfl, rfl⟩)
    | (go_at_call 60; refine (value_any _ _).mono ?_; rintro e w' ⟨rfl, rfl⟩))
  go_ret
  exact ⟨rfl, by first | exact (Below.refl _ _).alloc (Nat.le_refl _) _ | exact below_drewN ((Below.refl _ _).alloc (Nat.le_refl _) _) _⟩
set_option maxRecDepth 20000 in
set_option maxHeartbeats 800000 in
theorem act_4_2 (all non part src n : Int) (hall : isSet all = true) (b o : Nat) (w : World) (hb : b < w.heap.size) (c0 : w.cell? ⟨b, o, none⟩ = some (.int .i64 4)) (c1 : w.cell? ⟨b, o + 1, none⟩ = some (.int .i64 part)) (c2 : w.cell? ⟨b, o + 2, none⟩ = some (.int .i64 src)) (c3 : w.cell? ⟨b, o + 3, none⟩ = some (.int .i64 n)) (e0 : isPart part = true) (e1 : isVal n = true) (e2 : hasB all part = false) :
    Calls Try.prog 98 #[.agg #[.int .i64 all, .int .i64 non], .pointer (some ⟨b, o, none⟩)] w fun e w' => e = .returned (.int .i64 7) ∧ Below w.heap.size w w' := by
  go_enter Try.func98, Try.ntmps98
  go_wp2_with (first
    | (go_at_call 59; refine (set_any _ _).mono ?_; rintro e w' ⟨rfl, rfl⟩)
    | (go_at_call 73; refine (part_any _ _).mono ?_; rintro e w' ⟨rfl, rfl⟩)
    | (go_at_call 60; refine (value_any _ _).mono ?_; rintro e w' ⟨rfl, rfl⟩))
  go_quiet ((go_at_call 77; exact quiet_same (has_any _ _ hall _)))
  go_wp2_with fail
  go_ret
  exact ⟨rfl, by first | exact (Below.refl _ _).alloc (Nat.le_refl _) _ | exact below_drewN ((Below.refl _ _).alloc (Nat.le_refl _) _) _⟩
set_option maxRecDepth 20000 in
set_option maxHeartbeats 800000 in
theorem act_4_3 (all non part src n : Int) (hall : isSet all = true) (b o : Nat) (w : World) (hb : b < w.heap.size) (c0 : w.cell? ⟨b, o, none⟩ = some (.int .i64 4)) (c1 : w.cell? ⟨b, o + 1, none⟩ = some (.int .i64 part)) (c2 : w.cell? ⟨b, o + 2, none⟩ = some (.int .i64 src)) (c3 : w.cell? ⟨b, o + 3, none⟩ = some (.int .i64 n)) (e0 : isPart part = true) (e1 : isVal n = true) (e2 : hasB all part = true) :
    Calls Try.prog 98 #[.agg #[.int .i64 all, .int .i64 non], .pointer (some ⟨b, o, none⟩)] w fun e w' => e = .returned (.int .i64 0) ∧ Below w.heap.size w w' := by
  go_enter Try.func98, Try.ntmps98
  go_wp2_with (first
    | (go_at_call 59; refine (set_any _ _).mono ?_; rintro e w' ⟨rfl, rfl⟩)
    | (go_at_call 73; refine (part_any _ _).mono ?_; rintro e w' ⟨rfl, rfl⟩)
    | (go_at_call 60; refine (value_any _ _).mono ?_; rintro e w' ⟨rfl, rfl⟩))
  go_quiet ((go_at_call 77; exact quiet_same (has_any _ _ hall _)))
  go_wp2_with fail
  go_ret
  exact ⟨rfl, by first | exact (Below.refl _ _).alloc (Nat.le_refl _) _ | exact below_drewN ((Below.refl _ _).alloc (Nat.le_refl _) _) _⟩
set_option maxRecDepth 20000 in
set_option maxHeartbeats 800000 in
theorem act_5_0 (all non part src n : Int) (hall : isSet all = true) (b o : Nat) (w : World) (hb : b < w.heap.size) (c0 : w.cell? ⟨b, o, none⟩ = some (.int .i64 5)) (c1 : w.cell? ⟨b, o + 1, none⟩ = some (.int .i64 part)) (c2 : w.cell? ⟨b, o + 2, none⟩ = some (.int .i64 src)) (c3 : w.cell? ⟨b, o + 3, none⟩ = some (.int .i64 n)) (e0 : isPart part = false) :
    Calls Try.prog 98 #[.agg #[.int .i64 all, .int .i64 non], .pointer (some ⟨b, o, none⟩)] w fun e w' => e = .returned (.int .i64 3) ∧ Below w.heap.size w w' := by
  go_enter Try.func98, Try.ntmps98
  go_wp2_with (first
    | (go_at_call 59; refine (set_any _ _).mono ?_; rintro e w' ⟨rfl, rfl⟩)
    | (go_at_call 73; refine (part_any _ _).mono ?_; rintro e w' ⟨rfl, rfl⟩)
    | (go_at_call 60; refine (value_any _ _).mono ?_; rintro e w' ⟨rfl, rfl⟩))
  go_ret
  exact ⟨rfl, by first | exact (Below.refl _ _).alloc (Nat.le_refl _) _ | exact below_drewN ((Below.refl _ _).alloc (Nat.le_refl _) _) _⟩
set_option maxRecDepth 20000 in
set_option maxHeartbeats 800000 in
theorem act_5_1 (all non part src n : Int) (hall : isSet all = true) (b o : Nat) (w : World) (hb : b < w.heap.size) (c0 : w.cell? ⟨b, o, none⟩ = some (.int .i64 5)) (c1 : w.cell? ⟨b, o + 1, none⟩ = some (.int .i64 part)) (c2 : w.cell? ⟨b, o + 2, none⟩ = some (.int .i64 src)) (c3 : w.cell? ⟨b, o + 3, none⟩ = some (.int .i64 n)) (e0 : isPart part = true) :
    Calls Try.prog 98 #[.agg #[.int .i64 all, .int .i64 non], .pointer (some ⟨b, o, none⟩)] w fun e w' => e = .returned (.int .i64 0) ∧ Below w.heap.size w w' := by
  go_enter Try.func98, Try.ntmps98
  go_wp2_with (first
    | (go_at_call 59; refine (set_any _ _).mono ?_; rintro e w' ⟨rfl, rfl⟩)
    | (go_at_call 73; refine (part_any _ _).mono ?_; rintro e w' ⟨rfl, rfl⟩)
    | (go_at_call 60; refine (value_any _ _).mono ?_; rintro e w' ⟨rfl, rfl⟩))
  go_quiet ((go_at_call 77; exact quiet_same (has_any _ _ hall _)))
  go_wp2_with fail
  go_ret
  exact ⟨rfl, by first | exact (Below.refl _ _).alloc (Nat.le_refl _) _ | exact below_drewN ((Below.refl _ _).alloc (Nat.le_refl _) _) _⟩
set_option maxRecDepth 20000 in
set_option maxHeartbeats 800000 in
theorem act_6_0 (all non part src n : Int) (hall : isSet all = true) (b o : Nat) (w : World) (hb : b < w.heap.size) (c0 : w.cell? ⟨b, o, none⟩ = some (.int .i64 6)) (c1 : w.cell? ⟨b, o + 1, none⟩ = some (.int .i64 part)) (c2 : w.cell? ⟨b, o + 2, none⟩ = some (.int .i64 src)) (c3 : w.cell? ⟨b, o + 3, none⟩ = some (.int .i64 n)) :
    Calls Try.prog 98 #[.agg #[.int .i64 all, .int .i64 non], .pointer (some ⟨b, o, none⟩)] w fun e w' => e = .returned (.int .i64 0) ∧ Below w.heap.size w w' := by
  go_enter Try.func98, Try.ntmps98
  go_wp2_with (first
    | (go_at_call 59; refine (set_any _ _).mono ?_; rintro e w' ⟨rfl, rfl⟩)
    | (go_at_call 73; refine (part_any _ _).mono ?_; rintro e w' ⟨rfl, rfl⟩)
    | (go_at_call 60; refine (value_any _ _).mono ?_; rintro e w' ⟨rfl, rfl⟩))
  go_ret
  exact ⟨rfl, by first | exact (Below.refl _ _).alloc (Nat.le_refl _) _ | exact below_drewN ((Below.refl _ _).alloc (Nat.le_refl _) _) _⟩
set_option maxRecDepth 20000 in
set_option maxHeartbeats 800000 in
theorem act_7_0 (all non part src n : Int) (hall : isSet all = true) (b o : Nat) (w : World) (hb : b < w.heap.size) (c0 : w.cell? ⟨b, o, none⟩ = some (.int .i64 7)) (c1 : w.cell? ⟨b, o + 1, none⟩ = some (.int .i64 part)) (c2 : w.cell? ⟨b, o + 2, none⟩ = some (.int .i64 src)) (c3 : w.cell? ⟨b, o + 3, none⟩ = some (.int .i64 n)) (e0 : isSet part = false) :
    Calls Try.prog 98 #[.agg #[.int .i64 all, .int .i64 non], .pointer (some ⟨b, o, none⟩)] w fun e w' => e = .returned (.int .i64 3) ∧ Below w.heap.size w w' := by
  go_enter Try.func98, Try.ntmps98
  go_wp2_with (first
    | (go_at_call 59; refine (set_any _ _).mono ?_; rintro e w' ⟨rfl, rfl⟩)
    | (go_at_call 73; refine (part_any _ _).mono ?_; rintro e w' ⟨rfl, rfl⟩)
    | (go_at_call 60; refine (value_any _ _).mono ?_; rintro e w' ⟨rfl, rfl⟩))
  go_ret
  exact ⟨rfl, by first | exact (Below.refl _ _).alloc (Nat.le_refl _) _ | exact below_drewN ((Below.refl _ _).alloc (Nat.le_refl _) _) _⟩
set_option maxRecDepth 20000 in
set_option maxHeartbeats 800000 in
theorem act_7_1 (all non part src n : Int) (hall : isSet all = true) (b o : Nat) (w : World) (hb : b < w.heap.size) (c0 : w.cell? ⟨b, o, none⟩ = some (.int .i64 7)) (c1 : w.cell? ⟨b, o + 1, none⟩ = some (.int .i64 part)) (c2 : w.cell? ⟨b, o + 2, none⟩ = some (.int .i64 src)) (c3 : w.cell? ⟨b, o + 3, none⟩ = some (.int .i64 n)) (e0 : isSet part = true) (e1 : isVal n = false) :
    Calls Try.prog 98 #[.agg #[.int .i64 all, .int .i64 non], .pointer (some ⟨b, o, none⟩)] w fun e w' => e = .returned (.int .i64 3) ∧ Below w.heap.size w w' := by
  go_enter Try.func98, Try.ntmps98
  go_wp2_with (first
    | (go_at_call 59; refine (set_any _ _).mono ?_; rintro e w' ⟨rfl, rfl⟩)
    | (go_at_call 73; refine (part_any _ _).mono ?_; rintro e w' ⟨rfl, rfl⟩)
    | (go_at_call 60; refine (value_any _ _).mono ?_; rintro e w' ⟨rfl, rfl⟩))
  go_ret
  exact ⟨rfl, by first | exact (Below.refl _ _).alloc (Nat.le_refl _) _ | exact below_drewN ((Below.refl _ _).alloc (Nat.le_refl _) _) _⟩
set_option maxRecDepth 20000 in
set_option maxHeartbeats 800000 in
theorem act_7_2 (all non part src n : Int) (hall : isSet all = true) (b o : Nat) (w : World) (hb : b < w.heap.size) (c0 : w.cell? ⟨b, o, none⟩ = some (.int .i64 7)) (c1 : w.cell? ⟨b, o + 1, none⟩ = some (.int .i64 part)) (c2 : w.cell? ⟨b, o + 2, none⟩ = some (.int .i64 src)) (c3 : w.cell? ⟨b, o + 3, none⟩ = some (.int .i64 n)) (e0 : isSet part = true) (e1 : isVal n = true) :
    Calls Try.prog 98 #[.agg #[.int .i64 all, .int .i64 non], .pointer (some ⟨b, o, none⟩)] w fun e w' => e = .returned (.int .i64 0) ∧ Below w.heap.size w w' := by
  go_enter Try.func98, Try.ntmps98
  go_wp2_with (first
    | (go_at_call 59; refine (set_any _ _).mono ?_; rintro e w' ⟨rfl, rfl⟩)
    | (go_at_call 73; refine (part_any _ _).mono ?_; rintro e w' ⟨rfl, rfl⟩)
    | (go_at_call 60; refine (value_any _ _).mono ?_; rintro e w' ⟨rfl, rfl⟩))
  go_ret
  exact ⟨rfl, by first | exact (Below.refl _ _).alloc (Nat.le_refl _) _ | exact below_drewN ((Below.refl _ _).alloc (Nat.le_refl _) _) _⟩
set_option maxRecDepth 20000 in
set_option maxHeartbeats 800000 in
theorem act_other (all non kind part src n : Int) (hall : isSet all = true) (b o : Nat) (w : World) (hb : b < w.heap.size) (c0 : w.cell? ⟨b, o, none⟩ = some (.int .i64 kind)) (c1 : w.cell? ⟨b, o + 1, none⟩ = some (.int .i64 part)) (c2 : w.cell? ⟨b, o + 2, none⟩ = some (.int .i64 src)) (c3 : w.cell? ⟨b, o + 3, none⟩ = some (.int .i64 n)) (h : kind ≠ 1 ∧ kind ≠ 2 ∧ kind ≠ 3 ∧ kind ≠ 4 ∧ kind ≠ 5 ∧ kind ≠ 6 ∧ kind ≠ 7) :
    Calls Try.prog 98 #[.agg #[.int .i64 all, .int .i64 non], .pointer (some ⟨b, o, none⟩)] w fun e w' => e = .returned (.int .i64 1) ∧ Below w.heap.size w w' := by
  have k1 : (kind == 1) = false := by simpa using h.1
  have k2 : (kind == 2) = false := by simpa using h.2.1
  have k3 : (kind == 3) = false := by simpa using h.2.2.1
  have k4 : (kind == 4) = false := by simpa using h.2.2.2.1
  have k5 : (kind == 5) = false := by simpa using h.2.2.2.2.1
  have k6 : (kind == 6) = false := by simpa using h.2.2.2.2.2.1
  have k7 : (kind == 7) = false := by simpa using h.2.2.2.2.2.2
  clear h
  go_enter Try.func98, Try.ntmps98
  go_wp2_with fail
  go_ret
  exact ⟨rfl, (Below.refl _ _).alloc (Nat.le_refl _) _⟩
end Go.Proofs.Ytefdblaolmckmab

namespace Go.Proofs.Ytefdblaolmckmab
open Go.RowKit
open Brood
set_option linter.unusedVariables false
set_option linter.unusedSimpArgs false

theorem err_eq {x y : Int} (h : x = y) : Ending.returned (.int .i64 x) = .returned (.int .i64 y) := by rw [h]
theorem act_any (all non : Int) (a : BAct) (hall : isSet all = true) (b o : Nat) (w : World) (hb : b < w.heap.size) (hc : ActAt w b o a) :
    Calls Try.prog 98 #[.agg #[.int .i64 all, .int .i64 non], .pointer (some ⟨b, o, none⟩)] w fun e w' => e = .returned (.int .i64 (actErr all a)) ∧ Below w.heap.size w w' := by
  obtain ⟨kind, part, src, n⟩ := a
  obtain ⟨c0, c1, c2, c3⟩ := hc
  simp only at c0 c1 c2 c3
  by_cases h : kind = 1 ∨ kind = 2 ∨ kind = 3 ∨ kind = 4 ∨ kind = 5 ∨ kind = 6 ∨ kind = 7
  · rcases h with rfl | rfl | rfl | rfl | rfl | rfl | rfl
    · cases q0 : isPart part with
      | false =>
        refine (act_1_0 all non part src n hall b o w hb c0 c1 c2 c3 q0).mono ?_
        rintro e w' ⟨rfl, hq⟩
        exact ⟨err_eq (by simp [actErr, isFrom, isOwn, isWrite, q0]), hq⟩
      | true =>
        cases q1 : isVal n with
        | false =>
          refine (act_1_1 all non part src n hall b o w hb c0 c1 c2 c3 q0 q1).mono ?_
          rintro e w' ⟨rfl, hq⟩
          exact ⟨err_eq (by simp [actErr, isFrom, isOwn, isWrite, q0, q1]), hq⟩
        | true =>
          refine (act_1_2 all non part src n hall b o w hb c0 c1 c2 c3 q0 q1).mono ?_
          rintro e w' ⟨rfl, hq⟩
          exact ⟨err_eq (by simp [actErr, isFrom, isOwn, isWrite, q0, q1]), hq⟩
    · cases q0 : isPart part with
      | false =>
        refine (act_2_0 all non part src n hall b o w hb c0 c1 c2 c3 q0).mono ?_
        rintro e w' ⟨rfl, hq⟩
        exact ⟨err_eq (by simp [actErr, isFrom, isOwn, isWrite, q0]), hq⟩
      | true =>
        cases q1 : isPart src with
        | false =>
          refine (act_2_1 all non part src n hall b o w hb c0 c1 c2 c3 q0 q1).mono ?_
          rintro e w' ⟨rfl, hq⟩
          exact ⟨err_eq (by simp [actErr, isFrom, isOwn, isWrite, q0, q1]), hq⟩
        | true =>
          cases q2 : hasB all src with
          | false =>
            refine (act_2_2 all non part src n hall b o w hb c0 c1 c2 c3 q0 q1 q2).mono ?_
            rintro e w' ⟨rfl, hq⟩
            exact ⟨err_eq (by simp [actErr, isFrom, isOwn, isWrite, q0, q1, q2]), hq⟩
          | true =>
            refine (act_2_3 all non part src n hall b o w hb c0 c1 c2 c3 q0 q1 q2).mono ?_
            rintro e w' ⟨rfl, hq⟩
            exact ⟨err_eq (by simp [actErr, isFrom, isOwn, isWrite, q0, q1, q2]), hq⟩
    · cases q0 : isPart part with
      | false =>
        refine (act_3_0 all non part src n hall b o w hb c0 c1 c2 c3 q0).mono ?_
        rintro e w' ⟨rfl, hq⟩
        exact ⟨err_eq (by simp [actErr, isFrom, isOwn, isWrite, q0]), hq⟩
      | true =>
        cases q1 : isPart src with
        | false =>
          refine (act_3_1 all non part src n hall b o w hb c0 c1 c2 c3 q0 q1).mono ?_
          rintro e w' ⟨rfl, hq⟩
          exact ⟨err_eq (by simp [actErr, isFrom, isOwn, isWrite, q0, q1]), hq⟩
        | true =>
          cases q2 : hasB all src with
          | false =>
            refine (act_3_2 all non part src n hall b o w hb c0 c1 c2 c3 q0 q1 q2).mono ?_
            rintro e w' ⟨rfl, hq⟩
            exact ⟨err_eq (by simp [actErr, isFrom, isOwn, isWrite, q0, q1, q2]), hq⟩
          | true =>
            cases q3 : hasB all part with
            | false =>
              refine (act_3_3 all non part src n hall b o w hb c0 c1 c2 c3 q0 q1 q2 q3).mono ?_
              rintro e w' ⟨rfl, hq⟩
              exact ⟨err_eq (by simp [actErr, isFrom, isOwn, isWrite, q0, q1, q2, q3]), hq⟩
            | true =>
              refine (act_3_4 all non part src n hall b o w hb c0 c1 c2 c3 q0 q1 q2 q3).mono ?_
              rintro e w' ⟨rfl, hq⟩
              exact ⟨err_eq (by simp [actErr, isFrom, isOwn, isWrite, q0, q1, q2, q3]), hq⟩
    · cases q0 : isPart part with
      | false =>
        refine (act_4_0 all non part src n hall b o w hb c0 c1 c2 c3 q0).mono ?_
        rintro e w' ⟨rfl, hq⟩
        exact ⟨err_eq (by simp [actErr, isFrom, isOwn, isWrite, q0]), hq⟩
      | true =>
        cases q1 : isVal n with
        | false =>
          refine (act_4_1 all non part src n hall b o w hb c0 c1 c2 c3 q0 q1).mono ?_
          rintro e w' ⟨rfl, hq⟩
          exact ⟨err_eq (by simp [actErr, isFrom, isOwn, isWrite, q0, q1]), hq⟩
        | true =>
          cases q2 : hasB all part with
          | false =>
            refine (act_4_2 all non part src n hall b o w hb c0 c1 c2 c3 q0 q1 q2).mono ?_
            rintro e w' ⟨rfl, hq⟩
            exact ⟨err_eq (by simp [actErr, isFrom, isOwn, isWrite, q0, q1, q2]), hq⟩
          | true =>
            refine (act_4_3 all non part src n hall b o w hb c0 c1 c2 c3 q0 q1 q2).mono ?_
            rintro e w' ⟨rfl, hq⟩
            exact ⟨err_eq (by simp [actErr, isFrom, isOwn, isWrite, q0, q1, q2]), hq⟩
    · cases q0 : isPart part with
      | false =>
        refine (act_5_0 all non part src n hall b o w hb c0 c1 c2 c3 q0).mono ?_
        rintro e w' ⟨rfl, hq⟩
        exact ⟨err_eq (by simp [actErr, isFrom, isOwn, isWrite, q0]), hq⟩
      | true =>
        refine (act_5_1 all non part src n hall b o w hb c0 c1 c2 c3 q0).mono ?_
        rintro e w' ⟨rfl, hq⟩
        exact ⟨err_eq (by simp [actErr, isFrom, isOwn, isWrite, q0]), hq⟩
    · refine (act_6_0 all non part src n hall b o w hb c0 c1 c2 c3 ).mono ?_
      rintro e w' ⟨rfl, hq⟩
      exact ⟨err_eq (by simp [actErr, isFrom, isOwn, isWrite]), hq⟩
    · cases q0 : isSet part with
      | false =>
        refine (act_7_0 all non part src n hall b o w hb c0 c1 c2 c3 q0).mono ?_
        rintro e w' ⟨rfl, hq⟩
        exact ⟨err_eq (by simp [actErr, isFrom, isOwn, isWrite, q0]), hq⟩
      | true =>
        cases q1 : isVal n with
        | false =>
          refine (act_7_1 all non part src n hall b o w hb c0 c1 c2 c3 q0 q1).mono ?_
          rintro e w' ⟨rfl, hq⟩
          exact ⟨err_eq (by simp [actErr, isFrom, isOwn, isWrite, q0, q1]), hq⟩
        | true =>
          refine (act_7_2 all non part src n hall b o w hb c0 c1 c2 c3 q0 q1).mono ?_
          rintro e w' ⟨rfl, hq⟩
          exact ⟨err_eq (by simp [actErr, isFrom, isOwn, isWrite, q0, q1]), hq⟩
  · have hk : kind ≠ 1 ∧ kind ≠ 2 ∧ kind ≠ 3 ∧ kind ≠ 4 ∧ kind ≠ 5 ∧ kind ≠ 6 ∧ kind ≠ 7 := by
      simp only [not_or] at h
      exact h
    refine (act_other all non kind part src n hall b o w hb c0 c1 c2 c3 hk).mono ?_
    rintro e w' ⟨rfl, hq⟩
    refine ⟨err_eq ?_, hq⟩
    have hw : isWrite kind = false := by simp [isWrite]; omega
    simp [actErr, hk.2.2.2.2.2.1, hk.2.2.2.2.2.2, hw]

theorem flat_get {α : Type} {f : α → List Value} {m : Nat} (hf : ∀ x, (f x).length = m) : ∀ (l : List α) (k : Nat) (hk : k < l.length) (j : Nat), j < m → (l.flatMap f)[k * m + j]? = (f l[k])[j]? := by
  intro l
  induction l with
  | nil => intro k hk; simp at hk
  | cons x l ih =>
    intro k hk j hj
    rw [List.flatMap_cons]
    cases k with
    | zero =>
      rw [List.getElem?_append_left (by rw [hf]; omega)]
      simp
    | succ k =>
      have e : (k + 1) * m = m + k * m := by rw [Nat.succ_mul, Nat.add_comm]
      rw [List.getElem?_append_right (by rw [hf, e]; omega), hf, e]
      have e2 : m + k * m + j - m = k * m + j := by omega
      rw [e2, ih k (by simpa using hk) j hj]
      simp
theorem flat_length {α : Type} {f : α → List Value} {m : Nat} (hf : ∀ x, (f x).length = m) (l : List α) : (l.flatMap f).length = l.length * m := by
  induction l with
  | nil => simp
  | cons x l ih => rw [List.flatMap_cons, List.length_append, hf, ih, List.length_cons, Nat.succ_mul]; omega

def actCells (a : BAct) : List Value := [.int .i64 a.kind, .int .i64 a.part, .int .i64 a.src, .int .i64 a.n]
/-- A slice of acts, below block B, that reads as l. -/
def RdAB (w : World) (B : Nat) (A : Option Addr) (l : List BAct) : Prop := Rd w B 4 A l.length (l.flatMap actCells)
theorem RdAB.at_ {w : World} {B : Nat} {A : Option Addr} {l : List BAct} (h : RdAB w B A l) {k : Nat} (hk : k < l.length) :
    ∃ b off, A = some ⟨b, off, none⟩ ∧ b < B ∧ ActAt w b (off + k * 4) l[k] := by
  obtain ⟨b, off, e, hb, hc⟩ := h.2 (by omega)
  have hf : ∀ x, (actCells x).length = 4 := fun _ => rfl
  refine ⟨b, off, e, hb, ?_, ?_, ?_, ?_⟩
  · have := hc (k * 4 + 0) _ (flat_get hf l k hk 0 (by omega)); simpa using this
  · have := hc (k * 4 + 1) _ (flat_get hf l k hk 1 (by omega)); simpa [Nat.add_assoc] using this
  · have := hc (k * 4 + 2) _ (flat_get hf l k hk 2 (by omega)); simpa [Nat.add_assoc] using this
  · have := hc (k * 4 + 3) _ (flat_get hf l k hk 3 (by omega)); simpa [Nat.add_assoc] using this
/-- A slice of acts that reads as l. -/
def RdA (w : World) (A : Option Addr) (l : List BAct) : Prop := RdAB w w.heap.size A l
theorem RdA.at_ {w : World} {A : Option Addr} {l : List BAct} (h : RdA w A l) {k : Nat} (hk : k < l.length) :
    ∃ b off, A = some ⟨b, off, none⟩ ∧ b < w.heap.size ∧ ActAt w b (off + k * 4) l[k] := RdAB.at_ h hk
theorem RdA.grow {w w' : World} {A : Option Addr} {l : List BAct} (h : RdA w A l) (hb : Below w.heap.size w w') : RdA w' A l := Rd.grow h hb
theorem RdA.drew {w : World} {A : Option Addr} {l : List BAct} (h : RdA w A l) : RdA w.drew A l := h
theorem ActAt.below {w w' : World} {b o : Nat} {a : BAct} (h : ActAt w b o a) {B : Nat} (hb : Below B w w') (hB : b < B) : ActAt w' b o a :=
  ⟨(hb.cell hB).trans h.1, (hb.cell hB).trans h.2.1, (hb.cell hB).trans h.2.2.1, (hb.cell hB).trans h.2.2.2⟩

theorem wrongFrom_ok {all g : Int} {i : Nat} {a : BAct} {l : List BAct} (h1 : actErr all a = 0) (h2 : goneErr g a = false) :
    wrongFrom all g i (a :: l) = wrongFrom all (goneNext g a) (i + 1) l := by
  simp [wrongFrom, h1, h2]
theorem drop_cons {α : Type} {l : List α} {k : Nat} (h : k < l.length) : l.drop k = l[k] :: l.drop (k + 1) := List.drop_eq_getElem_cons h

theorem kinds_of_ok {all kind part src n : Int} (h : actErr all ⟨kind, part, src, n⟩ = 0) : kind = 1 ∨ kind = 2 ∨ kind = 3 ∨ kind = 4 ∨ kind = 5 ∨ kind = 6 ∨ kind = 7 := by
  by_cases h6 : kind = 6
  · omega
  by_cases h7 : kind = 7
  · omega
  by_cases hw : isWrite kind = true
  · simp [isWrite] at hw; omega
  · simp [actErr, h6, h7, hw] at h

set_option maxRecDepth 20000 in
set_option maxHeartbeats 3200000 in
theorem wrong_any (s : BSys) (A : Option Addr) (c : Nat) (w : World) (hA : RdA w A s.acts) :
    Calls Try.prog 50 #[.agg #[.int .i64 s.mod, .int .i64 s.all, .int .i64 s.non, .slice A s.acts.length c]] w fun e w' =>
      e = .returned (.agg #[.int .i64 (sysWrong s).1, .int .i64 (sysWrong s).2]) ∧ Below w.heap.size w w' := by
  obtain ⟨mod, all, non, acts⟩ := s
  simp only at hA ⊢
  by_cases hh : sysHead ⟨mod, all, non, acts⟩ = true
  · have hh' := hh
    simp only [sysHead, Bool.and_eq_true, decide_eq_true_eq] at hh'
    obtain ⟨⟨⟨m0, m1⟩, hall⟩, hnon⟩ := hh'
    by_cases hl : 8 < acts.length
    · have hr : sysWrong ⟨mod, all, non, acts⟩ = (4, 0) := by simp [sysWrong, hh, hl]
      rw [hr]
      clear hh hr
      go_enter Try.func50, Try.ntmps50
      go_wp2_with (go_at_call 59; refine (set_any _ _).mono ?_; rintro e w' ⟨rfl, rfl⟩)
      refine bodyPost_ret (v := .agg #[.int .i64 4, .int .i64 0]) (by simp [results, Try.results50, go_sem]) rfl ⟨rfl, ?_⟩
      exact ((Below.refl _ _).alloc (Nat.le_refl _) _).alloc (by simp) _
    · have hr : sysWrong ⟨mod, all, non, acts⟩ = wrongFrom all 0 0 acts := by simp [sysWrong, hh, hl]
      rw [hr]
      clear hh hr
      go_enter Try.func50, Try.ntmps50
      go_wp2_with (go_at_call 59; refine (set_any _ _).mono ?_; rintro e w' ⟨rfl, rfl⟩)
      have B0 := ((Blk.new w 85 #[.int .i64 mod, .int .i64 all, .int .i64 non, .slice A acts.length c]).alloc (.cells #[.int .i64 0, .int .i64 0] 32))
      have F0 := Blk.new (w.alloc (.cells #[.int .i64 mod, .int .i64 all, .int .i64 non, .slice A acts.length c] 85)) 32 #[.int .i64 0, .int .i64 0]
      rw [show (w.alloc (.cells #[.int .i64 mod, .int .i64 all, .int .i64 non, .slice A acts.length c] 85)).heap.size = w.heap.size + 1 from by simp] at F0
      go_loopw [3, 40] (fun g i wr => ∃ (k : Nat) (z : Int), k ≤ acts.length ∧ i = .int .i64 k ∧ g = .int .i64 z ∧ isSet z = true ∧ Hid (wrongFrom all 0 0 acts = wrongFrom all z k (acts.drop k)) ∧
          Below w.heap.size w wr ∧ RdA wr A acts ∧ Blk wr w.heap.size 85 #[.int .i64 mod, .int .i64 all, .int .i64 non, .slice A acts.length c] ∧ Blk wr (w.heap.size + 1) 32 #[.int .i64 0, .int .i64 0]) (fun _ i _ => acts.length - (intOf i).toNat)
      case atStart => exact ⟨0, 0, Nat.zero_le _, rfl, rfl, by decide, Lib.hid (by simp), ((Below.refl _ _).alloc (Nat.le_refl _) _).alloc (by simp) _, Rd.alloc_ (Rd.alloc_ hA _) _, B0, F0⟩
      case round =>
        clear B0 F0 hA
        obtain ⟨k, z, hk, rfl, rfl, hz, heq, hbel, hA, HB, HF⟩ := hrel
        by_cases hlt : k < acts.length
        · obtain ⟨b, off, rfl, hb, ha⟩ := hA.at_ hlt
          have i0 : (0 : Int) ≤ (k : Int) := by omega
          have i1 : (k : Int) < (acts.length : Int) := by omega
          have hst := Lib.hid (drop_cons hlt)
          replace HB := HB.drew; replace HF := HF.drew; replace hbel := hbel.drew; replace ha : ActAt wr.drew b (off + k * 4) acts[k] := ha; replace hb : b < wr.drew.heap.size := hb; replace hA := hA.drew
          go_upto_region 9 with fail
          go_cut [5] (fun s5 wx => s5 = .int .i64 (actErr all acts[k]) ∧ Below w.heap.size w wx ∧ b < wx.heap.size ∧ ActAt wx b (off + k * 4) acts[k] ∧ RdA wx (some ⟨b, off, none⟩) acts ∧ Blk wx w.heap.size 85 #[.int .i64 mod, .int .i64 all, .int .i64 non, .slice (some ⟨b, off, none⟩) acts.length c] ∧ Blk wx (w.heap.size + 1) 32 #[.int .i64 0, .int .i64 0])
          case first =>
            go_region_held3 (fun w' => w'.cell? ⟨w.heap.size, 0, none⟩ = some (.int .i64 mod) ∧ w'.cell? ⟨w.heap.size, 1, none⟩ = some (.int .i64 all) ∧ w'.cell? ⟨w.heap.size, 2, none⟩ = some (.int .i64 non) ∧ w'.cell? ⟨w.heap.size, 3, none⟩ = some (.slice (some ⟨b, off, none⟩) acts.length c)) (exact ⟨HB.cell 0, HB.cell 1, HB.cell 2, HB.cell 3⟩)
              (first | (go_at_call 98; refine (act_any all non acts[k] hall b (off + k * 4) _ hb ha).mono ?_; rintro e w1 ⟨rfl, hb1⟩; have HB := HB.below hb1 HB.lt; have HF := HF.below hb1 HF.lt; have hbel := grow_below hbel hb1; have ha := ha.below hb1 hb; have hA := hA.grow hb1; have hb := Nat.lt_of_lt_of_le hb hb1.size))
            go_wp2_with fail
            go_meet
            exact ⟨rfl, hbel, hb, ha, hA, HB, HF⟩
          case rest =>
            clear ha hb hA HB HF hbel
            obtain ⟨rfl, hbel, hb, ha, hA, HB, HF⟩ := hcut
            obtain ⟨hc0, hc1, hc2, hc3⟩ := ha
            have e0 := HB.cell 0; have e1 := HB.cell 1; have e2 := HB.cell 2; have e3 := HB.cell 3
            have f0 := HF.cell 0; have f1 := HF.cell 1; have z0 := HF.frozen 0; have z1 := HF.frozen 1
            simp at e0 e1 e2 e3 f0 f1
            generalize acts[k] = a at *
            obtain ⟨kind, part, src, n⟩ := a
            simp only at hc0 hc1 hc2 hc3
            cases hx : (decide (actErr all ⟨kind, part, src, n⟩ = 0)) with
            | false =>
              have hx1 := of_decide_eq_false hx
              have hx' : (actErr all ⟨kind, part, src, n⟩ != 0) = true := by simpa using hx1
              have hx2 := Lib.hid hx1
              clear hx hx1
              go_wp2_with fail
              refine bodyPost_ret (v := .agg #[.int .i64 (actErr all ⟨kind, part, src, n⟩), .int .i64 (k : Int)]) (by simp [results, Try.results50, go_sem, f0, f1, z0, z1]) rfl ⟨?_, ?_⟩
              · rw [heq.out, hst.out]
                simp [wrongFrom, hx2.out]
              · exact (hbel.setCell (by simp) _).setCell (by simp) _
            | true =>
              have hx2 := Lib.hid (of_decide_eq_true hx)
              have hx' : (actErr all ⟨kind, part, src, n⟩ != 0) = false := by simpa using of_decide_eq_true hx
              clear hx
              have hkinds := kinds_of_ok hx2.out
              go_upto_region 13 with fail
              have hw0 : ∃ W : World, W = wc := ⟨_, rfl⟩
              go_cut [100] (fun s100 wx => s100 = .bool (goneErr z ⟨kind, part, src, n⟩) ∧ wc = wx)
              case first =>
                rcases hkinds with rfl | rfl | rfl | rfl | rfl | rfl | rfl
                · go_wp2_with fail
                  go_meet
                  exact ⟨rfl, rfl⟩
                · cases q : hasB z src
                  all_goals (go_wp2_with (go_at_call 77; refine (has_any _ _ hz _).mono ?_; rintro e w' ⟨rfl, rfl⟩))
                  all_goals (go_meet; exact ⟨by simp [goneErr, isFrom, isOwn, q], rfl⟩)
                · cases q : hasB z src <;> cases q' : hasB z part
                  all_goals (go_wp2_with (go_at_call 77; refine (has_any _ _ hz _).mono ?_; rintro e w' ⟨rfl, rfl⟩))
                  all_goals (go_meet; exact ⟨by simp [goneErr, isFrom, isOwn, q, q'], rfl⟩)
                · cases q : hasB z part
                  all_goals (go_wp2_with (go_at_call 77; refine (has_any _ _ hz _).mono ?_; rintro e w' ⟨rfl, rfl⟩))
                  all_goals (go_meet; exact ⟨by simp [goneErr, isFrom, isOwn, q], rfl⟩)
                · go_wp2_with fail
                  go_meet
                  exact ⟨rfl, rfl⟩
                · go_wp2_with fail
                  go_meet
                  exact ⟨rfl, rfl⟩
                · go_wp2_with fail
                  go_meet
                  exact ⟨rfl, rfl⟩
              case rest =>
                obtain ⟨rfl, rfl⟩ := hcut
                cases hg : goneErr z ⟨kind, part, src, n⟩ with
                | true =>
                  go_wp2_with fail
                  refine bodyPost_ret (v := .agg #[.int .i64 7, .int .i64 (k : Int)]) (by simp [results, Try.results50, go_sem, f0, f1, z0, z1]) rfl ⟨?_, ?_⟩
                  · rw [heq.out, hst.out]
                    simp [wrongFrom, hx2.out, hg]
                  · exact (hbel.setCell (by simp) _).setCell (by simp) _
                | false =>
                  have hnext : Hid (wrongFrom all 0 0 acts = wrongFrom all (goneNext z ⟨kind, part, src, n⟩) (k + 1) (acts.drop (k + 1))) := Lib.hid (by rw [heq.out, hst.out, wrongFrom_ok hx2.out hg])
                  have hgset : isSet (goneNext z ⟨kind, part, src, n⟩) = true := by
                    unfold goneNext
                    split
                    · exact with_set hz
                    · split
                      · exact without_set hz
                      · exact hz
                  have hg' := Lib.hid hg
                  have hxx := Lib.hid hx'
                  clear hg hx'
                  rcases hkinds with rfl | rfl | rfl | rfl | rfl | rfl | rfl
                  all_goals (go_wp2_with (first
                    | (go_at_call 74; refine (with_any _ _ hz _).mono ?_; rintro e w' ⟨rfl, rfl⟩)
                    | (go_at_call 78; refine (without_any _ _ hz _).mono ?_; rintro e w' ⟨rfl, rfl⟩)))
                  all_goals go_roundw
                  all_goals (try case rel => exact ⟨k + 1, _, by omega, by go_num, rfl, hgset, hnext, hbel, hA, HB, HF⟩)
                  all_goals (try case measure => simp [intOf]; omega)
        · obtain rfl : k = acts.length := by omega
          have f0 := HF.cell 0; have f1 := HF.cell 1; have z0 := HF.frozen 0; have z1 := HF.frozen 1
          simp at f0 f1
          go_wp2_with fail
          refine bodyPost_ret (v := .agg #[.int .i64 0, .int .i64 0]) (by simp [results, Try.results50, go_sem, f0, f1, z0, z1]) rfl ⟨?_, ?_⟩
          · rw [heq.out]
            simp [wrongFrom]
          · exact (hbel.setCell (by simp) _).setCell (by simp) _
  · have hr : sysWrong ⟨mod, all, non, acts⟩ = (3, 0) := by simp [sysWrong, hh]
    rw [hr]
    have hcase : mod < 0 ∨ 6 ≤ mod ∨ ((0 ≤ mod ∧ mod < 6) ∧ isSet all = false) ∨ ((0 ≤ mod ∧ mod < 6) ∧ isSet all = true ∧ isSet non = false) := by
      by_cases h1 : mod < 0
      · exact .inl h1
      by_cases h2 : 6 ≤ mod
      · exact .inr (.inl h2)
      have h3 : 0 ≤ mod ∧ mod < 6 := by omega
      cases qa : isSet all with
      | false => exact .inr (.inr (.inl ⟨h3, rfl⟩))
      | true =>
        cases qn : isSet non with
        | false => exact .inr (.inr (.inr ⟨h3, rfl, rfl⟩))
        | true => exact absurd (by simp [sysHead, h3.1, h3.2, qa, qn]) hh
    clear hh hr
    rcases hcase with h | h | ⟨⟨h, h'⟩, q⟩ | ⟨⟨h, h'⟩, q, q'⟩
    all_goals (
      go_enter Try.func50, Try.ntmps50
      go_wp2_with (go_at_call 59; refine (set_any _ _).mono ?_; rintro e w' ⟨rfl, rfl⟩)
      refine bodyPost_ret (v := .agg #[.int .i64 3, .int .i64 0]) (by simp [results, Try.results50, go_sem]) rfl ⟨rfl, ?_⟩
      exact ((Below.refl _ _).alloc (Nat.le_refl _) _).alloc (by simp) _)
end Go.Proofs.Ytefdblaolmckmab

namespace Go.Proofs.Ytefdblaolmckmab
open Go.RowKit
open Brood
set_option linter.unusedVariables false
set_option linter.unusedSimpArgs false

def rowCells (r : BRow) : List Value := [.int .i64 r.idx, .int .i64 r.gen, .int .i64 r.has] ++ ints r.vals
theorem rowCells_length (r : BRow) : (rowCells r).length = 11 := by simp [rowCells, ints, r.h8]
/-- A slice of rows, and one of ints, below block B. -/
def RdR (w : World) (B : Nat) (A : Option Addr) (rows : List BRow) : Prop := Rd w B 11 A rows.length (rows.flatMap rowCells)
def RdG (w : World) (B : Nat) (A : Option Addr) (zs : List Int) : Prop := Rd w B 1 A zs.length (ints zs)
/-- At this place a row lies. -/
def RowAt (w : World) (b o : Nat) (r : BRow) : Prop := ∀ j u, (rowCells r)[j]? = some u → w.cell? ⟨b, o + j, none⟩ = some u
theorem RdR.at_ {w : World} {B : Nat} {A : Option Addr} {rows : List BRow} (h : RdR w B A rows) {k : Nat} (hk : k < rows.length) :
    ∃ b off, A = some ⟨b, off, none⟩ ∧ b < B ∧ RowAt w b (off + k * 11) rows[k] := by
  obtain ⟨b, off, e, hb, hc⟩ := h.2 (by omega)
  refine ⟨b, off, e, hb, fun j u hu => ?_⟩
  have hj : j < 11 := by rw [← rowCells_length rows[k]]; exact (List.getElem?_eq_some_iff.1 hu).1
  have := hc (k * 11 + j) u ((flat_get rowCells_length rows k hk j hj).trans hu)
  rwa [← Nat.add_assoc] at this
theorem RdG.at_ {w : World} {B : Nat} {A : Option Addr} {zs : List Int} (h : RdG w B A zs) {k : Nat} (hk : k < zs.length) :
    ∃ b off, A = some ⟨b, off, none⟩ ∧ b < B ∧ w.cell? ⟨b, off + k, none⟩ = some (.int .i64 zs[k]) := by
  obtain ⟨b, off, e, hb, hc⟩ := h.2 (by omega)
  exact ⟨b, off, e, hb, hc k _ (ints_get hk)⟩
theorem RowAt.below {w w' : World} {b o : Nat} {r : BRow} (h : RowAt w b o r) {B : Nat} (hb : Below B w w') (hB : b < B) : RowAt w' b o r := fun j u hu => (hb.cell (by simpa using hB)).trans (h j u hu)
theorem RowAt.head {w : World} {b o : Nat} {r : BRow} (h : RowAt w b o r) : w.cell? ⟨b, o, none⟩ = some (.int .i64 r.idx) ∧ w.cell? ⟨b, o + 1, none⟩ = some (.int .i64 r.gen) ∧ w.cell? ⟨b, o + 2, none⟩ = some (.int .i64 r.has) :=
  ⟨h 0 _ rfl, h 1 _ rfl, h 2 _ rfl⟩
theorem RowAt.val {w : World} {b o : Nat} {r : BRow} (h : RowAt w b o r) {k : Nat} (hk : k < 8) : w.cell? ⟨b, o + 3 + k, none⟩ = some (.int .i64 (r.vals[k]'(by rw [r.h8]; exact hk))) := by
  have := h (3 + k) (.int .i64 (r.vals[k]'(by rw [r.h8]; exact hk))) (by
    unfold rowCells
    rw [List.getElem?_append_right (by simp), show 3 + k - [Value.int IntKind.i64 r.idx, Value.int IntKind.i64 r.gen, Value.int IntKind.i64 r.has].length = k by simp]
    exact ints_get (by rw [r.h8]; exact hk))
  rwa [← Nat.add_assoc] at this

set_option maxRecDepth 20000 in
set_option maxHeartbeats 3200000 in
theorem gens_any (zs : List Int) (A : Option Addr) (c : Nat) (w : World) (hA : RdG w w.heap.size A zs) :
    Calls Try.prog 54 #[.slice A zs.length c] w fun e w' => e = .returned (.agg #[.int .i64 (gensErr zs).1, .int .i64 (gensErr zs).2]) ∧ Below w.heap.size w w' := by
  by_cases hlen : 60 < zs.length
  · have hr : Hid (gensErr zs = (4, 0)) := Lib.hid (by simp [gensErr, hlen])
    go_enter Try.func54, Try.ntmps54
    go_wp2_with fail
    refine bodyPost_ret (v := .agg #[.int .i64 4, .int .i64 0]) (by simp [results, Try.results54, go_sem]) rfl ⟨by rw [hr.out], ?_⟩
    exact (Below.refl _ _).alloc (Nat.le_refl _) _
  · have hr : Hid (gensErr zs = gensFrom 0 zs) := Lib.hid (by simp [gensErr, hlen])
    go_enter Try.func54, Try.ntmps54
    go_wp2_with fail
    go_loopw [11] (fun i wr => ∃ k : Nat, k ≤ zs.length ∧ i = .int .i64 k ∧ Hid (gensFrom 0 zs = gensFrom k (zs.drop k)) ∧ Below w.heap.size w wr ∧ RdG wr w.heap.size A zs ∧ Blk wr w.heap.size 32 #[.int .i64 0, .int .i64 0]) (fun i _ => zs.length - (intOf i).toNat)
    case atStart => exact ⟨0, by omega, rfl, Lib.hid (by simp), (Below.refl _ _).alloc (Nat.le_refl _) _, Rd.alloc hA (Nat.le_refl _) _, Blk.new _ _ _⟩
    case round =>
      clear hA
      obtain ⟨k, hk, rfl, heq, hbel, hA, HF⟩ := hrel
      have f0 := HF.cell 0; have f1 := HF.cell 1; have z0 := HF.frozen 0; have z1 := HF.frozen 1
      simp at f0 f1
      have s1 := HF.lt
      by_cases hlt : k < zs.length
      · obtain ⟨b, off, rfl, hb, hc⟩ := hA.at_ hlt
        have hst := Lib.hid (drop_cons hlt)
        generalize zs[k] = n at *
        have i0 : (0 : Int) ≤ (k : Int) := by omega
        have i1 : (k : Int) < (zs.length : Int) := by omega
        have HQ := (HF.set_ 0 (.int .i64 3)).set_ 1 (.int .i64 (k : Int))
        have r0 := HQ.cell 0; have r1 := HQ.cell 1
        simp at r0 r1
        by_cases h1 : n < 1
        · go_wp2_with fail
          refine bodyPost_ret (v := .agg #[.int .i64 3, .int .i64 (k : Int)]) (by simp [results, Try.results54, go_sem, r0, r1]) rfl ⟨?_, (hbel.setCell (by simp) _).setCell (by simp) _⟩
          rw [hr.out, heq.out, hst.out, gensFrom, if_pos (.inl h1)]
        by_cases h2 : 1000 < n
        · go_wp2_with fail
          refine bodyPost_ret (v := .agg #[.int .i64 3, .int .i64 (k : Int)]) (by simp [results, Try.results54, go_sem, r0, r1]) rfl ⟨?_, (hbel.setCell (by simp) _).setCell (by simp) _⟩
          rw [hr.out, heq.out, hst.out, gensFrom, if_pos (.inr h2)]
        have hnext : Hid (gensFrom 0 zs = gensFrom (k + 1) (zs.drop (k + 1))) := Lib.hid (by rw [heq.out, hst.out, gensFrom, if_neg (by omega)])
        go_wp2_with fail
        go_roundw
        case rel => exact ⟨k + 1, by omega, by go_num, hnext, hbel, hA, HF⟩
        case measure => simp [intOf]; omega
      · obtain rfl : k = zs.length := by omega
        have HQ := (HF.set_ 0 (.int .i64 0)).set_ 1 (.int .i64 0)
        have r0 := HQ.cell 0; have r1 := HQ.cell 1
        simp at r0 r1
        go_wp2_with fail
        refine bodyPost_ret (v := .agg #[.int .i64 0, .int .i64 0]) (by simp [results, Try.results54, go_sem, r0, r1]) rfl ⟨?_, (hbel.setCell (by simp) _).setCell (by simp) _⟩
        rw [hr.out, heq.out, List.drop_length]; rfl
end Go.Proofs.Ytefdblaolmckmab

namespace Go.Proofs.Ytefdblaolmckmab
open Go.RowKit
open Brood
set_option linter.unusedVariables false
set_option linter.unusedSimpArgs false

def valsV (vs : List Int) : Value := .agg (ints vs).toArray
theorem vals_eight {vs : List Int} (h : vs.length = 8) : ∃ a0 a1 a2 a3 a4 a5 a6 a7, vs = [a0, a1, a2, a3, a4, a5, a6, a7] := by
  match vs, h with
  | [a0, a1, a2, a3, a4, a5, a6, a7], _ => exact ⟨_, _, _, _, _, _, _, _, rfl⟩
section
variable (a0 a1 a2 a3 a4 a5 a6 a7 : Int) (w : World)
theorem vals_at0 : (Instr.index 49 (.agg #[.int .i64 a0, .int .i64 a1, .int .i64 a2, .int .i64 a3, .int .i64 a4, .int .i64 a5, .int .i64 a6, .int .i64 a7]) (.int .i64 ((0 : Nat) : Int))).run Try.prog w = .ok (.int .i64 a0) w := by kernel_rfl
theorem vals_at1 : (Instr.index 49 (.agg #[.int .i64 a0, .int .i64 a1, .int .i64 a2, .int .i64 a3, .int .i64 a4, .int .i64 a5, .int .i64 a6, .int .i64 a7]) (.int .i64 ((1 : Nat) : Int))).run Try.prog w = .ok (.int .i64 a1) w := by kernel_rfl
theorem vals_at2 : (Instr.index 49 (.agg #[.int .i64 a0, .int .i64 a1, .int .i64 a2, .int .i64 a3, .int .i64 a4, .int .i64 a5, .int .i64 a6, .int .i64 a7]) (.int .i64 ((2 : Nat) : Int))).run Try.prog w = .ok (.int .i64 a2) w := by kernel_rfl
theorem vals_at3 : (Instr.index 49 (.agg #[.int .i64 a0, .int .i64 a1, .int .i64 a2, .int .i64 a3, .int .i64 a4, .int .i64 a5, .int .i64 a6, .int .i64 a7]) (.int .i64 ((3 : Nat) : Int))).run Try.prog w = .ok (.int .i64 a3) w := by kernel_rfl
theorem vals_at4 : (Instr.index 49 (.agg #[.int .i64 a0, .int .i64 a1, .int .i64 a2, .int .i64 a3, .int .i64 a4, .int .i64 a5, .int .i64 a6, .int .i64 a7]) (.int .i64 ((4 : Nat) : Int))).run Try.prog w = .ok (.int .i64 a4) w := by kernel_rfl
theorem vals_at5 : (Instr.index 49 (.agg #[.int .i64 a0, .int .i64 a1, .int .i64 a2, .int .i64 a3, .int .i64 a4, .int .i64 a5, .int .i64 a6, .int .i64 a7]) (.int .i64 ((5 : Nat) : Int))).run Try.prog w = .ok (.int .i64 a5) w := by kernel_rfl
theorem vals_at6 : (Instr.index 49 (.agg #[.int .i64 a0, .int .i64 a1, .int .i64 a2, .int .i64 a3, .int .i64 a4, .int .i64 a5, .int .i64 a6, .int .i64 a7]) (.int .i64 ((6 : Nat) : Int))).run Try.prog w = .ok (.int .i64 a6) w := by kernel_rfl
theorem vals_at7 : (Instr.index 49 (.agg #[.int .i64 a0, .int .i64 a1, .int .i64 a2, .int .i64 a3, .int .i64 a4, .int .i64 a5, .int .i64 a6, .int .i64 a7]) (.int .i64 ((7 : Nat) : Int))).run Try.prog w = .ok (.int .i64 a7) w := by kernel_rfl
end
theorem vals_at {vs : List Int} (h : vs.length = 8) {k : Nat} (hk : k < 8) (w : World) : (Instr.index 49 (valsV vs) (.int .i64 (k : Int))).run Try.prog w = .ok (.int .i64 (vs[k]'(by rw [h]; exact hk))) w := by
  obtain ⟨a0, a1, a2, a3, a4, a5, a6, a7, rfl⟩ := vals_eight h
  match k, hk with
  | 0, _ => exact vals_at0 a0 a1 a2 a3 a4 a5 a6 a7 w
  | 1, _ => exact vals_at1 a0 a1 a2 a3 a4 a5 a6 a7 w
  | 2, _ => exact vals_at2 a0 a1 a2 a3 a4 a5 a6 a7 w
  | 3, _ => exact vals_at3 a0 a1 a2 a3 a4 a5 a6 a7 w
  | 4, _ => exact vals_at4 a0 a1 a2 a3 a4 a5 a6 a7 w
  | 5, _ => exact vals_at5 a0 a1 a2 a3 a4 a5 a6 a7 w
  | 6, _ => exact vals_at6 a0 a1 a2 a3 a4 a5 a6 a7 w
  | 7, _ => exact vals_at7 a0 a1 a2 a3 a4 a5 a6 a7 w

set_option maxRecDepth 20000 in
set_option maxHeartbeats 3200000 in
theorem row_any (r : BRow) (b o : Nat) (w : World) (hb : b < w.heap.size) (h : RowAt w b o r) :
    Calls Try.prog 55 #[.pointer (some ⟨b, o, none⟩)] w fun e w' => e = .returned (.int .i64 (rowErr r)) ∧ w = w' := by
  obtain ⟨c0, c1, c2⟩ := h.head
  generalize hE : rowErr r = E
  obtain ⟨idx, gen, has, vals, h8⟩ := r
  simp only at c0 c1 c2
  obtain ⟨a0, a1, a2, a3, a4, a5, a6, a7, rfl⟩ := vals_eight h8
  have v0 := h.val (k := 0) (by omega); have v1 := h.val (k := 1) (by omega); have v2 := h.val (k := 2) (by omega); have v3 := h.val (k := 3) (by omega); have v4 := h.val (k := 4) (by omega); have v5 := h.val (k := 5) (by omega); have v6 := h.val (k := 6) (by omega); have v7 := h.val (k := 7) (by omega)
  simp at v0 v1 v2 v3 v4 v5 v6 v7
  simp only [Nat.add_assoc, Nat.reduceAdd] at v0 v1 v2 v3 v4 v5 v6 v7
  clear h
  have hv : ∀ (k : Nat) (hk : k < 8) (W : World), (Instr.index 49 (.agg #[.int .i64 a0, .int .i64 a1, .int .i64 a2, .int .i64 a3, .int .i64 a4, .int .i64 a5, .int .i64 a6, .int .i64 a7]) (.int .i64 (k : Int))).run Try.prog W = .ok (.int .i64 ([a0, a1, a2, a3, a4, a5, a6, a7][k]'hk)) W :=
    fun k hk W => vals_at (vs := [a0, a1, a2, a3, a4, a5, a6, a7]) rfl hk W
  have hvv := Lib.hid hv
  clear hv
  cases hs : isSet has
  case false =>
    have hsh := set_any has w
    rw [hs] at hsh
    have hshh := Lib.hid hsh
    clear hsh
    go_enter Try.func55, Try.ntmps55
    go_wp2_with fail
    refine hshh.out.mono ?_
    rintro e w1 ⟨rfl, rfl⟩
    go_wp2_with fail
    go_ret
    exact ⟨ret_int (by rw [← hE]; simp [rowErr, hs]), rfl⟩
  case true =>
    have hsh := set_any has w
    rw [hs] at hsh
    have hshh := Lib.hid hsh
    have hre : Hid (E = if valsBad has 0 [a0, a1, a2, a3, a4, a5, a6, a7] then 3 else 0) := Lib.hid (by
      rw [← hE]
      unfold rowErr
      rw [hs, Bool.true_and]
      cases valsBad has 0 [a0, a1, a2, a3, a4, a5, a6, a7] <;> rfl)
    clear hsh hE
    go_enter Try.func55, Try.ntmps55
    go_wp2_with fail
    refine hshh.out.mono ?_
    rintro e w1 ⟨rfl, rfl⟩
    go_wp2_with fail
    clear v0 v1 v2 v3 v4 v5 v6 v7
    have hL : ([a0, a1, a2, a3, a4, a5, a6, a7] : List Int).length = 8 := rfl
    have hst := Lib.hid (fun k hk => @valsBad_drop has [a0, a1, a2, a3, a4, a5, a6, a7] k hk)
    obtain ⟨L, hLe⟩ : ∃ L : List Int, L = [a0, a1, a2, a3, a4, a5, a6, a7] := ⟨_, rfl⟩
    have hvv2 : Hid (∀ (k : Nat) (hk : k < L.length) (W : World), (Instr.index 49 (.agg #[.int .i64 a0, .int .i64 a1, .int .i64 a2, .int .i64 a3, .int .i64 a4, .int .i64 a5, .int .i64 a6, .int .i64 a7]) (.int .i64 (k : Int))).run Try.prog W = .ok (.int .i64 (L[k]'hk)) W) := by subst hLe; exact hvv
    rw [← hLe] at hre hst hL
    clear hvv hLe hshh
    go_loopw [15] (fun i wr => ∃ k : Nat, k ≤ 8 ∧ i = .int .i64 k ∧ Hid (valsBad has 0 L = valsBad has k (L.drop k)) ∧ w = wr) (fun i _ => 8 - (intOf i).toNat)
    case atStart => exact ⟨0, by omega, rfl, Lib.hid (by simp), rfl⟩
    case round =>
      obtain ⟨k, hk, rfl, heq, rfl⟩ := hrel
      by_cases hlt : k < 8
      · have hkL : k < L.length := by omega
        have hix := hvv2.out k hkL
        have hst2 := hst.out k hkL
        generalize L[k] = z at *
        have hst3 := Lib.hid hst2
        clear hst2
        have hvb : Hid (valBad has k z = (!isVal z || (decide (z ≠ 0) && !hasB has (k : Int)))) := Lib.hid rfl
        have cv := value_any z w
        have ch := has_any has (k : Int) hs w
        cases q1 : isVal z
        case false =>
          rw [q1] at cv
          have cvh := Lib.hid cv
          clear cv ch
          have hf : Hid (valsBad has 0 L = true) := Lib.hid (by rw [heq.out, hst3.out, hvb.out, q1]; rfl)
          go_wp2_with fail
          refine cvh.out.mono ?_
          rintro e w1 ⟨rfl, rfl⟩
          go_wp2_with fail
          go_ret
          exact ⟨ret_int (by rw [hre.out, hf.out]; rfl), rfl⟩
        case true =>
          rw [q1] at cv
          have cvh := Lib.hid cv
          by_cases q2 : z = 0
          · subst q2
            clear cv ch
            have hf : Hid (valsBad has 0 L = valsBad has (k + 1) (L.drop (k + 1))) := Lib.hid (by rw [heq.out, hst3.out, hvb.out, q1]; rfl)
            go_wp2_with fail
            refine cvh.out.mono ?_
            rintro e w1 ⟨rfl, rfl⟩
            go_wp2_with fail
            go_roundw
            case rel => exact ⟨k + 1, by omega, by go_num, hf, trivial⟩
            case measure => simp [intOf]; omega
          · have q2' : (z != 0) = true := by simpa using q2
            cases q3 : hasB has (k : Int)
            case false =>
              rw [q3] at ch
              have chh := Lib.hid ch
              clear cv ch
              have hf : Hid (valsBad has 0 L = true) := Lib.hid (by rw [heq.out, hst3.out, hvb.out, q1, q3]; simp [q2])
              go_wp2_with fail
              refine cvh.out.mono ?_
              rintro e w1 ⟨rfl, rfl⟩
              go_wp2_with fail
              refine chh.out.mono ?_
              rintro e w1 ⟨rfl, rfl⟩
              go_wp2_with fail
              go_ret
              exact ⟨ret_int (by rw [hre.out, hf.out]; rfl), rfl⟩
            case true =>
              rw [q3] at ch
              have chh := Lib.hid ch
              clear cv ch
              have hf : Hid (valsBad has 0 L = valsBad has (k + 1) (L.drop (k + 1))) := Lib.hid (by rw [heq.out, hst3.out, hvb.out, q1, q3]; simp)
              go_wp2_with fail
              refine cvh.out.mono ?_
              rintro e w1 ⟨rfl, rfl⟩
              go_wp2_with fail
              refine chh.out.mono ?_
              rintro e w1 ⟨rfl, rfl⟩
              go_wp2_with fail
              go_roundw
              case rel => exact ⟨k + 1, by omega, by go_num, hf, trivial⟩
              case measure => simp [intOf]; omega
      · obtain rfl : k = 8 := by omega
        have hf : Hid (valsBad has 0 L = false) := Lib.hid (by rw [heq.out, List.drop_eq_nil_of_le (by omega)]; rfl)
        go_wp2_with fail
        go_ret
        exact ⟨ret_int (by rw [hre.out, hf.out]; rfl), rfl⟩
end Go.Proofs.Ytefdblaolmckmab

namespace Go.Proofs.Ytefdblaolmckmab
open Go.RowKit
open Brood
set_option linter.unusedVariables false
set_option linter.unusedSimpArgs false

def prevOf (rows : List BRow) (k : Nat) : Option Int := if k = 0 then none else (rows[k - 1]?).map (·.idx)
/-- A world's value: two slices. -/
def worldV (W : BWorld) (Ar : Option Addr) (cr : Nat) (Ag : Option Addr) (cg : Nat) : Value := .agg #[.slice Ar W.rows.length cr, .slice Ag W.gens.length cg]
theorem rowsFrom_ok {gens : List Int} {k : Nat} {p : Option Int} {r : BRow} {l : List BRow} (h1 : rowErr r = 0) (h2 : ¬ (r.idx < 0 ∨ (gens.length : Int) ≤ r.idx)) (h3 : prevGe p r.idx = false)
    (h4 : r.gen = gens.getD r.idx.toNat 0) : rowsFrom gens k p (r :: l) = rowsFrom gens (k + 1) (some r.idx) l := by
  rw [rowsFrom, if_neg (by simpa using h1), if_neg h2, if_neg (by rw [h3]; decide), if_neg (by simpa using h4)]

set_option maxRecDepth 20000 in
set_option maxHeartbeats 6400000 in
theorem pwrong_any (rows : List BRow) (gens : List Int) (Ar : Option Addr) (cr : Nat) (Ag : Option Addr) (cg : Nat) (hlenr : rows.length ≤ 9223372036854775807) (w : World) (hr : RdR w w.heap.size Ar rows) (hg : RdG w w.heap.size Ag gens) :
    Calls Try.prog 11 #[.agg #[.slice Ar rows.length cr, .slice Ag gens.length cg]] w fun e w' => e = .returned (.agg #[.int .i64 (worldErr ⟨rows, gens⟩).1, .int .i64 (worldErr ⟨rows, gens⟩).2]) ∧ Below w.heap.size w w' := by
  have B0 := (Blk.new w 25 #[.slice Ar rows.length cr, .slice Ag gens.length cg]).alloc (.cells #[.int .i64 0, .int .i64 0] 32)
  have F0 := Blk.new (w.alloc (.cells #[.slice Ar rows.length cr, .slice Ag gens.length cg] 25)) 32 #[.int .i64 0, .int .i64 0]
  simp only [World.size_alloc] at F0
  have hg0 : RdG ((w.alloc (.cells #[.slice Ar rows.length cr, .slice Ag gens.length cg] 25)).alloc (.cells #[.int .i64 0, .int .i64 0] 32)) w.heap.size Ag gens := Rd.alloc (Rd.alloc hg (Nat.le_refl _) _) (by simp) _
  have hr0 : RdR ((w.alloc (.cells #[.slice Ar rows.length cr, .slice Ag gens.length cg] 25)).alloc (.cells #[.int .i64 0, .int .i64 0] 32)) w.heap.size Ar rows := Rd.alloc (Rd.alloc hr (Nat.le_refl _) _) (by simp) _
  have hbel0 : Below w.heap.size w ((w.alloc (.cells #[.slice Ar rows.length cr, .slice Ag gens.length cg] 25)).alloc (.cells #[.int .i64 0, .int .i64 0] 32)) := ((Below.refl _ _).alloc (Nat.le_refl _) _).alloc (by simp) _
  have hwe : Hid (worldErr ⟨rows, gens⟩ = if (gensErr gens).1 ≠ 0 then gensErr gens else rowsFrom gens 0 none rows) := Lib.hid rfl
  generalize worldErr ⟨rows, gens⟩ = E at *
  go_enter Try.func11, Try.ntmps11
  go_wp2_with fail
  refine (gens_any gens Ag cg _ (Rd.more hg0 (by simp; omega))).mono ?_
  rintro e w1 ⟨rfl, hb1⟩
  have B1 := B0.below hb1 (by simp; omega)
  have F1 := F0.below hb1 (by simp)
  have hg1 : RdG w1 w.heap.size Ag gens := Rd.under hg0 hb1 (by simp; omega)
  have hr1 : RdR w1 w.heap.size Ar rows := Rd.under hr0 hb1 (by simp; omega)
  have hbel1 : Below w.heap.size w w1 := hbel0.trans (hb1.mono (by simp; omega))
  have hs1 := F1.lt
  have hs0 := B1.lt
  clear B0 F0 hg0 hr0 hbel0 hb1 hr hg
  by_cases hge : (gensErr gens).1 = 0
  case neg =>
    have hE : Hid (E = gensErr gens) := Lib.hid (by rw [hwe.out, if_pos hge])
    have hx' : ((gensErr gens).1 != 0) = true := by simpa using hge
    have f0 := F1.cell 0; have f1 := F1.cell 1; have z0 := F1.frozen 0; have z1 := F1.frozen 1
    simp at f0 f1
    have HQ := ((F1.set_ 0 (.int .i64 (gensErr gens).1)).set_ 1 (.int .i64 (gensErr gens).2)).alloc (.cells #[.int .i64 (gensErr gens).1, .int .i64 (gensErr gens).2] 32)
    have r0 := HQ.cell 0; have r1 := HQ.cell 1
    simp at r0 r1
    go_wp2_with fail
    refine bodyPost_ret (v := .agg #[.int .i64 (gensErr gens).1, .int .i64 (gensErr gens).2]) (by simp [results, Try.results11, go_sem, r0, r1]) rfl ⟨by rw [hE.out], ?_⟩
    exact ((hbel1.setCell (by simp) _).setCell (by simp) _).alloc (by simp; omega) _
  case pos =>
    have hE : Hid (E = rowsFrom gens 0 none rows) := Lib.hid (by rw [hwe.out, if_neg (by simpa using hge)])
    rw [hge]
    have k0 := B1.cell 0; have k1 := B1.cell 1
    simp at k0 k1
    have B2 := B1.alloc (.cells #[.int .i64 0, .int .i64 (gensErr gens).2] 32)
    have F2 := F1.alloc (.cells #[.int .i64 0, .int .i64 (gensErr gens).2] 32)
    have hg2 : RdG _ w.heap.size Ag gens := Rd.alloc hg1 hbel1.size (.cells #[.int .i64 0, .int .i64 (gensErr gens).2] 32)
    have hr2 : RdR _ w.heap.size Ar rows := Rd.alloc hr1 hbel1.size (.cells #[.int .i64 0, .int .i64 (gensErr gens).2] 32)
    have hbel2 := hbel1.alloc hbel1.size (.cells #[.int .i64 0, .int .i64 (gensErr gens).2] 32)
    go_wp2_with fail
    clear B1 F1 hg1 hr1 hbel1 k0 k1
    have hlg : gens.length ≤ 60 := by
      rcases Nat.lt_or_ge 60 gens.length with h | h
      · simp [gensErr, h] at hge
      · exact h
    go_loopw [18] (fun i wr => ∃ k : Nat, k ≤ rows.length ∧ i = .int .i64 k ∧ Hid (E = rowsFrom gens k (prevOf rows k) (rows.drop k)) ∧ Below w.heap.size w wr ∧ RdR wr w.heap.size Ar rows ∧ RdG wr w.heap.size Ag gens ∧
        Blk wr w.heap.size 25 #[.slice Ar rows.length cr, .slice Ag gens.length cg] ∧ Blk wr (w.heap.size + 1) 32 #[.int .i64 0, .int .i64 0]) (fun i _ => rows.length - (intOf i).toNat)
    case atStart => exact ⟨0, by omega, rfl, Lib.hid (by rw [hE.out]; simp [prevOf]), hbel2, hr2, hg2, B2, F2⟩
    case round =>
      clear B2 F2 hg2 hr2 hbel2 hs0 hs1
      obtain ⟨k, hk, rfl, heq, hbel, hR, hG, HB, HF⟩ := hrel
      have e0 := HB.cell 0; have e1 := HB.cell 1
      have f0 := HF.cell 0; have f1 := HF.cell 1; have z0 := HF.frozen 0; have z1 := HF.frozen 1
      simp at e0 e1 f0 f1
      have s1 := HF.lt; have s0 := HB.lt
      by_cases hlt : k < rows.length
      · obtain ⟨b, off, rfl, hb, hrow⟩ := hR.at_ hlt
        have hst := Lib.hid (drop_cons hlt)
        have hpn : Hid (prevOf rows (k + 1) = some rows[k].idx) := Lib.hid (by simp [prevOf, List.getElem?_eq_getElem hlt])
        have hsw := hbel.size
        have hcall := Lib.hid (row_any rows[k] b (off + k * 11) wr (by omega) hrow)
        generalize rows[k] = r at *
        have i0 : (0 : Int) ≤ (k : Int) := by omega
        have i1 : (k : Int) < (rows.length : Int) := by omega
        go_wp2_with fail
        refine hcall.out.mono ?_
        rintro e w2 ⟨rfl, rfl⟩
        clear hcall
        cases hx : (decide (rowErr r = 0)) with
        | false =>
          have hx1 := of_decide_eq_false hx
          have hx' : (rowErr r != 0) = true := by simpa using hx1
          have hEf : Hid (E = (rowErr r, (k : Int))) := Lib.hid (by rw [heq.out, hst.out, rowsFrom, if_pos hx1])
          clear hx hx1
          have HQ := ((HF.set_ 0 (.int .i64 (rowErr r))).set_ 1 (.int .i64 (k : Int)))
          have r0 := HQ.cell 0; have r1 := HQ.cell 1
          simp at r0 r1
          go_wp2_with fail
          refine bodyPost_ret (v := .agg #[.int .i64 (rowErr r), .int .i64 (k : Int)]) (by simp [results, Try.results11, go_sem, r0, r1]) rfl ⟨by rw [hEf.out], (hbel.setCell (by simp) _).setCell (by simp) _⟩
        | true =>
          have hre : rowErr r = 0 := of_decide_eq_true hx
          have hx' : (rowErr r != 0) = false := by simpa using hre
          have hok := Lib.hid (@rowsFrom_ok gens k (prevOf rows k) r (rows.drop (k + 1)) hre)
          have hrf := Lib.hid (show rowsFrom gens k (prevOf rows k) (r :: rows.drop (k + 1)) = (if rowErr r ≠ 0 then (rowErr r, (k : Int)) else if r.idx < 0 ∨ (gens.length : Int) ≤ r.idx then (3, (k : Int)) else if prevGe (prevOf rows k) r.idx = true then (2, (k : Int)) else if r.gen ≠ gens.getD r.idx.toNat 0 then (7, (k : Int)) else rowsFrom gens (k + 1) (some r.idx) (rows.drop (k + 1))) from by rw [rowsFrom])
          obtain ⟨c0, c1, _⟩ := hrow.head
          have hprev : ∀ k', k = k' + 1 → ∃ z : Int, prevOf rows k = some z ∧ wr.cell? ⟨b, off + k' * 11, none⟩ = some (.int .i64 z) := by
            rintro k' rfl
            have hk' : k' < rows.length := by omega
            obtain ⟨b', off', hbo, _, hrow'⟩ := hR.at_ hk'
            injection hbo with hbo
            injection hbo with hbo1 hbo2
            subst hbo1 hbo2
            exact ⟨rows[k'].idx, by simp [prevOf, List.getElem?_eq_getElem hk'], hrow'.head.1⟩
          have hgat : ∀ ix : Nat, r.idx = (ix : Int) → ix < gens.length → ∃ bg og z, Ag = some ⟨bg, og, none⟩ ∧ bg < w.heap.size ∧ gens.getD r.idx.toNat 0 = z ∧ wr.cell? ⟨bg, og + ix, none⟩ = some (.int .i64 z) := by
            intro ix hix hlx
            obtain ⟨bg, og, he, hbg, hcg⟩ := hG.at_ hlx
            exact ⟨bg, og, gens[ix], he, hbg, by rw [hix]; simp [List.getD_eq_getElem?_getD, hlx], hcg⟩
          rw [← hst.out] at hrf
          rw [hre]
          clear hx hrow hst
          generalize r.idx = idx at *
          generalize r.gen = gen at *
          have hbw : b ≠ wr.heap.size := by omega
          by_cases h1 : idx < 0
          · have hEf : Hid (E = (3, (k : Int))) := Lib.hid (by rw [heq.out, hrf.out, if_neg (by simpa using hre), if_pos (.inl h1)])
            clear hprev hgat hok hrf
            have HQ := ((HF.set_ 0 (.int .i64 3)).set_ 1 (.int .i64 (k : Int))).alloc (.cells #[.int .i64 idx, .int .i64 gen] 27)
            have r0 := HQ.cell 0; have r1 := HQ.cell 1
            simp at r0 r1
            go_wp2_with fail
            refine bodyPost_ret (v := .agg #[.int .i64 3, .int .i64 (k : Int)]) (by simp [results, Try.results11, go_sem, r0, r1]) rfl ⟨by rw [hEf.out], ((hbel.setCell (by simp) _).setCell (by simp) _).alloc (by simp; omega) _⟩
          by_cases h2 : (gens.length : Int) ≤ idx
          · have hEf : Hid (E = (3, (k : Int))) := Lib.hid (by rw [heq.out, hrf.out, if_neg (by simpa using hre), if_pos (.inr h2)])
            clear hprev hgat hok hrf
            have HQ := ((HF.set_ 0 (.int .i64 3)).set_ 1 (.int .i64 (k : Int))).alloc (.cells #[.int .i64 idx, .int .i64 gen] 27)
            have r0 := HQ.cell 0; have r1 := HQ.cell 1
            simp at r0 r1
            go_wp2_with fail
            refine bodyPost_ret (v := .agg #[.int .i64 3, .int .i64 (k : Int)]) (by simp [results, Try.results11, go_sem, r0, r1]) rfl ⟨by rw [hEf.out], ((hbel.setCell (by simp) _).setCell (by simp) _).alloc (by simp; omega) _⟩
          obtain ⟨ix, rfl⟩ := nat_of (n := idx) (by omega)
          have hixl : ix < gens.length := by omega
          obtain ⟨bg, og, z, rfl, hbg, hz, hcz⟩ := hgat ix rfl hixl
          have hrf2 : Hid (E = if prevGe (prevOf rows k) (ix : Int) = true then (2, (k : Int)) else if gen ≠ z then (7, (k : Int)) else rowsFrom gens (k + 1) (some (ix : Int)) (rows.drop (k + 1))) := Lib.hid (by
            rw [heq.out, hrf.out, if_neg (by simpa using hre), if_neg (by omega), hz])
          clear hok hrf hgat hz
          go_upto_region 14 with fail
          go_cut [50] (fun s50 wx => s50 = .bool (prevGe (prevOf rows k) (ix : Int)) ∧ ∃ n, wx = (wr.alloc (.cells #[.int .i64 (ix : Int), .int .i64 gen] 27)).drewN n)
          case first =>
            clear hrf2
            have hbl : b < wr.heap.size := by omega
            cases k with
            | zero =>
              go_quiet (fail)
              go_wp2_with fail
              go_meet
              exact ⟨by simp [prevOf, prevGe], _, rfl⟩
            | succ k' =>
              obtain ⟨q, hq, hcq⟩ := hprev k' rfl
              have hqv : Hid (prevGe (prevOf rows (k' + 1)) (ix : Int) = decide ((ix : Int) ≤ q)) := Lib.hid (by rw [hq]; rfl)
              have hwrap : IntKind.i64.wrap (((k' + 1 : Nat) : Int) - 1) = (k' : Int) := by rw [IntKind.wrap_i64]; omega
              have hkp : (0 : Int) < ((k' + 1 : Nat) : Int) := by omega
              have k0 : (0 : Int) ≤ (k' : Int) := by omega
              have k1 : (k' : Int) < (rows.length : Int) := by omega
              clear hprev hq
              go_quiet (fail)
              go_wp2_with fail
              go_meet
              exact ⟨by rw [hqv.out], _, rfl⟩
          case rest =>
            obtain ⟨rfl, n, rfl⟩ := hcut
            clear hprev
            have HF4 := (HF.alloc (.cells #[.int .i64 (ix : Int), .int .i64 gen] 27)).drewN n
            have HB4 := (HB.alloc (.cells #[.int .i64 (ix : Int), .int .i64 gen] 27)).drewN n
            have HX4 := (Blk.new wr 27 #[.int .i64 (ix : Int), .int .i64 gen]).drewN n
            have hR4 : RdR ((wr.alloc (.cells #[.int .i64 (ix : Int), .int .i64 gen] 27)).drewN n) w.heap.size (some ⟨b, off, none⟩) rows := Rd.alloc hR hsw _
            have hG4 : RdG ((wr.alloc (.cells #[.int .i64 (ix : Int), .int .i64 gen] 27)).drewN n) w.heap.size (some ⟨bg, og, none⟩) gens := Rd.alloc hG hsw _
            have hbel4 := below_drewN (hbel.alloc hsw (.cells #[.int .i64 (ix : Int), .int .i64 gen] 27)) n
            have hcz4 : ((wr.alloc (.cells #[.int .i64 (ix : Int), .int .i64 gen] 27)).drewN n).cell? ⟨bg, og + ix, none⟩ = some (.int .i64 z) := (World.cell?_alloc_lt wr _ ⟨bg, og + ix, none⟩ (by simp only; omega)).trans hcz
            have hgx : wr.heap.size < ((wr.alloc (.cells #[.int .i64 (ix : Int), .int .i64 gen] 27)).drewN n).heap.size := HX4.lt
            clear HF HB hR hG hbel hcz e0 e1 f0 f1 z0 z1 c0 c1
            generalize (wr.alloc (.cells #[.int .i64 (ix : Int), .int .i64 gen] 27)).drewN n = w5 at *
            generalize wr.heap.size = gx at *
            have f0 := HF4.cell 0; have f1 := HF4.cell 1; have z0 := HF4.frozen 0; have z1 := HF4.frozen 1
            have e0 := HB4.cell 0; have e1 := HB4.cell 1
            have x0 := HX4.cell 0; have x1 := HX4.cell 1
            simp at f0 f1 e0 e1 x0 x1
            cases hpg : prevGe (prevOf rows k) (ix : Int)
            case true =>
              have hEf : Hid (E = (2, (k : Int))) := Lib.hid (by rw [hrf2.out, if_pos hpg])
              have HQ := ((HF4.set_ 0 (.int .i64 2)).set_ 1 (.int .i64 (k : Int)))
              have r0 := HQ.cell 0; have r1 := HQ.cell 1
              simp at r0 r1
              go_wp2_with fail
              refine bodyPost_ret (v := .agg #[.int .i64 2, .int .i64 (k : Int)]) (by simp [results, Try.results11, go_sem, r0, r1]) rfl ⟨by rw [hEf.out], (hbel4.setCell (by simp) _).setCell (by simp) _⟩
            case false =>
              have hrf3 : Hid (E = if gen ≠ z then (7, (k : Int)) else rowsFrom gens (k + 1) (some (ix : Int)) (rows.drop (k + 1))) := Lib.hid (by rw [hrf2.out, if_neg (by rw [hpg]; decide)])
              clear hrf2
              go_upto_region 16 with fail
              go_cut [68] (fun s68 wx => s68 = .bool (gen != z) ∧ ∃ m, wx = w5.drewN m)
              case first =>
                go_quiet (fail)
                go_wp2_with fail
                go_meet
                exact ⟨rfl, _, rfl⟩
              case rest =>
                obtain ⟨rfl, m, rfl⟩ := hcut
                replace HF4 := HF4.drewN m; replace HB4 := HB4.drewN m
                replace hR4 : RdR (w5.drewN m) w.heap.size (some ⟨b, off, none⟩) rows := hR4
                replace hG4 : RdG (w5.drewN m) w.heap.size (some ⟨bg, og, none⟩) gens := hG4
                replace hbel4 := below_drewN hbel4 m
                clear f0 f1 z0 z1 e0 e1 x0 x1 HX4 hcz4
                generalize w5.drewN m = w6 at *
                have f0 := HF4.cell 0; have f1 := HF4.cell 1; have z0 := HF4.frozen 0; have z1 := HF4.frozen 1
                simp at f0 f1
                by_cases hgz : gen = z
                · subst hgz
                  have hnext : Hid (E = rowsFrom gens (k + 1) (prevOf rows (k + 1)) (rows.drop (k + 1))) := Lib.hid (by rw [hrf3.out, if_neg (by simp), hpn.out])
                  go_wp2_with fail
                  go_roundw
                  case rel => exact ⟨k + 1, by omega, by go_num, hnext, hbel4, hR4, hG4, HB4, HF4⟩
                  case measure => simp [intOf]; omega
                · have hgz' : (gen != z) = true := by simpa using hgz
                  have hEf : Hid (E = (7, (k : Int))) := Lib.hid (by rw [hrf3.out, if_pos hgz])
                  have HQ := ((HF4.set_ 0 (.int .i64 7)).set_ 1 (.int .i64 (k : Int)))
                  have r0 := HQ.cell 0; have r1 := HQ.cell 1
                  simp at r0 r1
                  go_wp2_with fail
                  refine bodyPost_ret (v := .agg #[.int .i64 7, .int .i64 (k : Int)]) (by simp [results, Try.results11, go_sem, r0, r1]) rfl ⟨by rw [hEf.out], (hbel4.setCell (by simp) _).setCell (by simp) _⟩
      · obtain rfl : k = rows.length := by omega
        have HQ := (HF.set_ 0 (.int .i64 0)).set_ 1 (.int .i64 0)
        have r0 := HQ.cell 0; have r1 := HQ.cell 1
        simp at r0 r1
        have hEf : Hid (E = (0, 0)) := Lib.hid (by rw [heq.out, List.drop_length]; rfl)
        go_wp2_with fail
        refine bodyPost_ret (v := .agg #[.int .i64 0, .int .i64 0]) (by simp [results, Try.results11, go_sem, r0, r1]) rfl ⟨by rw [hEf.out], (hbel.setCell (by simp) _).setCell (by simp) _⟩
end Go.Proofs.Ytefdblaolmckmab

namespace Go.Proofs.Ytefdblaolmckmab
open Go.RowKit Go.Maps
open Brood
set_option linter.unusedVariables false
set_option linter.unusedSimpArgs false

def isB (i g : Int) (r : BRow) : Bool := r.idx == i && r.gen == g
def findR (i g : Int) : List BRow → Option Nat
  | [] => none
  | r :: l => if isB i g r then some 0 else (findR i g l).map (· + 1)
def findI (i g : Int) (rows : List BRow) : Int := match findR i g rows with | some k => (k : Int) | none => -1
def rowV (r : BRow) : Value := .agg (rowCells r).toArray
theorem findR_drop {i g : Int} {rows : List BRow} {k : Nat} (h : k < rows.length) : (findR i g (rows.drop k)).map (· + k) = if isB i g rows[k] then some k else (findR i g (rows.drop (k + 1))).map (· + (k + 1)) := by
  rw [drop_cons h, findR]
  split
  · simp
  · rw [Option.map_map]
    congr 1
    funext x
    simp only [Function.comp_apply]
    omega
def getP (i g : Int) (rows : List BRow) (part : Int) : Int × Bool :=
  match findR i g rows with
  | some k => match rows[k]? with
    | some r => if hasB r.has part then (r.vals.getD part.toNat 0, true) else (0, false)
    | none => (0, false)
  | none => (0, false)
theorem findR_lt {i g : Int} : ∀ {rows : List BRow} {k : Nat}, findR i g rows = some k → k < rows.length
  | [], k, h => by simp [findR] at h
  | r :: l, k, h => by
    rw [findR] at h
    split at h
    · have := Option.some.inj h; simp; omega
    · cases h' : findR i g l with
      | none => rw [h'] at h; cases h
      | some q =>
        rw [h'] at h
        have h2 := findR_lt h'
        have h3 : q + 1 = k := Option.some.inj h
        simp only [List.length_cons]
        omega
theorem rows_one (rows : List BRow) : ∀ u ∈ rows.flatMap rowCells, u.oneCell' = true := by
  intro u hu
  obtain ⟨r, _, hu⟩ := List.mem_flatMap.1 hu
  simp only [rowCells, ints, List.mem_append, List.mem_cons, List.not_mem_nil, or_false, List.mem_map] at hu
  rcases hu with (rfl | rfl | rfl) | ⟨z, _, rfl⟩ <;> rfl
theorem own_lower2 {w : World} {base : Nat} {e : TypeId} {sz : Nat} {v : Value} {n : Nat} {xs : List Value} (h : w.ownsRow (base + 1 + 1) e sz v n xs) : w.ownsRow base e sz v n xs := by
  refine ⟨h.1, ?_⟩
  rcases h.2 with hn | ⟨g, cap, cur, rfl, hg, rest⟩
  · exact .inl hn
  · exact .inr ⟨g, cap, cur, rfl, by omega, rest⟩
/-- A world of the call's own: rows and gens in blocks from base on. -/
structure OwnW (w : World) (base : Nat) (vr vg : Value) (rows : List BRow) (gens : List Int) : Prop where
  rows_ : w.ownsRow base 51 11 vr rows.length (rows.flatMap rowCells)
  gens_ : w.ownsRow base 3 1 vg gens.length (ints gens)
def OwnI (w0 : World) (base b1 b2 : Nat) (Ar : Option Addr) (cr : Nat) (Ag : Option Addr) (cg : Nat) (rows : List BRow) (gens : List Int) (l : Nat → Bool) (vs : Nat → Value) (w' : World) : Prop :=
  Below base w0 w' ∧ Blk w' b1 25 #[.slice Ar rows.length cr, .slice Ag gens.length cg] ∧
    Blk w' b2 25 (if l 7 then #[vs 2, vs 5] else #[.slice none 0 0, .slice none 0 0]) ∧
    (l 0 = true → vs 0 = .pointer (some ⟨b1, 0, none⟩)) ∧ (l 1 = true → vs 1 = .slice Ar rows.length cr) ∧ (l 2 = true → w'.ownsRow (b2 + 1) 51 11 (vs 2) rows.length (rows.flatMap rowCells)) ∧
    (l 3 = true → vs 3 = .pointer (some ⟨b1, 1, none⟩)) ∧ (l 4 = true → vs 4 = .slice Ag gens.length cg) ∧ (l 5 = true → w'.ownsRow (b2 + 1) 3 1 (vs 5) gens.length (ints gens)) ∧ (l 6 = true → vs 6 = .agg #[vs 2, vs 5]) ∧
    (l 6 = true → l 2 = true ∧ l 5 = true) ∧ (l 7 = true → l 6 = true)
theorem zeroBool (w : World) : (zeroValue 4).run Try.prog w = .ok (.bool false) w := by kernel_rfl
/-- Block b is a map that tells true of just these keys. -/
def MapU (w : World) (b : Nat) (zs : List Int) : Prop :=
  ∃ D : DataW Unit, w.ownsMap Try.prog 3 (plainElem Try.prog 4) b zs.length D ∧ ∀ k : Int, D.atKey (.int .i64 k) (.lit (.bool false)) = .lit (.bool (zs.contains k))
theorem plainElem_bool_inv {P : Program} {e : TypeId} (he : P.underlying e = some .bool) {v : Value} {z : DataW Unit × List MemPlace} (h : plainElem P e v = some z) : ∃ x, v = .bool x ∧ z = (.lit (.bool x), []) := by
  unfold plainElem at h
  rw [he] at h
  cases v <;> simp at h
  exact ⟨_, rfl, h.symm⟩
section
variable {w w' : World} {b : Nat} {zs : List Int}
theorem MapU.lt (h : MapU w b zs) : b < w.heap.size := by obtain ⟨D, h1, _⟩ := h; exact h1.lt
theorem MapU.below (h : MapU w b zs) (hb : Below w.heap.size w w') : MapU w' b zs := by
  have hlt := h.lt
  obtain ⟨D, ⟨es', clock, h1, h2⟩, h3⟩ := h
  exact ⟨D, ⟨es', clock, (hb.block b hlt).trans h1, h2⟩, h3⟩
theorem MapU.alloc (h : MapU w b zs) (o : Obj) : MapU (w.alloc o) b zs := h.below ((Below.refl _ _).alloc (Nat.le_refl _) o)
theorem MapU.far (h : MapU w b zs) {a : Addr} (ha : b ≠ a.block) (u : Value) : MapU (w.setCell a u) b zs := by
  obtain ⟨D, h1, h2⟩ := h
  exact ⟨D, h1.setCell ha u, h2⟩
theorem MapU.made (w : World) : MapU (w.alloc (.map #[] 0)) w.heap.size [] :=
  ⟨.map [], World.ownsMap_made _ _ _ _, fun k => rfl⟩
theorem MapU.look (h : MapU w b zs) {k : Int} (hk : (Lit.int .i64 k).wf = true) : (Instr.lookup 75 (.map (some b)) (.int .i64 k) false).run Try.prog w = .ok (.bool (zs.contains k)) w := by
  obtain ⟨D, h1, h2⟩ := h
  obtain ⟨v, ps, hrun, hv⟩ := h1.lookup keyInt Try.underlying75 (zeroBool w) (plainElem_bool Try.underlying4 false) (keyOf_int_mk Try.underlying3 hk)
  obtain ⟨c, rfl, hc⟩ := plainElem_bool_inv Try.underlying4 hv
  rw [h2] at hc
  simp only [Prod.mk.injEq, DataW.lit.injEq, Lit.bool.injEq] at hc
  rw [hrun, hc.1]
theorem MapU.put {z : Int} {D : DataW Unit} (h1 : w.ownsMap Try.prog 3 (plainElem Try.prog 4) b zs.length D) (h2 : ∀ k : Int, D.atKey (.int .i64 k) (.lit (.bool false)) = .lit (.bool (zs.contains k)))
    (hown : w'.ownsMap Try.prog 3 (plainElem Try.prog 4) b (zs.length + 1) (D.put (.int .i64 z) (.lit (.bool true)))) : MapU w' b (zs ++ [z]) := by
  have ht := h1.tidy keyInt
  refine ⟨_, by simpa using hown, fun j => ?_⟩
  by_cases hj : j = z
  · subst hj
    rw [atKey_put_same ht.isMap (int_key _)]
    simp
  · have : (Lit.int .i64 j) ≠ Lit.int .i64 z := by
      intro e; injection e with _ e; exact hj e
    rw [atKey_put_other this, h2]
    simp [hj]
end
/-- The first number that is not used, and not used up. -/
def nextFrom (used : List Int) : Nat → List Int → Option (Int × Int)
  | _, [] => none
  | i, n :: l => if !used.contains (i : Int) && decide (n < 1000) then some ((i : Int), n + 1) else nextFrom used (i + 1) l
def nextV (rows : List BRow) (gens : List Int) : Int × Int × Int :=
  match nextFrom (rows.map (·.idx)) 0 gens with
  | some p => (p.1, p.2, 0)
  | none => if 60 ≤ gens.length then (0, 0, 4) else ((gens.length : Int), 1, 0)
theorem wf_of {z : Int} (h1 : -9223372036854775808 ≤ z) (h2 : z < 9223372036854775808) : (Lit.int .i64 z).wf = true := by
  have e : IntKind.i64.wrap z = z := by rw [IntKind.wrap_i64]; omega
  rw [← e]; exact wf_wrap _ _
/-- Cells laid into an array from place o on. -/
def patch : Array Value → Nat → List Value → Array Value
  | cs, _, [] => cs
  | cs, o, v :: r => patch (cs.setIfInBounds o v) (o + 1) r
theorem patch_size : ∀ (vs : List Value) (cs : Array Value) (o : Nat), (patch cs o vs).size = cs.size
  | [], _, _ => rfl
  | v :: r, cs, o => by rw [patch, patch_size r]; simp
theorem patch_out : ∀ (vs : List Value) (cs : Array Value) (o j : Nat), (j < o ∨ o + vs.length ≤ j) → (patch cs o vs)[j]? = cs[j]?
  | [], _, _, _, _ => rfl
  | v :: r, cs, o, j, h => by
    rw [patch, patch_out r _ (o + 1) j (by simp at h; omega), Array.getElem?_setIfInBounds_ne (by simp at h; omega)]
theorem patch_in : ∀ (vs : List Value) (cs : Array Value) (o j : Nat), j < vs.length → o + vs.length ≤ cs.size → (patch cs o vs)[o + j]? = vs[j]?
  | v :: r, cs, o, 0, _, hs => by
    simp at hs
    rw [Nat.add_zero, patch, patch_out r _ (o + 1) o (by omega), Array.getElem?_setIfInBounds_self_of_lt (by omega)]
    rfl
  | v :: r, cs, o, j + 1, h, hs => by
    simp at h hs
    have := patch_in r (cs.setIfInBounds o v) (o + 1) j h (by simp; omega)
    rw [patch, show o + (j + 1) = o + 1 + j by omega, this]
    rfl
theorem Blk.sets {t : TypeId} {g : Nat} : ∀ (vs : List Value) {w : World} {cs : Array Value} (o : Nat), Blk w g t cs → Blk (w.setCells g o vs) g t (patch cs o vs)
  | [], _, _, _, h => h
  | v :: r, _, _, o, h => Blk.sets r (o + 1) (h.set_ o v)
theorem grown_sets (g : Nat) : ∀ (vs : List Value) (w : World) (o : Nat), w.grownBy (w.setCells g o vs) (some g)
  | [], w, _ => ⟨rfl, rfl, rfl, Nat.le_refl _, fun _ _ _ => rfl⟩
  | v :: r, w, o => by
    have h := grown_sets g r (w.setCell ⟨g, o, none⟩ v) (o + 1)
    refine ⟨h.os, h.tape, h.output, Nat.le_trans (by simp) h.size, fun i hi hne => ?_⟩
    rw [World.setCells, h.block i (by simpa using hi) hne]
    exact Below.heap_setCell w _ v i (fun e => hne (by simp at e; rw [e]))
/-- copy between slices of elements of any size, the target's cells known to be there: all is read ahead. -/
theorem run_copy_sz {P : Program} (w : World) (dT sT ty elem : TypeId) (b o dLen dCap : Nat) (a : Addr) (sLen sCap sz : Nat) (cs : List Value)
    (hu : P.underlying dT = some (.slice elem)) (hs : (P.info? elem).map (·.size) = some sz) (hn : cs.length = Nat.min sLen dLen * sz)
    (hsrc : ∀ j v, cs[j]? = some v → w.cell? (a.add j) = some v) (hc : ∀ j, j < cs.length → (w.cell? ⟨b, o + j, none⟩).isSome = true) (hf : ∀ j, j < cs.length → w.frozen? ⟨b, o + j, none⟩ = false) (h1 : ∀ v ∈ cs, v.oneCell' = true) :
    (Builtin.copy_ #[dT, sT] ty #[.slice (some ⟨b, o, none⟩) dLen dCap, .slice (some a) sLen sCap]).run P w = .ok (goInt (Nat.min sLen dLen)) (w.setCells b o cs) := by
  have hl := run_loadCells_list (P := P) w a cs hsrc
  have hst := run_storeCells_cells (P := P) b o cs 0 w (by simpa using hc) (by simpa using hf) h1
  cases hq : P.info? elem with
  | none => simp [hq] at hs
  | some i =>
    have hi : i.size = sz := by simpa [hq] using hs
    simp [Builtin.copy_, run_underlying hu, Builtin.lenOf, Builtin.firstCells, sizeOf, typeInfo, hq, hi, ← hn, hl, hst]
/-- What a row put in at k leaves. -/
theorem ins_cells {xs rs ys : List Value} {cs : Array Value} {p q n : Nat} (hp : p ≤ xs.length) (hr : rs.length = q) (hn : n = xs.length + q) (hy : ys = xs.take p ++ rs ++ xs.drop p) (hcs : n ≤ cs.size)
    (h0 : ∀ j, j < p → cs[j]? = xs[j]?) (h1 : ∀ j, j < q → cs[p + j]? = rs[j]?) (h2 : ∀ j, j < xs.length - p → cs[p + q + j]? = xs[p + j]?) : cs.toList.take n = ys := by
  apply List.ext_getElem?
  intro j
  rw [List.getElem?_take, hy]
  by_cases hj : j < n
  · rw [if_pos hj, Array.getElem?_toList]
    rcases Nat.lt_or_ge j p with h | h
    · rw [h0 j h, List.append_assoc, List.getElem?_append_left (by rw [List.length_take]; omega), List.getElem?_take, if_pos h]
    · rcases Nat.lt_or_ge j (p + q) with h' | h'
      · have := h1 (j - p) (by omega)
        rw [show p + (j - p) = j by omega] at this
        rw [this, List.append_assoc, List.getElem?_append_right (by rw [List.length_take]; omega), List.length_take, Nat.min_eq_left hp, List.getElem?_append_left (by omega)]
      · have := h2 (j - (p + q)) (by omega)
        rw [show p + q + (j - (p + q)) = j by omega] at this
        rw [this, List.getElem?_append_right (by rw [List.length_append, List.length_take]; omega), List.length_append, List.length_take, Nat.min_eq_left hp, List.getElem?_drop, hr]
  · rw [if_neg hj, List.getElem?_eq_none]
    simp only [List.length_append, List.length_take, List.length_drop]
    omega
theorem rowCells_one (r : BRow) : ∀ u ∈ rowCells r, u.oneCell' = true := by
  intro u hu
  simp only [rowCells, List.mem_append, List.mem_cons, List.not_mem_nil, or_false] at hu
  rcases hu with (rfl | rfl | rfl) | h
  · rfl
  · rfl
  · rfl
  · exact ints_one _ u h
theorem rows_length (rows : List BRow) : (rows.flatMap rowCells).length = rows.length * 11 := by
  induction rows with
  | nil => rfl
  | cons r l ih => rw [List.flatMap_cons, List.length_append, rowCells_length, ih, List.length_cons]; omega
theorem rows_take (rows : List BRow) (k : Nat) : (rows.take k).flatMap rowCells = (rows.flatMap rowCells).take (k * 11) := by
  induction rows generalizing k with
  | nil => simp
  | cons r l ih =>
    cases k with
    | zero => simp
    | succ k => rw [List.take_succ_cons, List.flatMap_cons, List.flatMap_cons, ih, show (k + 1) * 11 = (rowCells r).length + k * 11 by rw [rowCells_length]; omega, List.take_length_add_append]
theorem rows_drop (rows : List BRow) (k : Nat) : (rows.drop k).flatMap rowCells = (rows.flatMap rowCells).drop (k * 11) := by
  induction rows generalizing k with
  | nil => simp
  | cons r l ih =>
    cases k with
    | zero => simp
    | succ k => rw [List.drop_succ_cons, List.flatMap_cons, ih, show (k + 1) * 11 = (rowCells r).length + k * 11 by rw [rowCells_length]; omega, List.drop_length_add_append]
def insRow (rows : List BRow) (k : Nat) (r : BRow) : List BRow := rows.take k ++ r :: rows.drop k
theorem insRow_cells (rows : List BRow) (k : Nat) (r : BRow) : (insRow rows k r).flatMap rowCells = (rows.flatMap rowCells).take (k * 11) ++ rowCells r ++ (rows.flatMap rowCells).drop (k * 11) := by
  rw [insRow, List.flatMap_append, List.flatMap_cons, rows_take, rows_drop, List.append_assoc]
theorem insRow_length {rows : List BRow} {k : Nat} (hk : k ≤ rows.length) (r : BRow) : (insRow rows k r).length = rows.length + 1 := by
  simp [insRow]; omega
def cmpI (a b : Int) : Int := if a < b then -1 else if b < a then 1 else 0
def posOf (x : Int) : List BRow → Nat
  | [] => 0
  | r :: l => if r.idx < x then posOf x l + 1 else 0
theorem posOf_le (x : Int) : ∀ rows : List BRow, posOf x rows ≤ rows.length
  | [] => Nat.le_refl _
  | r :: l => by
    have := posOf_le x l
    rw [posOf, List.length_cons]
    split <;> omega
theorem posOf_eq {x : Int} : ∀ {rows : List BRow} {i : Nat}, i ≤ rows.length → (∀ t (ht : t < rows.length), t < i → rows[t].idx < x) → (∀ t (ht : t < rows.length), i ≤ t → ¬ rows[t].idx < x) → posOf x rows = i
  | [], i, h, _, _ => by simp at h; subst h; rfl
  | r :: l, 0, _, _, h2 => by
    have := h2 0 (by simp) (Nat.le_refl _)
    rw [posOf, if_neg (by simpa using this)]
  | r :: l, i + 1, h, h1, h2 => by
    have h0 := h1 0 (by simp) (by omega)
    rw [posOf, if_pos (by simpa using h0), posOf_eq (i := i) (by simpa using h) (fun t ht hti => h1 (t + 1) (by simp; omega) (by omega)) (fun t ht hti => h2 (t + 1) (by simp; omega) (by omega))]
/-- Rows rise by number. -/
def Rise (rows : List BRow) : Prop := ∀ i j (hi : i < rows.length) (hj : j < rows.length), i < j → rows[i].idx < rows[j].idx
/-- What a world that came back is: nothing, or of the call's own. -/
def GotW (w : World) (base : Nat) (v : Value) (rows : List BRow) (gens : List Int) : Prop := ∃ vr vg, v = .agg #[vr, vg] ∧ OwnW w base vr vg rows gens
theorem GotW.zero (w : World) (base : Nat) : GotW w base (.agg #[.slice none 0 0, .slice none 0 0]) [] [] := ⟨_, _, rfl, own_nil _ _ _ _, own_nil _ _ _ _⟩
def putF (part n : Int) (r : BRow) : BRow × Int :=
  if isPart part && isVal n then (⟨r.idx, r.gen, withS r.has part, r.vals.set part.toNat n, by rw [List.length_set]; exact r.h8⟩, 0) else (r, 3)
def dropF (part : Int) (r : BRow) : BRow × Int :=
  if hasB r.has part then (⟨r.idx, r.gen, withoutS r.has part, r.vals.set part.toNat 0, by rw [List.length_set]; exact r.h8⟩, 0) else (r, 5)
def keepF (r : BRow) : BRow × Int := (r, 0)
/-- In this array a row lies at o. -/
def RowIn (cur : Array Value) (o : Nat) (r : BRow) : Prop := ∀ j u, (rowCells r)[j]? = some u → cur[o + j]? = some u
theorem RowIn.has {cur : Array Value} {o : Nat} {r : BRow} (h : RowIn cur o r) : cur[o + 2]? = some (.int .i64 r.has) := h 2 _ rfl
theorem RowIn.val {cur : Array Value} {o : Nat} {r : BRow} (h : RowIn cur o r) {k : Nat} (hk : k < 8) : cur[o + 3 + k]? = some (.int .i64 (r.vals[k]'(by rw [r.h8]; exact hk))) := by
  have := h (3 + k) (.int .i64 (r.vals[k]'(by rw [r.h8]; exact hk))) (by
    unfold rowCells
    rw [List.getElem?_append_right (by simp), show 3 + k - [Value.int IntKind.i64 r.idx, Value.int IntKind.i64 r.gen, Value.int IntKind.i64 r.has].length = k by simp]
    exact ints_get (by rw [r.h8]; exact hk))
  rwa [← Nat.add_assoc] at this
theorem patch_row {cur : Array Value} {o : Nat} {r : BRow} (h : RowIn cur o r) (s z : Int) {q : Nat} (hq : q < 8) (h8 : (r.vals.set q z).length = 8) :
    (cur.setIfInBounds (o + 2) (.int .i64 s)).setIfInBounds (o + 3 + q) (.int .i64 z) = patch cur o (rowCells ⟨r.idx, r.gen, s, r.vals.set q z, h8⟩) := by
  have hsz : o + 10 < cur.size := by
    obtain ⟨idx, gen, has, vals, e8⟩ := r
    obtain ⟨a0, a1, a2, a3, a4, a5, a6, a7, rfl⟩ := vals_eight e8
    have := h 10 _ rfl
    exact (Array.getElem?_eq_some_iff.1 this).1
  apply Array.ext_getElem?
  intro j
  by_cases hj : j < o ∨ o + 11 ≤ j
  · rw [patch_out _ _ _ _ (by rw [rowCells_length]; exact hj), Array.getElem?_setIfInBounds_ne (by omega), Array.getElem?_setIfInBounds_ne (by omega)]
  · obtain ⟨d, rfl⟩ : ∃ d, j = o + d := ⟨j - o, by omega⟩
    have hd : d < 11 := by omega
    rw [patch_in _ _ _ _ (by rw [rowCells_length]; exact hd) (by rw [rowCells_length]; omega)]
    have hrd : (rowCells r)[d]? = cur[o + d]? := by
      obtain ⟨u, hu⟩ : ∃ u, (rowCells r)[d]? = some u := ⟨_, List.getElem?_eq_getElem (by rw [rowCells_length]; exact hd)⟩
      rw [hu, h d u hu]
    by_cases h2 : d = 3 + q
    · subst h2
      rw [← Nat.add_assoc, Array.getElem?_setIfInBounds_self_of_lt (by simp; omega)]
      unfold rowCells
      rw [List.getElem?_append_right (by simp), show 3 + q - ([Value.int IntKind.i64 r.idx, Value.int IntKind.i64 r.gen, Value.int IntKind.i64 s] : List Value).length = q by simp]
      simp [ints, r.h8, hq]
    · rw [Array.getElem?_setIfInBounds_ne (by omega)]
      by_cases h3 : d = 2
      · subst h3
        rw [Array.getElem?_setIfInBounds_self_of_lt (by omega)]
        rfl
      · rw [Array.getElem?_setIfInBounds_ne (by omega), ← hrd]
        unfold rowCells
        by_cases h4 : d < 3
        · rw [List.getElem?_append_left (by simpa using h4), List.getElem?_append_left (by simpa using h4)]
          match d, h4 with
          | 0, _ => rfl
          | 1, _ => rfl
          | 2, _ => exact absurd rfl h3
        · rw [List.getElem?_append_right (by simp; omega), List.getElem?_append_right (by simp; omega)]
          simp only [ints, List.getElem?_map, List.length_cons, List.length_nil]
          rw [List.getElem?_set_ne (by omega)]
theorem patch_same {cur : Array Value} {o : Nat} {r : BRow} (h : RowIn cur o r) : patch cur o (rowCells r) = cur := by
  apply Array.ext_getElem?
  intro j
  by_cases hj : j < o ∨ o + 11 ≤ j
  · rw [patch_out _ _ _ _ (by rw [rowCells_length]; exact hj)]
  · have hsz : o + 10 < cur.size := by
      obtain ⟨idx, gen, has, vals, e8⟩ := r
      obtain ⟨a0, a1, a2, a3, a4, a5, a6, a7, rfl⟩ := vals_eight e8
      have := h 10 _ rfl
      exact (Array.getElem?_eq_some_iff.1 this).1
    obtain ⟨d, rfl⟩ : ∃ d, j = o + d := ⟨j - o, by omega⟩
    rw [patch_in _ _ _ _ (by rw [rowCells_length]; omega) (by rw [rowCells_length]; omega)]
    obtain ⟨u, hu⟩ : ∃ u, (rowCells r)[d]? = some u := ⟨_, List.getElem?_eq_getElem (by rw [rowCells_length]; omega)⟩
    rw [hu, h d u hu]
theorem grown_refl (w : World) (row : Option Nat) : w.grownBy w row := ⟨rfl, rfl, rfl, Nat.le_refl _, fun _ _ _ => rfl⟩
structure Changed where
  rows : List BRow
  gens : List Int
  err : Int
def changeV (rows : List BRow) (gens : List Int) (i g : Int) (fr : BRow → BRow × Int) : Changed :=
  if (worldErr ⟨rows, gens⟩).1 ≠ 0 then ⟨[], [], (worldErr ⟨rows, gens⟩).1⟩
  else match findR i g rows with
    | none => ⟨[], [], 5⟩
    | some k => match rows[k]? with
      | none => ⟨[], [], 5⟩
      | some r => if (fr r).2 ≠ 0 then ⟨[], [], (fr r).2⟩ else ⟨rows.set k (fr r).1, gens, 0⟩
theorem flat_set {rows : List BRow} {k : Nat} (hk : k < rows.length) (r : BRow) {cur : Array Value} {m : Nat} (hm : m = rows.length * 11) (h : cur.toList.take m = rows.flatMap rowCells) (hs : m ≤ cur.size) :
    (patch cur (k * 11) (rowCells r)).toList.take m = (rows.set k r).flatMap rowCells := by
  apply List.ext_getElem?
  intro j
  rw [List.getElem?_take]
  have hl2 : ((rows.set k r).flatMap rowCells).length = m := by rw [rows_length, List.length_set]; omega
  split
  · rename_i hj
    rw [Array.getElem?_toList]
    have hd : j = j / 11 * 11 + j % 11 := by omega
    have hq : j / 11 < rows.length := by omega
    have hg : ((rows.set k r).flatMap rowCells)[j]? = (rowCells ((rows.set k r)[j / 11]'(by rw [List.length_set]; exact hq)))[j % 11]? := by
      have := flat_get rowCells_length (rows.set k r) (j / 11) (by rw [List.length_set]; exact hq) (j % 11) (by omega)
      rw [← hd] at this
      exact this
    rw [hg]
    by_cases hkq : j / 11 = k
    · subst hkq
      rw [List.getElem_set_self]
      have := patch_in (rowCells r) cur (j / 11 * 11) (j % 11) (by rw [rowCells_length]; omega) (by rw [rowCells_length]; omega)
      rw [← hd] at this
      exact this
    · rw [List.getElem_set_ne (by omega), patch_out _ _ _ _ (by rw [rowCells_length]; omega)]
      have h2 : (cur.toList.take m)[j]? = (rows.flatMap rowCells)[j]? := by rw [h]
      rw [List.getElem?_take, if_pos hj, Array.getElem?_toList] at h2
      rw [h2]
      have := flat_get rowCells_length rows (j / 11) hq (j % 11) (by omega)
      rw [← hd] at this
      exact this
  · rw [List.getElem?_eq_none (by omega)]
theorem row_in {rows : List BRow} {k : Nat} (hk : k < rows.length) {cur : Array Value} {m : Nat} (hm : m = rows.length * 11) (h : cur.toList.take m = rows.flatMap rowCells) : RowIn cur (k * 11) rows[k] := by
  intro j u hu
  have hj : j < 11 := by
    have := (List.getElem?_eq_some_iff.1 hu).1
    rwa [rowCells_length] at this
  have h1 := flat_get rowCells_length rows k hk j hj
  rw [hu, ← h, List.getElem?_take, if_pos (by omega), Array.getElem?_toList] at h1
  exact h1
def findP (p : BRow → Bool) : List BRow → Option Nat
  | [] => none
  | r :: l => if p r then some 0 else (findP p l).map (· + 1)
def findPI (p : BRow → Bool) (rows : List BRow) : Int := match findP p rows with | some k => (k : Int) | none => -1
theorem findP_drop {p : BRow → Bool} {rows : List BRow} {k : Nat} (h : k < rows.length) : (findP p (rows.drop k)).map (· + k) = if p rows[k] then some k else (findP p (rows.drop (k + 1))).map (· + (k + 1)) := by
  rw [drop_cons h, findP]
  split
  · simp
  · rw [Option.map_map]
    congr 1
    funext x
    simp only [Function.comp_apply]
    omega
theorem grown_then {w w1 w2 : World} {g : Option Nat} (h : w.grownBy w1 g) (h2 : Below w1.heap.size w1 w2) : w.grownBy w2 g :=
  ⟨h2.os.trans h.os, h2.tape.trans h.tape, h2.output.trans h.output, Nat.le_trans h.size h2.size, fun k hk hne => (h2.block k (Nat.lt_of_lt_of_le hk h.size)).trans (h.block k hk hne)⟩
theorem grown_grown {w w1 w2 : World} {g : Option Nat} (h : w.grownBy w1 g) (h2 : w1.grownBy w2 g) : w.grownBy w2 g :=
  ⟨h2.os.trans h.os, h2.tape.trans h.tape, h2.output.trans h.output, Nat.le_trans h.size h2.size, fun k hk hne => (h2.block k (Nat.lt_of_lt_of_le hk h.size) hne).trans (h.block k hk hne)⟩
theorem findP_some {p : BRow → Bool} : ∀ {rows : List BRow} {k : Nat}, findP p rows = some k → ∃ hk : k < rows.length, p rows[k] = true ∧ ∀ j (hj : j < k), p (rows[j]'(by omega)) = false
  | [], k, h => by simp [findP] at h
  | r :: l, k, h => by
    rw [findP] at h
    split at h
    · rename_i hr
      obtain rfl := Option.some.inj h
      exact ⟨by simp, hr, fun j hj => absurd hj (by omega)⟩
    · rename_i hr
      cases h' : findP p l with
      | none => rw [h'] at h; cases h
      | some q =>
        rw [h'] at h
        obtain rfl : q + 1 = k := Option.some.inj h
        obtain ⟨hq, h1, h2⟩ := findP_some h'
        refine ⟨by simpa using hq, by simpa using h1, fun j hj => ?_⟩
        cases j with
        | zero => simpa using hr
        | succ j => simpa using h2 j (by omega)
theorem findP_none {p : BRow → Bool} : ∀ {rows : List BRow}, findP p rows = none → ∀ r ∈ rows, p r = false
  | [], _ => by simp
  | r :: l, h => by
    rw [findP] at h
    split at h
    · cases h
    · rename_i hr
      have h' : findP p l = none := by
        cases h' : findP p l with
        | none => rfl
        | some q => rw [h'] at h; cases h
      intro x hx
      rcases List.mem_cons.1 hx with rfl | hx
      · simpa using hr
      · exact findP_none h' x hx
/-- clear of a slice of elements of any size. -/
theorem run_clear_sz {P : Program} (w : World) (t e ty : TypeId) (z : Value) (sz : Nat) (b o n c : Nat) (ht : P.underlying t = some (.slice e)) (hv : ∀ w, (zeroValue e).run P w = .ok z w) (hz : z.cells.size = sz) (h1 : ∀ u ∈ (Builtin.zeroCells z.cells n).toList, u.oneCell' = true) (hn : 0 < n)
    (hc : ∀ j, j < n * sz → (w.cell? ⟨b, o + j, none⟩).isSome = true) (hf : ∀ j, j < n * sz → w.frozen? ⟨b, o + j, none⟩ = false) :
    (Builtin.clear_ #[t] ty #[.slice (some ⟨b, o, none⟩) n c]).run P w = .ok (.tuple #[]) (w.setCells b o (Builtin.zeroCells z.cells n).toList) := by
  have hl : (Builtin.zeroCells z.cells n).toList.length = n * sz := by rw [Array.length_toList, size_zeroCells, hz]
  have hst := run_storeCells_cells (P := P) b o (Builtin.zeroCells z.cells n).toList 0 w (by rw [hl]; simpa using hc) (by rw [hl]; simpa using hf) h1
  simp only [Nat.add_zero] at hst
  obtain ⟨m, rfl⟩ : ∃ m, n = m + 1 := ⟨n - 1, by omega⟩
  simp [Builtin.clear_, run_underlying ht, hv, hst]
theorem zeroCells_one {z : Array Value} {n : Nat} (h : ∀ u ∈ z.toList, u.oneCell' = true) : ∀ u ∈ (Builtin.zeroCells z n).toList, u.oneCell' = true := by
  intro u hu
  obtain ⟨i, hi⟩ := List.getElem?_of_mem hu
  rw [Array.getElem?_toList] at hi
  obtain ⟨hlt, he⟩ := Array.getElem?_eq_some_iff.1 hi
  rw [size_zeroCells] at hlt
  have hz : 0 < z.size := by
    rcases Nat.eq_zero_or_pos z.size with h0 | h0
    · rw [h0] at hlt; omega
    · exact h0
  simp only [Builtin.zeroCells] at he
  simp at he
  rw [← he]
  refine h _ ?_
  rw [Array.mem_toList_iff, getElem!_pos z _ (Nat.mod_lt _ hz)]
  exact Array.getElem_mem _
def keepR (p : BRow → Bool) (rows : List BRow) : List BRow := rows.filter fun r => !p r
theorem keepR_take {p : BRow → Bool} {rows : List BRow} {j : Nat} (hj : j < rows.length) : keepR p (rows.take (j + 1)) = keepR p (rows.take j) ++ (if p rows[j] then [] else [rows[j]]) := by
  rw [List.take_add_one, List.getElem?_eq_getElem hj, Option.toList_some]
  unfold keepR
  rw [List.filter_append]
  congr 1
  cases h : p rows[j] <;> simp [List.filter_cons, h]
theorem keepR_all {p : BRow → Bool} {rows : List BRow} (h : ∀ r ∈ rows, p r = false) : keepR p rows = rows := by
  unfold keepR
  rw [List.filter_eq_self]
  intro r hr
  rw [h r hr]; rfl
/-- What DeleteFunc's row holds on the way. -/
structure DelSt (p : BRow → Bool) (rows cur : List BRow) (i j : Nat) : Prop where
  len : cur.length = rows.length
  lt : i < j
  le : j ≤ rows.length
  head : cur.take i = keepR p (rows.take j)
  tail : cur.drop j = rows.drop j
section
variable {p : BRow → Bool} {rows cur : List BRow} {i j : Nat}
theorem DelSt.at_ (h : DelSt p rows cur i j) (hj : j < rows.length) : cur[j]'(by rw [h.len]; exact hj) = rows[j] := by
  have := congrArg (fun l => l[0]?) h.tail
  simp only [List.getElem?_drop, Nat.add_zero] at this
  rw [List.getElem?_eq_getElem (by rw [h.len]; exact hj), List.getElem?_eq_getElem hj] at this
  exact Option.some.inj this
theorem DelSt.skip_ (h : DelSt p rows cur i j) (hj : j < rows.length) (hp : p rows[j] = true) : DelSt p rows cur i (j + 1) := by
  refine ⟨h.len, by have := h.lt; omega, by omega, ?_, ?_⟩
  · rw [keepR_take hj, if_pos hp, List.append_nil]; exact h.head
  · rw [← List.drop_drop, ← List.drop_drop, h.tail]
theorem DelSt.keep (h : DelSt p rows cur i j) (hj : j < rows.length) (hp : p rows[j] = false) : DelSt p rows (cur.set i rows[j]) (i + 1) (j + 1) := by
  have hil : i < cur.length := by rw [h.len]; have := h.lt; omega
  refine ⟨by rw [List.length_set]; exact h.len, by have := h.lt; omega, by omega, ?_, ?_⟩
  · rw [keepR_take hj, hp, List.take_add_one, List.getElem?_eq_getElem (by rw [List.length_set]; exact hil), Option.toList_some, List.getElem_set_self, List.take_set_of_le (Nat.le_refl i), h.head]
    simp
  · rw [List.drop_set_of_lt (by have := h.lt; omega), ← List.drop_drop, ← List.drop_drop, h.tail]
theorem DelSt.first {k : Nat} (hk : k < rows.length) (h1 : p rows[k] = true) (h2 : ∀ j (hj : j < k), p (rows[j]'(by omega)) = false) : DelSt p rows rows k (k + 1) := by
  refine ⟨rfl, by omega, by omega, ?_, rfl⟩
  rw [keepR_take hk, if_pos h1, List.append_nil, keepR_all]
  intro r hr
  obtain ⟨q, hq, rfl⟩ := List.getElem_of_mem hr
  rw [List.length_take] at hq
  rw [List.getElem_take]
  exact h2 q (by omega)
end
def putV (rows : List BRow) (gens : List Int) (i g part n : Int) : Changed := changeV rows gens i g (putF part n)
def dropV (rows : List BRow) (gens : List Int) (i g part : Int) : Changed := changeV rows gens i g (dropF part)
def killV (rows : List BRow) (gens : List Int) (i g : Int) : Changed :=
  let c := changeV rows gens i g keepF
  if c.err = 0 then ⟨keepR (isB i g) c.rows, c.gens, 0⟩ else c
/-- A world as a value, read below block B. -/
structure WIn (w : World) (B : Nat) (v : Value) (rows : List BRow) (gens : List Int) (Ar : Option Addr) (cr : Nat) (Ag : Option Addr) (cg : Nat) : Prop where
  val : v = .agg #[.slice Ar rows.length cr, .slice Ag gens.length cg]
  row : RdR w B Ar rows
  gen : RdG w B Ag gens
  nr : Ar = none → cr = 0 ∧ rows = []
  ng : Ag = none → cg = 0 ∧ gens = []
theorem own_none {w : World} {base : Nat} {e : TypeId} {sz n c : Nat} {xs : List Value} (h : w.ownsRow base e sz (.slice none n c) n xs) : c = 0 ∧ n = 0 := by
  rcases h.2 with ⟨hv, hn⟩ | ⟨g, cap, cur, hv, _⟩
  · injection hv with _ _ h3
    exact ⟨h3, hn⟩
  · cases hv
theorem GotW.open_ {w : World} {base : Nat} {v : Value} {rows : List BRow} {gens : List Int} (h : GotW w base v rows gens) : ∃ Ar cr Ag cg, WIn w w.heap.size v rows gens Ar cr Ag cg := by
  obtain ⟨vr, vg, rfl, hO⟩ := h
  obtain ⟨Ar, cr, rfl, _, _⟩ := own_shape hO.rows_
  obtain ⟨Ag, cg, rfl, _, _⟩ := own_shape hO.gens_
  refine ⟨Ar, cr, Ag, cg, rfl, Rd.of_own hO.rows_, Rd.of_own hO.gens_, ?_, ?_⟩
  · rintro rfl
    have h := own_none hO.rows_
    exact ⟨h.1, List.eq_nil_of_length_eq_zero h.2⟩
  · rintro rfl
    have h := own_none hO.gens_
    exact ⟨h.1, List.eq_nil_of_length_eq_zero h.2⟩
theorem WIn.under {w w' : World} {B : Nat} {v : Value} {rows : List BRow} {gens : List Int} {Ar : Option Addr} {cr : Nat} {Ag : Option Addr} {cg : Nat} (h : WIn w B v rows gens Ar cr Ag cg) {C : Nat} (hb : Below C w w') (hC : B ≤ C) : WIn w' B v rows gens Ar cr Ag cg :=
  ⟨h.val, Rd.under h.row hb hC, Rd.under h.gen hb hC, h.nr, h.ng⟩
theorem WIn.more {w : World} {B B' : Nat} {v : Value} {rows : List BRow} {gens : List Int} {Ar : Option Addr} {cr : Nat} {Ag : Option Addr} {cg : Nat} (h : WIn w B v rows gens Ar cr Ag cg) (hB : B ≤ B') : WIn w B' v rows gens Ar cr Ag cg :=
  ⟨h.val, Rd.more h.row hB, Rd.more h.gen hB, h.nr, h.ng⟩
/-- What was read stays readable while the call goes on. -/
theorem WIn.grow {w w' : World} {v : Value} {rows : List BRow} {gens : List Int} {Ar : Option Addr} {cr : Nat} {Ag : Option Addr} {cg : Nat} (h : WIn w w.heap.size v rows gens Ar cr Ag cg) (hb : Below w.heap.size w w') : WIn w' w'.heap.size v rows gens Ar cr Ag cg :=
  (h.under hb (Nat.le_refl _)).more hb.size
theorem WIn.zero (w : World) (B : Nat) : WIn w B (.agg #[.slice none 0 0, .slice none 0 0]) [] [] none 0 none 0 :=
  ⟨rfl, Rd.nil_, Rd.nil_, fun _ => ⟨rfl, rfl⟩, fun _ => ⟨rfl, rfl⟩⟩
def rowOf (i g : Int) (rows : List BRow) : Option BRow := rows.find? (isB i g)
theorem rowOf_drop {i g : Int} {rows : List BRow} {k : Nat} (h : k < rows.length) : rowOf i g (rows.drop k) = if isB i g rows[k] then some rows[k] else rowOf i g (rows.drop (k + 1)) := by
  rw [drop_cons h]
  unfold rowOf
  rw [List.find?_cons]
  cases isB i g rows[k] <;> rfl
/-- The address of a being's row. -/
def ptrAt (A : Option Addr) (o : Option Nat) (k : Nat) : Value :=
  match o with
  | none => .pointer none
  | some j => .pointer (A.map fun a => ⟨a.block, a.off + (k + j) * 11, none⟩)
def rowPtr (A : Option Addr) (i g : Int) (rows : List BRow) : Value := ptrAt A (findR i g rows) 0
theorem ptr_drop {A : Option Addr} {i g : Int} {rows : List BRow} {k : Nat} (h : k < rows.length) : ptrAt A (findR i g (rows.drop k)) k = if isB i g rows[k] then ptrAt A (some 0) k else ptrAt A (findR i g (rows.drop (k + 1))) (k + 1) := by
  rw [drop_cons h, findR]
  split
  · rfl
  · cases findR i g (rows.drop (k + 1)) with
    | none => rfl
    | some j => show ptrAt A (some (j + 1)) k = _
                simp only [ptrAt]
                rw [show k + (j + 1) = k + 1 + j by omega]
theorem findR_rowOf {i g : Int} : ∀ {rows : List BRow}, rowOf i g rows = (findR i g rows).bind fun k => rows[k]?
  | [] => rfl
  | r :: l => by
    unfold rowOf
    rw [List.find?_cons, findR]
    cases h : isB i g r
    · simp only
      rw [if_neg (by simp)]
      have := findR_rowOf (i := i) (g := g) (rows := l)
      unfold rowOf at this
      rw [this]
      cases findR i g l <;> rfl
    · simp
/-- Rows with one more: in its place. -/
def withFrom (r : BRow) : Bool → List BRow → List BRow
  | D, [] => if D then [] else [r]
  | D, x :: l => (if !D && decide (r.idx ≤ x.idx) then [r] else []) ++ ((if x.idx != r.idx then [x] else []) ++ withFrom r (D || decide (r.idx ≤ x.idx)) l)
def withV (r : BRow) (rows : List BRow) : List BRow := withFrom r false rows
theorem flat_snoc (l : List BRow) (r : BRow) : (l ++ [r]).flatMap rowCells = l.flatMap rowCells ++ rowCells r := by simp
/-- Who is asked for. -/
def matchV (fa fn : Int) (rows : List BRow) : List BRow := rows.filter fun r => meetsB fa fn r.has
def beCells (r : BRow) : List Value := [.int .i64 r.idx, .int .i64 r.gen]
theorem match_take {fa fn : Int} {rows : List BRow} {k : Nat} (hk : k < rows.length) : matchV fa fn (rows.take (k + 1)) = matchV fa fn (rows.take k) ++ (if meetsB fa fn rows[k].has then [rows[k]] else []) := by
  unfold matchV
  rw [List.take_add_one, List.getElem?_eq_getElem hk, Option.toList_some, List.filter_append]
  congr 1
  rw [List.filter_cons]
  cases meetsB fa fn rows[k].has <;> rfl
theorem infoBe : (Try.prog.info? 27).map (fun i => (i.zero, i.size, i.bytes)) = some (some (.agg #[.int .i64 0, .int .i64 0]), 2, 16) := by kernel_rfl
theorem be_length (l : List BRow) : (l.flatMap beCells).length = l.length * 2 := by
  induction l with
  | nil => rfl
  | cons r l ih => rw [List.flatMap_cons, List.length_append, ih, List.length_cons]; simp [beCells]; omega
def RdB (w : World) (B : Nat) (A : Option Addr) (l : List BRow) : Prop := Rd w B 2 A l.length (l.flatMap beCells)
theorem RdB.at_ {w : World} {B : Nat} {A : Option Addr} {l : List BRow} (h : RdB w B A l) {k : Nat} (hk : k < l.length) :
    ∃ b off, A = some ⟨b, off, none⟩ ∧ b < B ∧ w.cell? ⟨b, off + k * 2, none⟩ = some (.int .i64 l[k].idx) ∧ w.cell? ⟨b, off + k * 2 + 1, none⟩ = some (.int .i64 l[k].gen) := by
  obtain ⟨b, off, e, hb, hc⟩ := h.2 (by omega)
  have hl : ∀ r : BRow, (beCells r).length = 2 := fun _ => rfl
  refine ⟨b, off, e, hb, hc (k * 2) _ ((flat_get hl l k hk 0 (by omega)).trans rfl), ?_⟩
  have := hc (k * 2 + 1) _ ((flat_get hl l k hk 1 (by omega)).trans rfl)
  rwa [← Nat.add_assoc] at this
end Go.Proofs.Ytefdblaolmckmab
