/- What package rule computes, as plain functions. -/
import Derived.Test.YtefdblaolmckmaaSpecA
namespace Brood

structure BAct where
  kind : Int
  part : Int
  src : Int
  n : Int
structure BSys where
  mod : Int
  all : Int
  non : Int
  acts : List BAct
structure BNeed where
  reads : Int
  writes : Int
  moves : Bool
  life : Bool
structure BMod where
  reads : Int
  writes : Int
  life : Bool

def isFrom (a : BAct) : Bool := decide (a.kind = 2) || decide (a.kind = 3)
def isOwn (a : BAct) : Bool := decide (a.kind = 3) || decide (a.kind = 4)
def isWrite (k : Int) : Bool := decide (1 ≤ k ∧ k ≤ 5)

def actErr (all : Int) (a : BAct) : Int :=
  if a.kind = 6 then 0
  else if a.kind = 7 then (if !isSet a.part || !isVal a.n then 3 else 0)
  else if isWrite a.kind then
    (if !isPart a.part || (isFrom a && !isPart a.src) || (!isFrom a && !decide (a.kind = 5) && !isVal a.n) then 3
     else if (isFrom a && !hasB all a.src) || (isOwn a && !hasB all a.part) then 7
     else 0)
  else 1
def goneErr (g : Int) (a : BAct) : Bool := (isFrom a && hasB g a.src) || (isOwn a && hasB g a.part)
def goneNext (g : Int) (a : BAct) : Int :=
  if a.kind = 5 then withS g a.part else if a.kind = 1 ∨ a.kind = 2 then withoutS g a.part else g
def wrongFrom (all : Int) : Int → Nat → List BAct → Int × Int
  | _, _, [] => (0, 0)
  | g, i, a :: l => if actErr all a ≠ 0 then (actErr all a, (i : Int)) else if goneErr g a then (7, (i : Int)) else wrongFrom all (goneNext g a) (i + 1) l
def sysHead (s : BSys) : Bool := decide (0 ≤ s.mod) && decide (s.mod < 6) && isSet s.all && isSet s.non
def sysWrong (s : BSys) : Int × Int :=
  if sysHead s then (if 8 < s.acts.length then (4, 0) else wrongFrom s.all 0 0 s.acts) else (3, 0)

def orS (s t : Int) : Int := ((s.toNat ||| t.toNat : Nat) : Int)
def needAct (all : Int) (n : BNeed) (a : BAct) : BNeed :=
  if a.kind = 6 then { n with life := true }
  else if a.kind = 7 then { n with life := true, writes := orS n.writes a.part }
  else
    { reads := (if isOwn a then withS (if isFrom a then withS n.reads a.src else n.reads) a.part else (if isFrom a then withS n.reads a.src else n.reads)),
      writes := withS n.writes a.part,
      moves := n.moves || decide (a.kind = 5) || !hasB all a.part,
      life := n.life }
def needs (s : BSys) : BNeed := s.acts.foldl (needAct s.all) ⟨0, 0, false, false⟩
def subS (s t : Int) : Bool := s.toNat &&& t.toNat == s.toNat
def may (m : BMod) (s : BSys) : Bool :=
  subS (orS (orS (needs s).reads s.all) s.non) m.reads && subS (needs s).writes m.writes && (m.life || !(needs s).life)
def meetS (s t : Int) : Bool := !(s.toNat &&& t.toNat == 0)
def clashN (x y : BNeed) : Bool :=
  x.moves || y.moves || x.life || y.life || meetS x.writes (orS y.reads y.writes) || meetS y.writes x.reads
def clash (a b : BSys) : Bool := clashN (needs a) (needs b)
end Brood
