/- Words for memory: a slice that reads as a list of cells, whether nil or not; what is kept of it. What package parts computes, as plain functions on whole numbers; and the plain laws of chapter 1. The walks of package parts: what each function returns. The walk of parts.List. A region that draws its order, by one statement that every operation keeps ('I'), whatever has come up so far. Ints as keys of a map. A slice of slices of ints that the call itself makes: the outer row and each inner one in a block of its own. What a call has made itself, as one list: blocks known whole, slices of its own; all apart; below them nothing has turned. A region that draws its order: each operation's value in an assignment, the frame kept by the rule itself; what the user keeps is one statement on which are done, the values and the world. A region that draws its order, whose operations' values are known ahead, while the world turns as they are done ('J'). A region that draws its order: each operation's value keeps a property of its own, which what comes later does not spoil; guards are decided ahead. A region that draws its order: values known ahead, guards decided ahead, the world by one statement ('J') on what is done. -/
import Derived.Test.YtefdblaolmckmabProg
import Derived.WalkKit
import Derived.WalkSpells
import Derived.WalkLawsBesides
import Derived.Lib.Hide
import Derived.Laws.OwnMore
import Derived.Deep.AppendLies
import Derived.Deep.Draws
import Derived.Orders
import Derived.Maps.OwnSet
import Derived.OpenShut
import Derived.Maps.OwnOps
import Derived.Laws.IdiomMaps
import Derived.Maps.AppendAt
namespace Go.Proofs.Ytefdblaolmckmab
open Go.RowKit

theorem ret_bool {a b : Bool} (h : a = b) : Ending.returned (.bool a) = .returned (.bool b) := by rw [h]
theorem ret_int {k : IntKind} {a b : Int} (h : a = b) : Ending.returned (.int k a) = .returned (.int k b) := by rw [h]

/-- The slice value '.slice A n _' reads as the cells xs, 'sz' of them an element; it lies below block B. -/
def Rd (w : World) (B sz : Nat) (A : Option Addr) (n : Nat) (xs : List Value) : Prop :=
  xs.length = n * sz ∧ (0 < n → ∃ b off, A = some ⟨b, off, none⟩ ∧ b < B ∧ ∀ j u, xs[j]? = some u → w.cell? ⟨b, off + j, none⟩ = some u)

theorem add_mk (b off j : Nat) : (Addr.mk b off none).add j = ⟨b, off + j, none⟩ := by
  unfold Addr.add; split <;> simp_all

section
variable {w w' : World} {B B' sz n : Nat} {A : Option Addr} {xs : List Value}
theorem Rd.nil_ : Rd w B sz A 0 [] := ⟨by simp, fun h => absurd h (by omega)⟩
theorem Rd.keep (h : Rd w B sz A n xs) (hk : ∀ p : Addr, p.block < B → w'.cell? p = w.cell? p) : Rd w' B sz A n xs :=
  ⟨h.1, fun hn => by
    obtain ⟨b, off, e, hb, hc⟩ := h.2 hn
    exact ⟨b, off, e, hb, fun j u hu => (hk _ hb).trans (hc j u hu)⟩⟩
theorem Rd.more (h : Rd w B sz A n xs) (hB : B ≤ B') : Rd w B' sz A n xs :=
  ⟨h.1, fun hn => by
    obtain ⟨b, off, e, hb, hc⟩ := h.2 hn
    exact ⟨b, off, e, by omega, hc⟩⟩
theorem Rd.below (h : Rd w B sz A n xs) (hb : Below B w w') : Rd w' B sz A n xs := h.keep fun _ hp => hb.cell hp
theorem Rd.under (h : Rd w B sz A n xs) {C : Nat} (hb : Below C w w') (hC : B ≤ C) : Rd w' B sz A n xs := h.keep fun _ hp => hb.cell (by omega)
theorem Rd.alloc (h : Rd w B sz A n xs) (hB : B ≤ w.heap.size) (o : Obj) : Rd (w.alloc o) B sz A n xs := h.keep fun p hp => World.cell?_alloc_lt w o p (by omega)
theorem Rd.setCell (h : Rd w B sz A n xs) {p : Addr} (hB : B ≤ p.block) (u : Value) : Rd (w.setCell p u) B sz A n xs :=
  h.keep fun q hq => World.cell?_setCell_other w p q u (fun e => by subst e; omega)
theorem Rd.of_own {base : Nat} {e : TypeId} {c : Nat} (h : w.ownsRow base e sz (.slice A n c) n xs) : Rd w w.heap.size sz A n xs := by
  refine ⟨h.1, fun hn => ?_⟩
  obtain ⟨g, cap, hv, _, hlt⟩ := h.form hn
  have hA : A = some ⟨g, 0, none⟩ := by injection hv
  subst hA
  refine ⟨g, 0, rfl, hlt, fun j u hu => ?_⟩
  have := h.cells (g := g) rfl j u hu
  rwa [add_mk] at this
end

theorem infoInt : (Try.prog.info? 3).map (fun i => (i.zero, i.size, i.bytes)) = some (some (.int .i64 0), 1, 8) := by kernel_rfl
def ints (zs : List Int) : List Value := zs.map (Value.int .i64)
theorem ints_length (zs : List Int) : (ints zs).length = zs.length := by simp [ints]
theorem ints_one (zs : List Int) : ∀ u ∈ ints zs, u.oneCell' = true := by
  intro u hu
  simp only [ints, List.mem_map] at hu
  obtain ⟨z, _, rfl⟩ := hu
  rfl
theorem ints_snoc (zs : List Int) (z : Int) : ints zs ++ [Value.int .i64 z] = ints (zs ++ [z]) := by simp [ints]
theorem ints_get {zs : List Int} {k : Nat} (hk : k < zs.length) : (ints zs)[k]? = some (.int .i64 zs[k]) := by simp [ints, hk]

theorem Rd.grow {w w' : World} {sz n : Nat} {A : Option Addr} {xs : List Value} (h : Rd w w.heap.size sz A n xs) (hb : Below w.heap.size w w') : Rd w' w'.heap.size sz A n xs :=
  (h.below hb).more hb.size
theorem Rd.alloc_ {w : World} {sz n : Nat} {A : Option Addr} {xs : List Value} (h : Rd w w.heap.size sz A n xs) (o : Obj) : Rd (w.alloc o) (w.alloc o).heap.size sz A n xs :=
  (h.alloc (Nat.le_refl _) o).more (by simp)
/-- A slice of ints that reads as zs. -/
def RdI (w : World) (A : Option Addr) (zs : List Int) : Prop := Rd w w.heap.size 1 A zs.length (ints zs)
theorem RdI.at_ {w : World} {A : Option Addr} {zs : List Int} (h : RdI w A zs) {k : Nat} (hk : k < zs.length) :
    ∃ b off, A = some ⟨b, off, none⟩ ∧ b < w.heap.size ∧ w.cell? ⟨b, off + k, none⟩ = some (.int .i64 zs[k]) := by
  obtain ⟨b, off, e, hb, hc⟩ := h.2 (by omega)
  exact ⟨b, off, e, hb, hc k _ (ints_get hk)⟩
theorem RdI.grow {w w' : World} {A : Option Addr} {zs : List Int} (h : RdI w A zs) (hb : Below w.heap.size w w') : RdI w' A zs := Rd.grow h hb
theorem RdI.alloc {w : World} {A : Option Addr} {zs : List Int} (h : RdI w A zs) (o : Obj) : RdI (w.alloc o) A zs := Rd.alloc_ h o
theorem RdI.drew {w : World} {A : Option Addr} {zs : List Int} (h : RdI w A zs) : RdI w.drew A zs := h
theorem RdI.drewN {w : World} {A : Option Addr} {zs : List Int} (h : RdI w A zs) (n : Nat) : RdI (w.drewN n) A zs := h
theorem below_drewN {B : Nat} {a w : World} (h : Below B a w) (n : Nat) : Below B a (w.drewN n) := ⟨h.os, h.tape, h.output, h.size, h.block⟩
theorem RdI.of_own {w : World} {base c : Nat} {e : TypeId} {A : Option Addr} {zs : List Int} (h : w.ownsRow base e 1 (.slice A zs.length c) zs.length (ints zs)) : RdI w A zs := Rd.of_own h
theorem grow_below {w w1 w2 : World} (h : Below w.heap.size w w1) (k : Below w1.heap.size w1 w2) : Below w.heap.size w w2 :=
  h.trans (k.mono h.size)

theorem own_nil (w : World) (base : Nat) (e : TypeId) (sz : Nat) : w.ownsRow base e sz (.slice none 0 0) 0 [] := ⟨by simp, .inl ⟨rfl, rfl⟩⟩
theorem own_shape {w : World} {base : Nat} {e : TypeId} {sz : Nat} {v : Value} {n : Nat} {xs : List Value} (h : w.ownsRow base e sz v n xs) :
    ∃ A c, v = .slice A n c ∧ n ≤ c ∧ c ≤ maxLen := by
  rcases h.2 with ⟨rfl, rfl⟩ | ⟨g, cap, cur, rfl, _, _, h1, h2, _⟩
  · exact ⟨none, 0, rfl, Nat.le_refl _, Nat.zero_le _⟩
  · exact ⟨_, cap, rfl, h1, h2⟩
theorem own_block {w : World} {base : Nat} {e : TypeId} {sz : Nat} {v : Value} {n : Nat} {xs : List Value} (h : w.ownsRow base e sz v n xs) :
    ∀ k, v.ownBlock = some k → base ≤ k := by
  intro k hk
  rcases h.2 with ⟨rfl, rfl⟩ | ⟨g, cap, cur, rfl, hb, _⟩
  · simp [Value.ownBlock] at hk
  · simp [Value.ownBlock] at hk; omega

theorem quiet_same {P : Program} {f : FuncId} {args : Array Value} {w : World} {n : Nat} {v : Value}
    (h : Calls P f args (w.drewN n) fun e w' => e = .returned v ∧ w.drewN n = w') : Calls P f args (w.drewN n) fun e w'' => e = .returned v ∧ ∃ m, w'' = w.drewN m :=
  h.mono fun _ _ ⟨he, hm⟩ => ⟨he, n, hm.symm⟩

/-- Block g is just the cells cs of element type t, none of them frozen. -/
def Blk (w : World) (g : Nat) (t : TypeId) (cs : Array Value) : Prop := w.heap[g]? = some (.cells cs t (0, 0))
section
variable {w w' : World} {g : Nat} {t : TypeId} {cs : Array Value}
theorem Blk.lt (h : Blk w g t cs) : g < w.heap.size := by
  unfold Blk at h
  exact (Array.getElem?_eq_some_iff.1 h).1
theorem Blk.cell (h : Blk w g t cs) (i : Nat) : w.cell? ⟨g, i, none⟩ = cs[i]? := by
  unfold Blk at h
  simp [World.cell?, h]
theorem Blk.frozen (h : Blk w g t cs) (i : Nat) : w.frozen? ⟨g, i, none⟩ = false := by
  unfold Blk at h
  simp [World.frozen?, h]
theorem Blk.new (w : World) (t : TypeId) (cs : Array Value) : Blk (w.alloc (.cells cs t)) w.heap.size t cs := heap_alloc_new w _
theorem Blk.drew (h : Blk w g t cs) : Blk w.drew g t cs := h
theorem Blk.drewN (h : Blk w g t cs) (n : Nat) : Blk (w.drewN n) g t cs := h
theorem Blk.alloc (h : Blk w g t cs) (o : Obj) : Blk (w.alloc o) g t cs := (Below.heap_alloc w o g h.lt).trans h
theorem Blk.set_ (h : Blk w g t cs) (i : Nat) (u : Value) : Blk (w.setCell ⟨g, i, none⟩ u) g t (cs.setIfInBounds i u) := by
  unfold Blk at h ⊢
  simp [World.setCell, Array.getElem?_modify, h]
theorem Blk.far (h : Blk w g t cs) {p : Addr} (hp : g ≠ p.block) (u : Value) : Blk (w.setCell p u) g t cs := (Below.heap_setCell w p u g hp).trans h
theorem Blk.below {B : Nat} (h : Blk w g t cs) (hb : Below B w w') (hg : g < B) : Blk w' g t cs := (hb.block g hg).trans h
theorem Blk.grown {row : Option Nat} (h : Blk w g t cs) (hb : w.grownBy w' row) (hg : some g ≠ row) : Blk w' g t cs := (hb.block g h.lt hg).trans h
end
end Go.Proofs.Ytefdblaolmckmab

namespace Brood

/-- Bit k, under a name that simp does not open. -/
def tb (s k : Nat) : Bool := s.testBit k
/-- The number of the i highest of eight bits; of all eight. -/
def numUp (b : Nat → Bool) : Nat → Nat
  | 0 => 0
  | i + 1 => 2 * numUp b i + if b (7 - i) then 1 else 0
def numB (b : Nat → Bool) : Nat := numUp b 8
def isSet (n : Int) : Bool := decide (0 ≤ n ∧ n ≤ 255)
def isPart (n : Int) : Bool := decide (0 ≤ n ∧ n < 8)
def isVal (n : Int) : Bool := decide (-1000000 ≤ n ∧ n ≤ 1000000)
def hasB (s k : Int) : Bool := isPart k && s.toNat.testBit k.toNat
def withS (s k : Int) : Int := if isPart k then ((s.toNat ||| 2 ^ k.toNat : Nat) : Int) else s
def withoutS (s k : Int) : Int := if hasB s k then s - ((2 ^ k.toNat : Nat) : Int) else s
def listN (s : Nat) (m : Nat) : List Nat := (List.range m).filter fun k => s.testBit k
def listS (s : Int) : List Int := (listN s.toNat 8).map fun (k : Nat) => (k : Int)
def countS (s : Int) : Int := ((listN s.toNat 8).length : Int)
def meetsB (a n h : Int) : Bool := (h.toNat &&& a.toNat == a.toNat) && (h.toNat &&& n.toNat == 0)
def clip (n : Int) : Int := if n > 1000000 then 1000000 else if n < -1000000 then -1000000 else n

theorem isSet_iff {n : Int} : isSet n = true ↔ 0 ≤ n ∧ n ≤ 255 := by simp [isSet]
theorem isPart_iff {n : Int} : isPart n = true ↔ 0 ≤ n ∧ n < 8 := by simp [isPart]
theorem isVal_iff {n : Int} : isVal n = true ↔ -1000000 ≤ n ∧ n ≤ 1000000 := by simp [isVal]
theorem isPart_false {n : Int} : isPart n = false ↔ n < 0 ∨ 8 ≤ n := by simp [isPart]; omega
theorem isSet_false {n : Int} : isSet n = false ↔ n < 0 ∨ 255 < n := by simp [isSet]; omega
theorem isVal_false {n : Int} : isVal n = false ↔ n < -1000000 ∨ 1000000 < n := by simp [isVal]; omega

theorem nat_of {n : Int} (h : 0 ≤ n) : ∃ m : Nat, n = m := ⟨n.toNat, by omega⟩

theorem without_set {s k : Int} (hs : isSet s = true) : isSet (withoutS s k) = true := by
  rw [isSet_iff] at *
  unfold withoutS
  split
  · rename_i h
    simp only [hasB, Bool.and_eq_true] at h
    have := Nat.ge_two_pow_of_testBit h.2
    have h2 : (2 ^ k.toNat : Nat) ≤ s.toNat := this
    have h3 : 0 < 2 ^ k.toNat := Nat.pos_of_ne_zero (by simp)
    omega
  · exact hs
theorem with_set {s k : Int} (hs : isSet s = true) : isSet (withS s k) = true := by
  rw [isSet_iff] at *
  unfold withS
  split
  · rename_i h
    rw [isPart_iff] at h
    have h1 : s.toNat < 2 ^ 8 := by omega
    have h2 : 2 ^ k.toNat < 2 ^ 8 := Nat.pow_lt_pow_right (by omega) (by omega)
    have := Nat.or_lt_two_pow h1 h2
    omega
  · exact hs
theorem has_with {s k j : Int} : hasB (withS s k) j = (hasB s j || (decide (j = k) && isPart k)) := by
  unfold hasB withS
  by_cases hk : isPart k = true
  · rw [if_pos hk]
    by_cases hj : isPart j = true
    · rw [isPart_iff] at hk hj
      have : isPart k = true := isPart_iff.2 hk
      simp only [Int.toNat_natCast, Nat.testBit_or, Nat.testBit_two_pow, this, isPart_iff.2 hj, Bool.true_and, Bool.and_true]
      congr 1
      rw [decide_eq_decide]
      omega
    · have hj' : isPart j = false := by simpa using hj
      have : ¬ j = k := by rintro rfl; exact hj hk
      simp [hj', this]
  · have hk' : isPart k = false := by simpa using hk
    rw [if_neg hk]
    simp [hk']
theorem has_without {s k j : Int} (hs : isSet s = true) : hasB (withoutS s k) j = (hasB s j && !decide (j = k)) := by
  by_cases hk : hasB s k = true
  · have hk0 := hk
    unfold withoutS
    rw [if_pos hk]
    simp only [hasB, Bool.and_eq_true] at hk
    rw [isSet_iff] at hs
    obtain ⟨m, rfl⟩ := nat_of hs.1
    have hp := isPart_iff.1 hk.1
    obtain ⟨q, rfl⟩ := nat_of hp.1
    simp only [Int.toNat_natCast] at hk ⊢
    have hge := Nat.ge_two_pow_of_testBit hk.2
    unfold hasB
    by_cases hj : isPart j = true
    · have hjp := isPart_iff.1 hj
      obtain ⟨r, rfl⟩ := nat_of hjp.1
      have hm : m < 256 := by omega
      have hq : q < 8 := by omega
      have hr : r < 8 := by omega
      have key : ∀ m, m < 256 → ∀ q, q < 8 → ∀ r, r < 8 → m.testBit q = true → (m - 2 ^ q).testBit r = (m.testBit r && !decide (r = q)) := by decide +kernel
      have e : ((m : Int) - ((2 ^ q : Nat) : Int)).toNat = m - 2 ^ q := by omega
      have e2 : decide ((r : Int) = (q : Int)) = decide (r = q) := by rw [decide_eq_decide]; omega
      rw [e, hj, Int.toNat_natCast, key m hm q hq r hr hk.2, e2]
      simp
    · simp [hj]
  · have hk' : hasB s k = false := by simpa using hk
    unfold withoutS
    rw [if_neg hk]
    by_cases hj : j = k
    · subst hj; simp [hk']
    · simp [hj]
theorem count_le (s : Int) : 0 ≤ countS s ∧ countS s ≤ 8 := by
  unfold countS listN
  have := List.length_filter_le (fun k => s.toNat.testBit k) (List.range 8)
  simp only [List.length_range] at this
  omega

-- the plain laws
theorem more_with {a h k : Int} (ha : isSet a = true) (hh : isSet h = true) (hm : meetsB a 0 h = true) : meetsB a 0 (withS h k) = true := by
  rw [isSet_iff] at *
  obtain ⟨a, rfl⟩ := nat_of ha.1
  obtain ⟨h, rfl⟩ := nat_of hh.1
  unfold withS
  split
  · rename_i hk
    rw [isPart_iff] at hk
    obtain ⟨k, rfl⟩ := nat_of hk.1
    simp only [meetsB, Int.toNat_natCast, Bool.and_eq_true, beq_iff_eq] at hm ⊢
    refine ⟨?_, by simp⟩
    apply Nat.eq_of_testBit_eq
    intro i
    have := congrArg (fun n => n.testBit i) hm.1
    simp only [Nat.testBit_and, Nat.testBit_or] at this ⊢
    revert this
    cases h.testBit i <;> cases a.testBit i <;> simp
  · exact hm
theorem more_without {n h k : Int} (hn : isSet n = true) (hh : isSet h = true) (hm : meetsB 0 n h = true) : meetsB 0 n (withoutS h k) = true := by
  unfold withoutS
  split
  · rename_i hk
    simp only [hasB, Bool.and_eq_true] at hk
    have hp := isPart_iff.1 hk.1
    rw [isSet_iff] at *
    obtain ⟨n, rfl⟩ := nat_of hn.1
    obtain ⟨h, rfl⟩ := nat_of hh.1
    obtain ⟨k, rfl⟩ := nat_of hp.1
    simp only [Int.toNat_natCast] at hk ⊢
    have hge := Nat.ge_two_pow_of_testBit hk.2
    simp only [meetsB, Int.toNat_natCast, Bool.and_eq_true, beq_iff_eq] at hm ⊢
    refine ⟨by simp, ?_⟩
    have e : ((h : Int) - ((2 ^ k : Nat) : Int)).toNat = h - 2 ^ k := by omega
    rw [e]
    have key : ∀ h, h < 256 → ∀ k, k < 8 → h.testBit k = true → h - 2 ^ k = h &&& (255 ^^^ 2 ^ k) := by decide +kernel
    rw [key h (by omega) k (by omega) hk.2]
    apply Nat.eq_of_testBit_eq
    intro i
    have := congrArg (fun n => n.testBit i) hm.2
    simp only [Nat.testBit_and, Nat.zero_testBit] at this ⊢
    revert this
    cases h.testBit i <;> cases n.testBit i <;> simp
  · exact hm
theorem meets_both (a n h : Int) : meetsB a n h = (meetsB a 0 h && meetsB 0 n h) := by
  simp [meetsB]
end Brood

namespace Go.Proofs.Ytefdblaolmckmab
open Go.RowKit
open Brood
set_option linter.unusedVariables false
set_option linter.unusedSimpArgs false

set_option maxHeartbeats 400000 in
theorem set_any (n : Int) (w : World) :
    Calls Try.prog 59 #[.int .i64 n] w fun e w' => e = .returned (.bool (isSet n)) ∧ w = w' := by
  go_enter Try.func59, Try.ntmps59
  go_wp2
  all_goals go_ret
  all_goals exact ⟨ret_bool (by simp [isSet]; omega), rfl⟩
set_option maxHeartbeats 400000 in
theorem part_any (n : Int) (w : World) :
    Calls Try.prog 73 #[.int .i64 n] w fun e w' => e = .returned (.bool (isPart n)) ∧ w = w' := by
  go_enter Try.func73, Try.ntmps73
  go_wp2
  all_goals go_ret
  all_goals exact ⟨ret_bool (by simp [isPart]; omega), rfl⟩
set_option maxHeartbeats 400000 in
theorem value_any (n : Int) (w : World) :
    Calls Try.prog 60 #[.int .i64 n] w fun e w' => e = .returned (.bool (isVal n)) ∧ w = w' := by
  go_enter Try.func60, Try.ntmps60
  go_wp2
  all_goals go_ret
  all_goals exact ⟨ret_bool (by simp [isVal]; omega), rfl⟩
theorem bits_has : ∀ s, s < 256 → ∀ k, k < 8 → (bits .and .i64 (((s : Nat) : Int) / 2 ^ k) 1 == 1) = s.testBit k := by decide +kernel
theorem bits_with : ∀ s, s < 256 → ∀ k, k < 8 → bits .or .i64 ((s : Nat) : Int) (wrap64 (2 ^ k)) = ((s ||| 2 ^ k : Nat) : Int) := by decide +kernel
theorem bits_without : ∀ s, s < 256 → ∀ k, k < 8 → bits .andNot .i64 ((s : Nat) : Int) (wrap64 (2 ^ k)) = if s.testBit k then ((s : Nat) : Int) - ((2 ^ k : Nat) : Int) else s := by decide +kernel
theorem bits_hasB {s k : Int} (hs : 0 ≤ s ∧ s ≤ 255) (h0 : 0 ≤ k) (h1 : k < 8) : (bits .and .i64 (s / 2 ^ k.toNat) 1 == 1) = hasB s k := by
  obtain ⟨s, rfl⟩ := nat_of hs.1
  obtain ⟨k, rfl⟩ := nat_of h0
  rw [Int.toNat_natCast, bits_has s (by omega) k (by omega)]
  simp [hasB, isPart, h0, h1]
theorem bits_withS {s k : Int} (hs : 0 ≤ s ∧ s ≤ 255) (h0 : 0 ≤ k) (h1 : k < 8) : bits .or .i64 s (wrap64 (2 ^ k.toNat)) = withS s k := by
  obtain ⟨s, rfl⟩ := nat_of hs.1
  obtain ⟨k, rfl⟩ := nat_of h0
  rw [Int.toNat_natCast, bits_with s (by omega) k (by omega)]
  simp [withS, isPart, h0, h1]
theorem bits_withoutS {s k : Int} (hs : 0 ≤ s ∧ s ≤ 255) (h0 : 0 ≤ k) (h1 : k < 8) : bits .andNot .i64 s (wrap64 (2 ^ k.toNat)) = withoutS s k := by
  obtain ⟨s, rfl⟩ := nat_of hs.1
  obtain ⟨k, rfl⟩ := nat_of h0
  rw [Int.toNat_natCast, bits_without s (by omega) k (by omega)]
  simp [withoutS, hasB, isPart, h0, h1]
theorem withS_out {s k : Int} (h : isPart k = false) : withS s k = s := by simp [withS, h]
theorem withoutS_out {s k : Int} (h : isPart k = false) : withoutS s k = s := by simp [withoutS, hasB, h]

set_option maxHeartbeats 400000 in
theorem clip_any (n : Int) (w : World) :
    Calls Try.prog 119 #[.int .i64 n] w fun e w' => e = .returned (.int .i64 (clip n)) ∧ w = w' := by
  go_enter Try.func119, Try.ntmps119
  go_wp2
  all_goals go_ret
  all_goals exact ⟨ret_int (by simp only [clip]; (repeat' split) <;> simp_all <;> omega), rfl⟩
set_option maxHeartbeats 400000 in
theorem has_any (s k : Int) (hs : isSet s = true) (w : World) :
    Calls Try.prog 77 #[.int .i64 s, .int .i64 k] w fun e w' => e = .returned (.bool (hasB s k)) ∧ w = w' := by
  have hs' := isSet_iff.1 hs
  clear hs
  by_cases hk : isPart k = true
  · have hk' := isPart_iff.1 hk
    go_enter Try.func77, Try.ntmps77
    go_wp2_with (go_at_call 73; refine (part_any _ _).mono ?_; rintro e w' ⟨rfl, rfl⟩)
    go_ret
    exact ⟨ret_bool (bits_hasB hs' hk'.1 hk'.2), rfl⟩
  · have hk' : isPart k = false := by simpa using hk
    go_enter Try.func77, Try.ntmps77
    go_wp2_with (go_at_call 73; refine (part_any _ _).mono ?_; rintro e w' ⟨rfl, rfl⟩)
    go_ret
    exact ⟨ret_bool (by simp [hasB, hk']), rfl⟩
set_option maxHeartbeats 400000 in
theorem with_any (s k : Int) (hs : isSet s = true) (w : World) :
    Calls Try.prog 74 #[.int .i64 s, .int .i64 k] w fun e w' => e = .returned (.int .i64 (withS s k)) ∧ w = w' := by
  have hs' := isSet_iff.1 hs
  clear hs
  by_cases hk : isPart k = true
  · have hk' := isPart_iff.1 hk
    go_enter Try.func74, Try.ntmps74
    go_wp2_with (go_at_call 73; refine (part_any _ _).mono ?_; rintro e w' ⟨rfl, rfl⟩)
    go_ret
    exact ⟨ret_int (bits_withS hs' hk'.1 hk'.2), rfl⟩
  · have hk' : isPart k = false := by simpa using hk
    go_enter Try.func74, Try.ntmps74
    go_wp2_with (go_at_call 73; refine (part_any _ _).mono ?_; rintro e w' ⟨rfl, rfl⟩)
    go_ret
    exact ⟨ret_int (withS_out hk').symm, rfl⟩
set_option maxHeartbeats 400000 in
theorem without_any (s k : Int) (hs : isSet s = true) (w : World) :
    Calls Try.prog 78 #[.int .i64 s, .int .i64 k] w fun e w' => e = .returned (.int .i64 (withoutS s k)) ∧ w = w' := by
  have hs' := isSet_iff.1 hs
  clear hs
  by_cases hk : isPart k = true
  · have hk' := isPart_iff.1 hk
    go_enter Try.func78, Try.ntmps78
    go_wp2_with (go_at_call 73; refine (part_any _ _).mono ?_; rintro e w' ⟨rfl, rfl⟩)
    go_ret
    exact ⟨ret_int (bits_withoutS hs' hk'.1 hk'.2), rfl⟩
  · have hk' : isPart k = false := by simpa using hk
    go_enter Try.func78, Try.ntmps78
    go_wp2_with (go_at_call 73; refine (part_any _ _).mono ?_; rintro e w' ⟨rfl, rfl⟩)
    go_ret
    exact ⟨ret_int (withoutS_out hk').symm, rfl⟩
theorem bits_255 : ∀ s, s < 256 → IntKind.u64.wrap (bits .and .i64 ((s : Nat) : Int) 255) = ((s : Nat) : Int) := by decide +kernel
set_option maxHeartbeats 400000 in
theorem ones_any (m : Nat) (hm : m < 256) (w : World) :
    Calls Try.prog 140 #[.int .u64 (m : Int)] w fun e w' => e = .returned (.int .i64 (countS m)) ∧ w = w' := by
  go_enter Try.func140, Try.ntmps140
  go_wp2
  all_goals go_ret
  all_goals refine ⟨ret_int ?_, rfl⟩
  all_goals (revert hm; revert m; decide +kernel)
set_option maxHeartbeats 400000 in
theorem ones_all (m : Nat) (hm : m < 256) (w : World) :
    Calls Try.prog 121 #[.int .u64 (m : Int)] w fun e w' => e = .returned (.int .i64 (countS m)) ∧ w = w' := by
  go_enter Try.func121, Try.ntmps121
  go_wp2_with (go_at_call 140; refine (ones_any m hm _).mono ?_; rintro e w' ⟨rfl, rfl⟩)
  all_goals go_ret
  all_goals exact ⟨rfl, rfl⟩
set_option maxHeartbeats 400000 in
theorem count_any (s : Int) (hs : isSet s = true) (w : World) :
    Calls Try.prog 104 #[.int .i64 s] w fun e w' => e = .returned (.int .i64 (countS s)) ∧ w = w' := by
  have hs' := isSet_iff.1 hs
  clear hs
  obtain ⟨m, rfl⟩ := nat_of hs'.1
  have hm : m < 256 := by omega
  have hb := Lib.hid (bits_255 m hm)
  go_enter Try.func104, Try.ntmps104
  go_wp2_with fail
  rw [hb.out]
  refine (ones_all m hm _).mono ?_
  rintro e w' ⟨rfl, rfl⟩
  go_wp2_with fail
  all_goals go_ret
  all_goals exact ⟨rfl, rfl⟩
theorem i64_and_nat (a b : Nat) (ha : a < 9223372036854775808) (hb : b < 9223372036854775808) : bits .and .i64 (a : Int) (b : Int) = ((a &&& b : Nat) : Int) := by
  have ofInt_i64 : ∀ (a : Nat), a < 9223372036854775808 → (BitVec.ofInt 64 (a : Int)).toNat = a := by
    intro a ha
    rw [BitVec.ofInt_natCast, BitVec.toNat_ofNat]; exact Nat.mod_eq_of_lt (by omega)
  have hx : a &&& b < 2 ^ 63 := Nat.and_lt_two_pow _ (by omega)
  show IntKind.i64.wrap ((BitVec.ofInt 64 (a : Int) &&& BitVec.ofInt 64 (b : Int)).toNat : Int) = _
  rw [BitVec.toNat_and, ofInt_i64 a ha, ofInt_i64 b hb, IntKind.wrap_i64]
  omega
theorem bits_and_set {a b : Int} (ha : 0 ≤ a ∧ a ≤ 255) (hb : 0 ≤ b ∧ b ≤ 255) : bits .and .i64 a b = ((a.toNat &&& b.toNat : Nat) : Int) := by
  obtain ⟨a, rfl⟩ := nat_of ha.1
  obtain ⟨b, rfl⟩ := nat_of hb.1
  rw [i64_and_nat a b (by omega) (by omega)]
  simp
theorem meets_t {a n h : Int} (ha : 0 ≤ a ∧ a ≤ 255) (hn : 0 ≤ n ∧ n ≤ 255) (hh : 0 ≤ h ∧ h ≤ 255) (e : bits .and .i64 h a = a) : (bits .and .i64 h n == 0) = meetsB a n h := by
  rw [bits_and_set hh ha] at e
  rw [bits_and_set hh hn]
  have e' : h.toNat &&& a.toNat = a.toNat := by omega
  rw [Bool.eq_iff_iff]
  simp [meetsB, e']
theorem meets_f {a n h : Int} (ha : 0 ≤ a ∧ a ≤ 255) (hh : 0 ≤ h ∧ h ≤ 255) (e : ¬ bits .and .i64 h a = a) : false = meetsB a n h := by
  rw [bits_and_set hh ha] at e
  have e' : ¬ h.toNat &&& a.toNat = a.toNat := by omega
  simp [meetsB, e']
set_option maxHeartbeats 400000 in
theorem meets_any (a n h : Int) (ha : isSet a = true) (hn : isSet n = true) (hh : isSet h = true) (w : World) :
    Calls Try.prog 80 #[.agg #[.int .i64 a, .int .i64 n], .int .i64 h] w fun e w' => e = .returned (.bool (meetsB a n h)) ∧ Below w.heap.size w w' := by
  have ha' := isSet_iff.1 ha
  have hn' := isSet_iff.1 hn
  have hh' := isSet_iff.1 hh
  clear ha hn hh
  go_enter Try.func80, Try.ntmps80
  go_wp2
  all_goals go_ret
  · exact ⟨ret_bool (meets_t ha' hn' hh' (by assumption)), (Below.refl _ _).alloc (Nat.le_refl _) _⟩
  · exact ⟨ret_bool (meets_f ha' hh' (by assumption)), (Below.refl _ _).alloc (Nat.le_refl _) _⟩
end Go.Proofs.Ytefdblaolmckmab

namespace Go.Proofs.Ytefdblaolmckmab
open Go.RowKit
open Brood
set_option linter.unusedVariables false
set_option linter.unusedSimpArgs false

def upS (s : Int) (k : Nat) : List Int := (listN s.toNat k).map fun (k : Nat) => (k : Int)
theorem upS_zero (s : Int) : upS s 0 = [] := rfl
theorem upS_eight (s : Int) : upS s 8 = listS s := rfl
theorem upS_yes {s : Int} {k : Nat} (hk : k < 8) (h : hasB s k = true) : upS s (k + 1) = upS s k ++ [(k : Int)] := by
  have h' : s.toNat.testBit k = true := by
    have hk' : (k : Int) < 8 := by omega
    simpa [hasB, isPart, hk'] using h
  simp [upS, listN, List.range_succ, List.filter_append, h']
theorem upS_no {s : Int} {k : Nat} (hk : k < 8) (h : hasB s k = false) : upS s (k + 1) = upS s k := by
  have h' : s.toNat.testBit k = false := by
    have hk' : (k : Int) < 8 := by omega
    simpa [hasB, isPart, hk'] using h
  simp [upS, listN, List.range_succ, List.filter_append, h']
theorem upS_le (s : Int) (k : Nat) : (upS s k).length ≤ k := by
  have := List.length_filter_le (fun j => s.toNat.testBit j) (List.range k)
  simpa [upS, listN] using this

set_option maxRecDepth 20000 in
set_option maxHeartbeats 800000 in
theorem list_any (s : Int) (hs : isSet s = true) (w : World) :
    Calls Try.prog 61 #[.int .i64 s] w fun e w' => ∃ v, e = .returned v ∧ w'.ownsRow w.heap.size 3 1 v (listS s).length (ints (listS s)) ∧ Below w.heap.size w w' := by
  obtain ⟨i0, hi, hz0, hz1, hz2⟩ := info_parts infoInt
  go_enter Try.func61, Try.ntmps61
  go_wp2_with fail
  go_loopw [3, 5] (fun v i wr => ∃ k : Nat, k ≤ 8 ∧ i = .int .i64 k ∧ wr.ownsRow w.heap.size 3 1 v (upS s k).length (ints (upS s k)) ∧ Below w.heap.size w wr) (fun _ i _ => 8 - (intOf i).toNat)
  case atStart => exact ⟨0, by omega, rfl, own_nil _ _ _ _, Below.refl _ _⟩
  case round =>
    obtain ⟨k, hk, rfl, hown, hbel⟩ := hrel
    by_cases hlt : k < 8
    · cases hh : hasB s k with
      | true =>
        have hup := Lib.hid (upS_yes hlt hh)
        have hle := upS_le s k
        have hsz := hbel.size
        go_wp2_with (first
          | (go_at_call 77; refine (has_any s k hs _).mono ?_; rintro e w' ⟨rfl, rfl⟩)
          | (at_builtin; refine wpList_append_own _ rfl _ _ 23 rfl w.heap.size 3 i0 (.int .i64 0) 1 8 Try.underlying23 hi hz0 hz1 hz2 rfl (by decide) _ _ _ rfl (hown.alloc _) ⟨wr.heap.size, 0, none⟩ 1 1 [.int .i64 (k : Int)] rfl rfl ?c1 ?c2 ?c3 ?c4 ?c5 ?_; rotate_left 5; intro v' w1 hown' hgrow _))
        case c1 => exact cell_one_new _ _ _
        case c2 => intro u hu; simp at hu; subst hu; rfl
        case c3 => unfold maxLen; omega
        case c4 => omega
        case c5 => simp; omega
        go_roundw
        case rel =>
          refine ⟨k + 1, by omega, by go_num, ?_, ?_⟩
          · rw [hup.out, List.length_append, ← ints_snoc]; exact hown'
          · exact (hbel.alloc hsz _).grown hgrow (by simp; omega) (own_block hown)
        case measure => simp [intOf]; omega
      | false =>
        have hup := Lib.hid (upS_no hlt hh)
        go_wp2_with (first
          | (go_at_call 77; refine (has_any s k hs _).mono ?_; rintro e w' ⟨rfl, rfl⟩))
        go_roundw
        case rel => exact ⟨k + 1, by omega, by go_num, by rw [hup.out]; exact hown, hbel⟩
        case measure => simp [intOf]; omega
    · obtain rfl : k = 8 := by omega
      go_wp2_with fail
      go_ret
      exact ⟨_, rfl, hown, hbel⟩
end Go.Proofs.Ytefdblaolmckmab

namespace Go.Proofs.Ytefdblaolmckmab
open Go.RowKit

theorem count_step (L : Array Bool) (i : Nat) (h : L.getD i true = false) : (L.setIfInBounds i true).toList.count false + 1 = L.toList.count false := by
  obtain ⟨l⟩ := L
  have hl : l[i]? = some false := by
    cases hh : l[i]? with
    | none => simp [Array.getD_eq_getD_getElem?, hh] at h
    | some b => simp [Array.getD_eq_getD_getElem?, hh] at h; simp [h]
  simp only [List.setIfInBounds_toArray]
  clear h
  induction l generalizing i with
  | nil => simp at hl
  | cons b l ih =>
    cases i with
    | zero => simp at hl; subst hl; simp
    | succ i =>
      simp only [List.getElem?_cons_succ] at hl
      have := ih i hl
      simp only [List.set_cons_succ, List.count_cons]
      omega

section
variable {P : Program} {ops : Array Oper} {Q : Exit → Act → World → Prop} {md : Region.Mode}
theorem mem_ready' {L : Array Bool} {i : Nat} (h : i ∈ Region.ready md ops L) :
    i < ops.size ∧ L.getD i true = false ∧ ((ops[i]?).map (·.after.all fun e => !Region.binds md e || L.getD e.on false)).getD false = true := by
  unfold Region.ready at h
  rw [List.mem_filter, List.mem_range, Bool.and_eq_true] at h
  exact ⟨h.1, by simpa using h.2.1, h.2.2⟩
theorem ready_nil {L : Array Bool} (h : L.toList.count false = 0) (hs : L.size = ops.size) : Region.ready md ops L = [] := by
  unfold Region.ready
  rw [List.filter_eq_nil_iff]
  intro i hi
  rw [List.mem_range] at hi
  rw [List.count_eq_zero] at h
  have hb : L[i]? = some true := by
    have : L[i]? = some L[i] := Array.getElem?_eq_getElem (by omega)
    cases hh : L[i] with
    | true => rw [this, hh]
    | false => exfalso; apply h; rw [← hh]; exact Array.mem_toList_iff.2 (Array.getElem_mem _)
  simp [Array.getD_eq_getD_getElem?, hb]
theorem ready_out {L : Array Bool} (h : Region.ready md ops L = []) (i : Nat) (hi : i < ops.size) (hd : ((ops[i]?).map (·.after.all fun e => !Region.binds md e || L.getD e.on false)).getD false = true) : L.getD i true = true := by
  cases hh : L.getD i true with
  | true => rfl
  | false =>
    have : i ∈ Region.ready md ops L := by
      unfold Region.ready
      rw [List.mem_filter, List.mem_range, Bool.and_eq_true]
      exact ⟨hi, by rw [hh]; rfl, hd⟩
    rw [h] at this
    cases this
theorem wpAny_inv (I : Array Bool → Act → World → Prop)
    (hend : ∀ L a w, I L a w → Region.ready md ops L = [] → Q .normal a w)
    (hstep : ∀ L a w i, I L a w → i < ops.size → L.getD i true = false → ((ops[i]?).map (·.after.all fun e => !Region.binds md e || L.getD e.on false)).getD false = true →
      wpOp P ops Q i (fun a' w' => I (L.setIfInBounds i true) a' w') a w) :
    ∀ fuel L a w, I L a w → L.size = ops.size → L.toList.count false ≤ fuel → wpAny P md ops Q fuel L a w := by
  intro fuel
  induction fuel with
  | zero => intro L a w hI hs hc; exact ⟨ready_nil (by omega) hs, hend L a w hI (ready_nil (by omega) hs)⟩
  | succ fuel ih =>
    intro L a w hI hs hc
    refine ⟨hend L a w hI, fun i hi => ?_⟩
    obtain ⟨h1, h2, h3⟩ := mem_ready' hi
    refine wpOp_mono (fun a' w' h => ih _ _ _ h (by simpa using hs) ?_) (hstep L a w i hI h1 h2 h3)
    have := count_step L i h2
    omega
theorem wp_region_inv {id : Nat} {a : Act} {w : World} (hm : P.follows .mixedOrders = true) (I : Array Bool → Act → World → Prop)
    (h0 : I (Array.replicate ops.size false) a w.drew)
    (hend : ∀ L a w, I L a w → Region.ready .any ops L = [] → Q .normal a w)
    (hstep : ∀ L a w i, I L a w → i < ops.size → L.getD i true = false → ((ops[i]?).map (·.after.all fun e => !Region.binds .any e || L.getD e.on false)).getD false = true →
      wpOp P ops Q i (fun a' w' => I (L.setIfInBounds i true) a' w') a w) : (Code.region id ops true).wp P Q a w :=
  wp_region_any hm (wpAny_inv I hend hstep _ _ _ _ h0 (by simp) (by simp))
end
theorem wpOp_of {P : Program} {ops : Array Oper} {Q : Exit → Act → World → Prop} {i : Nat} {o : Oper} {a : Act} {w : World} {J : Act → World → Prop}
    (h : ops[i]? = some o) (hg : o.guard = none) (h' : ∀ K : Act → World → Prop, (∀ a w, J a w → K a w) → o.wp P a w K Q) : wpOp P ops Q i J a w := by
  unfold wpOp
  simp only [h, Region.wanted, hg, if_true]
  exact .inl (h' J fun _ _ h => h)
theorem mixed : Try.prog.follows .mixedOrders = true := by kernel_rfl
end Go.Proofs.Ytefdblaolmckmab

namespace Go.Proofs.Ytefdblaolmckmab
open Go.RowKit Go.Maps
theorem keyInt : Keyed Try.prog 3 := int_keyed Try.underlying3
theorem zeroInt (w : World) : (zeroValue 3).run Try.prog w = .ok (.int .i64 0) w := by kernel_rfl
theorem nat_wf {k : Nat} (h : k ≤ 1000000) : (Lit.int .i64 (k : Int)).wf = true := by
  have e : IntKind.i64.wrap (k : Int) = k := by rw [IntKind.wrap_i64]; omega
  rw [← e]; exact wf_wrap _ _
theorem int_key (k : Int) : WideAt.IsKeyLit (Lit.int .i64 k) := by simp [WideAt.IsKeyLit]
end Go.Proofs.Ytefdblaolmckmab

namespace Go.Proofs.Ytefdblaolmckmab
open Go.RowKit

theorem own_keep {w w' : World} {base : Nat} {e : TypeId} {sz : Nat} {v : Value} {n : Nat} {xs : List Value} (h : w.ownsRow base e sz v n xs) (hk : ∀ b, v.ownBlock = some b → b < w.heap.size → w'.heap[b]? = w.heap[b]?) : w'.ownsRow base e sz v n xs := by
  refine ⟨h.1, ?_⟩
  rcases h.2 with hn | ⟨g, cap, cur, rfl, hb, hgg, rest⟩
  · exact .inl hn
  · refine .inr ⟨g, cap, cur, rfl, hb, ?_, rest⟩
    rw [hk g rfl (Array.getElem?_eq_some_iff.1 hgg).1]
    exact hgg
theorem own_below {w w' : World} {base : Nat} {e : TypeId} {sz : Nat} {v : Value} {n : Nat} {xs : List Value} (h : w.ownsRow base e sz v n xs) (hb : Below w.heap.size w w') : w'.ownsRow base e sz v n xs :=
  own_keep h fun b _ hlt => hb.block b hlt
theorem own_at {w : World} {base : Nat} {v : Value} {n : Nat} {zs : List Int} (h : w.ownsRow base 3 1 v n (ints zs)) : ∃ A c, v = .slice A n c ∧ zs.length = n ∧ RdI w A zs := by
  obtain ⟨A, c, rfl, h1, h2⟩ := own_shape h
  have hl : zs.length = n := by have := h.1; simpa [ints_length] using this
  subst hl
  exact ⟨A, c, rfl, rfl, RdI.of_own h⟩

/-- v is a slice of the slices us, which read as the rows; all of it is the call's own. -/
structure OwnLL (w : World) (base : Nat) (v : Value) (us : List Value) (rows : List (List Int)) : Prop where
  out : w.ownsRow base 23 1 v us.length us
  len : us.length = rows.length
  row : ∀ (k : Nat) (u : Value) (r : List Int), us[k]? = some u → rows[k]? = some r → w.ownsRow base 3 1 u r.length (ints r)
  apart : ∀ (k k' : Nat) (u u' : Value), us[k]? = some u → us[k']? = some u' → k ≠ k' → ∀ b, u.ownBlock = some b → u'.ownBlock ≠ some b
  off : ∀ (k : Nat) (u : Value), us[k]? = some u → ∀ b, u.ownBlock = some b → v.ownBlock ≠ some b
section
variable {w w' : World} {base : Nat} {v v' : Value} {us : List Value} {rows : List (List Int)}
theorem OwnLL.nil_ (w : World) (base : Nat) : OwnLL w base (.slice none 0 0) [] [] :=
  ⟨own_nil _ _ _ _, rfl, fun k u r h => by simp at h, fun k k' u u' h => by simp at h, fun k u h => by simp at h⟩
theorem OwnLL.below (h : OwnLL w base v us rows) (hb : Below w.heap.size w w') : OwnLL w' base v us rows :=
  ⟨own_below h.out hb, h.len, fun k u r h1 h2 => own_below (h.row k u r h1 h2) hb, h.apart, h.off⟩
theorem OwnLL.alloc (h : OwnLL w base v us rows) (o : Obj) : OwnLL (w.alloc o) base v us rows :=
  h.below ((Below.refl _ _).alloc (Nat.le_refl _) o)
theorem OwnLL.drew (h : OwnLL w base v us rows) : OwnLL w.drew base v us rows := ⟨h.out, h.len, h.row, h.apart, h.off⟩
theorem OwnLL.drewN (h : OwnLL w base v us rows) (n : Nat) : OwnLL (w.drewN n) base v us rows := ⟨h.out, h.len, h.row, h.apart, h.off⟩
theorem OwnLL.rowAt (h : OwnLL w base v us rows) {k : Nat} (hk : k < rows.length) : ∃ u, us[k]? = some u ∧ w.ownsRow base 3 1 u rows[k].length (ints rows[k]) := by
  have hk' : k < us.length := by rw [h.len]; exact hk
  exact ⟨us[k], List.getElem?_eq_getElem hk', h.row k _ _ (List.getElem?_eq_getElem hk') (List.getElem?_eq_getElem hk)⟩
theorem own_lower {w : World} {base base' : Nat} {e : TypeId} {sz : Nat} {v : Value} {n : Nat} {xs : List Value} (h : w.ownsRow base e sz v n xs) (hb : base' ≤ base) : w.ownsRow base' e sz v n xs := by
  refine ⟨h.1, ?_⟩
  rcases h.2 with hn | ⟨g, cap, cur, rfl, hg, rest⟩
  · exact .inl hn
  · exact .inr ⟨g, cap, cur, rfl, Nat.le_trans hb hg, rest⟩
theorem own_far {w : World} {base : Nat} {e : TypeId} {sz : Nat} {v : Value} {n : Nat} {xs : List Value} (h : w.ownsRow base e sz v n xs) {p : Addr} (hp : p.block < base) (u : Value) : (w.setCell p u).ownsRow base e sz v n xs :=
  own_keep h fun b hb _ => Below.heap_setCell w p u b (fun e => by have := (h.lt b hb).1; omega)
theorem OwnLL.lower {base' : Nat} (h : OwnLL w base v us rows) (hb : base' ≤ base) : OwnLL w base' v us rows :=
  ⟨own_lower h.out hb, h.len, fun k u r h1 h2 => own_lower (h.row k u r h1 h2) hb, h.apart, h.off⟩
theorem OwnLL.far (h : OwnLL w base v us rows) {p : Addr} (hp : p.block < base) (u : Value) : OwnLL (w.setCell p u) base v us rows :=
  ⟨own_far h.out hp u, h.len, fun k x r h1 h2 => own_far (h.row k x r h1 h2) hp u, h.apart, h.off⟩
/-- The outer slice's place in memory. -/
theorem OwnLL.place (h : OwnLL w base v us rows) (h0 : 0 < rows.length) : ∃ g cap, v = .slice (some ⟨g, 0, none⟩) rows.length cap ∧ base ≤ g ∧ g < w.heap.size ∧ rows.length ≤ cap ∧
    (∀ k, k < rows.length → w.cell? ⟨g, k, none⟩ = us[k]?) ∧ ∀ k, w.frozen? ⟨g, k, none⟩ = false := by
  obtain ⟨A, c, hv, h1, h2⟩ := own_shape h.out
  subst hv
  have hl := h.len
  rcases h.out.2 with ⟨hv, hn⟩ | ⟨g, cap, cur, hv, hb, hgg, hc1, hc2, hc3⟩
  · omega
  · injection hv with e1 e2 e3
    subst e1 e3
    have ho := h.out
    rw [hl] at ho
    refine ⟨g, c, by rw [hl], hb, (Array.getElem?_eq_some_iff.1 hgg).1, by omega, fun k hk => ho.cellAt k (by omega), fun k => ho.frozenAt k⟩
theorem OwnLL.shape (h : OwnLL w base v us rows) : ∃ A c, v = .slice A rows.length c ∧ rows.length ≤ c ∧ c ≤ maxLen := by
  obtain ⟨A, c, hv, h1, h2⟩ := own_shape h.out
  exact ⟨A, c, by rw [hv, h.len], by rw [← h.len]; exact h1, h2⟩
/-- One empty row more. -/
theorem OwnLL.push (h : OwnLL w base v us rows) (hown : w'.ownsRow base 23 1 v' (us.length + 1) (us ++ [.slice none 0 0])) (hg : w.grownBy w' v.ownBlock)
    (hat : v'.ownBlock = v.ownBlock ∨ v'.ownBlock = some w.heap.size) : OwnLL w' base v' (us ++ [.slice none 0 0]) (rows ++ [[]]) := by
  refine ⟨by simpa using hown, by simp [h.len], ?_, ?_, ?_⟩
  · intro k u r h1 h2
    by_cases hk : k < us.length
    · rw [List.getElem?_append_left hk] at h1
      rw [List.getElem?_append_left (by rw [← h.len]; exact hk)] at h2
      refine (h.row k u r h1 h2).kept hg ?_
      cases hu : u.ownBlock with
      | none => exact .inl rfl
      | some b => exact .inr (fun e => h.off k u h1 b hu e.symm)
    · rw [List.getElem?_append_right (by omega)] at h1
      rw [List.getElem?_append_right (by rw [← h.len]; omega), ← h.len] at h2
      have hk0 : k - us.length = 0 := by
        rcases Nat.eq_zero_or_pos (k - us.length) with e | e
        · exact e
        · rw [List.getElem?_eq_none (by simp; omega)] at h1; cases h1
      rw [hk0] at h1 h2
      simp at h1 h2
      subst h1 h2
      exact own_nil _ _ _ _
  · intro k k' u u' h1 h2 hne b hb hb'
    by_cases hk : k < us.length
    · by_cases hk' : k' < us.length
      · rw [List.getElem?_append_left hk] at h1
        rw [List.getElem?_append_left hk'] at h2
        exact h.apart k k' u u' h1 h2 hne b hb hb'
      · rw [List.getElem?_append_right (by omega)] at h2
        have : u' = .slice none 0 0 := by
          have := List.mem_of_getElem? h2
          simpa using this
        subst this
        cases hb'
    · rw [List.getElem?_append_right (by omega)] at h1
      have : u = .slice none 0 0 := by
        have := List.mem_of_getElem? h1
        simpa using this
      subst this
      cases hb
  · intro k u h1 b hb hb'
    by_cases hk : k < us.length
    · rw [List.getElem?_append_left hk] at h1
      rcases hat with e | e
      · exact h.off k u h1 b hb (e.symm.trans hb')
      · rw [e] at hb'
        have e2 : w.heap.size = b := by simpa using hb'
        have hku : k < rows.length := by rw [← h.len]; exact hk
        have := (h.row k u rows[k] h1 (List.getElem?_eq_getElem hku)).lt b hb
        omega
    · rw [List.getElem?_append_right (by omega)] at h1
      have : u = .slice none 0 0 := by
        have := List.mem_of_getElem? h1
        simpa using this
      subst this
      cases hb
theorem OwnLL.keepOut {g cap k : Nat} {u : Value} (h : OwnLL w base (.slice (some ⟨g, 0, none⟩) rows.length cap) us rows) (hu : us[k]? = some u) (hg : w.grownBy w' u.ownBlock) :
    w'.cell? ⟨g, k, none⟩ = some u ∧ w'.frozen? ⟨g, k, none⟩ = false := by
  have hku : k < us.length := (List.getElem?_eq_some_iff.1 hu).1
  have hout : w'.ownsRow base 23 1 (.slice (some ⟨g, 0, none⟩) rows.length cap) us.length us := by
    refine h.out.kept hg (.inr fun e => ?_)
    cases hub : u.ownBlock with
    | none => rw [hub] at e; cases e
    | some b => exact h.off k u hu b hub (e.trans hub)
  rw [h.len] at hout
  exact ⟨(hout.cellAt k (by rw [← h.len]; omega)).trans hu, hout.frozenAt k⟩
/-- Row k grows: its new slice u' is stored in the outer one's cell. -/
theorem OwnLL.put {g cap k : Nat} {u u' : Value} {r r' : List Int} (h : OwnLL w base (.slice (some ⟨g, 0, none⟩) rows.length cap) us rows) (hu : us[k]? = some u) (hr : rows[k]? = some r)
    (hown : w'.ownsRow base 3 1 u' r'.length (ints r')) (hg : w.grownBy w' u.ownBlock) (hat : u'.ownBlock = u.ownBlock ∨ u'.ownBlock = some w.heap.size) :
    OwnLL (w'.setCell ⟨g, k, none⟩ u') base (.slice (some ⟨g, 0, none⟩) rows.length cap) (us.set k u') (rows.set k r') := by
  have hkr : k < rows.length := (List.getElem?_eq_some_iff.1 hr).1
  have hku : k < us.length := by rw [h.len]; exact hkr
  have hgsz : g < w.heap.size := (h.out.lt g rfl).2
  have hu'g : ∀ b, u'.ownBlock = some b → b ≠ g := by
    intro b hb e
    subst e
    rcases hat with e | e
    · exact h.off k u hu b (e.symm.trans hb) rfl
    · rw [e] at hb
      have : w.heap.size = b := by simpa using hb
      omega
  have hout : w'.ownsRow base 23 1 (.slice (some ⟨g, 0, none⟩) rows.length cap) us.length us := by
    refine h.out.kept hg (.inr fun e => ?_)
    cases hub : u.ownBlock with
    | none => rw [hub] at e; cases e
    | some b => exact h.off k u hu b hub (e.trans hub)
  have hst := World.ownsRow.stored (by rw [h.len] at hout; exact hout) k u'
  refine ⟨by rw [List.length_set, h.len]; exact hst.1, by simp [h.len], ?_, ?_, ?_⟩
  · intro j x y h1 h2
    by_cases hj : j = k
    · subst hj
      rw [List.getElem?_set_self hku] at h1
      rw [List.getElem?_set_self hkr] at h2
      obtain rfl := Option.some.inj h1
      obtain rfl := Option.some.inj h2
      exact hown.kept hst.2 (by
        cases hb : u'.ownBlock with
        | none => exact .inl rfl
        | some b => exact .inr (fun e => hu'g b hb (by simpa using e)))
    · rw [List.getElem?_set_ne (by omega)] at h1 h2
      have h3 := h.row j x y h1 h2
      have h4 : w'.ownsRow base 3 1 x y.length (ints y) := by
        refine h3.kept hg ?_
        cases hb : x.ownBlock with
        | none => exact .inl rfl
        | some b => exact .inr (fun e => h.apart j k x u h1 hu hj b hb e.symm)
      exact h4.kept hst.2 (by
        cases hb : x.ownBlock with
        | none => exact .inl rfl
        | some b => exact .inr (fun e => h.off j x h1 b hb (by simpa [Value.ownBlock] using e.symm)))
  · intro j j' x x' h1 h2 hne b hb hb'
    have hnew : ∀ (i : Nat) (y : Value), us[i]? = some y → i ≠ k → y.ownBlock = some b → u'.ownBlock = some b → False := by
      intro i y hi hik hy hub
      rcases hat with e | e
      · exact h.apart i k y u hi hu hik b hy (e.symm.trans hub)
      · rw [e] at hub
        have e2 : w.heap.size = b := by simpa using hub
        have hir : i < rows.length := by rw [← h.len]; exact (List.getElem?_eq_some_iff.1 hi).1
        have := (h.row i y rows[i] hi (List.getElem?_eq_getElem hir)).lt b hy
        omega
    by_cases hj : j = k
    · subst hj
      rw [List.getElem?_set_self hku] at h1
      obtain rfl := Option.some.inj h1
      rw [List.getElem?_set_ne (by omega)] at h2
      exact hnew j' x' h2 (Ne.symm hne) hb' hb
    · rw [List.getElem?_set_ne (by omega)] at h1
      by_cases hj' : j' = k
      · subst hj'
        rw [List.getElem?_set_self hku] at h2
        obtain rfl := Option.some.inj h2
        exact hnew j x h1 hj hb hb'
      · rw [List.getElem?_set_ne (by omega)] at h2
        exact h.apart j j' x x' h1 h2 hne b hb hb'
  · intro j x h1 b hb hb'
    by_cases hj : j = k
    · subst hj
      rw [List.getElem?_set_self hku] at h1
      obtain rfl := Option.some.inj h1
      exact hu'g b hb (by simpa [Value.ownBlock] using hb'.symm)
    · rw [List.getElem?_set_ne (by omega)] at h1
      exact h.off j x h1 b hb hb'
end
theorem infoInts : (Try.prog.info? 23).map (fun i => (i.zero, i.size, i.bytes)) = some (some (.slice none 0 0), 1, 24) := by kernel_rfl
end Go.Proofs.Ytefdblaolmckmab

namespace Go.Proofs.Ytefdblaolmckmab
open Go.RowKit

inductive Ent where
  | box (g : Nat) (t : TypeId) (cs : List Value)
  | own (v : Value) (e : TypeId) (sz n : Nat) (xs : List Value)
def Ent.blk : Ent → Option Nat
  | .box g _ _ => some g
  | .own v _ _ _ _ => v.ownBlock
def Ent.holds (B : Nat) (w : World) : Ent → Prop
  | .box g t cs => B ≤ g ∧ Blk w g t cs.toArray
  | .own v e sz n xs => w.ownsRow B e sz v n xs
structure Hp (w0 w : World) (E : List Ent) : Prop where
  bel : Below w0.heap.size w0 w
  all : ∀ p ∈ E, p.holds w0.heap.size w
  dis : (E.filterMap Ent.blk).Nodup
section
variable {w0 w w' : World} {E E' : List Ent} {B : Nat}
theorem Ent.lt {p : Ent} (h : p.holds B w) {g : Nat} (hg : p.blk = some g) : B ≤ g ∧ g < w.heap.size := by
  cases p with
  | box b t cs => obtain rfl : b = g := by simpa [Ent.blk] using hg
                  exact ⟨h.1, h.2.lt⟩
  | own v e sz n xs => exact World.ownsRow.lt h g hg
theorem Ent.kept {p : Ent} {row : Option Nat} (h : p.holds B w) (hg : w.grownBy w' row) (hne : ∀ g, p.blk = some g → row ≠ some g) : p.holds B w' := by
  cases p with
  | box b t cs => exact ⟨h.1, h.2.grown hg (fun e => hne b rfl e.symm)⟩
  | own v e sz n xs =>
    refine World.ownsRow.kept h hg ?_
    cases hv : v.ownBlock with
    | none => exact .inl rfl
    | some b => exact .inr (fun e => hne b hv e.symm)
theorem Ent.under {p : Ent} (h : p.holds B w) (hb : Below w.heap.size w w') : p.holds B w' := by
  cases p with
  | box b t cs => exact ⟨h.1, h.2.below hb h.2.lt⟩
  | own v e sz n xs => exact own_below h hb
theorem Hp.start (w : World) : Hp w w [] := ⟨Below.refl _ _, by simp, by simp⟩
theorem Hp.grow (h : Hp w0 w E) (hb : Below w.heap.size w w') : Hp w0 w' E :=
  ⟨h.bel.trans (hb.mono h.bel.size), fun p hp => Ent.under (h.all p hp) hb, h.dis⟩
theorem Hp.alloc (h : Hp w0 w E) (o : Obj) : Hp w0 (w.alloc o) E := h.grow ((Below.refl _ _).alloc (Nat.le_refl _) o)
theorem Hp.drew (h : Hp w0 w E) : Hp w0 w.drew E := h.grow (Below.refl _ _).drew
theorem Hp.drewN (h : Hp w0 w E) (n : Nat) : Hp w0 (w.drewN n) E := h.grow (below_drewN (Below.refl _ _) n)
theorem Hp.mem {p : Ent} (h : Hp w0 w E) {k : Nat} (hk : E[k]? = some p) : p.holds w0.heap.size w := h.all p (List.mem_of_getElem? hk)
theorem Hp.blk (h : Hp w0 w E) (k : Nat) {g : Nat} {t : TypeId} {cs : List Value} (hk : E[k]? = some (.box g t cs)) : Blk w g t cs.toArray := (h.mem hk).2
theorem Hp.cell (h : Hp w0 w E) (k i : Nat) {g : Nat} {t : TypeId} {cs : List Value} {u : Value} (hk : E[k]? = some (.box g t cs)) (hi : cs[i]? = some u) : w.cell? ⟨g, i, none⟩ = some u := by
  rw [(h.blk k hk).cell i]
  simpa using hi
theorem Hp.frozen (h : Hp w0 w E) (k i : Nat) {g : Nat} {t : TypeId} {cs : List Value} (hk : E[k]? = some (.box g t cs)) : w.frozen? ⟨g, i, none⟩ = false := (h.blk k hk).frozen i
theorem Hp.lt (h : Hp w0 w E) (k : Nat) {g : Nat} {t : TypeId} {cs : List Value} (hk : E[k]? = some (.box g t cs)) : g < w.heap.size := (h.blk k hk).lt
theorem Hp.ge (h : Hp w0 w E) (k : Nat) {g : Nat} {t : TypeId} {cs : List Value} (hk : E[k]? = some (.box g t cs)) : w0.heap.size ≤ g := (h.mem hk).1
theorem Hp.owns (h : Hp w0 w E) (k : Nat) {v : Value} {e : TypeId} {sz n : Nat} {xs : List Value} (hk : E[k]? = some (.own v e sz n xs)) : w.ownsRow w0.heap.size e sz v n xs := h.mem hk
theorem Hp.name (h : Hp w0 w E) : ∃ w2, w = w2 ∧ Hp w0 w2 E := ⟨w, rfl, h⟩
theorem Hp.apart (h : Hp w0 w E) {i j : Nat} {p q : Ent} (hi : E[i]? = some p) (hj : E[j]? = some q) (hne : i ≠ j) {g : Nat} (hp : p.blk = some g) : q.blk ≠ some g := by
  intro hq
  have hd := h.dis
  clear h
  induction E generalizing i j with
  | nil => simp at hi
  | cons e E ih =>
    have hmem : ∀ {k : Nat} {r : Ent}, E[k]? = some r → r.blk = some g → g ∈ E.filterMap Ent.blk := fun hk hr => List.mem_filterMap.2 ⟨_, List.mem_of_getElem? hk, hr⟩
    have hd2 : (E.filterMap Ent.blk).Nodup := by
      rw [List.filterMap_cons] at hd
      split at hd
      · exact hd
      · exact (List.nodup_cons.1 hd).2
    match i, j with
    | 0, 0 => exact hne rfl
    | 0, j + 1 =>
      simp at hi hj
      subst hi
      rw [List.filterMap_cons, hp] at hd
      exact (List.nodup_cons.1 hd).1 (hmem hj hq)
    | i + 1, 0 =>
      simp at hi hj
      subst hj
      rw [List.filterMap_cons, hq] at hd
      exact (List.nodup_cons.1 hd).1 (hmem hi hp)
    | i + 1, j + 1 => exact ih (by simpa using hi) (by simpa using hj) (by omega) hd2
theorem Hp.ne (h : Hp w0 w E) (i j : Nat) {g g' : Nat} {t t' : TypeId} {cs cs' : List Value} (hi : E[i]? = some (.box g t cs)) (hj : E[j]? = some (.box g' t' cs')) (hne : i ≠ j) : g ≠ g' := fun e => h.apart hi hj hne (g := g) rfl (by rw [e]; rfl)
theorem perm_set {α : Type} : ∀ {l : List α} {k : Nat} {a b : α}, l[k]? = some a → ∃ r, l.Perm (a :: r) ∧ (l.set k b).Perm (b :: r)
  | [], k, a, b, h => by simp at h
  | x :: l, 0, a, b, h => by
    simp at h
    subst h
    exact ⟨l, List.Perm.refl _, List.Perm.refl _⟩
  | x :: l, k + 1, a, b, h => by
    obtain ⟨r, h1, h2⟩ := perm_set (b := b) (show l[k]? = some a by simpa using h)
    exact ⟨x :: r, (h1.cons x).trans (List.Perm.swap a x r), (h2.cons x).trans (List.Perm.swap b x r)⟩
theorem Hp.perm (h : Hp w0 w E) (hp : E.Perm E') : Hp w0 w E' :=
  ⟨h.bel, fun p hp' => h.all p (hp.mem_iff.2 hp'), (hp.filterMap _).nodup_iff.1 h.dis⟩
theorem Hp.sub (h : Hp w0 w E) (hs : E'.Sublist E) : Hp w0 w E' :=
  ⟨h.bel, fun p hp => h.all p (hs.mem hp), h.dis.sublist (hs.filterMap _)⟩
/-- The first entry turns: its block is written, or a new one is made. -/
theorem Hp.turn {p p' : Ent} (h : Hp w0 w (p :: E)) (hg : w.grownBy w' p.blk) (hp : p'.holds w0.heap.size w') (hb : ∀ g, p'.blk = some g → p.blk = some g ∨ w.heap.size ≤ g) : Hp w0 w' (p' :: E) := by
  have hfar : ∀ q ∈ E, ∀ g, q.blk = some g → p.blk ≠ some g := by
    intro q hq g hqg hpg
    obtain ⟨k, hk⟩ := List.getElem?_of_mem hq
    exact h.apart (i := 0) (j := k + 1) rfl (by simpa using hk) (by omega) hpg hqg
  have hlt : ∀ q ∈ E, ∀ g, q.blk = some g → g < w.heap.size := fun q hq g hqg => (Ent.lt (h.all q (by simp [hq])) hqg).2
  refine ⟨h.bel.grown hg h.bel.size (fun k hk => (Ent.lt (h.all p (by simp)) hk).1), ?_, ?_⟩
  · intro q hq
    rcases List.mem_cons.1 hq with rfl | hq
    · exact hp
    · exact Ent.kept (h.all q (by simp [hq])) hg (hfar q hq)
  · have hd : (E.filterMap Ent.blk).Nodup := h.dis.sublist ((List.sublist_cons_self p E).filterMap _)
    rw [List.filterMap_cons]
    split
    · exact hd
    · rename_i g hpg
      refine List.nodup_cons.2 ⟨fun hm => ?_, hd⟩
      obtain ⟨q, hq, hqg⟩ := List.mem_filterMap.1 hm
      rcases hb g hpg with e | e
      · exact hfar q hq g hqg e
      · have := hlt q hq g hqg; omega
theorem Hp.step {p p' : Ent} (h : Hp w0 w E) (k : Nat) (hk : E[k]? = some p) (hg : w.grownBy w' p.blk) (hp : p'.holds w0.heap.size w') (hb : ∀ g, p'.blk = some g → p.blk = some g ∨ w.heap.size ≤ g) : Hp w0 w' (E.set k p') := by
  obtain ⟨r, h1, h2⟩ := perm_set (b := p') hk
  exact ((h.perm h1).turn hg hp hb).perm h2.symm
/-- A new entry. -/
theorem Hp.more {p : Ent} (h : Hp w0 w E) (hg : w.grownBy w' none) (hp : p.holds w0.heap.size w') (hb : ∀ g, p.blk = some g → w.heap.size ≤ g) : Hp w0 w' (p :: E) := by
  have h' : Hp w0 w (.own (.slice none 0 0) 0 1 0 [] :: E) := ⟨h.bel, by
    intro q hq
    rcases List.mem_cons.1 hq with rfl | hq
    · exact own_nil _ _ _ _
    · exact h.all q hq, by rw [List.filterMap_cons_none rfl]; exact h.dis⟩
  exact h'.turn hg hp (fun g hg => .inr (hb g hg))
theorem Hp.moreR {p : Ent} (h : Hp w0 w E) (hg : w.grownBy w' none) (hp : p.holds w0.heap.size w') (hb : ∀ g, p.blk = some g → w.heap.size ≤ g) : Hp w0 w' (E ++ [p]) :=
  (h.more hg hp hb).perm (List.perm_append_comm (l₁ := [p]))
theorem grown_of_below (hb : Below w.heap.size w w') : w.grownBy w' none := ⟨hb.os, hb.tape, hb.output, hb.size, fun k hk _ => hb.block k hk⟩
theorem Hp.new (h : Hp w0 w E) (g : Nat) (hg : w.heap.size = g) (t : TypeId) (cs : List Value) : Hp w0 (w.alloc (.cells cs.toArray t)) (E ++ [.box g t cs]) := by
  refine h.moreR (World.grownBy_alloc w _ _) ⟨by have := h.bel.size; omega, by subst hg; exact Blk.new _ _ _⟩ ?_
  intro k hk
  obtain rfl : g = k := by simpa [Ent.blk] using hk
  exact Nat.le_of_eq hg
theorem Hp.newL (h : Hp w0 w E) (g : Nat) (hg : w.heap.size = g) (t : TypeId) (cs : List Value) : Hp w0 (w.alloc (.cells cs.toArray t)) (.box g t cs :: E) :=
  (h.new g hg t cs).perm (List.perm_append_comm (l₂ := [_]))
theorem own_types {b b' : Nat} {e e' : TypeId} {sz sz' n n' : Nat} {v v' : Value} {xs xs' : List Value} (h : w.ownsRow b e sz v n xs) (h' : w.ownsRow b' e' sz' v' n' xs') (hne : e ≠ e') {g : Nat} (hg : v.ownBlock = some g) : v'.ownBlock ≠ some g := by
  intro hg'
  rcases h.2 with ⟨rfl, _⟩ | ⟨b1, cap, cur, rfl, _, hb, _⟩
  · cases hg
  · rcases h'.2 with ⟨rfl, _⟩ | ⟨b2, cap', cur', rfl, _, hb', _⟩
    · cases hg'
    · obtain rfl : b1 = g := by simpa [Value.ownBlock] using hg
      obtain rfl : b2 = b1 := by simpa [Value.ownBlock] using hg'
      rw [hb] at hb'
      injection hb' with hb'
      injection hb' with _ he
      exact hne he
theorem grown_setCell (w : World) (a : Addr) (u : Value) : w.grownBy (w.setCell a u) (some a.block) :=
  ⟨rfl, rfl, rfl, by simp [World.setCell], fun k _ hne => Below.heap_setCell w a u k (fun e => hne (by rw [e]))⟩
theorem Hp.set (h : Hp w0 w E) (k i : Nat) (u : Value) {g : Nat} {t : TypeId} {cs : List Value} (hk : E[k]? = some (.box g t cs)) : Hp w0 (w.setCell ⟨g, i, none⟩ u) (E.set k (.box g t (cs.set i u))) :=
  h.step k hk (grown_setCell w _ u) ⟨h.ge k hk, by have := (h.blk k hk).set_ i u; simpa using this⟩ (fun _ h => .inl h)
/-- A callee's own slice, new behind the call. -/
theorem Hp.got (h : Hp w0 w E) (hb : Below w.heap.size w w') {v : Value} {e : TypeId} {sz n : Nat} {xs : List Value} (ho : w'.ownsRow w.heap.size e sz v n xs) : Hp w0 w' (E ++ [.own v e sz n xs]) :=
  h.moreR (grown_of_below hb) (own_lower ho h.bel.size) (fun g hg => (ho.lt g hg).1)
theorem Hp.got2 (h : Hp w0 w E) (hb : Below w.heap.size w w') {v v' : Value} {e e' : TypeId} {sz sz' n n' : Nat} {xs xs' : List Value} (ho : w'.ownsRow w.heap.size e sz v n xs) (ho' : w'.ownsRow w.heap.size e' sz' v' n' xs') (hne : e ≠ e') : Hp w0 w' (E ++ [.own v e sz n xs, .own v' e' sz' n' xs']) := by
  have h1 := h.got hb ho
  have h2 : Hp w0 w' (.own v' e' sz' n' xs' :: (E ++ [.own v e sz n xs])) := by
    refine ⟨h1.bel, ?_, ?_⟩
    · intro q hq
      rcases List.mem_cons.1 hq with rfl | hq
      · exact own_lower ho' h.bel.size
      · exact h1.all q hq
    · rw [List.filterMap_cons]
      split
      · exact h1.dis
      · rename_i g hg
        refine List.nodup_cons.2 ⟨fun hm => ?_, h1.dis⟩
        obtain ⟨q, hq, hqg⟩ := List.mem_filterMap.1 hm
        rcases List.mem_append.1 hq with hq | hq
        · have := (Ent.lt (h.all q hq) hqg).2
          have := (ho'.lt g hg).1
          omega
        · obtain rfl : q = .own v e sz n xs := by simpa using hq
          exact own_types ho ho' hne hqg hg
  refine h2.perm ?_
  have := List.perm_append_comm (l₁ := [Ent.own v' e' sz' n' xs']) (l₂ := E ++ [.own v e sz n xs])
  simpa using this
theorem Hp.nil_ (h : Hp w0 w E) (e : TypeId) (sz : Nat) : Hp w0 w (E ++ [.own (.slice none 0 0) e sz 0 []]) :=
  h.moreR (w' := w) ⟨rfl, rfl, rfl, Nat.le_refl _, fun _ _ _ => rfl⟩ (own_nil _ _ _ _) (fun g hg => by cases hg)
/-- What the call's own slice reads as. -/
theorem Hp.rd (h : Hp w0 w E) (k : Nat) {A : Option Addr} {c : Nat} {e : TypeId} {sz n : Nat} {xs : List Value} (hk : E[k]? = some (.own (.slice A n c) e sz n xs)) : Rd w w.heap.size sz A n xs := Rd.of_own (h.owns k hk)
/-- What came in reads as it did. -/
theorem Hp.old (h : Hp w0 w E) {sz n : Nat} {A : Option Addr} {xs : List Value} (hr : Rd w0 w0.heap.size sz A n xs) : Rd w w.heap.size sz A n xs := (hr.below h.bel).more h.bel.size
theorem Hp.app {v v' : Value} {e : TypeId} {sz n n' : Nat} {xs xs' : List Value} (h : Hp w0 w E) (k : Nat) (hk : E[k]? = some (.own v e sz n xs)) (hg : w.grownBy w' v.ownBlock) (ho : w'.ownsRow w0.heap.size e sz v' n' xs') (hat : v'.ownBlock = v.ownBlock ∨ ∀ g, v'.ownBlock = some g → w.heap.size ≤ g) : Hp w0 w' (E.set k (.own v' e sz n' xs')) :=
  h.step k hk hg ho (fun g hg' => by rcases hat with e | e
                                     · exact .inl (e.symm.trans hg')
                                     · exact .inr (e g hg'))
theorem Hp.drop1 (h : Hp w0 w E) (k : Nat) : Hp w0 w (E.eraseIdx k) := h.sub (List.eraseIdx_sublist E k)
theorem Hp.put (h : Hp w0 w E) (k j : Nat) (u : Value) {g n c : Nat} {e : TypeId} {sz : Nat} {xs : List Value} (hk : E[k]? = some (.own (.slice (some ⟨g, 0, none⟩) n c) e sz n xs)) : Hp w0 (w.setCell ⟨g, j, none⟩ u) (E.set k (.own (.slice (some ⟨g, 0, none⟩) n c) e sz n (xs.set j u))) := by
  have hs := (h.owns k hk).stored j u
  exact h.step k hk hs.2 hs.1 (fun q hq => .inl hq)
theorem Hp.ownCell (h : Hp w0 w E) (k j : Nat) {g n c : Nat} {e : TypeId} {sz : Nat} {xs : List Value} {u : Value} (hk : E[k]? = some (.own (.slice (some ⟨g, 0, none⟩) n c) e sz n xs)) (hj : xs[j]? = some u) : w.cell? ⟨g, j, none⟩ = some u := by
  have := (h.owns k hk).cells (g := g) rfl j u hj
  rwa [add_mk, Nat.zero_add] at this
theorem Hp.ownFrozen (h : Hp w0 w E) (k j : Nat) {g n c : Nat} {e : TypeId} {sz : Nat} {xs : List Value} (hk : E[k]? = some (.own (.slice (some ⟨g, 0, none⟩) n c) e sz n xs)) : w.frozen? ⟨g, j, none⟩ = false := (h.owns k hk).frozenAt j
theorem news_blk {g : Nat} {t : TypeId} {us : List Value} (h : Blk w g t us.toArray) : ∀ j u, us[j]? = some u → w.cell? ((⟨g, 0, none⟩ : Addr).add j) = some u := by
  intro j u hu
  rw [add_mk, Nat.zero_add, h.cell]
  simpa using hu
theorem own_blk {b g : Nat} {e : TypeId} {sz n c : Nat} {xs : List Value} (h : w.ownsRow b e sz (.slice (some ⟨g, 0, none⟩) n c) n xs) : ∃ cur, Blk w g e cur ∧ b ≤ g ∧ n ≤ c ∧ c ≤ maxLen ∧ cur.size = c * sz ∧ cur.toList.take (n * sz) = xs := by
  rcases h.2 with ⟨h', _⟩ | ⟨g', cap, cur, h', hb, hg, h1, h2, h3, h4⟩
  · cases h'
  · injection h' with e1 e2 e3
    injection e1 with e1
    injection e1 with e1
    subst e1 e3
    exact ⟨cur, hg, hb, h1, h2, h3, h4⟩
theorem own_of_blk {b g : Nat} {e : TypeId} {sz n c : Nat} {xs : List Value} {cur : Array Value} (h : Blk w g e cur) (hb : b ≤ g) (h1 : n ≤ c) (h2 : c ≤ maxLen) (h3 : cur.size = c * sz) (h4 : cur.toList.take (n * sz) = xs) : w.ownsRow b e sz (.slice (some ⟨g, 0, none⟩) n c) n xs := by
  refine ⟨?_, .inr ⟨g, c, cur, rfl, hb, h, h1, h2, h3, h4⟩⟩
  rw [← h4, List.length_take]
  simp only [Array.length_toList]
  rw [h3]
  exact Nat.min_eq_left (Nat.mul_le_mul_right _ h1)
theorem own_some {b : Nat} {e : TypeId} {sz n c : Nat} {A : Option Addr} {xs : List Value} (h : w.ownsRow b e sz (.slice A n c) n xs) (hn : 0 < n) : ∃ g, A = some ⟨g, 0, none⟩ := by
  obtain ⟨g, cap, hv, _⟩ := h.form hn
  injection hv with hv
  exact ⟨g, hv⟩
end
end Go.Proofs.Ytefdblaolmckmab

namespace Go.Proofs.Ytefdblaolmckmab
open Go.RowKit

def upd {α : Type} (f : Nat → α) (i : Nat) (v : α) : Nat → α := fun j => if j = i then v else f j
@[simp] theorem upd_same {α : Type} (f : Nat → α) (i : Nat) (v : α) : upd f i v i = v := by simp [upd]
theorem upd_ne {α : Type} (f : Nat → α) {i j : Nat} (v : α) (h : j ≠ i) : upd f i v j = f j := by simp [upd, h]

def dstAt (ops : Array Oper) (i : Nat) : Option Tmp := (ops[i]?).bind (·.dst)
def okOps (ops : Array Oper) (n : Nat) : Bool :=
  (List.range ops.size).all fun i =>
    (match dstAt ops i with | none => true | some d => decide (d < n) && (List.range ops.size).all fun j => i == j || !(dstAt ops j == some d)) &&
    (match ops[i]? with | none => true | some o => o.after.toList.all fun e => !Region.binds .any e || decide (e.on < i))

structure Fr (ops : Array Oper) (a : Act) (l : Nat → Bool) (vs : Nat → Value) (act : Act) : Prop where
  defers : act.defers = a.defers
  size : act.tmps.size = a.tmps.size
  done : ∀ j d, dstAt ops j = some d → l j = true → act.tmps[d]? = some (vs j)
  old : ∀ k, (∀ j, dstAt ops j = some k → l j = false) → act.tmps[k]? = a.tmps[k]?

section
variable {ops : Array Oper} {a act : Act} {l : Nat → Bool} {vs : Nat → Value} {n : Nat}
theorem okOps_dst (h : okOps ops n = true) {i : Nat} {d : Tmp} (hd : dstAt ops i = some d) : d < n ∧ ∀ j, dstAt ops j = some d → j = i := by
  have hi : i < ops.size := by
    rcases Nat.lt_or_ge i ops.size with h | h
    · exact h
    · simp [dstAt, Array.getElem?_eq_none h] at hd
  have h1 := List.all_eq_true.1 h i (List.mem_range.2 hi)
  rw [Bool.and_eq_true, hd] at h1
  have h2 := h1.1
  simp only [Bool.and_eq_true, decide_eq_true_eq] at h2
  refine ⟨h2.1, fun j hj => ?_⟩
  have hjs : j < ops.size := by
    rcases Nat.lt_or_ge j ops.size with h | h
    · exact h
    · simp [dstAt, Array.getElem?_eq_none h] at hj
  have h3 := List.all_eq_true.1 h2.2 j (List.mem_range.2 hjs)
  rw [hj] at h3
  simp at h3
  exact h3.symm
theorem okOps_on (h : okOps ops n = true) {i : Nat} {o : Oper} (ho : ops[i]? = some o) : ∀ e ∈ o.after, Region.binds .any e = true → e.on < i := by
  have hi : i < ops.size := by
    rcases Nat.lt_or_ge i ops.size with h | h
    · exact h
    · simp [Array.getElem?_eq_none h] at ho
  have h1 := List.all_eq_true.1 h i (List.mem_range.2 hi)
  rw [Bool.and_eq_true, ho] at h1
  have h2 := h1.2
  intro e he hbd
  have := List.all_eq_true.1 h2 e (Array.mem_toList_iff.2 he)
  rw [hbd] at this
  simpa using this
theorem Fr.val (h : Fr ops a l vs act) {j : Nat} {d : Tmp} (hd : dstAt ops j = some d) (hl : l j = true) : act.tmps[d]?.getD undef = vs j := by
  rw [h.done j d hd hl]; rfl
def notDst (ops : Array Oper) (k : Tmp) : Bool := (List.range ops.size).all fun j => !(dstAt ops j == some k)
theorem Fr.was (h : Fr ops a l vs act) {k : Tmp} (hk : notDst ops k = true) : act.tmps[k]?.getD undef = a.tmps[k]?.getD undef := by
  rw [h.old k]
  intro j hj
  have hjs : j < ops.size := by
    rcases Nat.lt_or_ge j ops.size with h | h
    · exact h
    · simp [dstAt, Array.getElem?_eq_none h] at hj
  have := List.all_eq_true.1 hk j (List.mem_range.2 hjs)
  rw [hj] at this
  simp at this
theorem put_size (d : Option Tmp) (v : Value) (a : Act) : (a.put d v).tmps.size = a.tmps.size := by
  cases d <;> simp [Act.put]
theorem put_defers (d : Option Tmp) (v : Value) (a : Act) : (a.put d v).defers = a.defers := by
  cases d <;> rfl
theorem put_same {d : Tmp} {v : Value} {a : Act} (h : d < a.tmps.size) : (a.put (some d) v).tmps[d]? = some v := by
  simp [Act.put, h]
theorem put_far {d : Option Tmp} {k : Tmp} {v : Value} {a : Act} (h : d ≠ some k) : (a.put d v).tmps[k]? = a.tmps[k]? := by
  cases d with
  | none => rfl
  | some d =>
    have : d ≠ k := fun e => h (by rw [e])
    simp [Act.put, this]
theorem Fr.step (hk : okOps ops a.tmps.size = true) (h : Fr ops a l vs act) {i : Nat} {o : Oper} (ho : ops[i]? = some o) (v : Value) (hl : l i = false) :
    Fr ops a (upd l i true) (upd vs i v) (act.put o.dst v) := by
  have hdi : dstAt ops i = o.dst := by simp [dstAt, ho]
  refine ⟨by rw [put_defers, h.defers], by rw [put_size, h.size], ?_, ?_⟩
  · intro j d hj hlj
    by_cases e : j = i
    · subst e
      rw [hdi] at hj
      rw [hj, upd_same]
      exact put_same (by rw [h.size]; exact (okOps_dst hk (hdi.trans hj)).1)
    · rw [upd_ne _ _ e] at hlj ⊢
      rw [put_far]
      · exact h.done j d hj hlj
      · intro e'
        exact e ((okOps_dst hk (hdi.trans e')).2 j hj)
  · intro k hk'
    have hne : o.dst ≠ some k := fun e => by
      have := hk' i (hdi.trans e)
      rw [upd_same] at this
      cases this
    rw [put_far hne]
    refine h.old k fun j hj => ?_
    by_cases e : j = i
    · subst e; exact hl
    · have := hk' j hj
      rwa [upd_ne _ _ e] at this
theorem Fr.start : Fr ops a (fun _ => false) vs a := ⟨rfl, rfl, (fun _ _ _ h => by cases h), (fun _ _ => rfl)⟩

def putAll : List Oper → Nat → (Nat → Value) → Act → Act
  | [], _, _, a => a
  | o :: os, i, vs, a => putAll os (i + 1) vs (a.put o.dst (vs i))
theorem putAll_size : ∀ (os : List Oper) (i : Nat) (vs : Nat → Value) (a : Act), (putAll os i vs a).tmps.size = a.tmps.size
  | [], _, _, _ => rfl
  | o :: os, i, vs, a => by rw [putAll, putAll_size os, put_size]
theorem putAll_defers : ∀ (os : List Oper) (i : Nat) (vs : Nat → Value) (a : Act), (putAll os i vs a).defers = a.defers
  | [], _, _, _ => rfl
  | o :: os, i, vs, a => by rw [putAll, putAll_defers os, put_defers]
theorem putAll_ne {k : Tmp} : ∀ (os : List Oper) (i : Nat) (vs : Nat → Value) (a : Act), (∀ o ∈ os, o.dst ≠ some k) → (putAll os i vs a).tmps[k]? = a.tmps[k]?
  | [], _, _, _, _ => rfl
  | o :: os, i, vs, a, h => by rw [putAll, putAll_ne os _ _ _ (fun o' ho => h o' (by simp [ho])), put_far (h o (by simp))]
theorem putAll_at {d : Tmp} : ∀ (os : List Oper) (i : Nat) (vs : Nat → Value) (a : Act) (j : Nat), (os[j]?).bind (·.dst) = some d → d < a.tmps.size →
    (∀ j', (os[j']?).bind (·.dst) = some d → j' = j) → (putAll os i vs a).tmps[d]? = some (vs (i + j))
  | [], _, _, _, _, h, _, _ => by simp at h
  | o :: os, i, vs, a, 0, h, hd, hu => by
    rw [putAll, putAll_ne]
    · simp at h
      rw [h]
      exact put_same hd
    · intro o' ho' e
      obtain ⟨q, hq⟩ := List.getElem?_of_mem ho'
      have := hu (q + 1) (by simp [hq, e])
      omega
  | o :: os, i, vs, a, j + 1, h, hd, hu => by
    rw [putAll, putAll_at os (i + 1) vs _ j (by simpa using h) (by rw [put_size]; exact hd) (fun j' h' => by have := hu (j' + 1) (by simpa using h'); omega)]
    rw [show i + 1 + j = i + (j + 1) by omega]
theorem act_ext {a b : Act} (h1 : a.tmps = b.tmps) (h2 : a.defers = b.defers) : a = b := by
  cases a; cases b; simp only at h1 h2; rw [h1, h2]
theorem Fr.all (hk : okOps ops a.tmps.size = true) (h : Fr ops a l vs act) (hl : ∀ j, j < ops.size → l j = true) : act = putAll ops.toList 0 vs a := by
  refine act_ext ?_ (by rw [putAll_defers, h.defers])
  refine Array.ext_getElem? fun k => ?_
  by_cases hx : ∃ j, dstAt ops j = some k
  · obtain ⟨j, hj⟩ := hx
    have hjs : j < ops.size := by
      rcases Nat.lt_or_ge j ops.size with h | h
      · exact h
      · simp [dstAt, Array.getElem?_eq_none h] at hj
    obtain ⟨hkn, hun⟩ := okOps_dst hk hj
    rw [h.done j k hj (hl j hjs), putAll_at ops.toList 0 vs a j (by simpa [dstAt] using hj) hkn (fun j' h' => hun j' (by simpa [dstAt] using h')), Nat.zero_add]
  · rw [h.old k (fun j hj => absurd ⟨j, hj⟩ hx), putAll_ne]
    intro o ho e
    obtain ⟨q, hq⟩ := List.getElem?_of_mem ho
    exact hx ⟨q, by simp at hq; simp [dstAt, hq, e]⟩
end

section
variable {P : Program} {ops : Array Oper} {Q : Exit → Act → World → Prop}
theorem wp_region_vals {id : Nat} {a : Act} {w : World} (hm : P.follows .mixedOrders = true) (hk : okOps ops a.tmps.size = true)
    (I : (Nat → Bool) → (Nat → Value) → World → Prop)
    (h0 : I (fun _ => false) (fun _ => undef) w.drew)
    (hend : ∀ vs w' l, I l vs w' → (∀ j, j < ops.size → l j = true) → Q .normal (putAll ops.toList 0 vs a) w')
    (hstep : ∀ i o, ops[i]? = some o → ∀ l vs act w', Fr ops a l vs act → I l vs w' → l i = false → (o.after.all fun e => !Region.binds .any e || l e.on) = true →
      if Region.wanted o (yielded ops act.tmps) then ∀ K : Act → World → Prop, (∀ v w'', I (upd l i true) (upd vs i v) w'' → K (act.put o.dst v) w'') → o.wp P act w' K Q
      else I (upd l i true) (upd vs i undef) w') : (Code.region id ops true).wp P Q a w := by
  refine wp_region_inv hm (fun L act w' => L.size = ops.size ∧ ∃ l vs, (∀ j, L.getD j false = l j) ∧ Fr ops a l vs act ∧ I l vs w') ?_ ?_ ?_
  · refine ⟨by simp, fun _ => false, fun _ => undef, fun j => ?_, Fr.start, h0⟩
    simp only [Array.getD_eq_getD_getElem?, Array.getElem?_replicate]
    split <;> rfl
  · rintro L act w' ⟨hs, l, vs, hL, hF, hI⟩ hr
    have hall : ∀ j, j < ops.size → l j = true := by
      intro j
      induction j using Nat.strongRecOn with
      | _ j ih =>
        intro hj
        obtain ⟨o, ho⟩ : ∃ o, ops[j]? = some o := ⟨_, Array.getElem?_eq_getElem hj⟩
        have := ready_out hr j hj (by
          rw [ho]
          simp only [Option.map_some, Option.getD_some]
          rw [Array.all_eq_true_iff_forall_mem]
          intro e he
          cases hbd : Region.binds .any e with
          | false => rfl
          | true =>
            have hlt := okOps_on hk ho e he hbd
            rw [hL, ih e.on hlt (by omega)]
            simp)
        rw [← hL]
        have hjL : j < L.size := by omega
        simp [Array.getD_eq_getD_getElem?, hjL] at this ⊢
        exact this
    rw [hF.all hk hall]
    exact hend vs w' l hI hall
  · rintro L act w' i ⟨hs, l, vs, hL, hF, hI⟩ hi hf hd
    obtain ⟨o, ho⟩ : ∃ o, ops[i]? = some o := ⟨_, Array.getElem?_eq_getElem hi⟩
    have hiL : i < L.size := by omega
    have hli : l i = false := by
      rw [← hL]
      simp [Array.getD_eq_getD_getElem?, hiL] at hf ⊢
      exact hf
    have hd' : (o.after.all fun e => !Region.binds .any e || l e.on) = true := by
      rw [ho] at hd
      simp only [Option.map_some, Option.getD_some] at hd
      rw [Array.all_eq_true_iff_forall_mem] at hd ⊢
      intro e he
      rw [← hL]
      exact hd e he
    have hLs : ∀ j, (L.setIfInBounds i true).getD j false = upd l i true j := by
      intro j
      by_cases e : j = i
      · subst e; simp [Array.getD_eq_getD_getElem?, hiL]
      · rw [upd_ne _ _ e, ← hL]
        simp [Array.getD_eq_getD_getElem?, Ne.symm e]
    have hst := hstep i o ho l vs act w' hF hI hli hd'
    unfold wpOp
    simp only [ho]
    split at hst
    case isTrue hw =>
      rw [if_pos hw]
      exact .inl (hst _ fun v w'' hI' => ⟨by simpa using hs, _, _, hLs, hF.step hk ho v hli, hI'⟩)
    case isFalse hw =>
      rw [if_neg hw]
      exact ⟨by simpa using hs, _, _, hLs, hF.step hk ho undef hli, hst⟩
theorem lt_of_some {i : Nat} {o : Oper} (h : ops[i]? = some o) : i < ops.size := by
  rcases Nat.lt_or_ge i ops.size with h' | h'
  · exact h'
  · rw [Array.getElem?_eq_none h'] at h; cases h
/-- Every operation's value is known ahead ('V'), and nothing that was there turns. -/
theorem wp_region_fixed {id : Nat} {a : Act} {w : World} (hm : P.follows .mixedOrders = true) (hk : okOps ops a.tmps.size = true) (hg : (ops.toList.all fun o => o.guard.isNone) = true) (V : Nat → Value)
    (hend : ∀ w', Below w.heap.size w w' → Q .normal (putAll ops.toList 0 V a) w')
    (hstep : ∀ (i : Nat) (o : Oper), ops[i]? = some o → ∀ (act : Act) (w' : World), Below w.heap.size w w' →
      (∀ j d, dstAt ops j = some d → (o.after.toList.any fun e => e.on == j && Region.binds .any e) = true → act.tmps[d]?.getD undef = V j) →
      (∀ k, notDst ops k = true → act.tmps[k]?.getD undef = a.tmps[k]?.getD undef) →
      ∀ K : Act → World → Prop, (∀ w'', Below w.heap.size w w'' → K (act.put o.dst (V i)) w'') → o.wp P act w' K Q) : (Code.region id ops true).wp P Q a w := by
  refine wp_region_vals hm hk (fun l vs w' => Below w.heap.size w w' ∧ ∀ j, l j = true → vs j = V j) ⟨(Below.refl _ _).drew, fun _ h => by cases h⟩ ?_ ?_
  · rintro vs w' l ⟨hb, hv⟩ hl
    have : putAll ops.toList 0 vs a = putAll ops.toList 0 V a := by
      have key : ∀ (os : List Oper) (i : Nat) (a : Act), i + os.length ≤ ops.size → putAll os i vs a = putAll os i V a := by
        intro os
        induction os with
        | nil => intro _ _ _; rfl
        | cons o os ih =>
          intro i a h
          simp only [List.length_cons] at h
          rw [putAll, putAll, hv i (hl i (by omega)), ih _ _ (by omega)]
      exact key _ _ _ (by simp)
    rw [this]
    exact hend w' hb
  · rintro i o ho l vs act w' hF ⟨hb, hv⟩ hl hd
    have hno : o.guard = none := by
      have := List.all_eq_true.1 hg o (Array.mem_toList_iff.2 (Array.mem_of_getElem? ho))
      simpa using this
    rw [if_pos (by unfold Region.wanted; rw [hno])]
    intro K hK
    refine hstep i o ho act w' hb ?_ (fun k h => hF.was h) K (fun w'' hb' => hK _ w'' ⟨hb', fun j hj => ?_⟩)
    · intro j d hj he
      obtain ⟨q, hq, h2⟩ := List.any_eq_true.1 he
      rw [Bool.and_eq_true, beq_iff_eq] at h2
      have hlj := (Array.all_eq_true_iff_forall_mem.1 hd) _ (Array.mem_toList_iff.1 hq)
      rw [h2.2, h2.1] at hlj
      have hlj' : l j = true := by simpa using hlj
      rw [hF.val hj hlj', hv j hlj']
    · by_cases e : j = i
      · subst e; rw [upd_same]
      · rw [upd_ne _ _ e] at hj ⊢
        exact hv j hj
def wantV (V : Nat → Value) (o : Oper) : Bool :=
  match o.guard with
  | none => true
  | some (j, b) => match V j with | .bool c => c == b | _ => false
/-- As above, with guards: an operation that is not wanted leaves 'undef'. Each guard stands among what the operation waits for. -/
theorem wp_region_guarded {id : Nat} {a : Act} {w : World} (hm : P.follows .mixedOrders = true) (hk : okOps ops a.tmps.size = true)
    (hg : (ops.toList.all fun o => match o.guard with | none => true | some (j, _) => (dstAt ops j).isSome && o.after.toList.any fun e => e.on == j && Region.binds .any e) = true) (V : Nat → Value)
    (hend : ∀ w', Below w.heap.size w w' → Q .normal (putAll ops.toList 0 V a) w')
    (hno : ∀ (i : Nat) (o : Oper), ops[i]? = some o → wantV V o = false → V i = undef)
    (hstep : ∀ (i : Nat) (o : Oper), ops[i]? = some o → wantV V o = true → ∀ (act : Act) (w' : World), Below w.heap.size w w' →
      (∀ j d, dstAt ops j = some d → (o.after.toList.any fun e => e.on == j && Region.binds .any e) = true → act.tmps[d]?.getD undef = V j) →
      (∀ k, notDst ops k = true → act.tmps[k]?.getD undef = a.tmps[k]?.getD undef) →
      ∀ K : Act → World → Prop, (∀ w'', Below w.heap.size w w'' → K (act.put o.dst (V i)) w'') → o.wp P act w' K Q) : (Code.region id ops true).wp P Q a w := by
  refine wp_region_vals hm hk (fun l vs w' => Below w.heap.size w w' ∧ ∀ j, l j = true → vs j = V j) ⟨(Below.refl _ _).drew, fun _ h => by cases h⟩ ?_ ?_
  · rintro vs w' l ⟨hb, hv⟩ hl
    have : putAll ops.toList 0 vs a = putAll ops.toList 0 V a := by
      have key : ∀ (os : List Oper) (i : Nat) (a : Act), i + os.length ≤ ops.size → putAll os i vs a = putAll os i V a := by
        intro os
        induction os with
        | nil => intro _ _ _; rfl
        | cons o os ih =>
          intro i a h
          simp only [List.length_cons] at h
          rw [putAll, putAll, hv i (hl i (by omega)), ih _ _ (by omega)]
      exact key _ _ _ (by simp)
    rw [this]
    exact hend w' hb
  · rintro i o ho l vs act w' hF ⟨hb, hv⟩ hl hd
    have hdep : ∀ j d, dstAt ops j = some d → (o.after.toList.any fun e => e.on == j && Region.binds .any e) = true → act.tmps[d]? = some (V j) := by
      intro j d hj he
      obtain ⟨q, hq, h2⟩ := List.any_eq_true.1 he
      rw [Bool.and_eq_true, beq_iff_eq] at h2
      have hlj := (Array.all_eq_true_iff_forall_mem.1 hd) _ (Array.mem_toList_iff.1 hq)
      rw [h2.2, h2.1] at hlj
      have hlj' : l j = true := by simpa using hlj
      rw [hF.done j d hj hlj', hv j hlj']
    have hkeep : ∀ v : Value, v = V i → ∀ j, upd l i true j = true → upd vs i v j = V j := by
      intro v hvi j hj
      by_cases e : j = i
      · subst e; rw [upd_same, hvi]
      · rw [upd_ne _ _ e] at hj ⊢
        exact hv j hj
    have hwant : Region.wanted o (yielded ops act.tmps) = wantV V o := by
      unfold Region.wanted wantV
      have hgo := List.all_eq_true.1 hg o (Array.mem_toList_iff.2 (Array.mem_of_getElem? ho))
      cases hgd : o.guard with
      | none => rfl
      | some p =>
        obtain ⟨j, b⟩ := p
        rw [hgd] at hgo
        simp only [Bool.and_eq_true] at hgo
        obtain ⟨d, hd'⟩ := Option.isSome_iff_exists.1 hgo.1
        have ht := hdep j d hd' hgo.2
        have e : ((ops[j]?).bind fun x => x.dst) = some d := hd'
        simp only [yielded, e, Option.bind_some, ht]
        cases V j <;> rfl
    rw [hwant]
    split
    case isTrue hw =>
      intro K hK
      exact hstep i o ho hw act w' hb (fun j d hj he => by rw [hdep j d hj he]; rfl) (fun k h => hF.was h) K (fun w'' hb' => hK _ w'' ⟨hb', hkeep _ rfl⟩)
    case isFalse hw =>
      exact ⟨hb, hkeep _ (hno i o ho (by simpa using hw)).symm⟩
end
end Go.Proofs.Ytefdblaolmckmab

namespace Go.Proofs.Ytefdblaolmckmab
open Go.RowKit
/-- A table of values. -/
def tab (l : List Value) (j : Nat) : Value := l.getD j undef
theorem tab_zero (v : Value) (l : List Value) : tab (v :: l) 0 = v := rfl
theorem tab_succ (v : Value) (l : List Value) (j : Nat) : tab (v :: l) (j + 1) = tab l j := rfl
/-- All values into their slots, a list of slots and values at a time. -/
def putL : List (Option Tmp × Value) → Act → Act
  | [], a => a
  | (d, v) :: l, a => putL l (a.put d v)
def putT : List (Option Tmp × Value) → List Value → List Value
  | [], t => t
  | (none, _) :: l, t => putT l t
  | (some d, v) :: l, t => putT l (t.set d v)
theorem putL_eq : ∀ (l : List (Option Tmp × Value)) (ts : List Value) (df : List Deferred), putL l { tmps := ⟨ts⟩, defers := df } = { tmps := ⟨putT l ts⟩, defers := df }
  | [], _, _ => rfl
  | (none, _) :: l, ts, df => putL_eq l ts df
  | (some d, v) :: l, ts, df => by
    rw [putL, putT, ← putL_eq l (ts.set d v) df]
    simp [Act.put]
theorem putAll_tab : ∀ (os : List Oper) (i : Nat) (vs : Nat → Value) (a : Act) (ps : List (Option Tmp × Value)), ps = (os.zipIdx i).map (fun p => (p.1.dst, vs p.2)) → putAll os i vs a = putL ps a
  | [], _, _, _, _, h => by subst h; rfl
  | o :: os, i, vs, a, _, h => by
    subst h
    rw [List.zipIdx_cons, List.map_cons, putL, putAll, putAll_tab os (i + 1) vs (a.put o.dst (vs i)) _ rfl]
section
variable {P : Program} {ops : Array Oper} {Q : Exit → Act → World → Prop}
theorem putAll_congr {V V' : Nat → Value} : ∀ (os : List Oper) (i : Nat) (a : Act), (∀ j, j < i + os.length → V j = V' j) → putAll os i V a = putAll os i V' a := by
  intro os
  induction os with
  | nil => intro _ _ _; rfl
  | cons o os ih =>
    intro i a h
    simp only [List.length_cons] at h
    rw [putAll, putAll, h i (by omega), ih _ _ (fun j hj => h j (by omega))]
theorem wp_region_known {id : Nat} {a : Act} {w : World} (hm : P.follows .mixedOrders = true) (hk : okOps ops a.tmps.size = true) (hg : (ops.toList.all fun o => o.guard.isNone) = true) (V : Nat → Value)
    (J : (Nat → Bool) → World → Prop) (h0 : J (fun _ => false) w.drew)
    (hend : ∀ w' l, J l w' → (∀ j, j < ops.size → l j = true) → Q .normal (putAll ops.toList 0 V a) w')
    (hstep : ∀ (i : Nat) (o : Oper), ops[i]? = some o → ∀ (l : Nat → Bool) (act : Act) (w' : World), J l w' → l i = false →
      (o.after.all fun e => !Region.binds .any e || l e.on) = true →
      (∀ j d, dstAt ops j = some d → l j = true → act.tmps[d]?.getD undef = V j) →
      (∀ k, notDst ops k = true → act.tmps[k]?.getD undef = a.tmps[k]?.getD undef) →
      ∀ K : Act → World → Prop, (∀ w'', J (upd l i true) w'' → K (act.put o.dst (V i)) w'') → o.wp P act w' K Q) : (Code.region id ops true).wp P Q a w := by
  refine wp_region_vals hm hk (fun l vs w' => J l w' ∧ ∀ j, l j = true → vs j = V j) ⟨h0, fun _ h => by cases h⟩ ?_ ?_
  · rintro vs w' l ⟨hb, hv⟩ hl
    rw [putAll_congr (V' := V) ops.toList 0 a (fun j hj => hv j (hl j (by simpa using hj)))]
    exact hend w' l hb hl
  · rintro i o ho l vs act w' hF ⟨hb, hv⟩ hl hd
    have hno : o.guard = none := by
      have := List.all_eq_true.1 hg o (Array.mem_toList_iff.2 (Array.mem_of_getElem? ho))
      simpa using this
    rw [if_pos (by unfold Region.wanted; rw [hno])]
    intro K hK
    refine hstep i o ho l act w' hb hl hd ?_ (fun k h => hF.was h) K (fun w'' hb' => hK _ w'' ⟨hb', fun j hj => ?_⟩)
    · intro j d hj hlj
      rw [hF.val hj hlj, hv j hlj]
    · by_cases e : j = i
      · subst e; rw [upd_same]
      · rw [upd_ne _ _ e] at hj ⊢
        exact hv j hj
theorem wp_region_open {id : Nat} {a : Act} {w : World} (hm : P.follows .mixedOrders = true) (hk : okOps ops a.tmps.size = true) (hg : (ops.toList.all fun o => o.guard.isNone) = true)
    (I : (Nat → Bool) → (Nat → Value) → World → Prop)
    (h0 : I (fun _ => false) (fun _ => undef) w.drew)
    (hend : ∀ vs w' l, I l vs w' → (∀ j, j < ops.size → l j = true) → Q .normal (putAll ops.toList 0 vs a) w')
    (hstep : ∀ i o, ops[i]? = some o → ∀ l vs act w', Fr ops a l vs act → I l vs w' → l i = false → (o.after.all fun e => !Region.binds .any e || l e.on) = true →
      ∀ K : Act → World → Prop, (∀ v w'', I (upd l i true) (upd vs i v) w'' → K (act.put o.dst v) w'') → o.wp P act w' K Q) : (Code.region id ops true).wp P Q a w := by
  refine wp_region_vals hm hk I h0 hend ?_
  intro i o ho l vs act w' hF hI hl hd
  have hno : o.guard = none := by
    have := List.all_eq_true.1 hg o (Array.mem_toList_iff.2 (Array.mem_of_getElem? ho))
    simpa using this
  rw [if_pos (by unfold Region.wanted; rw [hno])]
  exact hstep i o ho l vs act w' hF hI hl hd
end
end Go.Proofs.Ytefdblaolmckmab

namespace Go.Proofs.Ytefdblaolmckmab
open Go.RowKit

section
variable {P : Program} {ops : Array Oper} {Q : Exit → Act → World → Prop}
def guardOk (ops : Array Oper) (o : Oper) : Bool :=
  match o.guard with
  | none => true
  | some (j, _) => (dstAt ops j).isSome && o.after.toList.any fun e => e.on == j && Region.binds .any e
def isBl (v : Value) (b : Bool) : Bool := match v with | .bool c => c == b | _ => false
theorem wp_region_pred {id : Nat} {a : Act} {w : World} (hm : P.follows .mixedOrders = true) (hk : okOps ops a.tmps.size = true) (hg : (ops.toList.all (guardOk ops)) = true)
    (G : Nat → Bool) (C : Nat → World → Value → Prop)
    (hst : ∀ j w' w'' v, C j w' v → Below w'.heap.size w' w'' → C j w'' v)
    (hgd : ∀ (i : Nat) (o : Oper), ops[i]? = some o → match o.guard with | none => G i = true | some (j, b) => ∀ w' v, C j w' v → isBl v b = G i)
    (hno : ∀ i w', G i = false → C i w' undef)
    (hend : ∀ vs w', Below w.heap.size w w' → (∀ j, j < ops.size → C j w' (vs j)) → Q .normal (putAll ops.toList 0 vs a) w')
    (hstep : ∀ (i : Nat) (o : Oper), ops[i]? = some o → G i = true → ∀ (act : Act) (w' : World), Below w.heap.size w w' →
      (∀ j d, dstAt ops j = some d → (o.after.toList.any fun e => e.on == j && Region.binds .any e) = true → C j w' (act.tmps[d]?.getD undef)) →
      (∀ k, notDst ops k = true → act.tmps[k]?.getD undef = a.tmps[k]?.getD undef) →
      ∀ K : Act → World → Prop, (∀ v w'', Below w'.heap.size w' w'' → C i w'' v → K (act.put o.dst v) w'') → o.wp P act w' K Q) : (Code.region id ops true).wp P Q a w := by
  refine wp_region_vals hm hk (fun l vs w' => Below w.heap.size w w' ∧ ∀ j, l j = true → C j w' (vs j)) ⟨(Below.refl _ _).drew, fun _ h => by cases h⟩ ?_ ?_
  · rintro vs w' l ⟨hb, hv⟩ hl
    exact hend vs w' hb (fun j hj => hv j (hl j hj))
  · rintro i o ho l vs act w' hF ⟨hb, hv⟩ hl hd
    have hdep : ∀ j d, dstAt ops j = some d → (o.after.toList.any fun e => e.on == j && Region.binds .any e) = true → act.tmps[d]? = some (vs j) ∧ C j w' (vs j) := by
      intro j d hj he
      obtain ⟨q, hq, h2⟩ := List.any_eq_true.1 he
      rw [Bool.and_eq_true, beq_iff_eq] at h2
      have hlj := (Array.all_eq_true_iff_forall_mem.1 hd) _ (Array.mem_toList_iff.1 hq)
      rw [h2.2, h2.1] at hlj
      have hlj' : l j = true := by simpa using hlj
      exact ⟨hF.done j d hj hlj', hv j hlj'⟩
    have hwant : Region.wanted o (yielded ops act.tmps) = G i := by
      unfold Region.wanted
      have hgo := List.all_eq_true.1 hg o (Array.mem_toList_iff.2 (Array.mem_of_getElem? ho))
      have hgo2 := hgd i o ho
      unfold guardOk at hgo
      cases hgd' : o.guard with
      | none => rw [hgd'] at hgo2; exact hgo2.symm
      | some p =>
        obtain ⟨j, b⟩ := p
        rw [hgd'] at hgo hgo2
        simp only [Bool.and_eq_true] at hgo hgo2
        obtain ⟨d, hd'⟩ := Option.isSome_iff_exists.1 hgo.1
        obtain ⟨ht, hc⟩ := hdep j d hd' hgo.2
        have e : ((ops[j]?).bind fun x => x.dst) = some d := hd'
        rw [← hgo2 w' (vs j) hc]
        simp only [yielded, e, Option.bind_some, ht]
        cases vs j <;> rfl
    rw [hwant]
    split
    case isTrue hw =>
      intro K hK
      refine hstep i o ho hw act w' hb (fun j d hj he => by rw [(hdep j d hj he).1]; exact (hdep j d hj he).2) (fun k h => hF.was h) K (fun v w'' hb' hc => hK v w'' ⟨hb.trans (hb'.mono hb.size), fun j hj => ?_⟩)
      by_cases e : j = i
      · subst e; rw [upd_same]; exact hc
      · rw [upd_ne _ _ e] at hj ⊢
        exact hst j w' w'' _ (hv j hj) hb'
    case isFalse hw =>
      refine ⟨hb, fun j hj => ?_⟩
      by_cases e : j = i
      · subst e; rw [upd_same]; exact hno _ w' (by simpa using hw)
      · rw [upd_ne _ _ e] at hj ⊢
        exact hv j hj
end
end Go.Proofs.Ytefdblaolmckmab

namespace Go.Proofs.Ytefdblaolmckmab
open Go.RowKit

section
variable {P : Program} {ops : Array Oper} {Q : Exit → Act → World → Prop}
def isBlV (v : Value) (b : Bool) : Bool := match v with | .bool c => c == b | _ => false
def gdOk (ops : Array Oper) (G : Nat → Bool) (V : Nat → Value) : Bool :=
  (List.range ops.size).all fun i => match ops[i]? with
    | none => true
    | some o => match o.guard with
      | none => G i
      | some (j, b) => isBlV (V j) b == G i
theorem wp_region_kg {id : Nat} {a : Act} {w : World} (hm : P.follows .mixedOrders = true) (hk : okOps ops a.tmps.size = true) (hg : (ops.toList.all (guardOk ops)) = true)
    (G : Nat → Bool) (V : Nat → Value) (J : (Nat → Bool) → World → Prop)
    (hgd : ∀ (i : Nat) (o : Oper), ops[i]? = some o → match o.guard with | none => G i = true | some (j, b) => isBlV (V j) b = G i)
    (h0 : J (fun _ => false) w.drew)
    (hno : ∀ i, i < ops.size → G i = false → V i = undef ∧ ∀ l w', J l w' → J (upd l i true) w')
    (hend : ∀ w' l, J l w' → (∀ j, j < ops.size → l j = true) → Q .normal (putAll ops.toList 0 V a) w')
    (hstep : ∀ (i : Nat) (o : Oper), ops[i]? = some o → G i = true → ∀ (l : Nat → Bool) (act : Act) (w' : World), J l w' → l i = false →
      (o.after.all fun e => !Region.binds .any e || l e.on) = true →
      (∀ j d, dstAt ops j = some d → l j = true → act.tmps[d]?.getD undef = V j) →
      (∀ k, notDst ops k = true → act.tmps[k]?.getD undef = a.tmps[k]?.getD undef) →
      ∀ K : Act → World → Prop, (∀ w'', J (upd l i true) w'' → K (act.put o.dst (V i)) w'') → o.wp P act w' K Q) : (Code.region id ops true).wp P Q a w := by
  refine wp_region_vals hm hk (fun l vs w' => J l w' ∧ ∀ j, j < ops.size → l j = true → vs j = V j) ⟨h0, fun _ _ h => by cases h⟩ ?_ ?_
  · rintro vs w' l ⟨hb, hv⟩ hl
    rw [putAll_congr (V' := V) ops.toList 0 a (fun j hj => hv j (by simpa using hj) (hl j (by simpa using hj)))]
    exact hend w' l hb hl
  · rintro i o ho l vs act w' hF ⟨hb, hv⟩ hl hd
    have hsz : i < ops.size := by
      rcases Nat.lt_or_ge i ops.size with h | h
      · exact h
      · simp [Array.getElem?_eq_none h] at ho
    have hdsz : ∀ j d, dstAt ops j = some d → j < ops.size := by
      intro j d hj
      rcases Nat.lt_or_ge j ops.size with h | h
      · exact h
      · simp [dstAt, Array.getElem?_eq_none h] at hj
    have hwant : Region.wanted o (yielded ops act.tmps) = G i := by
      unfold Region.wanted
      have hgo := List.all_eq_true.1 hg o (Array.mem_toList_iff.2 (Array.mem_of_getElem? ho))
      have hgo2 := hgd i o ho
      unfold guardOk at hgo
      cases hgd' : o.guard with
      | none => rw [hgd'] at hgo2; exact hgo2.symm
      | some p =>
        obtain ⟨j, b⟩ := p
        rw [hgd'] at hgo hgo2
        simp only [Bool.and_eq_true] at hgo hgo2
        obtain ⟨d, hd'⟩ := Option.isSome_iff_exists.1 hgo.1
        obtain ⟨q, hq, h2⟩ := List.any_eq_true.1 hgo.2
        rw [Bool.and_eq_true, beq_iff_eq] at h2
        have hlj := (Array.all_eq_true_iff_forall_mem.1 hd) _ (Array.mem_toList_iff.1 hq)
        rw [h2.2, h2.1] at hlj
        have hlj' : l j = true := by simpa using hlj
        have ht := hF.done j d hd' hlj'
        rw [hv j (hdsz j d hd') hlj'] at ht
        have e : ((ops[j]?).bind fun x => x.dst) = some d := hd'
        rw [← hgo2]
        simp only [yielded, e, Option.bind_some, ht]
        cases V j <;> rfl
    rw [hwant]
    split
    case isTrue hw =>
      intro K hK
      refine hstep i o ho hw l act w' hb hl hd (fun j d hj hlj => ?_) (fun k h => hF.was h) K (fun w'' hb' => hK _ w'' ⟨hb', fun j hjs hj => ?_⟩)
      · rw [hF.val hj hlj, hv j (hdsz j d hj) hlj]
      · by_cases e : j = i
        · subst e; rw [upd_same]
        · rw [upd_ne _ _ e] at hj ⊢
          exact hv j hjs hj
    case isFalse hw =>
      have hn := hno i hsz (by simpa using hw)
      refine ⟨hn.2 l w' hb, fun j hjs hj => ?_⟩
      by_cases e : j = i
      · subst e; rw [upd_same]; exact hn.1.symm
      · rw [upd_ne _ _ e] at hj ⊢
        exact hv j hjs hj
end
end Go.Proofs.Ytefdblaolmckmab
