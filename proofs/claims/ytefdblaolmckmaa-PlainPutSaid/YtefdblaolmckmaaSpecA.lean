/- What package parts computes, as plain functions on whole numbers; and the plain laws of chapter 1. -/
namespace Brood

/-- Bit k, under a name that simp does not open. -/
def tb (s k : Nat) : Bool := s.testBit k
/-- The number of the i highest of eight bits; of all eight. -/
def numUp (b : Nat → Bool) : Nat → Nat
  | 0 => 0
  | i + 1 => 2 * numUp b i + if b (7 - i) then 1 else 0
def numB (b : Nat → Bool) : Nat := numUp b 8
def isSet (n : Int) : Bool := decide (0 ≤ n ∧ n ≤ 255)
def isPart (n : Int) : Bool := decide (0 ≤ n ∧ n < 8)
def isVal (n : Int) : Bool := decide (-1000000 ≤ n ∧ n ≤ 1000000)
def hasB (s k : Int) : Bool := isPart k && s.toNat.testBit k.toNat
def withS (s k : Int) : Int := if isPart k then ((s.toNat ||| 2 ^ k.toNat : Nat) : Int) else s
def withoutS (s k : Int) : Int := if hasB s k then s - ((2 ^ k.toNat : Nat) : Int) else s
def listN (s : Nat) (m : Nat) : List Nat := (List.range m).filter fun k => s.testBit k
def listS (s : Int) : List Int := (listN s.toNat 8).map fun (k : Nat) => (k : Int)
def countS (s : Int) : Int := ((listN s.toNat 8).length : Int)
def meetsB (a n h : Int) : Bool := (h.toNat &&& a.toNat == a.toNat) && (h.toNat &&& n.toNat == 0)
def clip (n : Int) : Int := if n > 1000000 then 1000000 else if n < -1000000 then -1000000 else n

theorem isSet_iff {n : Int} : isSet n = true ↔ 0 ≤ n ∧ n ≤ 255 := by simp [isSet]
theorem isPart_iff {n : Int} : isPart n = true ↔ 0 ≤ n ∧ n < 8 := by simp [isPart]
theorem isVal_iff {n : Int} : isVal n = true ↔ -1000000 ≤ n ∧ n ≤ 1000000 := by simp [isVal]
theorem isPart_false {n : Int} : isPart n = false ↔ n < 0 ∨ 8 ≤ n := by simp [isPart]; omega
theorem isSet_false {n : Int} : isSet n = false ↔ n < 0 ∨ 255 < n := by simp [isSet]; omega
theorem isVal_false {n : Int} : isVal n = false ↔ n < -1000000 ∨ 1000000 < n := by simp [isVal]; omega

theorem nat_of {n : Int} (h : 0 ≤ n) : ∃ m : Nat, n = m := ⟨n.toNat, by omega⟩

theorem without_set {s k : Int} (hs : isSet s = true) : isSet (withoutS s k) = true := by
  rw [isSet_iff] at *
  unfold withoutS
  split
  · rename_i h
    simp only [hasB, Bool.and_eq_true] at h
    have := Nat.ge_two_pow_of_testBit h.2
    have h2 : (2 ^ k.toNat : Nat) ≤ s.toNat := this
    have h3 : 0 < 2 ^ k.toNat := Nat.pos_of_ne_zero (by simp)
    omega
  · exact hs
theorem with_set {s k : Int} (hs : isSet s = true) : isSet (withS s k) = true := by
  rw [isSet_iff] at *
  unfold withS
  split
  · rename_i h
    rw [isPart_iff] at h
    have h1 : s.toNat < 2 ^ 8 := by omega
    have h2 : 2 ^ k.toNat < 2 ^ 8 := Nat.pow_lt_pow_right (by omega) (by omega)
    have := Nat.or_lt_two_pow h1 h2
    omega
  · exact hs
theorem has_with {s k j : Int} : hasB (withS s k) j = (hasB s j || (decide (j = k) && isPart k)) := by
  unfold hasB withS
  by_cases hk : isPart k = true
  · rw [if_pos hk]
    by_cases hj : isPart j = true
    · rw [isPart_iff] at hk hj
      have : isPart k = true := isPart_iff.2 hk
      simp only [Int.toNat_natCast, Nat.testBit_or, Nat.testBit_two_pow, this, isPart_iff.2 hj, Bool.true_and, Bool.and_true]
      congr 1
      rw [decide_eq_decide]
      omega
    · have hj' : isPart j = false := by simpa using hj
      have : ¬ j = k := by rintro rfl; exact hj hk
      simp [hj', this]
  · have hk' : isPart k = false := by simpa using hk
    rw [if_neg hk]
    simp [hk']
theorem has_without {s k j : Int} (hs : isSet s = true) : hasB (withoutS s k) j = (hasB s j && !decide (j = k)) := by
  by_cases hk : hasB s k = true
  · have hk0 := hk
    unfold withoutS
    rw [if_pos hk]
    simp only [hasB, Bool.and_eq_true] at hk
    rw [isSet_iff] at hs
    obtain ⟨m, rfl⟩ := nat_of hs.1
    have hp := isPart_iff.1 hk.1
    obtain ⟨q, rfl⟩ := nat_of hp.1
    simp only [Int.toNat_natCast] at hk ⊢
    have hge := Nat.ge_two_pow_of_testBit hk.2
    unfold hasB
    by_cases hj : isPart j = true
    · have hjp := isPart_iff.1 hj
      obtain ⟨r, rfl⟩ := nat_of hjp.1
      have hm : m < 256 := by omega
      have hq : q < 8 := by omega
      have hr : r < 8 := by omega
      have key : ∀ m, m < 256 → ∀ q, q < 8 → ∀ r, r < 8 → m.testBit q = true → (m - 2 ^ q).testBit r = (m.testBit r && !decide (r = q)) := by decide +kernel
      have e : ((m : Int) - ((2 ^ q : Nat) : Int)).toNat = m - 2 ^ q := by omega
      have e2 : decide ((r : Int) = (q : Int)) = decide (r = q) := by rw [decide_eq_decide]; omega
      rw [e, hj, Int.toNat_natCast, key m hm q hq r hr hk.2, e2]
      simp
    · simp [hj]
  · have hk' : hasB s k = false := by simpa using hk
    unfold withoutS
    rw [if_neg hk]
    by_cases hj : j = k
    · subst hj; simp [hk']
    · simp [hj]
theorem count_le (s : Int) : 0 ≤ countS s ∧ countS s ≤ 8 := by
  unfold countS listN
  have := List.length_filter_le (fun k => s.toNat.testBit k) (List.range 8)
  simp only [List.length_range] at this
  omega

-- the plain laws
theorem more_with {a h k : Int} (ha : isSet a = true) (hh : isSet h = true) (hm : meetsB a 0 h = true) : meetsB a 0 (withS h k) = true := by
  rw [isSet_iff] at *
  obtain ⟨a, rfl⟩ := nat_of ha.1
  obtain ⟨h, rfl⟩ := nat_of hh.1
  unfold withS
  split
  · rename_i hk
    rw [isPart_iff] at hk
    obtain ⟨k, rfl⟩ := nat_of hk.1
    simp only [meetsB, Int.toNat_natCast, Bool.and_eq_true, beq_iff_eq] at hm ⊢
    refine ⟨?_, by simp⟩
    apply Nat.eq_of_testBit_eq
    intro i
    have := congrArg (fun n => n.testBit i) hm.1
    simp only [Nat.testBit_and, Nat.testBit_or] at this ⊢
    revert this
    cases h.testBit i <;> cases a.testBit i <;> simp
  · exact hm
theorem more_without {n h k : Int} (hn : isSet n = true) (hh : isSet h = true) (hm : meetsB 0 n h = true) : meetsB 0 n (withoutS h k) = true := by
  unfold withoutS
  split
  · rename_i hk
    simp only [hasB, Bool.and_eq_true] at hk
    have hp := isPart_iff.1 hk.1
    rw [isSet_iff] at *
    obtain ⟨n, rfl⟩ := nat_of hn.1
    obtain ⟨h, rfl⟩ := nat_of hh.1
    obtain ⟨k, rfl⟩ := nat_of hp.1
    simp only [Int.toNat_natCast] at hk ⊢
    have hge := Nat.ge_two_pow_of_testBit hk.2
    simp only [meetsB, Int.toNat_natCast, Bool.and_eq_true, beq_iff_eq] at hm ⊢
    refine ⟨by simp, ?_⟩
    have e : ((h : Int) - ((2 ^ k : Nat) : Int)).toNat = h - 2 ^ k := by omega
    rw [e]
    have key : ∀ h, h < 256 → ∀ k, k < 8 → h.testBit k = true → h - 2 ^ k = h &&& (255 ^^^ 2 ^ k) := by decide +kernel
    rw [key h (by omega) k (by omega) hk.2]
    apply Nat.eq_of_testBit_eq
    intro i
    have := congrArg (fun n => n.testBit i) hm.2
    simp only [Nat.testBit_and, Nat.zero_testBit] at this ⊢
    revert this
    cases h.testBit i <;> cases n.testBit i <;> simp
  · exact hm
theorem meets_both (a n h : Int) : meetsB a n h = (meetsB a 0 h && meetsB 0 n h) := by
  simp [meetsB]
end Brood
