/- Systems in a row: what is wrong with them; their batches. -/
import Derived.Test.YtefdblaolmckmaaSpecB
namespace Brood

def wrongsFrom : Nat → List BSys → Int × Int
  | _, [] => (0, 0)
  | i, s :: l => if (sysWrong s).1 ≠ 0 then ((sysWrong s).1, (i : Int)) else wrongsFrom (i + 1) l
def batchWrong (l : List BSys) : Int × Int := if 12 < l.length then (4, 0) else wrongsFrom 0 l
theorem wrongs_right : ∀ (l : List BSys) (i : Nat), (wrongsFrom i l).1 = 0 → ∀ s ∈ l, (sysWrong s).1 = 0 := by
  intro l
  induction l with
  | nil => intro i _ s hs; cases hs
  | cons x l ih =>
    intro i h s hs
    by_cases hx : (sysWrong x).1 = 0
    · rw [wrongsFrom, if_neg (by simpa using hx)] at h
      rcases List.mem_cons.1 hs with rfl | hs
      · exact hx
      · exact ih _ h s hs
    · rw [wrongsFrom, if_pos hx] at h
      exact absurd h hx

/-- Does one of these clash with s? -/
def anyB (ss : List BSys) (s : BSys) (js : List Nat) : Bool := js.any fun j => match ss[j]? with | some y => clash y s | none => false
/-- The first batch behind all those in which one clashes. -/
def atFrom (p : List Nat → Bool) : Nat → Nat → List (List Nat) → Nat
  | a, _, [] => a
  | a, k, b :: bs => atFrom p (if p b then k + 1 else a) (k + 1) bs
theorem atFrom_le (p : List Nat → Bool) : ∀ (bs : List (List Nat)) (a k : Nat), a ≤ k → atFrom p a k bs ≤ k + bs.length := by
  intro bs
  induction bs with
  | nil => intro a k h; simp only [atFrom, List.length_nil]; omega
  | cons b bs ih =>
    intro a k h
    rw [atFrom]
    have := ih (if p b then k + 1 else a) (k + 1) (by split <;> omega)
    simp only [List.length_cons]
    omega
def makeAt (ss : List BSys) (s : BSys) (rows : List (List Nat)) : Nat := atFrom (anyB ss s) 0 0 rows
/-- With one row more, if system s wants it. -/
def roomy (a : Nat) (rows : List (List Nat)) : List (List Nat) := if a = rows.length then rows ++ [[]] else rows
def makeStep (ss : List BSys) (rows : List (List Nat)) (i : Nat) (s : BSys) : List (List Nat) :=
  (roomy (makeAt ss s rows) rows).set (makeAt ss s rows) ((roomy (makeAt ss s rows) rows).getD (makeAt ss s rows) [] ++ [i])
def makeFrom (ss : List BSys) : Nat → List (List Nat) → List BSys → List (List Nat)
  | _, rows, [] => rows
  | i, rows, s :: l => makeFrom ss (i + 1) (makeStep ss rows i s) l
def makeRows (ss : List BSys) : List (List Nat) := makeFrom ss 0 [] ss
/-- So many systems' batches: no more rows than systems, none longer, all numbers below. -/
def Bound (i : Nat) (rows : List (List Nat)) : Prop := rows.length ≤ i ∧ ∀ r ∈ rows, r.length ≤ i ∧ ∀ j ∈ r, j < i
theorem makeAt_le (ss : List BSys) (s : BSys) (rows : List (List Nat)) : makeAt ss s rows ≤ rows.length := by
  have := atFrom_le (anyB ss s) rows 0 0 (Nat.le_refl _)
  unfold makeAt; omega
theorem roomy_lt (ss : List BSys) (s : BSys) (rows : List (List Nat)) : makeAt ss s rows < (roomy (makeAt ss s rows) rows).length := by
  have := makeAt_le ss s rows
  unfold roomy
  split
  · simp; omega
  · omega
theorem bound_roomy {i a : Nat} {rows : List (List Nat)} (h : Bound i rows) : (roomy a rows).length ≤ i + 1 ∧ ∀ r ∈ roomy a rows, r.length ≤ i ∧ ∀ j ∈ r, j < i := by
  unfold roomy
  split
  · refine ⟨by simp; exact h.1, fun r hr => ?_⟩
    rcases List.mem_append.1 hr with hr | hr
    · exact h.2 r hr
    · have : r = [] := by simpa using hr
      subst this
      exact ⟨by simp, fun j hj => by cases hj⟩
  · exact ⟨Nat.le_succ_of_le h.1, h.2⟩
theorem bound_step (ss : List BSys) {i : Nat} {rows : List (List Nat)} (s : BSys) (h : Bound i rows) : Bound (i + 1) (makeStep ss rows i s) := by
  obtain ⟨h1, h2⟩ := bound_roomy (a := makeAt ss s rows) h
  have hlt := roomy_lt ss s rows
  unfold makeStep
  generalize roomy (makeAt ss s rows) rows = R at *
  generalize makeAt ss s rows = a at *
  refine ⟨by simpa using h1, fun r hr => ?_⟩
  rcases List.mem_or_eq_of_mem_set hr with hr | hr
  · have := h2 r hr
    exact ⟨by omega, fun j hj => by have := this.2 j hj; omega⟩
  · have hg : R.getD a [] = R[a] := by simp [List.getD_eq_getElem?_getD, hlt]
    rw [hg] at hr
    have := h2 R[a] (List.getElem_mem hlt)
    subst hr
    refine ⟨by simp; omega, fun j hj => ?_⟩
    rcases List.mem_append.1 hj with hj | hj
    · have := this.2 j hj; omega
    · have : j = i := by simpa using hj
      omega
end Brood
