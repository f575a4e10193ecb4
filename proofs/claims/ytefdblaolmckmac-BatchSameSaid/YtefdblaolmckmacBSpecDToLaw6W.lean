/- The plain law of the batches: each once, none empty, who clashes later, none could stand earlier. The document's batches are the program's: plain law. Batch by batch as one by one. The walks of slices.Grow (of nil), slices.Concat (of slices of ints) and batch.Order. A block that is read as a slice. The walk of alive of chapter 6. -/
import Derived.Lib.AppendZeros
import Derived.Laws.AppendOwnNone
import Derived.Test.YtefdblaolmckmacBRunA7ToRunR
import Derived.Test.YtefdblaolmckmacBSpecZAToRef3S
import Derived.Test.YtefdblaolmckmacBPlainAToHp
import Derived.Test.YtefdblaolmckmacBRowToInv
import Derived.Test.YtefdblaolmckmacBBatBToOwnR
import Derived.Test.YtefdblaolmckmacBRuleNToClash
namespace Brood
def At (rows : List (List Nat)) (q i : Nat) : Prop := ∃ r, rows[q]? = some r ∧ i ∈ r
def clashAt (ss : List BSys) (j i : Nat) : Bool := match ss[j]?, ss[i]? with | some y, some s => clash y s | _, _ => false
theorem atFrom_spec (p : List Nat → Bool) : ∀ (bs : List (List Nat)) (a0 k : Nat), a0 ≤ k →
    (∀ q b, bs[q]? = some b → p b = true → k + q < atFrom p a0 k bs) ∧ (atFrom p a0 k bs = a0 ∨ ∃ q b, bs[q]? = some b ∧ p b = true ∧ atFrom p a0 k bs = k + q + 1) ∧ a0 ≤ atFrom p a0 k bs := by
  intro bs
  induction bs with
  | nil => intro a0 k h; exact ⟨fun q b hb => by simp at hb, .inl rfl, Nat.le_refl _⟩
  | cons b bs ih =>
    intro a0 k h
    rw [atFrom]
    have h' := ih (if p b then k + 1 else a0) (k + 1) (by split <;> omega)
    obtain ⟨h1, h2, h3⟩ := h'
    refine ⟨?_, ?_, ?_⟩
    · intro q c hc hp
      cases q with
      | zero =>
        simp at hc
        subst hc
        rw [if_pos hp] at h3 ⊢
        omega
      | succ q =>
        have := h1 q c (by simpa using hc) hp
        omega
    · rcases h2 with h2 | ⟨q, c, hc, hp, h2⟩
      · by_cases hp : p b = true
        · rw [if_pos hp] at h2 ⊢
          exact .inr ⟨0, b, rfl, hp, by omega⟩
        · rw [if_neg hp] at h2 ⊢
          exact .inl h2
      · exact .inr ⟨q + 1, c, by simpa using hc, hp, by omega⟩
    · by_cases hp : p b = true
      · rw [if_pos hp] at h3 ⊢; omega
      · rw [if_neg hp] at h3 ⊢; omega
theorem anyB_iff (ss : List BSys) (s : BSys) (js : List Nat) : anyB ss s js = true ↔ ∃ j ∈ js, ∃ y, ss[j]? = some y ∧ clash y s = true := by
  unfold anyB
  rw [List.any_eq_true]
  constructor
  · rintro ⟨j, hj, h⟩
    cases hy : ss[j]? with
    | none => rw [hy] at h; cases h
    | some y => rw [hy] at h; exact ⟨j, hj, y, hy, h⟩
  · rintro ⟨j, hj, y, hy, h⟩
    exact ⟨j, hj, by rw [hy]; exact h⟩
theorem set_flat (l : List (List Nat)) (k : Nat) : ∀ a, a < l.length → ((l.set a (l.getD a [] ++ [k])).flatten).Perm (k :: l.flatten) := by
  induction l with
  | nil => intro a h; simp at h
  | cons r l ih =>
    intro a h
    cases a with
    | zero =>
      simp only [List.set_cons_zero, List.flatten_cons, List.getD_cons_zero, List.append_assoc]
      exact List.perm_middle
    | succ a =>
      simp only [List.set_cons_succ, List.flatten_cons, List.getD_cons_succ]
      exact ((ih a (by simpa using h)).append_left r).trans List.perm_middle
theorem roomy_flat (a : Nat) (rows : List (List Nat)) : (roomy a rows).flatten = rows.flatten := by
  unfold roomy; split <;> simp
theorem step_at {ss : List BSys} {rows : List (List Nat)} {k : Nat} {s : BSys} (q i : Nat) :
    At (makeStep ss rows k s) q i ↔ At rows q i ∨ (q = makeAt ss s rows ∧ i = k) := by
  have hle := makeAt_le ss s rows
  have hlt := roomy_lt ss s rows
  have hold : ∀ q i, At (roomy (makeAt ss s rows) rows) q i ↔ At rows q i := by
    intro q i
    unfold roomy
    split
    · constructor
      · rintro ⟨r, hr, hi⟩
        by_cases hq : q < rows.length
        · rw [List.getElem?_append_left hq] at hr; exact ⟨r, hr, hi⟩
        · rw [List.getElem?_append_right (by omega)] at hr
          have : r = [] := by have := List.mem_of_getElem? hr; simpa using this
          subst this; cases hi
      · rintro ⟨r, hr, hi⟩
        exact ⟨r, by rw [List.getElem?_append_left (List.getElem?_eq_some_iff.1 hr).1]; exact hr, hi⟩
    · rfl
  rw [← hold]
  unfold makeStep
  generalize roomy (makeAt ss s rows) rows = R at *
  generalize makeAt ss s rows = a at *
  have hg : R.getD a [] = R[a] := by simp [List.getD_eq_getElem?_getD, hlt]
  rw [hg]
  constructor
  · rintro ⟨r, hr, hi⟩
    by_cases hq : q = a
    · subst hq
      rw [List.getElem?_set_self hlt] at hr
      obtain rfl := Option.some.inj hr
      rcases List.mem_append.1 hi with hi | hi
      · exact .inl ⟨R[q], List.getElem?_eq_getElem hlt, hi⟩
      · exact .inr ⟨rfl, by simpa using hi⟩
    · rw [List.getElem?_set_ne (by omega)] at hr
      exact .inl ⟨r, hr, hi⟩
  · rintro (⟨r, hr, hi⟩ | ⟨rfl, rfl⟩)
    · by_cases hq : q = a
      · subst hq
        rw [List.getElem?_eq_getElem hlt] at hr
        obtain rfl := Option.some.inj hr
        exact ⟨_, List.getElem?_set_self hlt, List.mem_append_left _ hi⟩
      · exact ⟨r, by rw [List.getElem?_set_ne (by omega)]; exact hr, hi⟩
    · exact ⟨_, List.getElem?_set_self hlt, by simp⟩
structure LevInv (ss : List BSys) (k : Nat) (rows : List (List Nat)) : Prop where
  perm : rows.flatten.Perm (List.range k)
  ne : ∀ r ∈ rows, r ≠ []
  up : ∀ q q' j i, At rows q j → At rows q' i → j < i → clashAt ss j i = true → q < q'
  held : ∀ q i, At rows q i → q = 0 ∨ ∃ j, At rows (q - 1) j ∧ j < i ∧ clashAt ss j i = true
theorem LevInv.lt {ss : List BSys} {k : Nat} {rows : List (List Nat)} (h : LevInv ss k rows) {q i : Nat} (hi : At rows q i) : i < k := by
  obtain ⟨r, hr, hi⟩ := hi
  have : i ∈ rows.flatten := List.mem_flatten.2 ⟨r, List.mem_of_getElem? hr, hi⟩
  exact List.mem_range.1 (h.perm.mem_iff.1 this)
theorem lev_step {ss : List BSys} {k : Nat} {rows : List (List Nat)} {s : BSys} (hs : ss[k]? = some s) (h : LevInv ss k rows) : LevInv ss (k + 1) (makeStep ss rows k s) := by
  have hsp := atFrom_spec (anyB ss s) rows 0 0 (Nat.le_refl _)
  have hat : makeAt ss s rows = atFrom (anyB ss s) 0 0 rows := rfl
  rw [← hat] at hsp
  obtain ⟨h1, h2, _⟩ := hsp
  have hcl : ∀ j y, ss[j]? = some y → clashAt ss j k = clash y s := by intro j y hy; simp [clashAt, hy, hs]
  have hlt := roomy_lt ss s rows
  have hle := makeAt_le ss s rows
  refine ⟨?_, ?_, ?_, ?_⟩
  · have := set_flat (roomy (makeAt ss s rows) rows) k _ hlt
    rw [roomy_flat] at this
    refine List.Perm.trans this ?_
    rw [List.range_succ]
    exact ((h.perm.cons k).trans (List.perm_append_singleton k (List.range k)).symm)
  · intro r hr hr0
    subst hr0
    unfold makeStep at hr
    obtain ⟨q, hq⟩ := List.getElem?_of_mem hr
    by_cases e : q = makeAt ss s rows
    · subst e
      rw [List.getElem?_set_self hlt] at hq
      simp at hq
    · rw [List.getElem?_set_ne (by omega)] at hq
      unfold roomy at hq
      split at hq
      · by_cases hq' : q < rows.length
        · rw [List.getElem?_append_left hq'] at hq
          exact h.ne [] (List.mem_of_getElem? hq) rfl
        · rw [List.getElem?_append_right (by omega)] at hq
          have := (List.getElem?_eq_some_iff.1 hq).1
          simp at this
          omega
      · exact h.ne [] (List.mem_of_getElem? hq) rfl
  · intro q q' j i hj hi hji hc
    rw [step_at] at hj hi
    rcases hi with hi | ⟨rfl, rfl⟩
    · rcases hj with hj | ⟨rfl, rfl⟩
      · exact h.up q q' j i hj hi hji hc
      · have := h.lt hi; omega
    · rcases hj with hj | ⟨rfl, rfl⟩
      · obtain ⟨r, hr, hjr⟩ := hj
        cases hy : ss[j]? with
        | none => simp [clashAt, hy] at hc
        | some y =>
          rw [hcl j y hy] at hc
          have := h1 q r hr ((anyB_iff ss s r).2 ⟨j, hjr, y, hy, hc⟩)
          omega
      · omega
  · intro q i hi
    rw [step_at] at hi
    rcases hi with hi | ⟨rfl, rfl⟩
    · rcases h.held q i hi with h' | ⟨j, hj, hji, hc⟩
      · exact .inl h'
      · exact .inr ⟨j, (step_at _ _).2 (.inl hj), hji, hc⟩
    · rcases h2 with h2 | ⟨q, b, hb, hp, h2⟩
      · exact .inl h2
      · obtain ⟨j, hj, y, hy, hc⟩ := (anyB_iff ss s b).1 hp
        have hA : At rows q j := ⟨b, hb, hj⟩
        refine .inr ⟨j, (step_at _ _).2 (.inl ?_), h.lt hA, by rw [hcl j y hy]; exact hc⟩
        have : makeAt ss s rows - 1 = q := by omega
        rw [this]; exact hA
theorem lev_from (ss : List BSys) : ∀ (l : List BSys) (k : Nat) (rows : List (List Nat)), l = ss.drop k → k ≤ ss.length → LevInv ss k rows → LevInv ss ss.length (makeFrom ss k rows l) := by
  intro l
  induction l with
  | nil =>
    intro k rows h hk hi
    have : k = ss.length := by
      have := congrArg List.length h
      simp at this
      omega
    subst this
    exact hi
  | cons s l ih =>
    intro k rows h hk hi
    have hlt : k < ss.length := by
      have := congrArg List.length h
      simp at this
      omega
    rw [List.drop_eq_getElem_cons hlt] at h
    injection h with h1 h2
    refine ih (k + 1) _ h2 hlt (lev_step ?_ hi)
    rw [List.getElem?_eq_getElem hlt, h1]
theorem lev_rows (ss : List BSys) : LevInv ss ss.length (makeRows ss) :=
  lev_from ss ss 0 [] (by simp) (Nat.zero_le _) ⟨List.Perm.refl _, (fun r hr => by cases hr), (fun q q' j i hj _ _ _ => by obtain ⟨r, hr, _⟩ := hj; cases hr), (fun q i hi => by obtain ⟨r, hr, _⟩ := hi; cases hr)⟩
theorem at_unique {rows : List (List Nat)} (h : rows.flatten.Nodup) {q q' i : Nat} (h1 : At rows q i) (h2 : At rows q' i) : q = q' := by
  induction rows generalizing q q' with
  | nil => obtain ⟨r, hr, _⟩ := h1; simp at hr
  | cons r rows ih =>
    rw [List.flatten_cons, List.nodup_append] at h
    obtain ⟨ha, hb, hc⟩ := h
    obtain ⟨r1, hr1, hi1⟩ := h1
    obtain ⟨r2, hr2, hi2⟩ := h2
    cases q with
    | zero =>
      cases q' with
      | zero => rfl
      | succ q' =>
        simp at hr1 hr2
        subst hr1
        exact absurd rfl (hc i hi1 i (List.mem_flatten.2 ⟨r2, List.mem_of_getElem? hr2, hi2⟩))
    | succ q =>
      cases q' with
      | zero =>
        simp at hr1 hr2
        subst hr2
        exact absurd rfl (hc i hi2 i (List.mem_flatten.2 ⟨r1, List.mem_of_getElem? hr1, hi1⟩))
      | succ q' =>
        simp at hr1 hr2
        exact congrArg (· + 1) (ih hb ⟨r1, hr1, hi1⟩ ⟨r2, hr2, hi2⟩)
end Brood

namespace Brood
section
variable (ss : List BSys) (rows : List (List Nat))
end
section
variable {ss : List BSys} {rows : List (List Nat)}
end
end Brood

namespace Go.Proofs.Ytefdblaolmckmac
open Brood
set_option linter.unusedVariables false
set_option linter.unusedSimpArgs false
def allE : BWorld → List BSys → BWorld × Int
  | W, [] => (W, 0)
  | W, x :: l => if (runM W x).err ≠ 0 then (⟨[], []⟩, (runM W x).err) else allE (bw (runM W x)) l
theorem allM_E : ∀ (l : List BSys) (i : Nat) (W : BWorld), (allM i W l).1 = (allE W l).1 ∧ (allM i W l).2.1 = (allE W l).2
  | [], _, _ => ⟨rfl, rfl⟩
  | x :: l, i, W => by
    rw [allM, allE]
    split
    · exact ⟨rfl, rfl⟩
    · exact allM_E l _ _
theorem allE_right : ∀ (l : List BSys) (W : BWorld), RightB W → (allE W l).2 = 0 → RightB (allE W l).1
  | [], W, hw, _ => hw
  | x :: l, W, hw, h => by
    rw [allE] at h ⊢
    split at h
    · rename_i h1; exact absurd h h1
    · rename_i h1
      rw [if_neg h1]
      exact allE_right l _ (runM_right (by simpa using h1) hw) h
theorem allE_swap {W : BWorld} {x y : BSys} (l : List BSys) (hw : RightB W) (hx : (sysWrong x).1 = 0) (hy : (sysWrong y).1 = 0) (hc : clash x y = false) : allE W (x :: y :: l) = allE W (y :: x :: l) := by
  obtain ⟨h1, h2, h3, h4, h5⟩ := run_two hw hx hy hc
  rw [allE, if_neg (by simpa using h1), allE, if_neg (by simpa using h3), h5, allE, if_neg (by simpa using h2), allE, if_neg (by simpa using h4)]
theorem allE_cons_congr {W : BWorld} {x : BSys} {l m : List BSys} (hw : RightB W) (h : ∀ V, RightB V → allE V l = allE V m) : allE W (x :: l) = allE W (x :: m) := by
  rw [allE, allE]
  split
  · rfl
  · rename_i h1; exact h _ (runM_right (by simpa using h1) hw)
theorem move_front {x : BSys} (hx : (sysWrong x).1 = 0) (rest : List BSys) : ∀ {m : List BSys} {W : BWorld}, RightB W → (∀ y ∈ m, (sysWrong y).1 = 0 ∧ clash y x = false) → allE W (m ++ x :: rest) = allE W (x :: (m ++ rest))
  | [], _, _, _ => rfl
  | y :: m, W, hw, h => by
    have h1 : allE W (y :: (m ++ x :: rest)) = allE W (y :: (x :: (m ++ rest))) := allE_cons_congr hw fun V hV => move_front hx rest hV fun z hz => h z (by simp [hz])
    show allE W (y :: (m ++ x :: rest)) = allE W (x :: (y :: (m ++ rest)))
    rw [h1]
    exact allE_swap _ hw (h y (by simp)).1 hx (h y (by simp)).2
theorem all_perm {s : Nat → BSys} : ∀ {l m : List Nat} {W : BWorld}, RightB W → (∀ i ∈ l, (sysWrong (s i)).1 = 0) → l.Pairwise (· < ·) → l.Perm m → m.Pairwise (fun a b => clash (s a) (s b) = true → a < b) → allE W (l.map s) = allE W (m.map s)
  | [], m, W, _, _, _, hp, _ => by rw [hp.symm.eq_nil]
  | i :: l, m, W, hw, hs, hl, hp, hm => by
    obtain ⟨m1, m2, rfl⟩ := List.append_of_mem (hp.mem_iff.1 (List.mem_cons_self ..))
    have hl' := List.pairwise_cons.1 hl
    have hp2 : l.Perm (m1 ++ m2) := List.Perm.cons_inv (hp.trans List.perm_middle)
    have hlt : ∀ y ∈ m1 ++ m2, i < y := fun y hy => hl'.1 y (hp2.mem_iff.2 hy)
    have hmm := List.pairwise_append.1 hm
    have e : allE W ((m1 ++ i :: m2).map s) = allE W (s i :: (m1 ++ m2).map s) := by
      rw [List.map_append, List.map_cons, List.map_append]
      refine move_front (hs i (by simp)) _ hw ?_
      intro z hz
      obtain ⟨y, hy, rfl⟩ := List.mem_map.1 hz
      have hy2 : y ∈ m1 ++ m2 := List.mem_append_left _ hy
      refine ⟨hs y (by simp [hp2.mem_iff.2 hy2]), ?_⟩
      cases hc : clash (s y) (s i) with
      | false => rfl
      | true =>
        have := hmm.2.2 y hy i (by simp) hc
        have := hlt y hy2
        omega
    rw [e, List.map_cons]
    refine allE_cons_congr hw fun V hV => all_perm hV (fun j hj => hs j (by simp [hj])) hl'.2 hp2 ?_
    refine hm.sublist ?_
    exact List.Sublist.append (List.Sublist.refl _) (List.sublist_cons_self _ _)
theorem meetS_or' (a b c : Int) : meetS a (orS b c) = (meetS a b || meetS a c) := by
  unfold meetS orS
  rw [Int.toNat_natCast, Nat.and_or_distrib_left, Bool.eq_iff_iff]
  simp only [Bool.not_eq_true', Bool.or_eq_true, beq_eq_false_iff_ne, ne_eq, Nat.or_eq_zero_iff]
  constructor
  · intro h
    by_cases h1 : a.toNat &&& b.toNat = 0
    · exact .inr fun h2 => h ⟨h1, h2⟩
    · exact .inl h1
  · rintro (h | h) ⟨h1, h2⟩
    · exact h h1
    · exact h h2
theorem meetS_comm' (a b : Int) : meetS a b = meetS b a := by unfold meetS; rw [Nat.and_comm]
theorem clash_comm' (s t : BSys) : clash s t = clash t s := by
  unfold clash clashN
  rw [meetS_or', meetS_or', meetS_comm' (needs s).writes (needs t).reads, meetS_comm' (needs s).writes (needs t).writes, meetS_comm' (needs t).writes (needs s).reads, meetS_comm' (needs s).reads (needs t).writes]
  generalize (needs s).moves = a; generalize (needs t).moves = b; generalize (needs s).life = c; generalize (needs t).life = d
  generalize meetS (needs t).reads (needs s).writes = e; generalize meetS (needs t).writes (needs s).writes = f; generalize meetS (needs t).writes (needs s).reads = g
  cases a <;> cases b <;> cases c <;> cases d <;> cases e <;> cases f <;> cases g <;> rfl
def sysAt (ss : List BSys) (i : Nat) : BSys := (ss[i]?).getD ⟨0, 0, 0, []⟩
theorem sysAt_get {ss : List BSys} {i : Nat} (h : i < ss.length) : ss[i]? = some (sysAt ss i) := by unfold sysAt; rw [List.getElem?_eq_getElem h]; rfl
theorem sysAt_map (ss : List BSys) : (List.range ss.length).map (sysAt ss) = ss := by
  refine List.ext_getElem? fun j => ?_
  by_cases h : j < ss.length
  · rw [List.getElem?_map, List.getElem?_range h, sysAt_get h]; rfl
  · rw [List.getElem?_eq_none (by simp; omega), List.getElem?_eq_none (by omega)]
def turnRow (turn : Bool) (r : List Nat) : List Nat := if turn then r.reverse else r
theorem turnRow_perm (turn : Bool) (r : List Nat) : (turnRow turn r).Perm r := by
  unfold turnRow
  split
  · exact List.reverse_perm r
  · exact List.Perm.refl _
def turned (turn : Bool) (rows : List (List Nat)) : List Nat := (rows.map (turnRow turn)).flatten
theorem turned_perm (turn : Bool) : ∀ rows : List (List Nat), (turned turn rows).Perm rows.flatten
  | [] => List.Perm.refl _
  | r :: l => (turnRow_perm turn r).append (turned_perm turn l)
theorem turned_order {ss : List BSys} {rows : List (List Nat)} (h : LevInv ss ss.length rows) (turn : Bool) : (turned turn rows).Pairwise (fun a b => clash (sysAt ss a) (sysAt ss b) = true → a < b) := by
  have hcl : ∀ {q q' a b : Nat}, At rows q a → At rows q' b → clashAt ss a b = clash (sysAt ss a) (sysAt ss b) := by
    intro q q' a b ha hb
    unfold clashAt
    rw [sysAt_get (h.lt ha), sysAt_get (h.lt hb)]
  have hnd : rows.flatten.Nodup := h.perm.nodup_iff.2 List.nodup_range
  unfold turned
  rw [List.pairwise_flatten]
  refine ⟨?_, ?_⟩
  · intro r hr
    obtain ⟨r0, hr0, rfl⟩ := List.mem_map.1 hr
    obtain ⟨q, hq, e⟩ := List.getElem_of_mem hr0
    have hat : ∀ a ∈ turnRow turn r0, At rows q a := fun a ha => ⟨r0, by rw [List.getElem?_eq_getElem hq, e], (turnRow_perm turn r0).mem_iff.1 ha⟩
    have hn0 : r0.Nodup := (List.pairwise_flatten.1 hnd).1 r0 hr0
    have hn : (turnRow turn r0).Nodup := (turnRow_perm turn r0).nodup_iff.2 hn0
    refine List.Pairwise.imp_of_mem ?_ hn
    intro a b ha hb hne hc
    rcases Nat.lt_or_gt_of_ne hne with hlt | hlt
    · exact hlt
    · have := h.up q q b a (hat b hb) (hat a ha) hlt (by rw [hcl (hat b hb) (hat a ha), clash_comm']; exact hc)
      omega
  · rw [List.pairwise_map, List.pairwise_iff_getElem]
    intro q q' hq hq' hlt a ha b hb hc
    have h1 : At rows q a := ⟨rows[q], List.getElem?_eq_getElem hq, (turnRow_perm turn _).mem_iff.1 ha⟩
    have h2 : At rows q' b := ⟨rows[q'], List.getElem?_eq_getElem hq', (turnRow_perm turn _).mem_iff.1 hb⟩
    rcases Nat.lt_trichotomy a b with h' | h' | h'
    · exact h'
    · subst h'
      have := at_unique hnd h1 h2
      omega
    · have := h.up q' q b a h2 h1 h' (by rw [hcl h2 h1, clash_comm']; exact hc)
      omega
theorem batch_same {ss : List BSys} (hs : ∀ s ∈ ss, (sysWrong s).1 = 0) {W : BWorld} (hw : RightB W) (turn : Bool) : allE W ss = allE W ((turned turn (makeRows ss)).map (sysAt ss)) := by
  have h := lev_rows ss
  have e := all_perm (s := sysAt ss) (l := List.range ss.length) (m := turned turn (makeRows ss)) hw (fun i hi => ?_) List.pairwise_lt_range ((turned_perm turn _).trans h.perm).symm (turned_order h turn)
  · rwa [sysAt_map] at e
  · have hi := List.mem_range.1 hi
    exact hs _ (List.mem_of_getElem? (sysAt_get hi))
end Go.Proofs.Ytefdblaolmckmac

namespace Go.Proofs.Ytefdblaolmckmac
open Go.RowKit
set_option linter.unusedVariables false
set_option linter.unusedSimpArgs false
structure RdLL (w : World) (B : Nat) (A : Option Addr) (us : List Value) (rows : List (List Int)) : Prop where
  len : us.length = rows.length
  out : Rd w B 1 A rows.length us
  row : ∀ (k : Nat) (u : Value) (r : List Int), us[k]? = some u → rows[k]? = some r → ∃ A' c', u = .slice A' r.length c' ∧ (A' = none → c' = 0) ∧ r.length ≤ c' ∧ Rd w B 1 A' r.length (ints r)
section
variable {w w' : World} {B : Nat} {A : Option Addr} {us : List Value} {rows : List (List Int)}
theorem RdLL.under (h : RdLL w B A us rows) {C : Nat} (hb : Below C w w') (hC : B ≤ C) : RdLL w' B A us rows :=
  ⟨h.len, h.out.under hb hC, fun k u r h1 h2 => by obtain ⟨A', c', e, h3, h3', h4⟩ := h.row k u r h1 h2; exact ⟨A', c', e, h3, h3', h4.under hb hC⟩⟩
theorem RdLL.of_own {base : Nat} {c : Nat} (h : OwnLL w base (.slice A rows.length c) us rows) : RdLL w w.heap.size A us rows := by
  refine ⟨h.len, ?_, ?_⟩
  · have := h.out
    rw [h.len] at this
    exact Rd.of_own this
  · intro k u r h1 h2
    have h3 := h.row k u r h1 h2
    obtain ⟨A', c', rfl, h4, _⟩ := own_shape h3
    refine ⟨A', c', rfl, fun hn => ?_, h4, Rd.of_own h3⟩
    subst hn
    rcases h3.2 with ⟨e, _⟩ | ⟨g, cap, cur, e, _⟩
    · injection e
    · cases e
theorem RdLL.at_ (h : RdLL w B A us rows) {k : Nat} (hk : k < rows.length) :
    ∃ b off A' c', A = some ⟨b, off, none⟩ ∧ b < B ∧ w.cell? ⟨b, off + k, none⟩ = some (.slice A' rows[k].length c') ∧ (A' = none → c' = 0) ∧ rows[k].length ≤ c' ∧ Rd w B 1 A' rows[k].length (ints rows[k]) := by
  obtain ⟨b, off, e, hb, hc⟩ := h.out.2 (by omega)
  have hku : k < us.length := by rw [h.len]; exact hk
  obtain ⟨A', c', hu, h0, h1, h2⟩ := h.row k us[k] rows[k] (List.getElem?_eq_getElem hku) (List.getElem?_eq_getElem hk)
  exact ⟨b, off, A', c', e, hb, by rw [hc k us[k] (List.getElem?_eq_getElem hku), hu], h0, h1, h2⟩
end
set_option maxRecDepth 20000 in
set_option maxHeartbeats 1600000 in
theorem grow_any (n : Nat) (hn : n ≤ 1000) (w : World) :
    Calls Try.prog 42 #[.slice none 0 0, .int .i64 (n : Int)] w fun e w' => ∃ v, e = .returned v ∧ w'.ownsRow w.heap.size 3 1 v 0 [] ∧ Below w.heap.size w w' := by
  obtain ⟨i0, hi, hz0, hz1, hz2⟩ := info_parts infoInt
  by_cases h0 : n = 0
  · subst h0
    go_enter Try.func42, Try.ntmps42
    go_wp2_with fail
    go_ret
    exact ⟨_, rfl, own_nil _ _ _ _, Below.refl _ _⟩
  · have hn0 : 0 < n := by omega
    have hb48 : n * i0.bytes ≤ 281474976710656 := by rw [hz2]; omega
    have hsz : 0 < i0.size := by rw [hz1]; decide
    have h63 : (n : Int) ≤ 9223372036854775807 := by omega
    have hcg := grownCap_ge w n 0 3
    have hcm := grownCap_le_maxLen w n 0 3 (by unfold maxLen; omega)
    go_enter Try.func42, Try.ntmps42
    go_wp2_with (at_builtin; refine Lib.wpList_append_run _ rfl _ _ 23 3 rfl (.slice none 0 0) (.int .i64 (n : Int)) rfl rfl _ _ (Lib.run_append_nil_zeros _ 23 3 _ 3 i0 (.int .i64 0) .i64 .i64 Try.underlying23 Try.underlying3 hi hz0 n hn0 hsz h63 hb48) ?_)
    go_ret
    exact ⟨_, rfl, World.ownsRow_made (base := w.heap.size) (e := 3) (size := 1) w _ (grownCap w n 0 3) (Nat.le_refl _) hcm (by rw [Array.size_append, size_zeroCells, size_zeroCells]; simp [Value.cells]; omega), ((Below.refl _ _).alloc (Nat.le_refl _) _).drew⟩
def flatN (rows : List (List Int)) (k : Nat) : Nat := (rows.take k).flatten.length
theorem take_flat {rows : List (List Int)} {k : Nat} (hk : k < rows.length) : (rows.take (k + 1)).flatten = (rows.take k).flatten ++ rows[k] := by
  rw [List.take_add_one, List.getElem?_eq_getElem hk, List.flatten_append]
  simp only [Option.toList_some, List.flatten_cons, List.flatten_nil, List.append_nil]
theorem flatN_succ {rows : List (List Int)} {k : Nat} (hk : k < rows.length) : flatN rows (k + 1) = flatN rows k + rows[k].length := by
  rw [flatN, take_flat hk, List.length_append, flatN]
theorem flatN_le (rows : List (List Int)) (k : Nat) : flatN rows k ≤ rows.flatten.length := by
  have h := congrArg (fun l => l.flatten.length) (List.take_append_drop k rows)
  rw [List.flatten_append, List.length_append] at h
  unfold flatN; omega
theorem flatN_all (rows : List (List Int)) : flatN rows rows.length = rows.flatten.length := by rw [flatN, List.take_length]
theorem ints_append (a b : List Int) : ints (a ++ b) = ints a ++ ints b := by simp [ints]
set_option maxRecDepth 20000 in
set_option maxHeartbeats 3200000 in
theorem concat_any (A : Option Addr) (c : Nat) (us : List Value) (rows : List (List Int)) (hlen : rows.length ≤ 1000) (htot : rows.flatten.length ≤ 1000) (w : World) (hA : RdLL w w.heap.size A us rows) :
    Calls Try.prog 22 #[.slice A rows.length c] w fun e w' => ∃ v, e = .returned v ∧ w'.ownsRow w.heap.size 3 1 v rows.flatten.length (ints rows.flatten) ∧ Below w.heap.size w w' := by
  obtain ⟨i0', hi0, hz0a, hz0b, hz0c⟩ := info_parts infoInt
  go_enter Try.func22, Try.ntmps22
  go_wp2_with fail
  go_loopw [3, 11] (fun t i wr => ∃ k : Nat, k ≤ rows.length ∧ i = .int .i64 k ∧ t = .int .i64 (flatN rows k : Nat) ∧ wr = w) (fun _ i _ => rows.length - (intOf i).toNat)
  case atStart => exact ⟨0, by omega, rfl, rfl, rfl⟩
  case round =>
    obtain ⟨k, hk, rfl, rfl, rfl⟩ := hrel
    by_cases hlt : k < rows.length
    · obtain ⟨b, off, A', c', rfl, hb, hc, hcn, hc', hr⟩ := hA.at_ hlt
      have htf := flatN_succ hlt
      have hle1 := flatN_le rows (k + 1)
      generalize hrk : rows[k].length = m at *
      have i0 : (0 : Int) ≤ (k : Int) := by omega
      have i1 : (k : Int) < (rows.length : Int) := by omega
      go_wp2_with fail
      go_roundw
      case rel => exact ⟨k + 1, by omega, by go_num, by rw [htf]; go_num, trivial⟩
      case measure => simp [intOf]; omega
    · obtain rfl : k = rows.length := by omega
      have hN := flatN_all rows
      have hN2 : flatN rows rows.length ≤ 1000 := by rw [hN]; exact htot
      generalize flatN rows rows.length = N at hN2 hN ⊢
      have hNh := Lib.hid hN
      clear hN
      go_wp2_with fail
      refine (grow_any N hN2 wr).mono ?_
      rintro e w1 ⟨v, rfl, hown, hb1⟩
      have hA1 := hA.under hb1 (Nat.le_refl _)
      have hB0 : wr.heap.size ≤ w1.heap.size := hb1.size
      obtain ⟨wz, rfl⟩ : ∃ wz : World, wz = wr := ⟨_, rfl⟩
      go_wp2_with fail
      go_loopw [6, 27] (fun v i wr => ∃ k : Nat, k ≤ rows.length ∧ i = .int .i64 k ∧ wr.ownsRow wz.heap.size 3 1 v (flatN rows k) (ints (rows.take k).flatten) ∧ Below wz.heap.size wz wr) (fun _ i _ => rows.length - (intOf i).toNat)
      case atStart => exact ⟨0, by omega, rfl, by simpa [flatN, ints] using hown, hb1⟩
      case round =>
        clear hown hb1 hA1 hB0
        obtain ⟨k, hk, rfl, hown, hbel⟩ := hrel
        by_cases hlt : k < rows.length
        · have hA2 := hA.under hbel (Nat.le_refl _)
          obtain ⟨b, off, A', c', rfl, hb, hc, hcn, hc', hr⟩ := hA2.at_ hlt
          have htf := flatN_succ hlt
          have hle1 := flatN_le rows (k + 1)
          have hti := take_flat hlt
          have hsz := hbel.size
          have i0 : (0 : Int) ≤ (k : Int) := by omega
          have i1 : (k : Int) < (rows.length : Int) := by omega
          by_cases h0 : 0 < rows[k].length
          · obtain ⟨b2, off2, rfl, hb2, hc2⟩ := hr.2 h0
            generalize hrk : rows[k] = r at *
            go_wp2_with (at_builtin; refine wpList_append_own _ rfl _ _ 23 rfl wz.heap.size 3 i0' (.int .i64 0) 1 8 Try.underlying23 hi0 hz0a hz0b hz0c rfl (by decide) _ _ _ rfl hown ⟨b2, off2, none⟩ r.length c' (ints r) rfl ?c0 ?c1 ?c2 ?c3 ?c4 ?c5 ?_; rotate_left 6; intro v' w1 hown' hgrow _)
            case c0 => simp [ints]
            case c1 => intro j u hu; rw [add_mk]; exact hc2 j u hu
            case c2 => exact ints_one _
            case c3 => unfold maxLen; omega
            case c4 => omega
            case c5 => exact hsz
            go_roundw
            case rel => exact ⟨k + 1, by omega, by go_num, by rw [htf, hti, ints_append]; exact hown', hbel.grown hgrow hsz (own_block hown)⟩
            case measure => simp [intOf]; omega
          · have hr0 : rows[k] = [] := List.eq_nil_of_length_eq_zero (by omega)
            rw [hr0] at hc hc' htf hti
            rw [List.append_nil] at hti
            cases A' with
            | none =>
              obtain rfl := hcn rfl
              go_wp2_with (at_builtin; refine wpList_append_own_none rfl _ _ 23 rfl wz.heap.size 3 i0' 1 Try.underlying23 hi0 _ _ _ rfl hown rfl ?_)
              go_roundw
              case rel => exact ⟨k + 1, by omega, by go_num, by rw [htf, hti]; exact hown, hbel⟩
              case measure => simp [intOf]; omega
            | some ad =>
              go_wp2_with (at_builtin; refine wpList_append_own _ rfl _ _ 23 rfl wz.heap.size 3 i0' (.int .i64 0) 1 8 Try.underlying23 hi0 hz0a hz0b hz0c rfl (by decide) _ _ _ rfl hown ad 0 c' [] rfl ?c0 ?c1 ?c2 ?c3 ?c4 ?c5 ?_; rotate_left 6; intro v' w1 hown' hgrow _)
              case c0 => rfl
              case c1 => intro j u hu; simp at hu
              case c2 => intro u hu; simp at hu
              case c3 => unfold maxLen; omega
              case c4 => omega
              case c5 => exact hsz
              go_roundw
              case rel => exact ⟨k + 1, by omega, by go_num, by rw [htf, hti]; rw [List.append_nil] at hown'; exact hown', hbel.grown hgrow hsz (own_block hown)⟩
              case measure => simp [intOf]; omega
        · obtain rfl : k = rows.length := by omega
          rw [flatN_all, List.take_length] at hown
          go_wp2_with fail
          go_ret
          exact ⟨_, rfl, hown, hbel⟩
set_option maxRecDepth 20000 in
set_option maxHeartbeats 800000 in
theorem order_any (A : Option Addr) (c : Nat) (us : List Value) (rows : List (List Int)) (hlen : rows.length ≤ 1000) (htot : rows.flatten.length ≤ 1000) (w : World) (hA : RdLL w w.heap.size A us rows) :
    Calls Try.prog 10 #[.slice A rows.length c] w fun e w' => ∃ v, e = .returned v ∧ w'.ownsRow w.heap.size 3 1 v rows.flatten.length (ints rows.flatten) ∧ Below w.heap.size w w' := by
  go_enter Try.func10, Try.ntmps10
  go_wp2_with fail
  refine (concat_any A c us rows hlen htot w hA).mono ?_
  rintro e w1 ⟨v, rfl, hown, hb⟩
  go_wp2_with fail
  go_ret
  exact ⟨_, rfl, hown, hb⟩
end Go.Proofs.Ytefdblaolmckmac

namespace Go.Proofs.Ytefdblaolmckmac
open Go.RowKit
theorem Rd.of_blk {w : World} {g sz n : Nat} {t : TypeId} {cs : Array Value} (h : Blk w g t cs) (hl : cs.toList.length = n * sz) : Rd w w.heap.size sz (some ⟨g, 0, none⟩) n cs.toList :=
  ⟨hl, fun _ => ⟨g, 0, rfl, h.lt, fun j u hu => by rw [Nat.zero_add, h.cell j]; simpa using hu⟩⟩
end Go.Proofs.Ytefdblaolmckmac

namespace Go.Proofs.Ytefdblaolmckmac
open Go.RowKit
open Brood
set_option linter.unusedVariables false
set_option linter.unusedSimpArgs false
def moreS (p : Int) : BSys := ⟨0, 2 ^ p.toNat, 0, [⟨4, p, 0, 1⟩]⟩
set_option maxRecDepth 20000 in
set_option maxHeartbeats 1600000 in
theorem more_any (p : Int) (hp : p = 0 ∨ p = 1) (w : World) :
    Calls Try.prog 9 #[.int .i64 p] w fun e w' => ∃ g, e = .returned (sysV ⟨moreS p, some ⟨g, 0, none⟩, 1⟩) ∧ RdA w' (some ⟨g, 0, none⟩) (moreS p).acts ∧ Below w.heap.size w w' := by
  rcases hp with rfl | rfl
  · go_enter Try.func9, Try.ntmps9
    go_wp2_with fail
    have hb := (Blk.new w 43 #[.int .i64 0, .int .i64 1, .int .i64 0, .slice (some ⟨w.heap.size + 1, 0, none⟩) 1 1]).alloc (.cells #[.int .i64 4, .int .i64 0, .int .i64 0, .int .i64 1] 74)
    have c0 := hb.cell 0; have c1 := hb.cell 1; have c2 := hb.cell 2; have c3 := hb.cell 3
    simp at c0 c1 c2 c3
    refine bodyPost_ret (v := .agg #[.int .i64 0, .int .i64 1, .int .i64 0, .slice (some ⟨w.heap.size + 1, 0, none⟩) 1 1]) (by simp [results, Try.results9, go_sem, c0, c1, c2, c3]) rfl ⟨w.heap.size + 1, rfl, ?_, ((Below.refl _ _).alloc (Nat.le_refl _) _).alloc (by simp) _⟩
    have h := Rd.of_blk (n := 1) (sz := 4) (Blk.new (w.alloc (.cells #[.int .i64 0, .int .i64 1, .int .i64 0, .slice (some ⟨w.heap.size + 1, 0, none⟩) 1 1] 43)) 74 #[.int .i64 4, .int .i64 0, .int .i64 0, .int .i64 1]) rfl
    simp only [World.size_alloc] at h
    have h2 := h.more (B' := w.heap.size + 1 + 1) (by simp)
    unfold RdA RdAB
    simp only [World.size_alloc]
    exact h2
  · go_enter Try.func9, Try.ntmps9
    go_wp2_with fail
    have hb := (Blk.new w 43 #[.int .i64 0, .int .i64 2, .int .i64 0, .slice (some ⟨w.heap.size + 1, 0, none⟩) 1 1]).alloc (.cells #[.int .i64 4, .int .i64 1, .int .i64 0, .int .i64 1] 74)
    have c0 := hb.cell 0; have c1 := hb.cell 1; have c2 := hb.cell 2; have c3 := hb.cell 3
    simp at c0 c1 c2 c3
    refine bodyPost_ret (v := .agg #[.int .i64 0, .int .i64 2, .int .i64 0, .slice (some ⟨w.heap.size + 1, 0, none⟩) 1 1]) (by simp [results, Try.results9, go_sem, c0, c1, c2, c3]) rfl ⟨w.heap.size + 1, rfl, ?_, ((Below.refl _ _).alloc (Nat.le_refl _) _).alloc (by simp) _⟩
    have h := Rd.of_blk (n := 1) (sz := 4) (Blk.new (w.alloc (.cells #[.int .i64 0, .int .i64 2, .int .i64 0, .slice (some ⟨w.heap.size + 1, 0, none⟩) 1 1] 43)) 74 #[.int .i64 4, .int .i64 1, .int .i64 0, .int .i64 1]) rfl
    simp only [World.size_alloc] at h
    have h2 := h.more (B' := w.heap.size + 1 + 1) (by simp)
    unfold RdA RdAB
    simp only [World.size_alloc]
    exact h2
theorem mk_alive : makeV [moreS 0, moreS 0, moreS 1] = ([[0, 2], [1]], (0, 0)) := by decide
set_option maxRecDepth 20000 in
set_option maxHeartbeats 3200000 in
theorem alive6_any (w : World) :
    Calls Try.prog 4 #[] w fun e w' => e = .returned (.bool true) ∧ Below w.heap.size w w' := by
  have hm := Lib.hid mk_alive
  have m0 : (moreS 0).acts.length = 1 := rfl
  go_enter Try.func4, Try.ntmps4
  go_wp2_with fail
  refine (more_any 0 (.inl rfl) w).mono ?_
  rintro e w1 ⟨g1, rfl, ha1, hb1⟩
  go_wp2_with fail
  refine (more_any 0 (.inl rfl) w1).mono ?_
  rintro e w2 ⟨g2, rfl, ha2, hb2⟩
  go_wp2_with fail
  refine (more_any 1 (.inr rfl) w2).mono ?_
  rintro e w3 ⟨g3, rfl, ha3, hb3⟩
  replace ha1 : RdA w3 _ _ := Rd.grow (Rd.grow ha1 hb2) hb3
  replace ha2 : RdA w3 _ _ := Rd.grow ha2 hb3
  have hbel := grow_below (grow_below hb1 hb2) hb3
  unfold sysV
  obtain ⟨L, hL⟩ : ∃ L : List SysIn, L = [⟨moreS 0, some ⟨g1, 0, none⟩, 1⟩, ⟨moreS 0, some ⟨g2, 0, none⟩, 1⟩, ⟨moreS 1, some ⟨g3, 0, none⟩, 1⟩] := ⟨_, rfl⟩
  have hLm : Hid (makeV (sysOf L) = ([[0, 2], [1]], (0, 0))) := Lib.hid (by rw [hL]; exact mk_alive)
  have hcs := Rd.of_blk (n := 3) (sz := 4) (Blk.new w3 43 #[.int .i64 (moreS 0).mod, .int .i64 (moreS 0).all, .int .i64 (moreS 0).non, .slice (some ⟨g1, 0, none⟩) 1 1, .int .i64 (moreS 0).mod, .int .i64 (moreS 0).all, .int .i64 (moreS 0).non, .slice (some ⟨g2, 0, none⟩) 1 1, .int .i64 (moreS 1).mod, .int .i64 (moreS 1).all, .int .i64 (moreS 1).non, .slice (some ⟨g3, 0, none⟩) (moreS 1).acts.length 1]) rfl
  have hRd : RdS (w3.alloc (.cells #[.int .i64 (moreS 0).mod, .int .i64 (moreS 0).all, .int .i64 (moreS 0).non, .slice (some ⟨g1, 0, none⟩) 1 1, .int .i64 (moreS 0).mod, .int .i64 (moreS 0).all, .int .i64 (moreS 0).non, .slice (some ⟨g2, 0, none⟩) 1 1, .int .i64 (moreS 1).mod, .int .i64 (moreS 1).all, .int .i64 (moreS 1).non, .slice (some ⟨g3, 0, none⟩) (moreS 1).acts.length 1] 43)) (w3.alloc (.cells #[.int .i64 (moreS 0).mod, .int .i64 (moreS 0).all, .int .i64 (moreS 0).non, .slice (some ⟨g1, 0, none⟩) 1 1, .int .i64 (moreS 0).mod, .int .i64 (moreS 0).all, .int .i64 (moreS 0).non, .slice (some ⟨g2, 0, none⟩) 1 1, .int .i64 (moreS 1).mod, .int .i64 (moreS 1).all, .int .i64 (moreS 1).non, .slice (some ⟨g3, 0, none⟩) (moreS 1).acts.length 1] 43)).heap.size (some ⟨w3.heap.size, 0, none⟩) L := by
    subst hL
    refine ⟨hcs, ?_⟩
    intro x hx
    simp only [List.mem_cons, List.not_mem_nil, or_false] at hx
    rcases hx with rfl | rfl | rfl
    · exact Rd.alloc_ ha1 _
    · exact Rd.alloc_ ha2 _
    · exact Rd.alloc_ ha3 _
  have hL3 : L.length = 3 := by rw [hL]; rfl
  have hmk := make_any L _ 3 _ hRd
  rw [hL3] at hmk
  have hmk' := Lib.hid hmk
  clear hmk hcs ha1 ha2 ha3 hb1 hb2 hb3 hRd hL
  go_wp2_with fail
  refine hmk'.out.mono ?_
  rintro e w4 ⟨v, us, rfl, hown, hb4⟩
  have hbel4 := grow_below (hbel.alloc hbel.size _) hb4
  clear hmk' hb4 hbel
  rw [hLm.out] at hown ⊢
  have O5 := hown.alloc (.cells #[.int .i64 0, .int .i64 0] 33)
  have hbel5 := hbel4.alloc hbel4.size (.cells #[.int .i64 0, .int .i64 0] 33)
  have HF := Blk.new w4 33 #[.int .i64 0, .int .i64 0]
  clear hown hbel4
  have hr : rowsI [[0, 2], [1]] = [[0, 2], [1]] := rfl
  rw [hr] at O5
  obtain ⟨g, cap, rfl, hg1, hg2, hg3, hcell, hfr⟩ := O5.place (by decide)
  obtain ⟨u, hu, hrow⟩ := O5.rowAt (k := 0) (by decide)
  obtain ⟨A', c', rfl, hlen', hRI⟩ := own_at hrow
  obtain ⟨b2, off2, rfl, hb2, hc2⟩ := hRI.at_ (k := 1) (by decide)
  have hc0 := hcell 0 (by decide)
  rw [hu] at hc0
  simp at hc0 hc2 hg3
  have hll := RdLL.of_own O5
  clear hcell hfr hu hrow hRI hlen' hr
  have hor := Lib.hid (fun W (hW : Below (w4.alloc (.cells #[.int .i64 0, .int .i64 0] 33)).heap.size (w4.alloc (.cells #[.int .i64 0, .int .i64 0] 33)) W) => order_any (some ⟨g, 0, none⟩) cap us [[0, 2], [1]] (by decide) (by decide) W ⟨hll.len, (hll.out.under hW (Nat.le_refl _)).more hW.size, fun k u r h1 h2 => by obtain ⟨A', c', e, h3, h3', h4⟩ := hll.row k u r h1 h2; exact ⟨A', c', e, h3, h3', (h4.under hW (Nat.le_refl _)).more hW.size⟩⟩)
  clear hll O5
  go_wp2_with fail
  refine (hor.out _ (Below.refl _ _)).mono ?_
  rintro e w6 ⟨v6, rfl, hown6, hb6⟩
  obtain ⟨A6, c6, rfl, _, _⟩ := own_shape hown6
  go_wp2_with fail
  go_ret
  exact ⟨ret_bool rfl, grow_below hbel5 hb6⟩
end Go.Proofs.Ytefdblaolmckmac
