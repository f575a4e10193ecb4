/- A region that draws its order, whose operations' values are known ahead, while the world turns as they are done ('J'). -/
import Derived.Test.YtefdblaolmckmaaVals
namespace Go.Proofs.Ytefdblaolmckmaa
open Go.RowKit
/-- A table of values. -/
def tab (l : List Value) (j : Nat) : Value := l.getD j undef
theorem tab_zero (v : Value) (l : List Value) : tab (v :: l) 0 = v := rfl
theorem tab_succ (v : Value) (l : List Value) (j : Nat) : tab (v :: l) (j + 1) = tab l j := rfl
/-- All values into their slots, a list of slots and values at a time. -/
def putL : List (Option Tmp × Value) → Act → Act
  | [], a => a
  | (d, v) :: l, a => putL l (a.put d v)
def putT : List (Option Tmp × Value) → List Value → List Value
  | [], t => t
  | (none, _) :: l, t => putT l t
  | (some d, v) :: l, t => putT l (t.set d v)
theorem putL_eq : ∀ (l : List (Option Tmp × Value)) (ts : List Value) (df : List Deferred), putL l { tmps := ⟨ts⟩, defers := df } = { tmps := ⟨putT l ts⟩, defers := df }
  | [], _, _ => rfl
  | (none, _) :: l, ts, df => putL_eq l ts df
  | (some d, v) :: l, ts, df => by
    rw [putL, putT, ← putL_eq l (ts.set d v) df]
    simp [Act.put]
theorem putAll_tab : ∀ (os : List Oper) (i : Nat) (vs : Nat → Value) (a : Act) (ps : List (Option Tmp × Value)), ps = (os.zipIdx i).map (fun p => (p.1.dst, vs p.2)) → putAll os i vs a = putL ps a
  | [], _, _, _, _, h => by subst h; rfl
  | o :: os, i, vs, a, _, h => by
    subst h
    rw [List.zipIdx_cons, List.map_cons, putL, putAll, putAll_tab os (i + 1) vs (a.put o.dst (vs i)) _ rfl]
section
variable {P : Program} {ops : Array Oper} {Q : Exit → Act → World → Prop}
theorem putAll_congr {V V' : Nat → Value} : ∀ (os : List Oper) (i : Nat) (a : Act), (∀ j, j < i + os.length → V j = V' j) → putAll os i V a = putAll os i V' a := by
  intro os
  induction os with
  | nil => intro _ _ _; rfl
  | cons o os ih =>
    intro i a h
    simp only [List.length_cons] at h
    rw [putAll, putAll, h i (by omega), ih _ _ (fun j hj => h j (by omega))]
theorem wp_region_known {id : Nat} {a : Act} {w : World} (hm : P.follows .mixedOrders = true) (hk : okOps ops a.tmps.size = true) (hg : (ops.toList.all fun o => o.guard.isNone) = true) (V : Nat → Value)
    (J : (Nat → Bool) → World → Prop) (h0 : J (fun _ => false) w.drew)
    (hend : ∀ w' l, J l w' → (∀ j, j < ops.size → l j = true) → Q .normal (putAll ops.toList 0 V a) w')
    (hstep : ∀ (i : Nat) (o : Oper), ops[i]? = some o → ∀ (l : Nat → Bool) (act : Act) (w' : World), J l w' → l i = false →
      (o.after.all fun e => !Region.binds .any e || l e.on) = true →
      (∀ j d, dstAt ops j = some d → l j = true → act.tmps[d]?.getD undef = V j) →
      (∀ k, notDst ops k = true → act.tmps[k]?.getD undef = a.tmps[k]?.getD undef) →
      ∀ K : Act → World → Prop, (∀ w'', J (upd l i true) w'' → K (act.put o.dst (V i)) w'') → o.wp P act w' K Q) : (Code.region id ops true).wp P Q a w := by
  refine wp_region_vals hm hk (fun l vs w' => J l w' ∧ ∀ j, l j = true → vs j = V j) ⟨h0, fun _ h => by cases h⟩ ?_ ?_
  · rintro vs w' l ⟨hb, hv⟩ hl
    rw [putAll_congr (V' := V) ops.toList 0 a (fun j hj => hv j (hl j (by simpa using hj)))]
    exact hend w' l hb hl
  · rintro i o ho l vs act w' hF ⟨hb, hv⟩ hl hd
    have hno : o.guard = none := by
      have := List.all_eq_true.1 hg o (Array.mem_toList_iff.2 (Array.mem_of_getElem? ho))
      simpa using this
    rw [if_pos (by unfold Region.wanted; rw [hno])]
    intro K hK
    refine hstep i o ho l act w' hb hl hd ?_ (fun k h => hF.was h) K (fun w'' hb' => hK _ w'' ⟨hb', fun j hj => ?_⟩)
    · intro j d hj hlj
      rw [hF.val hj hlj, hv j hlj]
    · by_cases e : j = i
      · subst e; rw [upd_same]
      · rw [upd_ne _ _ e] at hj ⊢
        exact hv j hj
theorem wp_region_open {id : Nat} {a : Act} {w : World} (hm : P.follows .mixedOrders = true) (hk : okOps ops a.tmps.size = true) (hg : (ops.toList.all fun o => o.guard.isNone) = true)
    (I : (Nat → Bool) → (Nat → Value) → World → Prop)
    (h0 : I (fun _ => false) (fun _ => undef) w.drew)
    (hend : ∀ vs w' l, I l vs w' → (∀ j, j < ops.size → l j = true) → Q .normal (putAll ops.toList 0 vs a) w')
    (hstep : ∀ i o, ops[i]? = some o → ∀ l vs act w', Fr ops a l vs act → I l vs w' → l i = false → (o.after.all fun e => !Region.binds .any e || l e.on) = true →
      ∀ K : Act → World → Prop, (∀ v w'', I (upd l i true) (upd vs i v) w'' → K (act.put o.dst v) w'') → o.wp P act w' K Q) : (Code.region id ops true).wp P Q a w := by
  refine wp_region_vals hm hk I h0 hend ?_
  intro i o ho l vs act w' hF hI hl hd
  have hno : o.guard = none := by
    have := List.all_eq_true.1 hg o (Array.mem_toList_iff.2 (Array.mem_of_getElem? ho))
    simpa using this
  rw [if_pos (by unfold Region.wanted; rw [hno])]
  exact hstep i o ho l vs act w' hF hI hl hd
end
end Go.Proofs.Ytefdblaolmckmaa
