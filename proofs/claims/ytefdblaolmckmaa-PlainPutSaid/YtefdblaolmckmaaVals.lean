/- A region that draws its order: each operation's value in an assignment, the frame kept by the rule itself; what the user keeps is one statement on which are done, the values and the world. -/
import Derived.Test.YtefdblaolmckmaaInv
namespace Go.Proofs.Ytefdblaolmckmaa
open Go.RowKit

def upd {α : Type} (f : Nat → α) (i : Nat) (v : α) : Nat → α := fun j => if j = i then v else f j
@[simp] theorem upd_same {α : Type} (f : Nat → α) (i : Nat) (v : α) : upd f i v i = v := by simp [upd]
theorem upd_ne {α : Type} (f : Nat → α) {i j : Nat} (v : α) (h : j ≠ i) : upd f i v j = f j := by simp [upd, h]

def dstAt (ops : Array Oper) (i : Nat) : Option Tmp := (ops[i]?).bind (·.dst)
def okOps (ops : Array Oper) (n : Nat) : Bool :=
  (List.range ops.size).all fun i =>
    (match dstAt ops i with | none => true | some d => decide (d < n) && (List.range ops.size).all fun j => i == j || !(dstAt ops j == some d)) &&
    (match ops[i]? with | none => true | some o => o.after.toList.all fun e => !Region.binds .any e || decide (e.on < i))

structure Fr (ops : Array Oper) (a : Act) (l : Nat → Bool) (vs : Nat → Value) (act : Act) : Prop where
  defers : act.defers = a.defers
  size : act.tmps.size = a.tmps.size
  done : ∀ j d, dstAt ops j = some d → l j = true → act.tmps[d]? = some (vs j)
  old : ∀ k, (∀ j, dstAt ops j = some k → l j = false) → act.tmps[k]? = a.tmps[k]?

section
variable {ops : Array Oper} {a act : Act} {l : Nat → Bool} {vs : Nat → Value} {n : Nat}
theorem okOps_dst (h : okOps ops n = true) {i : Nat} {d : Tmp} (hd : dstAt ops i = some d) : d < n ∧ ∀ j, dstAt ops j = some d → j = i := by
  have hi : i < ops.size := by
    rcases Nat.lt_or_ge i ops.size with h | h
    · exact h
    · simp [dstAt, Array.getElem?_eq_none h] at hd
  have h1 := List.all_eq_true.1 h i (List.mem_range.2 hi)
  rw [Bool.and_eq_true, hd] at h1
  have h2 := h1.1
  simp only [Bool.and_eq_true, decide_eq_true_eq] at h2
  refine ⟨h2.1, fun j hj => ?_⟩
  have hjs : j < ops.size := by
    rcases Nat.lt_or_ge j ops.size with h | h
    · exact h
    · simp [dstAt, Array.getElem?_eq_none h] at hj
  have h3 := List.all_eq_true.1 h2.2 j (List.mem_range.2 hjs)
  rw [hj] at h3
  simp at h3
  exact h3.symm
theorem okOps_on (h : okOps ops n = true) {i : Nat} {o : Oper} (ho : ops[i]? = some o) : ∀ e ∈ o.after, Region.binds .any e = true → e.on < i := by
  have hi : i < ops.size := by
    rcases Nat.lt_or_ge i ops.size with h | h
    · exact h
    · simp [Array.getElem?_eq_none h] at ho
  have h1 := List.all_eq_true.1 h i (List.mem_range.2 hi)
  rw [Bool.and_eq_true, ho] at h1
  have h2 := h1.2
  intro e he hbd
  have := List.all_eq_true.1 h2 e (Array.mem_toList_iff.2 he)
  rw [hbd] at this
  simpa using this
theorem Fr.val (h : Fr ops a l vs act) {j : Nat} {d : Tmp} (hd : dstAt ops j = some d) (hl : l j = true) : act.tmps[d]?.getD undef = vs j := by
  rw [h.done j d hd hl]; rfl
def notDst (ops : Array Oper) (k : Tmp) : Bool := (List.range ops.size).all fun j => !(dstAt ops j == some k)
theorem Fr.was (h : Fr ops a l vs act) {k : Tmp} (hk : notDst ops k = true) : act.tmps[k]?.getD undef = a.tmps[k]?.getD undef := by
  rw [h.old k]
  intro j hj
  have hjs : j < ops.size := by
    rcases Nat.lt_or_ge j ops.size with h | h
    · exact h
    · simp [dstAt, Array.getElem?_eq_none h] at hj
  have := List.all_eq_true.1 hk j (List.mem_range.2 hjs)
  rw [hj] at this
  simp at this
theorem put_size (d : Option Tmp) (v : Value) (a : Act) : (a.put d v).tmps.size = a.tmps.size := by
  cases d <;> simp [Act.put]
theorem put_defers (d : Option Tmp) (v : Value) (a : Act) : (a.put d v).defers = a.defers := by
  cases d <;> rfl
theorem put_same {d : Tmp} {v : Value} {a : Act} (h : d < a.tmps.size) : (a.put (some d) v).tmps[d]? = some v := by
  simp [Act.put, h]
theorem put_far {d : Option Tmp} {k : Tmp} {v : Value} {a : Act} (h : d ≠ some k) : (a.put d v).tmps[k]? = a.tmps[k]? := by
  cases d with
  | none => rfl
  | some d =>
    have : d ≠ k := fun e => h (by rw [e])
    simp [Act.put, this]
theorem Fr.step (hk : okOps ops a.tmps.size = true) (h : Fr ops a l vs act) {i : Nat} {o : Oper} (ho : ops[i]? = some o) (v : Value) (hl : l i = false) :
    Fr ops a (upd l i true) (upd vs i v) (act.put o.dst v) := by
  have hdi : dstAt ops i = o.dst := by simp [dstAt, ho]
  refine ⟨by rw [put_defers, h.defers], by rw [put_size, h.size], ?_, ?_⟩
  · intro j d hj hlj
    by_cases e : j = i
    · subst e
      rw [hdi] at hj
      rw [hj, upd_same]
      exact put_same (by rw [h.size]; exact (okOps_dst hk (hdi.trans hj)).1)
    · rw [upd_ne _ _ e] at hlj ⊢
      rw [put_far]
      · exact h.done j d hj hlj
      · intro e'
        exact e ((okOps_dst hk (hdi.trans e')).2 j hj)
  · intro k hk'
    have hne : o.dst ≠ some k := fun e => by
      have := hk' i (hdi.trans e)
      rw [upd_same] at this
      cases this
    rw [put_far hne]
    refine h.old k fun j hj => ?_
    by_cases e : j = i
    · subst e; exact hl
    · have := hk' j hj
      rwa [upd_ne _ _ e] at this
theorem Fr.start : Fr ops a (fun _ => false) vs a := ⟨rfl, rfl, (fun _ _ _ h => by cases h), (fun _ _ => rfl)⟩

def putAll : List Oper → Nat → (Nat → Value) → Act → Act
  | [], _, _, a => a
  | o :: os, i, vs, a => putAll os (i + 1) vs (a.put o.dst (vs i))
theorem putAll_size : ∀ (os : List Oper) (i : Nat) (vs : Nat → Value) (a : Act), (putAll os i vs a).tmps.size = a.tmps.size
  | [], _, _, _ => rfl
  | o :: os, i, vs, a => by rw [putAll, putAll_size os, put_size]
theorem putAll_defers : ∀ (os : List Oper) (i : Nat) (vs : Nat → Value) (a : Act), (putAll os i vs a).defers = a.defers
  | [], _, _, _ => rfl
  | o :: os, i, vs, a => by rw [putAll, putAll_defers os, put_defers]
theorem putAll_ne {k : Tmp} : ∀ (os : List Oper) (i : Nat) (vs : Nat → Value) (a : Act), (∀ o ∈ os, o.dst ≠ some k) → (putAll os i vs a).tmps[k]? = a.tmps[k]?
  | [], _, _, _, _ => rfl
  | o :: os, i, vs, a, h => by rw [putAll, putAll_ne os _ _ _ (fun o' ho => h o' (by simp [ho])), put_far (h o (by simp))]
theorem putAll_at {d : Tmp} : ∀ (os : List Oper) (i : Nat) (vs : Nat → Value) (a : Act) (j : Nat), (os[j]?).bind (·.dst) = some d → d < a.tmps.size →
    (∀ j', (os[j']?).bind (·.dst) = some d → j' = j) → (putAll os i vs a).tmps[d]? = some (vs (i + j))
  | [], _, _, _, _, h, _, _ => by simp at h
  | o :: os, i, vs, a, 0, h, hd, hu => by
    rw [putAll, putAll_ne]
    · simp at h
      rw [h]
      exact put_same hd
    · intro o' ho' e
      obtain ⟨q, hq⟩ := List.getElem?_of_mem ho'
      have := hu (q + 1) (by simp [hq, e])
      omega
  | o :: os, i, vs, a, j + 1, h, hd, hu => by
    rw [putAll, putAll_at os (i + 1) vs _ j (by simpa using h) (by rw [put_size]; exact hd) (fun j' h' => by have := hu (j' + 1) (by simpa using h'); omega)]
    rw [show i + 1 + j = i + (j + 1) by omega]
theorem act_ext {a b : Act} (h1 : a.tmps = b.tmps) (h2 : a.defers = b.defers) : a = b := by
  cases a; cases b; simp only at h1 h2; rw [h1, h2]
theorem Fr.all (hk : okOps ops a.tmps.size = true) (h : Fr ops a l vs act) (hl : ∀ j, j < ops.size → l j = true) : act = putAll ops.toList 0 vs a := by
  refine act_ext ?_ (by rw [putAll_defers, h.defers])
  refine Array.ext_getElem? fun k => ?_
  by_cases hx : ∃ j, dstAt ops j = some k
  · obtain ⟨j, hj⟩ := hx
    have hjs : j < ops.size := by
      rcases Nat.lt_or_ge j ops.size with h | h
      · exact h
      · simp [dstAt, Array.getElem?_eq_none h] at hj
    obtain ⟨hkn, hun⟩ := okOps_dst hk hj
    rw [h.done j k hj (hl j hjs), putAll_at ops.toList 0 vs a j (by simpa [dstAt] using hj) hkn (fun j' h' => hun j' (by simpa [dstAt] using h')), Nat.zero_add]
  · rw [h.old k (fun j hj => absurd ⟨j, hj⟩ hx), putAll_ne]
    intro o ho e
    obtain ⟨q, hq⟩ := List.getElem?_of_mem ho
    exact hx ⟨q, by simp at hq; simp [dstAt, hq, e]⟩
end

section
variable {P : Program} {ops : Array Oper} {Q : Exit → Act → World → Prop}
theorem wp_region_vals {id : Nat} {a : Act} {w : World} (hm : P.follows .mixedOrders = true) (hk : okOps ops a.tmps.size = true)
    (I : (Nat → Bool) → (Nat → Value) → World → Prop)
    (h0 : I (fun _ => false) (fun _ => undef) w.drew)
    (hend : ∀ vs w' l, I l vs w' → (∀ j, j < ops.size → l j = true) → Q .normal (putAll ops.toList 0 vs a) w')
    (hstep : ∀ i o, ops[i]? = some o → ∀ l vs act w', Fr ops a l vs act → I l vs w' → l i = false → (o.after.all fun e => !Region.binds .any e || l e.on) = true →
      if Region.wanted o (yielded ops act.tmps) then ∀ K : Act → World → Prop, (∀ v w'', I (upd l i true) (upd vs i v) w'' → K (act.put o.dst v) w'') → o.wp P act w' K Q
      else I (upd l i true) (upd vs i undef) w') : (Code.region id ops true).wp P Q a w := by
  refine wp_region_inv hm (fun L act w' => L.size = ops.size ∧ ∃ l vs, (∀ j, L.getD j false = l j) ∧ Fr ops a l vs act ∧ I l vs w') ?_ ?_ ?_
  · refine ⟨by simp, fun _ => false, fun _ => undef, fun j => ?_, Fr.start, h0⟩
    simp only [Array.getD_eq_getD_getElem?, Array.getElem?_replicate]
    split <;> rfl
  · rintro L act w' ⟨hs, l, vs, hL, hF, hI⟩ hr
    have hall : ∀ j, j < ops.size → l j = true := by
      intro j
      induction j using Nat.strongRecOn with
      | _ j ih =>
        intro hj
        obtain ⟨o, ho⟩ : ∃ o, ops[j]? = some o := ⟨_, Array.getElem?_eq_getElem hj⟩
        have := ready_out hr j hj (by
          rw [ho]
          simp only [Option.map_some, Option.getD_some]
          rw [Array.all_eq_true_iff_forall_mem]
          intro e he
          cases hbd : Region.binds .any e with
          | false => rfl
          | true =>
            have hlt := okOps_on hk ho e he hbd
            rw [hL, ih e.on hlt (by omega)]
            simp)
        rw [← hL]
        have hjL : j < L.size := by omega
        simp [Array.getD_eq_getD_getElem?, hjL] at this ⊢
        exact this
    rw [hF.all hk hall]
    exact hend vs w' l hI hall
  · rintro L act w' i ⟨hs, l, vs, hL, hF, hI⟩ hi hf hd
    obtain ⟨o, ho⟩ : ∃ o, ops[i]? = some o := ⟨_, Array.getElem?_eq_getElem hi⟩
    have hiL : i < L.size := by omega
    have hli : l i = false := by
      rw [← hL]
      simp [Array.getD_eq_getD_getElem?, hiL] at hf ⊢
      exact hf
    have hd' : (o.after.all fun e => !Region.binds .any e || l e.on) = true := by
      rw [ho] at hd
      simp only [Option.map_some, Option.getD_some] at hd
      rw [Array.all_eq_true_iff_forall_mem] at hd ⊢
      intro e he
      rw [← hL]
      exact hd e he
    have hLs : ∀ j, (L.setIfInBounds i true).getD j false = upd l i true j := by
      intro j
      by_cases e : j = i
      · subst e; simp [Array.getD_eq_getD_getElem?, hiL]
      · rw [upd_ne _ _ e, ← hL]
        simp [Array.getD_eq_getD_getElem?, Ne.symm e]
    have hst := hstep i o ho l vs act w' hF hI hli hd'
    unfold wpOp
    simp only [ho]
    split at hst
    case isTrue hw =>
      rw [if_pos hw]
      exact .inl (hst _ fun v w'' hI' => ⟨by simpa using hs, _, _, hLs, hF.step hk ho v hli, hI'⟩)
    case isFalse hw =>
      rw [if_neg hw]
      exact ⟨by simpa using hs, _, _, hLs, hF.step hk ho undef hli, hst⟩
theorem lt_of_some {i : Nat} {o : Oper} (h : ops[i]? = some o) : i < ops.size := by
  rcases Nat.lt_or_ge i ops.size with h' | h'
  · exact h'
  · rw [Array.getElem?_eq_none h'] at h; cases h
/-- Every operation's value is known ahead ('V'), and nothing that was there turns. -/
theorem wp_region_fixed {id : Nat} {a : Act} {w : World} (hm : P.follows .mixedOrders = true) (hk : okOps ops a.tmps.size = true) (hg : (ops.toList.all fun o => o.guard.isNone) = true) (V : Nat → Value)
    (hend : ∀ w', Below w.heap.size w w' → Q .normal (putAll ops.toList 0 V a) w')
    (hstep : ∀ (i : Nat) (o : Oper), ops[i]? = some o → ∀ (act : Act) (w' : World), Below w.heap.size w w' →
      (∀ j d, dstAt ops j = some d → (o.after.toList.any fun e => e.on == j && Region.binds .any e) = true → act.tmps[d]?.getD undef = V j) →
      (∀ k, notDst ops k = true → act.tmps[k]?.getD undef = a.tmps[k]?.getD undef) →
      ∀ K : Act → World → Prop, (∀ w'', Below w.heap.size w w'' → K (act.put o.dst (V i)) w'') → o.wp P act w' K Q) : (Code.region id ops true).wp P Q a w := by
  refine wp_region_vals hm hk (fun l vs w' => Below w.heap.size w w' ∧ ∀ j, l j = true → vs j = V j) ⟨(Below.refl _ _).drew, fun _ h => by cases h⟩ ?_ ?_
  · rintro vs w' l ⟨hb, hv⟩ hl
    have : putAll ops.toList 0 vs a = putAll ops.toList 0 V a := by
      have key : ∀ (os : List Oper) (i : Nat) (a : Act), i + os.length ≤ ops.size → putAll os i vs a = putAll os i V a := by
        intro os
        induction os with
        | nil => intro _ _ _; rfl
        | cons o os ih =>
          intro i a h
          simp only [List.length_cons] at h
          rw [putAll, putAll, hv i (hl i (by omega)), ih _ _ (by omega)]
      exact key _ _ _ (by simp)
    rw [this]
    exact hend w' hb
  · rintro i o ho l vs act w' hF ⟨hb, hv⟩ hl hd
    have hno : o.guard = none := by
      have := List.all_eq_true.1 hg o (Array.mem_toList_iff.2 (Array.mem_of_getElem? ho))
      simpa using this
    rw [if_pos (by unfold Region.wanted; rw [hno])]
    intro K hK
    refine hstep i o ho act w' hb ?_ (fun k h => hF.was h) K (fun w'' hb' => hK _ w'' ⟨hb', fun j hj => ?_⟩)
    · intro j d hj he
      obtain ⟨q, hq, h2⟩ := List.any_eq_true.1 he
      rw [Bool.and_eq_true, beq_iff_eq] at h2
      have hlj := (Array.all_eq_true_iff_forall_mem.1 hd) _ (Array.mem_toList_iff.1 hq)
      rw [h2.2, h2.1] at hlj
      have hlj' : l j = true := by simpa using hlj
      rw [hF.val hj hlj', hv j hlj']
    · by_cases e : j = i
      · subst e; rw [upd_same]
      · rw [upd_ne _ _ e] at hj ⊢
        exact hv j hj
def wantV (V : Nat → Value) (o : Oper) : Bool :=
  match o.guard with
  | none => true
  | some (j, b) => match V j with | .bool c => c == b | _ => false
/-- As above, with guards: an operation that is not wanted leaves 'undef'. Each guard stands among what the operation waits for. -/
theorem wp_region_guarded {id : Nat} {a : Act} {w : World} (hm : P.follows .mixedOrders = true) (hk : okOps ops a.tmps.size = true)
    (hg : (ops.toList.all fun o => match o.guard with | none => true | some (j, _) => (dstAt ops j).isSome && o.after.toList.any fun e => e.on == j && Region.binds .any e) = true) (V : Nat → Value)
    (hend : ∀ w', Below w.heap.size w w' → Q .normal (putAll ops.toList 0 V a) w')
    (hno : ∀ (i : Nat) (o : Oper), ops[i]? = some o → wantV V o = false → V i = undef)
    (hstep : ∀ (i : Nat) (o : Oper), ops[i]? = some o → wantV V o = true → ∀ (act : Act) (w' : World), Below w.heap.size w w' →
      (∀ j d, dstAt ops j = some d → (o.after.toList.any fun e => e.on == j && Region.binds .any e) = true → act.tmps[d]?.getD undef = V j) →
      (∀ k, notDst ops k = true → act.tmps[k]?.getD undef = a.tmps[k]?.getD undef) →
      ∀ K : Act → World → Prop, (∀ w'', Below w.heap.size w w'' → K (act.put o.dst (V i)) w'') → o.wp P act w' K Q) : (Code.region id ops true).wp P Q a w := by
  refine wp_region_vals hm hk (fun l vs w' => Below w.heap.size w w' ∧ ∀ j, l j = true → vs j = V j) ⟨(Below.refl _ _).drew, fun _ h => by cases h⟩ ?_ ?_
  · rintro vs w' l ⟨hb, hv⟩ hl
    have : putAll ops.toList 0 vs a = putAll ops.toList 0 V a := by
      have key : ∀ (os : List Oper) (i : Nat) (a : Act), i + os.length ≤ ops.size → putAll os i vs a = putAll os i V a := by
        intro os
        induction os with
        | nil => intro _ _ _; rfl
        | cons o os ih =>
          intro i a h
          simp only [List.length_cons] at h
          rw [putAll, putAll, hv i (hl i (by omega)), ih _ _ (by omega)]
      exact key _ _ _ (by simp)
    rw [this]
    exact hend w' hb
  · rintro i o ho l vs act w' hF ⟨hb, hv⟩ hl hd
    have hdep : ∀ j d, dstAt ops j = some d → (o.after.toList.any fun e => e.on == j && Region.binds .any e) = true → act.tmps[d]? = some (V j) := by
      intro j d hj he
      obtain ⟨q, hq, h2⟩ := List.any_eq_true.1 he
      rw [Bool.and_eq_true, beq_iff_eq] at h2
      have hlj := (Array.all_eq_true_iff_forall_mem.1 hd) _ (Array.mem_toList_iff.1 hq)
      rw [h2.2, h2.1] at hlj
      have hlj' : l j = true := by simpa using hlj
      rw [hF.done j d hj hlj', hv j hlj']
    have hkeep : ∀ v : Value, v = V i → ∀ j, upd l i true j = true → upd vs i v j = V j := by
      intro v hvi j hj
      by_cases e : j = i
      · subst e; rw [upd_same, hvi]
      · rw [upd_ne _ _ e] at hj ⊢
        exact hv j hj
    have hwant : Region.wanted o (yielded ops act.tmps) = wantV V o := by
      unfold Region.wanted wantV
      have hgo := List.all_eq_true.1 hg o (Array.mem_toList_iff.2 (Array.mem_of_getElem? ho))
      cases hgd : o.guard with
      | none => rfl
      | some p =>
        obtain ⟨j, b⟩ := p
        rw [hgd] at hgo
        simp only [Bool.and_eq_true] at hgo
        obtain ⟨d, hd'⟩ := Option.isSome_iff_exists.1 hgo.1
        have ht := hdep j d hd' hgo.2
        have e : ((ops[j]?).bind fun x => x.dst) = some d := hd'
        simp only [yielded, e, Option.bind_some, ht]
        cases V j <;> rfl
    rw [hwant]
    split
    case isTrue hw =>
      intro K hK
      exact hstep i o ho hw act w' hb (fun j d hj he => by rw [hdep j d hj he]; rfl) (fun k h => hF.was h) K (fun w'' hb' => hK _ w'' ⟨hb', hkeep _ rfl⟩)
    case isFalse hw =>
      exact ⟨hb, hkeep _ (hno i o ho (by simpa using hw)).symm⟩
end
end Go.Proofs.Ytefdblaolmckmaa
