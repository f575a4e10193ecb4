/- A region that draws its order, by one statement that every operation keeps ('I'), whatever has come up so far. -/
import Derived.Test.YtefdblaolmckmaaMem
import Derived.Orders
namespace Go.Proofs.Ytefdblaolmckmaa
open Go.RowKit

theorem count_step (L : Array Bool) (i : Nat) (h : L.getD i true = false) : (L.setIfInBounds i true).toList.count false + 1 = L.toList.count false := by
  obtain ⟨l⟩ := L
  have hl : l[i]? = some false := by
    cases hh : l[i]? with
    | none => simp [Array.getD_eq_getD_getElem?, hh] at h
    | some b => simp [Array.getD_eq_getD_getElem?, hh] at h; simp [h]
  simp only [List.setIfInBounds_toArray]
  clear h
  induction l generalizing i with
  | nil => simp at hl
  | cons b l ih =>
    cases i with
    | zero => simp at hl; subst hl; simp
    | succ i =>
      simp only [List.getElem?_cons_succ] at hl
      have := ih i hl
      simp only [List.set_cons_succ, List.count_cons]
      omega

section
variable {P : Program} {ops : Array Oper} {Q : Exit → Act → World → Prop} {md : Region.Mode}
theorem mem_ready' {L : Array Bool} {i : Nat} (h : i ∈ Region.ready md ops L) :
    i < ops.size ∧ L.getD i true = false ∧ ((ops[i]?).map (·.after.all fun e => !Region.binds md e || L.getD e.on false)).getD false = true := by
  unfold Region.ready at h
  rw [List.mem_filter, List.mem_range, Bool.and_eq_true] at h
  exact ⟨h.1, by simpa using h.2.1, h.2.2⟩
theorem ready_nil {L : Array Bool} (h : L.toList.count false = 0) (hs : L.size = ops.size) : Region.ready md ops L = [] := by
  unfold Region.ready
  rw [List.filter_eq_nil_iff]
  intro i hi
  rw [List.mem_range] at hi
  rw [List.count_eq_zero] at h
  have hb : L[i]? = some true := by
    have : L[i]? = some L[i] := Array.getElem?_eq_getElem (by omega)
    cases hh : L[i] with
    | true => rw [this, hh]
    | false => exfalso; apply h; rw [← hh]; exact Array.mem_toList_iff.2 (Array.getElem_mem _)
  simp [Array.getD_eq_getD_getElem?, hb]
theorem ready_out {L : Array Bool} (h : Region.ready md ops L = []) (i : Nat) (hi : i < ops.size) (hd : ((ops[i]?).map (·.after.all fun e => !Region.binds md e || L.getD e.on false)).getD false = true) : L.getD i true = true := by
  cases hh : L.getD i true with
  | true => rfl
  | false =>
    have : i ∈ Region.ready md ops L := by
      unfold Region.ready
      rw [List.mem_filter, List.mem_range, Bool.and_eq_true]
      exact ⟨hi, by rw [hh]; rfl, hd⟩
    rw [h] at this
    cases this
theorem wpAny_inv (I : Array Bool → Act → World → Prop)
    (hend : ∀ L a w, I L a w → Region.ready md ops L = [] → Q .normal a w)
    (hstep : ∀ L a w i, I L a w → i < ops.size → L.getD i true = false → ((ops[i]?).map (·.after.all fun e => !Region.binds md e || L.getD e.on false)).getD false = true →
      wpOp P ops Q i (fun a' w' => I (L.setIfInBounds i true) a' w') a w) :
    ∀ fuel L a w, I L a w → L.size = ops.size → L.toList.count false ≤ fuel → wpAny P md ops Q fuel L a w := by
  intro fuel
  induction fuel with
  | zero => intro L a w hI hs hc; exact ⟨ready_nil (by omega) hs, hend L a w hI (ready_nil (by omega) hs)⟩
  | succ fuel ih =>
    intro L a w hI hs hc
    refine ⟨hend L a w hI, fun i hi => ?_⟩
    obtain ⟨h1, h2, h3⟩ := mem_ready' hi
    refine wpOp_mono (fun a' w' h => ih _ _ _ h (by simpa using hs) ?_) (hstep L a w i hI h1 h2 h3)
    have := count_step L i h2
    omega
theorem wp_region_inv {id : Nat} {a : Act} {w : World} (hm : P.follows .mixedOrders = true) (I : Array Bool → Act → World → Prop)
    (h0 : I (Array.replicate ops.size false) a w.drew)
    (hend : ∀ L a w, I L a w → Region.ready .any ops L = [] → Q .normal a w)
    (hstep : ∀ L a w i, I L a w → i < ops.size → L.getD i true = false → ((ops[i]?).map (·.after.all fun e => !Region.binds .any e || L.getD e.on false)).getD false = true →
      wpOp P ops Q i (fun a' w' => I (L.setIfInBounds i true) a' w') a w) : (Code.region id ops true).wp P Q a w :=
  wp_region_any hm (wpAny_inv I hend hstep _ _ _ _ h0 (by simp) (by simp))
end
theorem wpOp_of {P : Program} {ops : Array Oper} {Q : Exit → Act → World → Prop} {i : Nat} {o : Oper} {a : Act} {w : World} {J : Act → World → Prop}
    (h : ops[i]? = some o) (hg : o.guard = none) (h' : ∀ K : Act → World → Prop, (∀ a w, J a w → K a w) → o.wp P a w K Q) : wpOp P ops Q i J a w := by
  unfold wpOp
  simp only [h, Region.wanted, hg, if_true]
  exact .inl (h' J fun _ _ h => h)
theorem mixed : Try.prog.follows .mixedOrders = true := by kernel_rfl
end Go.Proofs.Ytefdblaolmckmaa
