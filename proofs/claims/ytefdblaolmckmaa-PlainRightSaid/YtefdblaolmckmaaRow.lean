/- From a walk to a statement: whatever a law takes, its arguments read behind the call as they did, if nothing that was there has turned. -/
import Derived.Test.YtefdblaolmckmaaRows
import Derived.WalkKit
import Derived.ProofKit
import Derived.OpenShut
import Derived.ChangeOld
import Derived.Below
import Derived.JoinedCond
import Derived.Deep.CondSized
namespace Go.Proofs.Ytefdblaolmckmaa
open Go.ChangeShapes Go.WideShapes Go.ChangeAt Go.RowKit

theorem own : ownKnob Try.prog.godebug = none := by kernel_rfl
theorem laidOut : laidOutB Try.prog = true := by kernel_rfl
theorem boolT : Try.prog.underlying 4 = some .bool := Try.underlying4

section
variable {H : Type} {enc : TypeId × Value → H} {W W' : World}
theorem below_all : ∀ (ts : List TypeId) (vs : List Value) (ds : List (DataW H)) (p : List MemPlace),
    (∀ t ∈ ts, Try.prog.readableRec t = true ∧ t < Try.prog.types.size) →
    DataW.TrodAll enc Try.prog W 0 (fun _ => true) true ts vs ds p → Below W.heap.size W W' → (∀ x ∈ p, x.block < W.heap.size) →
    DataW.TrodAll enc Try.prog W' 0 (fun b => decide (b < W.heap.size)) true ts vs ds p := by
  intro ts
  induction ts with
  | nil =>
    intro vs ds p _ h _ _
    obtain ⟨rfl, rfl, rfl⟩ := trodAll_nil h
    exact trodAll_mk0
  | cons t ts ih =>
    intro vs ds p hr h hb hlt
    obtain ⟨v, vs', d, ds', p1, q1, rfl, rfl, rfl, h0, r0⟩ := trodAll_cons h
    have ht := hr t (by simp)
    exact trodAll_cons_mk (Below.trod laidOut ht.1 ht.2 h0 hb (fun x hx => hlt x (by simp [hx]))) (ih _ _ _ (fun u hu => hr u (by simp [hu])) r0 hb (fun x hx => hlt x (by simp [hx])))
theorem lt_all : ∀ (ts : List TypeId) (vs : List Value) (ds : List (DataW H)) (p : List MemPlace),
    DataW.TrodAll enc Try.prog W 0 (fun _ => true) true ts vs ds p → ∀ x ∈ p, x.block < W.heap.size := by
  intro ts
  induction ts with
  | nil =>
    intro vs ds p h
    obtain ⟨rfl, rfl, rfl⟩ := trodAll_nil h
    simp
  | cons t ts ih =>
    intro vs ds p h
    obtain ⟨v, vs', d, ds', p1, q1, rfl, rfl, rfl, h0, r0⟩ := trodAll_cons h
    intro x hx
    rcases List.mem_append.1 hx with hx | hx
    · obtain ⟨m, hm⟩ := h0
      exact DataW.trod_lt m _ _ _ hm x hx
    · exact ih _ _ _ r0 x hx
theorem len_all : ∀ (ts : List TypeId) (vs : List Value) (ds : List (DataW H)) (p : List MemPlace) {base : Nat} {sp : Nat → Bool} {hd : Bool},
    DataW.TrodAll enc Try.prog W base sp hd ts vs ds p → ds.length = ts.length := by
  intro ts
  induction ts with
  | nil =>
    intro vs ds p _ _ _ h
    obtain ⟨rfl, rfl, rfl⟩ := trodAll_nil h
    rfl
  | cons t ts ih =>
    intro vs ds p _ _ _ h
    obtain ⟨v, vs', d, ds', p1, q1, rfl, rfl, rfl, h0, r0⟩ := trodAll_cons h
    simp [ih _ _ _ r0]
theorem law_post {f : Func} {s : ChangeSpec} {args : Array Value} {ds gs : List (DataW H)} {before : List MemPlace}
    (hv : s.vars = []) (hr : f.resultTypes = #[4]) (hrd : ∀ t ∈ f.params.toList, Try.prog.readableRec t = true ∧ t < Try.prog.types.size)
    (hs : ∀ ds : List (DataW H), ds.length = f.params.toList.length → s.fn H ds = { results := [.lit (.bool true)], args := ds })
    (hW : DataW.Whole enc Try.prog f.params.toList s.vars false W args.toList ds gs before) (hb : Below W.heap.size W W') :
    s.post enc Try.prog f false true false false W args (.bool true) W' := by
  have hW' := hW
  obtain ⟨p, q, hA, hV, rfl, hfz, hnd⟩ := hW
  rw [hv] at hV
  obtain ⟨rfl, rfl⟩ := trodVars_none hV
  have hl := len_all _ _ _ _ hA
  have e : s.fn H (ds ++ []) = { results := [.lit (.bool true)], args := ds } := by rw [List.append_nil]; exact hs ds hl
  refine ⟨ds, [], p ++ [], [], p, [], hW', ?_, ?_, ?_, hb.frame _, fun h => by cases h⟩
  · rw [e, hr]
    exact trodAll_mk1 (shut_bool boolT _)
  · rw [e]
    exact below_all _ _ _ _ hrd hA hb (lt_all _ _ _ _ hA)
  · rw [hv, e]
    exact rfl
end
end Go.Proofs.Ytefdblaolmckmaa
