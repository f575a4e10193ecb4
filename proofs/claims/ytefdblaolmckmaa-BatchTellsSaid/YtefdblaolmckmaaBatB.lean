/- batch.Make's closure; slices.IndexFunc and ContainsFunc with it. -/
import Derived.Test.YtefdblaolmckmaaBatA
import Derived.Test.YtefdblaolmckmaaClash
import Derived.Test.YtefdblaolmckmaaVals2
namespace Go.Proofs.Ytefdblaolmckmaa
open Go.RowKit
open Brood
set_option linter.unusedVariables false
set_option linter.unusedSimpArgs false

/-- What Make's closure captures: the systems, and the one at hand. -/
structure CapSt (w : World) (b1 b2 B : Nat) (A : Option Addr) (c : Nat) (l : List SysIn) (x : SysIn) : Prop where
  box : Blk w b1 53 #[.slice A l.length c]
  one : Blk w b2 38 #[.int .i64 x.s.mod, .int .i64 x.s.all, .int .i64 x.s.non, .slice x.A x.s.acts.length x.c]
  rd : RdS w B A l
  low : B ≤ w.heap.size
  acts : RdAB w B x.A x.s.acts
theorem CapSt.below {w w' : World} {b1 b2 B : Nat} {A : Option Addr} {c : Nat} {l : List SysIn} {x : SysIn} (h : CapSt w b1 b2 B A c l x) (hb : Below w.heap.size w w') : CapSt w' b1 b2 B A c l x :=
  ⟨h.box.below hb h.box.lt, h.one.below hb h.one.lt, h.rd.under hb h.low, Nat.le_trans h.low hb.size, Rd.under h.acts hb h.low⟩

set_option maxRecDepth 20000 in
set_option maxHeartbeats 3200000 in
theorem make1_any (l : List SysIn) (x : SysIn) (hl : ∀ y ∈ l, Right y.s) (hx : Right x.s) (A : Option Addr) (c b1 b2 B : Nat) (w : World) (h : CapSt w b1 b2 B A c l x) (j : Nat) (hj : j < l.length) :
    Calls Try.prog 63 #[.int .i64 (j : Int), .pointer (some ⟨b1, 0, none⟩), .pointer (some ⟨b2, 0, none⟩)] w fun e w' => e = .returned (.bool (clash l[j].s x.s)) ∧ Below w.heap.size w w' := by
  obtain ⟨b, off, rfl, hb, hc0, hc1, hc2, hc3⟩ := h.rd.at_ hj
  have hr := hl l[j] (List.getElem_mem hj)
  have hacts := h.rd.acts l[j] (List.getElem_mem hj)
  generalize l[j] = y at *
  obtain ⟨s, sA, sc⟩ := y
  obtain ⟨t, tA, tc⟩ := x
  obtain ⟨hbox, hone, hrd, hlow, hxa⟩ := h
  simp only at *
  go_enter Try.func63, Try.ntmps63
  go_upto_region 1 with fail
  refine wp_region_fixed mixed (by kernel_rfl) (by kernel_rfl) (tab [.slice (some ⟨b, off, none⟩) l.length c, .int .i64 (j : Int), .pointer (some ⟨b, off + j * 4, none⟩), .agg #[.int .i64 s.mod, .int .i64 s.all, .int .i64 s.non, .slice sA s.acts.length sc],
    .agg #[.int .i64 t.mod, .int .i64 t.all, .int .i64 t.non, .slice tA t.acts.length tc], .bool (clash s t), .bool (clash s t)]) ?_ ?_
  · intro w' hb'
    simp only [putAll, tab_zero, tab_succ]
    go_wp2_with fail
    go_ret
    exact ⟨rfl, hb'⟩
  · intro i o ho act w' hb' hv hwas K hK
    have e0 := hwas 0 rfl; have e1 := hwas 1 rfl; have e2 := hwas 2 rfl
    simp at e0 e1 e2
    have k0 := (hbox.below hb' hbox.lt).cell 0
    have hone' := hone.below hb' hone.lt
    have o0 := hone'.cell 0; have o1 := hone'.cell 1; have o2 := hone'.cell 2; have o3 := hone'.cell 3
    simp at k0 o0 o1 o2 o3
    replace hc0 := (hb'.cell (p := ⟨b, off + j * 4, none⟩) (by simp only; omega)).trans hc0
    replace hc1 := (hb'.cell (p := ⟨b, off + j * 4 + 1, none⟩) (by simp only; omega)).trans hc1
    replace hc2 := (hb'.cell (p := ⟨b, off + j * 4 + 2, none⟩) (by simp only; omega)).trans hc2
    replace hc3 := (hb'.cell (p := ⟨b, off + j * 4 + 3, none⟩) (by simp only; omega)).trans hc3
    have i0 : (0 : Int) ≤ (j : Int) := by omega
    have i1 : (j : Int) < (l.length : Int) := by omega
    have hi : i < 7 := lt_of_some ho
    match i, hi, ho with
    | 0, _, ho =>
      obtain rfl := Option.some.inj ho
      clear hv hwas
      go_simp
      exact hK _ hb'
    | 1, _, ho =>
      obtain rfl := Option.some.inj ho
      clear hv hwas
      go_simp
      exact hK _ hb'
    | 2, _, ho =>
      obtain rfl := Option.some.inj ho
      have v0 : act.tmps[5]?.getD undef = .slice (some ⟨b, off, none⟩) l.length c := hv 0 5 rfl rfl
      have v1 : act.tmps[6]?.getD undef = .int .i64 (j : Int) := hv 1 6 rfl rfl
      clear hv hwas
      go_simp
      exact hK _ hb'
    | 3, _, ho =>
      obtain rfl := Option.some.inj ho
      have v0 : act.tmps[7]?.getD undef = .pointer (some ⟨b, off + j * 4, none⟩) := hv 2 7 rfl rfl
      clear hv hwas
      go_simp
      exact hK _ hb'
    | 4, _, ho =>
      obtain rfl := Option.some.inj ho
      clear hv hwas
      go_simp
      exact hK _ hb'
    | 5, _, ho =>
      obtain rfl := Option.some.inj ho
      have v0 : act.tmps[8]?.getD undef = .agg #[.int .i64 s.mod, .int .i64 s.all, .int .i64 s.non, .slice sA s.acts.length sc] := hv 3 8 rfl rfl
      have v1 : act.tmps[9]?.getD undef = .agg #[.int .i64 t.mod, .int .i64 t.all, .int .i64 t.non, .slice tA t.acts.length tc] := hv 4 9 rfl rfl
      clear hv hwas
      go_simp
      refine (clash_any s t hr hx sA tA sc tc w' (Rd.more (Rd.under hacts hb' hlow) (Nat.le_trans hlow hb'.size)) (Rd.more (Rd.under hxa hb' hlow) (Nat.le_trans hlow hb'.size))).mono ?_
      rintro e w'' ⟨rfl, hb''⟩
      exact hK _ (grow_below hb' hb'')
    | 6, _, ho =>
      obtain rfl := Option.some.inj ho
      have v0 : act.tmps[10]?.getD undef = .bool (clash s t) := hv 5 10 rfl rfl
      clear hv hwas
      go_simp
      exact hK _ hb'
/-- A slice of numbers of systems. -/
def natsI (js : List Nat) : List Int := js.map fun (j : Nat) => (j : Int)
theorem natsI_get {js : List Nat} {k : Nat} (hk : k < js.length) : (natsI js)[k]'(by simpa [natsI] using hk) = (js[k] : Int) := by simp [natsI]
theorem natsI_length (js : List Nat) : (natsI js).length = js.length := by simp [natsI]
def anyClash (l : List SysIn) (x : SysIn) (js : List Nat) : Bool := js.any fun j => match l[j]? with | some y => clash y.s x.s | none => false
def capV (b1 b2 : Nat) : Value := .func (.func 63) #[] #[.pointer (some ⟨b1, 0, none⟩), .pointer (some ⟨b2, 0, none⟩)]

set_option maxRecDepth 20000 in
set_option maxHeartbeats 3200000 in
theorem index_any (l : List SysIn) (x : SysIn) (hl : ∀ y ∈ l, Right y.s) (hx : Right x.s) (A : Option Addr) (c b1 b2 B : Nat) (w : World) (h : CapSt w b1 b2 B A c l x) (js : List Nat) (hjs : ∀ j ∈ js, j < l.length) (hlen : js.length ≤ 1000) (A' : Option Addr) (c' : Nat) (hA : RdI w A' (natsI js)) :
    Calls Try.prog 83 #[.slice A' js.length c', capV b1 b2] w fun e w' => (∃ z : Int, e = .returned (.int .i64 z) ∧ (0 ≤ z ↔ anyClash l x js = true)) ∧ Below w.heap.size w w' := by
  unfold capV
  go_enter Try.func83, Try.ntmps83
  go_wp2_with fail
  go_loopw [8] (fun i wr => ∃ k : Nat, k ≤ js.length ∧ i = .int .i64 k ∧ Hid (anyClash l x js = anyClash l x (js.drop k)) ∧ Below w.heap.size w wr) (fun i _ => js.length - (intOf i).toNat)
  case atStart => exact ⟨0, by omega, rfl, Lib.hid (by simp), Below.refl _ _⟩
  case round =>
    obtain ⟨k, hk, rfl, hany, hbel⟩ := hrel
    by_cases hlt : k < js.length
    · have hA1 : RdI wr A' (natsI js) := hA.grow hbel
      obtain ⟨b, off, rfl, hb, hc⟩ := hA1.at_ (k := k) (by rw [natsI_length]; exact hlt)
      rw [natsI_get hlt] at hc
      have hj := hjs js[k] (List.getElem_mem hlt)
      have hst : Hid (anyClash l x (js.drop k) = (clash l[js[k]].s x.s || anyClash l x (js.drop (k + 1)))) := Lib.hid (by rw [drop_cons hlt, anyClash, List.any_cons, List.getElem?_eq_getElem hj]; rfl)
      have hcall := make1_any l x hl hx A c b1 b2 B wr (h.below hbel) js[k] hj
      generalize js[k] = j at *
      have i0 : (0 : Int) ≤ (k : Int) := by omega
      have i1 : (k : Int) < (js.length : Int) := by omega
      go_wp2_with fail
      refine hcall.mono ?_
      rintro e w1 ⟨rfl, hb1⟩
      have hcl : l[j]'hj = l[j] := rfl
      cases hq : clash l[j].s x.s
      case true =>
        have hyes : Hid (anyClash l x js = true) := Lib.hid (by rw [hany.out, hst.out, hq]; rfl)
        go_wp2_with fail
        go_ret
        exact ⟨⟨_, rfl, by rw [hyes.out]; simp⟩, grow_below hbel hb1⟩
      case false =>
        have hnext : Hid (anyClash l x js = anyClash l x (js.drop (k + 1))) := Lib.hid (by rw [hany.out, hst.out, hq]; rfl)
        go_wp2_with fail
        go_roundw
        case rel => exact ⟨k + 1, by omega, by go_num, hnext, grow_below hbel hb1⟩
        case measure => simp [intOf]; omega
    · obtain rfl : k = js.length := by omega
      have hno : Hid (anyClash l x js = false) := Lib.hid (by rw [hany.out]; simp [anyClash])
      go_wp2_with fail
      go_ret
      exact ⟨⟨_, rfl, by rw [hno.out]; decide⟩, hbel⟩

set_option maxRecDepth 20000 in
set_option maxHeartbeats 800000 in
theorem contains_any (l : List SysIn) (x : SysIn) (hl : ∀ y ∈ l, Right y.s) (hx : Right x.s) (A : Option Addr) (c b1 b2 B : Nat) (w : World) (h : CapSt w b1 b2 B A c l x) (js : List Nat) (hjs : ∀ j ∈ js, j < l.length) (hlen : js.length ≤ 1000) (A' : Option Addr) (c' : Nat) (hA : RdI w A' (natsI js)) :
    Calls Try.prog 62 #[.slice A' js.length c', capV b1 b2] w fun e w' => e = .returned (.bool (anyClash l x js)) ∧ Below w.heap.size w w' := by
  have hcall := index_any l x hl hx A c b1 b2 B w h js hjs hlen A' c' hA
  go_enter Try.func62, Try.ntmps62
  go_wp2_with fail
  refine hcall.mono ?_
  rintro e w1 ⟨⟨z, rfl, hz⟩, hb1⟩
  by_cases h0 : 0 ≤ z
  · have he := hz.1 h0
    go_wp2_with fail
    go_ret
    exact ⟨ret_bool he.symm, hb1⟩
  · have he : anyClash l x js = false := by
      cases q : anyClash l x js
      · rfl
      · exact absurd (hz.2 q) h0
    go_wp2_with fail
    go_ret
    exact ⟨ret_bool he.symm, hb1⟩
end Go.Proofs.Ytefdblaolmckmaa
