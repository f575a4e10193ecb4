/- The walks of slices.Grow (of nil), slices.Concat (of slices of ints) and batch.Order. -/
import Derived.Test.YtefdblaolmckmaaOwn2
import Derived.Lib.AppendZeros
import Derived.Laws.AppendOwnNone
namespace Go.Proofs.Ytefdblaolmckmaa
open Go.RowKit
set_option linter.unusedVariables false
set_option linter.unusedSimpArgs false

/-- A slice of slices of ints that reads as the rows. -/
structure RdLL (w : World) (B : Nat) (A : Option Addr) (us : List Value) (rows : List (List Int)) : Prop where
  len : us.length = rows.length
  out : Rd w B 1 A rows.length us
  row : ∀ (k : Nat) (u : Value) (r : List Int), us[k]? = some u → rows[k]? = some r → ∃ A' c', u = .slice A' r.length c' ∧ (A' = none → c' = 0) ∧ r.length ≤ c' ∧ Rd w B 1 A' r.length (ints r)
section
variable {w w' : World} {B : Nat} {A : Option Addr} {us : List Value} {rows : List (List Int)}
theorem RdLL.under (h : RdLL w B A us rows) {C : Nat} (hb : Below C w w') (hC : B ≤ C) : RdLL w' B A us rows :=
  ⟨h.len, h.out.under hb hC, fun k u r h1 h2 => by obtain ⟨A', c', e, h3, h3', h4⟩ := h.row k u r h1 h2; exact ⟨A', c', e, h3, h3', h4.under hb hC⟩⟩
theorem RdLL.of_own {base : Nat} {c : Nat} (h : OwnLL w base (.slice A rows.length c) us rows) : RdLL w w.heap.size A us rows := by
  refine ⟨h.len, ?_, ?_⟩
  · have := h.out
    rw [h.len] at this
    exact Rd.of_own this
  · intro k u r h1 h2
    have h3 := h.row k u r h1 h2
    obtain ⟨A', c', rfl, h4, _⟩ := own_shape h3
    refine ⟨A', c', rfl, fun hn => ?_, h4, Rd.of_own h3⟩
    subst hn
    rcases h3.2 with ⟨e, _⟩ | ⟨g, cap, cur, e, _⟩
    · injection e
    · cases e
theorem RdLL.at_ (h : RdLL w B A us rows) {k : Nat} (hk : k < rows.length) :
    ∃ b off A' c', A = some ⟨b, off, none⟩ ∧ b < B ∧ w.cell? ⟨b, off + k, none⟩ = some (.slice A' rows[k].length c') ∧ (A' = none → c' = 0) ∧ rows[k].length ≤ c' ∧ Rd w B 1 A' rows[k].length (ints rows[k]) := by
  obtain ⟨b, off, e, hb, hc⟩ := h.out.2 (by omega)
  have hku : k < us.length := by rw [h.len]; exact hk
  obtain ⟨A', c', hu, h0, h1, h2⟩ := h.row k us[k] rows[k] (List.getElem?_eq_getElem hku) (List.getElem?_eq_getElem hk)
  exact ⟨b, off, A', c', e, hb, by rw [hc k us[k] (List.getElem?_eq_getElem hku), hu], h0, h1, h2⟩
end

set_option maxRecDepth 20000 in
set_option maxHeartbeats 1600000 in
theorem grow_any (n : Nat) (hn : n ≤ 1000) (w : World) :
    Calls Try.prog 84 #[.slice none 0 0, .int .i64 (n : Int)] w fun e w' => ∃ v, e = .returned v ∧ w'.ownsRow w.heap.size 3 1 v 0 [] ∧ Below w.heap.size w w' := by
  obtain ⟨i0, hi, hz0, hz1, hz2⟩ := info_parts infoInt
  by_cases h0 : n = 0
  · subst h0
    go_enter Try.func84, Try.ntmps84
    go_wp2_with fail
    go_ret
    exact ⟨_, rfl, own_nil _ _ _ _, Below.refl _ _⟩
  · have hn0 : 0 < n := by omega
    have hb48 : n * i0.bytes ≤ 281474976710656 := by rw [hz2]; omega
    have hsz : 0 < i0.size := by rw [hz1]; decide
    have h63 : (n : Int) ≤ 9223372036854775807 := by omega
    have hcg := grownCap_ge w n 0 3
    have hcm := grownCap_le_maxLen w n 0 3 (by unfold maxLen; omega)
    go_enter Try.func84, Try.ntmps84
    go_wp2_with (at_builtin; refine Lib.wpList_append_run _ rfl _ _ 32 3 rfl (.slice none 0 0) (.int .i64 (n : Int)) rfl rfl _ _ (Lib.run_append_nil_zeros _ 32 3 _ 3 i0 (.int .i64 0) .i64 .i64 Try.underlying32 Try.underlying3 hi hz0 n hn0 hsz h63 hb48) ?_)
    go_ret
    exact ⟨_, rfl, World.ownsRow_made (base := w.heap.size) (e := 3) (size := 1) w _ (grownCap w n 0 3) (Nat.le_refl _) hcm (by rw [Array.size_append, size_zeroCells, size_zeroCells]; simp [Value.cells]; omega), ((Below.refl _ _).alloc (Nat.le_refl _) _).drew⟩

def flatN (rows : List (List Int)) (k : Nat) : Nat := (rows.take k).flatten.length
theorem take_flat {rows : List (List Int)} {k : Nat} (hk : k < rows.length) : (rows.take (k + 1)).flatten = (rows.take k).flatten ++ rows[k] := by
  rw [List.take_add_one, List.getElem?_eq_getElem hk, List.flatten_append]
  simp only [Option.toList_some, List.flatten_cons, List.flatten_nil, List.append_nil]
theorem flatN_succ {rows : List (List Int)} {k : Nat} (hk : k < rows.length) : flatN rows (k + 1) = flatN rows k + rows[k].length := by
  rw [flatN, take_flat hk, List.length_append, flatN]
theorem flatN_le (rows : List (List Int)) (k : Nat) : flatN rows k ≤ rows.flatten.length := by
  have h := congrArg (fun l => l.flatten.length) (List.take_append_drop k rows)
  rw [List.flatten_append, List.length_append] at h
  unfold flatN; omega
theorem flatN_all (rows : List (List Int)) : flatN rows rows.length = rows.flatten.length := by rw [flatN, List.take_length]
theorem ints_append (a b : List Int) : ints (a ++ b) = ints a ++ ints b := by simp [ints]

set_option maxRecDepth 20000 in
set_option maxHeartbeats 3200000 in
theorem concat_any (A : Option Addr) (c : Nat) (us : List Value) (rows : List (List Int)) (hlen : rows.length ≤ 1000) (htot : rows.flatten.length ≤ 1000) (w : World) (hA : RdLL w w.heap.size A us rows) :
    Calls Try.prog 64 #[.slice A rows.length c] w fun e w' => ∃ v, e = .returned v ∧ w'.ownsRow w.heap.size 3 1 v rows.flatten.length (ints rows.flatten) ∧ Below w.heap.size w w' := by
  obtain ⟨i0', hi0, hz0a, hz0b, hz0c⟩ := info_parts infoInt
  go_enter Try.func64, Try.ntmps64
  go_wp2_with fail
  go_loopw [3, 11] (fun t i wr => ∃ k : Nat, k ≤ rows.length ∧ i = .int .i64 k ∧ t = .int .i64 (flatN rows k : Nat) ∧ wr = w) (fun _ i _ => rows.length - (intOf i).toNat)
  case atStart => exact ⟨0, by omega, rfl, rfl, rfl⟩
  case round =>
    obtain ⟨k, hk, rfl, rfl, rfl⟩ := hrel
    by_cases hlt : k < rows.length
    · obtain ⟨b, off, A', c', rfl, hb, hc, hcn, hc', hr⟩ := hA.at_ hlt
      have htf := flatN_succ hlt
      have hle1 := flatN_le rows (k + 1)
      generalize hrk : rows[k].length = m at *
      have i0 : (0 : Int) ≤ (k : Int) := by omega
      have i1 : (k : Int) < (rows.length : Int) := by omega
      go_wp2_with fail
      go_roundw
      case rel => exact ⟨k + 1, by omega, by go_num, by rw [htf]; go_num, trivial⟩
      case measure => simp [intOf]; omega
    · obtain rfl : k = rows.length := by omega
      have hN := flatN_all rows
      have hN2 : flatN rows rows.length ≤ 1000 := by rw [hN]; exact htot
      generalize flatN rows rows.length = N at hN2 hN ⊢
      have hNh := Lib.hid hN
      clear hN
      go_wp2_with fail
      refine (grow_any N hN2 wr).mono ?_
      rintro e w1 ⟨v, rfl, hown, hb1⟩
      have hA1 := hA.under hb1 (Nat.le_refl _)
      have hB0 : wr.heap.size ≤ w1.heap.size := hb1.size
      obtain ⟨wz, rfl⟩ : ∃ wz : World, wz = wr := ⟨_, rfl⟩
      go_wp2_with fail
      go_loopw [6, 27] (fun v i wr => ∃ k : Nat, k ≤ rows.length ∧ i = .int .i64 k ∧ wr.ownsRow wz.heap.size 3 1 v (flatN rows k) (ints (rows.take k).flatten) ∧ Below wz.heap.size wz wr) (fun _ i _ => rows.length - (intOf i).toNat)
      case atStart => exact ⟨0, by omega, rfl, by simpa [flatN, ints] using hown, hb1⟩
      case round =>
        clear hown hb1 hA1 hB0
        obtain ⟨k, hk, rfl, hown, hbel⟩ := hrel
        by_cases hlt : k < rows.length
        · have hA2 := hA.under hbel (Nat.le_refl _)
          obtain ⟨b, off, A', c', rfl, hb, hc, hcn, hc', hr⟩ := hA2.at_ hlt
          have htf := flatN_succ hlt
          have hle1 := flatN_le rows (k + 1)
          have hti := take_flat hlt
          have hsz := hbel.size
          have i0 : (0 : Int) ≤ (k : Int) := by omega
          have i1 : (k : Int) < (rows.length : Int) := by omega
          by_cases h0 : 0 < rows[k].length
          · obtain ⟨b2, off2, rfl, hb2, hc2⟩ := hr.2 h0
            generalize hrk : rows[k] = r at *
            go_wp2_with (at_builtin; refine wpList_append_own _ rfl _ _ 32 rfl wz.heap.size 3 i0' (.int .i64 0) 1 8 Try.underlying32 hi0 hz0a hz0b hz0c rfl (by decide) _ _ _ rfl hown ⟨b2, off2, none⟩ r.length c' (ints r) rfl ?c0 ?c1 ?c2 ?c3 ?c4 ?c5 ?_; rotate_left 6; intro v' w1 hown' hgrow _)
            case c0 => simp [ints]
            case c1 => intro j u hu; rw [add_mk]; exact hc2 j u hu
            case c2 => exact ints_one _
            case c3 => unfold maxLen; omega
            case c4 => omega
            case c5 => exact hsz
            go_roundw
            case rel => exact ⟨k + 1, by omega, by go_num, by rw [htf, hti, ints_append]; exact hown', hbel.grown hgrow hsz (own_block hown)⟩
            case measure => simp [intOf]; omega
          · have hr0 : rows[k] = [] := List.eq_nil_of_length_eq_zero (by omega)
            rw [hr0] at hc hc' htf hti
            rw [List.append_nil] at hti
            cases A' with
            | none =>
              obtain rfl := hcn rfl
              go_wp2_with (at_builtin; refine wpList_append_own_none rfl _ _ 32 rfl wz.heap.size 3 i0' 1 Try.underlying32 hi0 _ _ _ rfl hown rfl ?_)
              go_roundw
              case rel => exact ⟨k + 1, by omega, by go_num, by rw [htf, hti]; exact hown, hbel⟩
              case measure => simp [intOf]; omega
            | some ad =>
              go_wp2_with (at_builtin; refine wpList_append_own _ rfl _ _ 32 rfl wz.heap.size 3 i0' (.int .i64 0) 1 8 Try.underlying32 hi0 hz0a hz0b hz0c rfl (by decide) _ _ _ rfl hown ad 0 c' [] rfl ?c0 ?c1 ?c2 ?c3 ?c4 ?c5 ?_; rotate_left 6; intro v' w1 hown' hgrow _)
              case c0 => rfl
              case c1 => intro j u hu; simp at hu
              case c2 => intro u hu; simp at hu
              case c3 => unfold maxLen; omega
              case c4 => omega
              case c5 => exact hsz
              go_roundw
              case rel => exact ⟨k + 1, by omega, by go_num, by rw [htf, hti]; rw [List.append_nil] at hown'; exact hown', hbel.grown hgrow hsz (own_block hown)⟩
              case measure => simp [intOf]; omega
        · obtain rfl : k = rows.length := by omega
          rw [flatN_all, List.take_length] at hown
          go_wp2_with fail
          go_ret
          exact ⟨_, rfl, hown, hbel⟩

set_option maxRecDepth 20000 in
set_option maxHeartbeats 800000 in
theorem order_any (A : Option Addr) (c : Nat) (us : List Value) (rows : List (List Int)) (hlen : rows.length ≤ 1000) (htot : rows.flatten.length ≤ 1000) (w : World) (hA : RdLL w w.heap.size A us rows) :
    Calls Try.prog 48 #[.slice A rows.length c] w fun e w' => ∃ v, e = .returned v ∧ w'.ownsRow w.heap.size 3 1 v rows.flatten.length (ints rows.flatten) ∧ Below w.heap.size w w' := by
  go_enter Try.func48, Try.ntmps48
  go_wp2_with fail
  refine (concat_any A c us rows hlen htot w hA).mono ?_
  rintro e w1 ⟨v, rfl, hown, hb⟩
  go_wp2_with fail
  go_ret
  exact ⟨_, rfl, hown, hb⟩
end Go.Proofs.Ytefdblaolmckmaa
