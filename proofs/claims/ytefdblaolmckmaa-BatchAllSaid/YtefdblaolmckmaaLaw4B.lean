/- RuleBoth: one clashes with the other as the other with the one. -/
import Derived.Test.YtefdblaolmckmaaLaw4W
import Derived.Test.YtefdblaolmckmaaVals
namespace Go.Proofs.Ytefdblaolmckmaa
open Go.RowKit
open Brood
set_option linter.unusedVariables false
set_option linter.unusedSimpArgs false

theorem meetS_or (a b c : Int) : meetS a (orS b c) = (meetS a b || meetS a c) := by
  simp only [meetS, orS, Int.toNat_natCast, Nat.and_or_distrib_left]
  generalize a.toNat &&& b.toNat = x
  generalize a.toNat &&& c.toNat = y
  rw [Bool.eq_iff_iff]
  simp [Nat.or_eq_zero_iff]
  omega
theorem meetS_comm (a b : Int) : meetS a b = meetS b a := by
  simp only [meetS, Nat.and_comm]
theorem clash_comm (s t : BSys) : clash s t = clash t s := by
  unfold clash clashN
  rw [meetS_or, meetS_or, meetS_comm (needs t).writes (needs s).writes]
  cases (needs s).moves <;> cases (needs t).moves <;> cases (needs s).life <;> cases (needs t).life <;> simp
  generalize meetS (needs s).writes (needs t).reads = x
  generalize meetS (needs s).writes (needs t).writes = y
  generalize meetS (needs t).writes (needs s).reads = z
  cases x <;> cases y <;> cases z <;> rfl
theorem or_ne {a b : Nat} (h : a ≠ 0 ∨ b ≠ 0) : a ||| b ≠ 0 := by
  intro e
  rw [Nat.or_eq_zero_iff] at e
  omega
theorem ok_write {all : Int} {a : BAct} (h : actErr all a = 0) (h6 : ¬ a.kind = 6) (h7 : ¬ a.kind = 7) : isPart a.part = true := by
  unfold actErr at h
  rw [if_neg h6, if_neg h7] at h
  split at h
  · split at h
    · cases h
    · rename_i hn
      cases hp : isPart a.part with
      | true => rfl
      | false => exfalso; apply hn; rw [hp]; simp
  · cases h
theorem needs_moves_from {all : Int} : ∀ (l : List BAct) (n : BNeed), (∀ a ∈ l, actErr all a = 0) → (n.moves = true → n.writes.toNat ≠ 0) →
    ((l.foldl (needAct all) n).moves = true → (l.foldl (needAct all) n).writes.toNat ≠ 0)
  | [], _, _, h => h
  | a :: l, n, hok, h => by
    rw [List.foldl_cons]
    refine needs_moves_from l _ (fun x hx => hok x (by simp [hx])) ?_
    unfold needAct
    split
    · exact h
    · split
      · intro hm
        simp only [orS, Int.toNat_natCast]
        exact or_ne (.inl (h hm))
      · rename_i h6 h7
        intro _
        simp only [withS, if_pos (ok_write (hok a (by simp)) h6 h7), Int.toNat_natCast]
        refine or_ne (.inr ?_)
        exact Nat.pos_iff_ne_zero.1 (Nat.two_pow_pos _)
theorem needs_moves (s : BSys) (hr : Right s) (h : (needs s).writes = 0) : (needs s).moves = false := by
  cases hm : (needs s).moves with
  | false => rfl
  | true =>
    have := needs_moves_from (all := s.all) s.acts ⟨0, 0, false, false⟩ hr.2.2.2 (fun h => by cases h) hm
    exfalso
    apply this
    show (needs s).writes.toNat = 0
    rw [h]; rfl
theorem clash_readers {s t : BSys} (hs : Right s) (ht : Right t) (h1 : (needs s).writes = 0) (h2 : (needs t).writes = 0) (h3 : (needs s).life = false) (h4 : (needs t).life = false) : clash s t = false := by
  unfold clash clashN
  rw [needs_moves s hs h1, needs_moves t ht h2, h1, h2, h3, h4]
  simp [meetS]

set_option maxRecDepth 20000 in
set_option maxHeartbeats 1600000 in
theorem ruleBoth_any (s : BSys) (A : Option Addr) (c : Nat) (t : BSys) (A' : Option Addr) (c' : Nat) (w : World) (hA : RdA w A s.acts) (hA' : RdA w A' t.acts) :
    Calls Try.prog 7 #[.agg #[.int .i64 s.mod, .int .i64 s.all, .int .i64 s.non, .slice A s.acts.length c], .agg #[.int .i64 t.mod, .int .i64 t.all, .int .i64 t.non, .slice A' t.acts.length c']] w fun e w' => e = .returned (.bool true) ∧ Below w.heap.size w w' := by
  have hfd : ∀ (a b : Int) (w : World), (Instr.field 43 (.agg #[.int .i64 a, .int .i64 b]) 0).run Try.prog w = .ok (.int .i64 a) w := fun _ _ _ => by kernel_rfl
  have HS := (Blk.new w 38 #[.int .i64 s.mod, .int .i64 s.all, .int .i64 s.non, .slice A s.acts.length c]).alloc (.cells #[.int .i64 t.mod, .int .i64 t.all, .int .i64 t.non, .slice A' t.acts.length c'] 38)
  have HT := Blk.new (w.alloc (.cells #[.int .i64 s.mod, .int .i64 s.all, .int .i64 s.non, .slice A s.acts.length c] 38)) 38 #[.int .i64 t.mod, .int .i64 t.all, .int .i64 t.non, .slice A' t.acts.length c']
  simp only [World.size_alloc] at HT
  have hA0 : RdA ((w.alloc (.cells #[.int .i64 s.mod, .int .i64 s.all, .int .i64 s.non, .slice A s.acts.length c] 38)).alloc (.cells #[.int .i64 t.mod, .int .i64 t.all, .int .i64 t.non, .slice A' t.acts.length c'] 38)) A s.acts := Rd.alloc_ (Rd.alloc_ hA _) _
  have hA1 : RdA ((w.alloc (.cells #[.int .i64 s.mod, .int .i64 s.all, .int .i64 s.non, .slice A s.acts.length c] 38)).alloc (.cells #[.int .i64 t.mod, .int .i64 t.all, .int .i64 t.non, .slice A' t.acts.length c'] 38)) A' t.acts := Rd.alloc_ (Rd.alloc_ hA' _) _
  have hbel : Below w.heap.size w ((w.alloc (.cells #[.int .i64 s.mod, .int .i64 s.all, .int .i64 s.non, .slice A s.acts.length c] 38)).alloc (.cells #[.int .i64 t.mod, .int .i64 t.all, .int .i64 t.non, .slice A' t.acts.length c'] 38)) := ((Below.refl _ _).alloc (Nat.le_refl _) _).alloc (by simp) _
  go_enter Try.func7, Try.ntmps7
  go_wp2_with fail
  refine (alive4_any _).mono ?_
  rintro e w1 ⟨rfl, hb1⟩
  replace HS := HS.below hb1 HS.lt
  replace HT := HT.below hb1 HT.lt
  replace hA0 : RdA w1 A s.acts := Rd.grow hA0 hb1
  replace hA1 : RdA w1 A' t.acts := Rd.grow hA1 hb1
  replace hbel := grow_below hbel hb1
  have s0 := HS.cell 0; have s1 := HS.cell 1; have s2 := HS.cell 2; have s3 := HS.cell 3
  simp at s0 s1 s2 s3
  go_wp2_with fail
  refine (wrong_any s A c w1 hA0).mono ?_
  rintro e w2 ⟨rfl, hb2⟩
  replace HS := HS.below hb2 HS.lt
  replace HT := HT.below hb2 HT.lt
  replace hA0 : RdA w2 A s.acts := Rd.grow hA0 hb2
  replace hA1 : RdA w2 A' t.acts := Rd.grow hA1 hb2
  replace hbel := grow_below hbel hb2
  clear s0 s1 s2 s3
  by_cases hw : (sysWrong s).1 = 0
  case neg =>
    go_wp2_with fail
    go_ret
    exact ⟨rfl, hbel⟩
  rw [hw]
  have t0 := HT.cell 0; have t1 := HT.cell 1; have t2 := HT.cell 2; have t3 := HT.cell 3
  simp at t0 t1 t2 t3
  go_wp2_with fail
  refine (wrong_any t A' c' w2 hA1).mono ?_
  rintro e w3 ⟨rfl, hb3⟩
  replace HS := HS.below hb3 HS.lt
  replace HT := HT.below hb3 HT.lt
  replace hA0 : RdA w3 A s.acts := Rd.grow hA0 hb3
  replace hA1 : RdA w3 A' t.acts := Rd.grow hA1 hb3
  replace hbel := grow_below hbel hb3
  clear t0 t1 t2 t3
  by_cases hw' : (sysWrong t).1 = 0
  case neg =>
    go_wp2_with fail
    go_ret
    exact ⟨rfl, hbel⟩
  rw [hw']
  have hR := right_of hw
  have hR' := right_of hw'
  go_upto_region 5 with fail
  go_cut [25] (fun s25 wx => s25 = .bool false ∧ Below w3.heap.size w3 wx)
  case first =>
    refine wp_region_fixed mixed (by rfl) (by rfl) (fun j => match j with
      | 0 | 4 => .agg #[.int .i64 s.mod, .int .i64 s.all, .int .i64 s.non, .slice A s.acts.length c]
      | 1 | 3 => .agg #[.int .i64 t.mod, .int .i64 t.all, .int .i64 t.non, .slice A' t.acts.length c']
      | 2 => .bool (clash s t) | 5 => .bool (clash s t) | _ => .bool false) ?_ ?_
    · intro w' hb
      simp only [putAll]
      go_wp2_with fail
      go_meet
      exact ⟨rfl, hb⟩
    · intro i o ho act w' hb hv hwas K hK
      have e2 := hwas 2 rfl
      have e3 := hwas 3 rfl
      simp at e2 e3
      replace HS := HS.below hb HS.lt
      replace HT := HT.below hb HT.lt
      replace hA0 : RdA w' A s.acts := Rd.grow hA0 hb
      replace hA1 : RdA w' A' t.acts := Rd.grow hA1 hb
      have s0 := HS.cell 0; have s1 := HS.cell 1; have s2 := HS.cell 2; have s3 := HS.cell 3
      simp at s0 s1 s2 s3
      have t0 := HT.cell 0; have t1 := HT.cell 1; have t2 := HT.cell 2; have t3 := HT.cell 3
      simp at t0 t1 t2 t3
      have hi : i < 7 := lt_of_some ho
      match i, hi, ho with
      | 0, _, ho | 1, _, ho | 3, _, ho | 4, _, ho =>
        obtain rfl := Option.some.inj ho
        go_simp
        exact hK _ hb
      | 2, _, ho =>
        obtain rfl := Option.some.inj ho
        have v0 := hv 0 19 rfl rfl
        have v1 := hv 1 20 rfl rfl
        simp only at v0 v1
        go_simp
        refine (clash_any s t hR hR' A A' c c' w' hA0 hA1).mono ?_
        rintro e w'' ⟨rfl, hb''⟩
        exact hK _ (grow_below hb hb'')
      | 5, _, ho =>
        obtain rfl := Option.some.inj ho
        have v0 := hv 3 22 rfl rfl
        have v1 := hv 4 23 rfl rfl
        simp only at v0 v1
        go_simp
        refine (clash_any t s hR' hR A' A c' c w' hA1 hA0).mono ?_
        rintro e w'' ⟨rfl, hb''⟩
        rw [← clash_comm s t]
        exact hK _ (grow_below hb hb'')
      | 6, _, ho =>
        obtain rfl := Option.some.inj ho
        have v0 := hv 2 21 rfl rfl
        have v1 := hv 5 24 rfl rfl
        simp only at v0 v1
        go_simp
        exact hK _ hb
  case rest =>
    obtain ⟨rfl, hb4⟩ := hcut
    go_upto_region 7 with fail
    replace HS := HS.below hb4 HS.lt
    replace HT := HT.below hb4 HT.lt
    replace hA0 : RdA wc A s.acts := Rd.grow hA0 hb4
    replace hA1 : RdA wc A' t.acts := Rd.grow hA1 hb4
    replace hbel := grow_below hbel hb4
    go_cut [5, 6] (fun s5 s6 wx => ∃ g g' : Nat, s5 = .pointer (some ⟨g, 0, none⟩) ∧ s6 = .pointer (some ⟨g', 0, none⟩) ∧ Below wc.heap.size wc wx ∧
        Blk wx g 46 #[.int .i64 (needs s).reads, .int .i64 (needs s).writes, .bool (needs s).moves, .bool (needs s).life] ∧
        Blk wx g' 46 #[.int .i64 (needs t).reads, .int .i64 (needs t).writes, .bool (needs t).moves, .bool (needs t).life])
    case first =>
      refine two_calls 26 27 28 29 5 6 2 3 36 _ _ _ _ _ _ _ _ _ _ s.mod s.all s.non (.slice A s.acts.length c) t.mod t.all t.non (.slice A' t.acts.length c') _ _ _ _ _ _ _ _ w.heap.size (w.heap.size + 1) needs_enter (by decide) (by simp) rfl rfl HS HT
        (fun W hW => needs_right s hR A c W (RdA.grow hA0 hW)) (fun W hW => needs_right t hR' A' c' W (RdA.grow hA1 hW)) ?_
      intro g g' W hW hg hg'
      go_wp2_with fail
      go_meet
      exact ⟨g, g', rfl, rfl, hW, hg, hg'⟩
    case rest =>
      obtain ⟨g, g', rfl, rfl, hb5, hg, hg'⟩ := hcut
      have HS5 := HS.below hb5 HS.lt
      have HT5 := HT.below hb5 HT.lt
      have hB0 := RdA.grow hA0 hb5
      have hB1 := RdA.grow hA1 hb5
      have hbel5 := grow_below hbel hb5
      clear HS HT hA0 hA1
      have g1 := hg.cell 1; have g3 := hg.cell 3
      have k1 := hg'.cell 1; have k3 := hg'.cell 3
      simp at g1 g3 k1 k3
      clear hg hg'
      have hrd := @clash_readers s t hR hR'
      have hcl := Lib.hid (@clash_readers s t hR hR')
      clear hrd
      by_cases h1 : (needs s).writes = 0
      case neg =>
        go_wp2_with fail
        go_ret
        exact ⟨rfl, hbel5⟩
      by_cases h2 : (needs t).writes = 0
      case neg =>
        go_wp2_with fail
        go_ret
        exact ⟨rfl, hbel5⟩
      cases h3 : (needs s).life
      case true =>
        go_wp2_with fail
        go_ret
        exact ⟨rfl, hbel5⟩
      cases h4 : (needs t).life
      case true =>
        go_wp2_with fail
        go_ret
        exact ⟨rfl, hbel5⟩
      have s0 := HS5.cell 0; have s1 := HS5.cell 1; have s2 := HS5.cell 2; have s3 := HS5.cell 3
      simp at s0 s1 s2 s3
      have t0 := HT5.cell 0; have t1 := HT5.cell 1; have t2 := HT5.cell 2; have t3 := HT5.cell 3
      simp at t0 t1 t2 t3
      have hc := hcl.out h1 h2 h3 h4
      clear hcl
      go_wp2_with fail
      refine (clash_any s t hR hR' A A' c c' _ hB0 hB1).mono ?_
      rintro e w6 ⟨rfl, hb6⟩
      rw [hc]
      go_wp2_with fail
      go_ret
      exact ⟨rfl, grow_below hbel5 hb6⟩
end Go.Proofs.Ytefdblaolmckmaa
