/- RuleTells: the program's answers are the document's. -/
import Derived.Test.YtefdblaolmckmaaLaw4W
import Derived.Test.YtefdblaolmckmaaVals2
import Derived.Test.YtefdblaolmckmaaRef4F
namespace Go.Proofs.Ytefdblaolmckmaa
open Go.RowKit
open Brood
set_option linter.unusedVariables false
set_option linter.unusedSimpArgs false

set_option maxRecDepth 20000 in
set_option maxHeartbeats 64000000 in
theorem ruleTells_any (s : BSys) (A : Option Addr) (c : Nat) (t : BSys) (A' : Option Addr) (c' : Nat) (mr mw : Int) (ml : Bool) (w : World) (hA : RdA w A s.acts) (hA' : RdA w A' t.acts) :
    Calls Try.prog 5 #[.agg #[.int .i64 s.mod, .int .i64 s.all, .int .i64 s.non, .slice A s.acts.length c], .agg #[.int .i64 t.mod, .int .i64 t.all, .int .i64 t.non, .slice A' t.acts.length c'], .agg #[.int .i64 mr, .int .i64 mw, .bool ml]] w fun e w' => e = .returned (.bool true) ∧ Below w.heap.size w w' := by
  have hfd : ∀ (a b : Int) (w : World), (Instr.field 43 (.agg #[.int .i64 a, .int .i64 b]) 0).run Try.prog w = .ok (.int .i64 a) w := fun _ _ _ => by kernel_rfl
  have HS := ((Blk.new w 38 #[.int .i64 s.mod, .int .i64 s.all, .int .i64 s.non, .slice A s.acts.length c]).alloc (.cells #[.int .i64 t.mod, .int .i64 t.all, .int .i64 t.non, .slice A' t.acts.length c'] 38)).alloc (.cells #[.int .i64 mr, .int .i64 mw, .bool ml] 40)
  have HT := (Blk.new (w.alloc (.cells #[.int .i64 s.mod, .int .i64 s.all, .int .i64 s.non, .slice A s.acts.length c] 38)) 38 #[.int .i64 t.mod, .int .i64 t.all, .int .i64 t.non, .slice A' t.acts.length c']).alloc (.cells #[.int .i64 mr, .int .i64 mw, .bool ml] 40)
  have HM := Blk.new ((w.alloc (.cells #[.int .i64 s.mod, .int .i64 s.all, .int .i64 s.non, .slice A s.acts.length c] 38)).alloc (.cells #[.int .i64 t.mod, .int .i64 t.all, .int .i64 t.non, .slice A' t.acts.length c'] 38)) 40 #[.int .i64 mr, .int .i64 mw, .bool ml]
  simp only [World.size_alloc] at HT HM
  have hA0 : RdA (((w.alloc (.cells #[.int .i64 s.mod, .int .i64 s.all, .int .i64 s.non, .slice A s.acts.length c] 38)).alloc (.cells #[.int .i64 t.mod, .int .i64 t.all, .int .i64 t.non, .slice A' t.acts.length c'] 38)).alloc (.cells #[.int .i64 mr, .int .i64 mw, .bool ml] 40)) A s.acts := Rd.alloc_ (Rd.alloc_ (Rd.alloc_ hA _) _) _
  have hA1 : RdA (((w.alloc (.cells #[.int .i64 s.mod, .int .i64 s.all, .int .i64 s.non, .slice A s.acts.length c] 38)).alloc (.cells #[.int .i64 t.mod, .int .i64 t.all, .int .i64 t.non, .slice A' t.acts.length c'] 38)).alloc (.cells #[.int .i64 mr, .int .i64 mw, .bool ml] 40)) A' t.acts := Rd.alloc_ (Rd.alloc_ (Rd.alloc_ hA' _) _) _
  have hbel : Below w.heap.size w (((w.alloc (.cells #[.int .i64 s.mod, .int .i64 s.all, .int .i64 s.non, .slice A s.acts.length c] 38)).alloc (.cells #[.int .i64 t.mod, .int .i64 t.all, .int .i64 t.non, .slice A' t.acts.length c'] 38)).alloc (.cells #[.int .i64 mr, .int .i64 mw, .bool ml] 40)) := (((Below.refl _ _).alloc (Nat.le_refl _) _).alloc (by simp) _).alloc (by simp; omega) _
  go_enter Try.func5, Try.ntmps5
  go_upto_region 1 with fail
  obtain ⟨w1, hw1⟩ : ∃ w1 : World, w1 = (((w.alloc (.cells #[.int .i64 s.mod, .int .i64 s.all, .int .i64 s.non, .slice A s.acts.length c] 38)).alloc (.cells #[.int .i64 t.mod, .int .i64 t.all, .int .i64 t.non, .slice A' t.acts.length c'] 38)).alloc (.cells #[.int .i64 mr, .int .i64 mw, .bool ml] 40)) := ⟨_, rfl⟩
  rw [← hw1] at HS HT HM hA0 hA1 hbel ⊢
  clear hw1
  go_cut [11] (fun s11 wx => s11 = .bool false ∧ Below w1.heap.size w1 wx)
  case first =>
    refine wp_region_guarded mixed (by kernel_rfl) (by kernel_rfl) (tab [.agg #[.int .i64 s.mod, .int .i64 s.all, .int .i64 s.non, .slice A s.acts.length c], .agg #[.int .i64 (sysWrong s).1, .int .i64 (sysWrong s).2], .agg #[.int .i64 s.mod, .int .i64 s.all, .int .i64 s.non, .slice A s.acts.length c], .agg #[.int .i64 (sysWrong s).1, .int .i64 (sysWrong s).2], .bool false]) ?_ ?_ ?_
    · intro w' hb
      rw [putAll_tab _ _ _ _ [(some 7, .agg #[.int .i64 s.mod, .int .i64 s.all, .int .i64 s.non, .slice A s.acts.length c]), (some 8, .agg #[.int .i64 (sysWrong s).1, .int .i64 (sysWrong s).2]), (some 9, .agg #[.int .i64 s.mod, .int .i64 s.all, .int .i64 s.non, .slice A s.acts.length c]), (some 10, .agg #[.int .i64 (sysWrong s).1, .int .i64 (sysWrong s).2]), (some 11, .bool false)] rfl]
      simp only [putL_eq, putT, List.set_cons_succ, List.set_cons_zero]
      go_wp2_with fail
      go_meet
      exact ⟨rfl, hb⟩
    · intro i o ho hno
      have hi : i < 5 := lt_of_some ho
      match i, hi, ho with
      | 0, _, ho => obtain rfl := Option.some.inj ho; cases hno
      | 1, _, ho => obtain rfl := Option.some.inj ho; cases hno
      | 2, _, ho => obtain rfl := Option.some.inj ho; cases hno
      | 3, _, ho => obtain rfl := Option.some.inj ho; cases hno
      | 4, _, ho => obtain rfl := Option.some.inj ho; cases hno
    · intro i o ho hyes act w' hb hv hwas K hK
      replace HS := HS.below hb HS.lt
      replace HT := HT.below hb HT.lt
      replace HM := HM.below hb HM.lt
      replace hA0 : RdA w' A s.acts := Rd.grow hA0 hb
      replace hA1 : RdA w' A' t.acts := Rd.grow hA1 hb
      have e3 := hwas 3 rfl; have e4 := hwas 4 rfl; have e5 := hwas 5 rfl
      simp at e3 e4 e5
      have s0 := HS.cell 0; have s1 := HS.cell 1; have s2 := HS.cell 2; have s3 := HS.cell 3
      simp at s0 s1 s2 s3
      have t0 := HT.cell 0; have t1 := HT.cell 1; have t2 := HT.cell 2; have t3 := HT.cell 3
      simp at t0 t1 t2 t3
      have m0 := HM.cell 0; have m1 := HM.cell 1; have m2 := HM.cell 2
      simp at m0 m1 m2
      have hi : i < 5 := lt_of_some ho
      match i, hi, ho with
      | 0, _, ho =>
        obtain rfl := Option.some.inj ho
        clear hv hwas
        go_simp
        exact hK _ hb
      | 1, _, ho =>
        obtain rfl := Option.some.inj ho
        have v0 : act.tmps[7]?.getD undef = .agg #[.int .i64 s.mod, .int .i64 s.all, .int .i64 s.non, .slice A s.acts.length c] := hv 0 7 rfl rfl
        clear hv hwas
        go_simp
        refine (wrong_any s A c w' hA0).mono ?_
        rintro e w'' ⟨rfl, hb''⟩
        exact hK _ (grow_below hb hb'')
      | 2, _, ho =>
        obtain rfl := Option.some.inj ho
        clear hv hwas
        go_simp
        exact hK _ hb
      | 3, _, ho =>
        obtain rfl := Option.some.inj ho
        have v0 : act.tmps[9]?.getD undef = .agg #[.int .i64 s.mod, .int .i64 s.all, .int .i64 s.non, .slice A s.acts.length c] := hv 2 9 rfl rfl
        clear hv hwas
        go_simp
        refine (rwrong_any s A c w' hA0).mono ?_
        rintro e w'' ⟨rfl, hb''⟩
        exact hK _ (grow_below hb hb'')
      | 4, _, ho =>
        obtain rfl := Option.some.inj ho
        have v0 : act.tmps[8]?.getD undef = .agg #[.int .i64 (sysWrong s).1, .int .i64 (sysWrong s).2] := hv 1 8 rfl rfl
        have v1 : act.tmps[10]?.getD undef = .agg #[.int .i64 (sysWrong s).1, .int .i64 (sysWrong s).2] := hv 3 10 rfl rfl
        clear hv hwas
        go_simp
        exact hK _ hb
  case rest =>
    obtain ⟨rfl, hb1⟩ := hcut
    replace HS := HS.below hb1 HS.lt
    replace HT := HT.below hb1 HT.lt
    replace HM := HM.below hb1 HM.lt
    replace hA0 : RdA wc A s.acts := Rd.grow hA0 hb1
    replace hA1 : RdA wc A' t.acts := Rd.grow hA1 hb1
    replace hbel := grow_below hbel hb1
    have s0 := HS.cell 0; have s1 := HS.cell 1; have s2 := HS.cell 2; have s3 := HS.cell 3
    simp at s0 s1 s2 s3
    go_wp2_with fail
    refine (rwrong_any s A c wc hA0).mono ?_
    rintro e w2 ⟨rfl, hb2⟩
    replace HS := HS.below hb2 HS.lt
    replace HT := HT.below hb2 HT.lt
    replace HM := HM.below hb2 HM.lt
    replace hA0 : RdA w2 A s.acts := Rd.grow hA0 hb2
    replace hA1 : RdA w2 A' t.acts := Rd.grow hA1 hb2
    replace hbel := grow_below hbel hb2
    clear s0 s1 s2 s3
    by_cases hw : (sysWrong s).1 = 0
    case neg =>
      go_wp2_with fail
      go_ret
      exact ⟨rfl, hbel⟩
    rw [hw]
    have hR := right_of hw
    go_upto_region 5 with fail
    go_cut [39] (fun s39 wx => s39 = .bool false ∧ Below w2.heap.size w2 wx)
    case first =>
      cases hm1 : isSet mr
      case false =>
        refine wp_region_guarded mixed (by kernel_rfl) (by kernel_rfl) (tab [.agg #[.int .i64 s.mod, .int .i64 s.all, .int .i64 s.non, .slice A s.acts.length c], .agg #[.int .i64 (needs s).reads, .int .i64 (needs s).writes, .bool (needs s).moves, .bool (needs s).life], .agg #[.int .i64 s.mod, .int .i64 s.all, .int .i64 s.non, .slice A s.acts.length c], .agg #[.int .i64 (needs s).reads, .int .i64 (needs s).writes, .bool (needs s).moves, .bool (needs s).life], .bool false, .bool false, .pointer (some ⟨w.heap.size + 1 + 1, 0, none⟩), .int .i64 mr, .bool false, .bool false, undef, undef, undef, .bool false, .bool false, undef, undef, undef, undef, undef, undef, undef, .bool false, .bool false]) ?_ ?_ ?_
        · intro w' hb
          rw [putAll_tab _ _ _ _ [(some 16, .agg #[.int .i64 s.mod, .int .i64 s.all, .int .i64 s.non, .slice A s.acts.length c]), (some 17, .agg #[.int .i64 (needs s).reads, .int .i64 (needs s).writes, .bool (needs s).moves, .bool (needs s).life]), (some 18, .agg #[.int .i64 s.mod, .int .i64 s.all, .int .i64 s.non, .slice A s.acts.length c]), (some 19, .agg #[.int .i64 (needs s).reads, .int .i64 (needs s).writes, .bool (needs s).moves, .bool (needs s).life]), (some 20, .bool false), (some 21, .bool false), (some 22, .pointer (some ⟨w.heap.size + 1 + 1, 0, none⟩)), (some 23, .int .i64 mr), (some 24, .bool false), (some 25, .bool false), (some 26, undef), (some 27, undef), (some 28, undef), (some 29, .bool false), (some 30, .bool false), (some 31, undef), (some 32, undef), (some 33, undef), (some 34, undef), (some 35, undef), (some 36, undef), (some 37, undef), (some 38, .bool false), (some 39, .bool false)] rfl]
          simp only [putL_eq, putT, List.set_cons_succ, List.set_cons_zero]
          go_wp2_with fail
          go_meet
          exact ⟨rfl, hb⟩
        · intro i o ho hno
          have hi : i < 24 := lt_of_some ho
          match i, hi, ho with
          | 0, _, ho => obtain rfl := Option.some.inj ho; cases hno
          | 1, _, ho => obtain rfl := Option.some.inj ho; cases hno
          | 2, _, ho => obtain rfl := Option.some.inj ho; cases hno
          | 3, _, ho => obtain rfl := Option.some.inj ho; cases hno
          | 4, _, ho => obtain rfl := Option.some.inj ho; cases hno
          | 5, _, ho => obtain rfl := Option.some.inj ho; cases hno
          | 6, _, ho => obtain rfl := Option.some.inj ho; cases hno
          | 7, _, ho => obtain rfl := Option.some.inj ho; cases hno
          | 8, _, ho => obtain rfl := Option.some.inj ho; cases hno
          | 9, _, ho => obtain rfl := Option.some.inj ho; cases hno
          | 10, _, ho => rfl
          | 11, _, ho => rfl
          | 12, _, ho => rfl
          | 13, _, ho => obtain rfl := Option.some.inj ho; cases hno
          | 14, _, ho => obtain rfl := Option.some.inj ho; cases hno
          | 15, _, ho => rfl
          | 16, _, ho => rfl
          | 17, _, ho => rfl
          | 18, _, ho => rfl
          | 19, _, ho => rfl
          | 20, _, ho => rfl
          | 21, _, ho => rfl
          | 22, _, ho => obtain rfl := Option.some.inj ho; cases hno
          | 23, _, ho => obtain rfl := Option.some.inj ho; cases hno
        · intro i o ho hyes act w' hb hv hwas K hK
          replace HS := HS.below hb HS.lt
          replace HT := HT.below hb HT.lt
          replace HM := HM.below hb HM.lt
          replace hA0 : RdA w' A s.acts := Rd.grow hA0 hb
          replace hA1 : RdA w' A' t.acts := Rd.grow hA1 hb
          have e3 := hwas 3 rfl; have e4 := hwas 4 rfl; have e5 := hwas 5 rfl
          simp at e3 e4 e5
          have s0 := HS.cell 0; have s1 := HS.cell 1; have s2 := HS.cell 2; have s3 := HS.cell 3
          simp at s0 s1 s2 s3
          have t0 := HT.cell 0; have t1 := HT.cell 1; have t2 := HT.cell 2; have t3 := HT.cell 3
          simp at t0 t1 t2 t3
          have m0 := HM.cell 0; have m1 := HM.cell 1; have m2 := HM.cell 2
          simp at m0 m1 m2
          have hi : i < 24 := lt_of_some ho
          match i, hi, ho with
          | 0, _, ho =>
            obtain rfl := Option.some.inj ho
            clear hv hwas
            go_simp
            exact hK _ hb
          | 1, _, ho =>
            obtain rfl := Option.some.inj ho
            have v0 : act.tmps[16]?.getD undef = .agg #[.int .i64 s.mod, .int .i64 s.all, .int .i64 s.non, .slice A s.acts.length c] := hv 0 16 rfl rfl
            clear hv hwas
            go_simp
            refine (needs_right s hR A c w' hA0).mono ?_
            rintro e w'' ⟨rfl, hb''⟩
            exact hK _ (grow_below hb hb'')
          | 2, _, ho =>
            obtain rfl := Option.some.inj ho
            clear hv hwas
            go_simp
            exact hK _ hb
          | 3, _, ho =>
            obtain rfl := Option.some.inj ho
            have v0 : act.tmps[18]?.getD undef = .agg #[.int .i64 s.mod, .int .i64 s.all, .int .i64 s.non, .slice A s.acts.length c] := hv 2 18 rfl rfl
            clear hv hwas
            go_simp
            refine (rneeds_right s hR A c w' hA0).mono ?_
            rintro e w'' ⟨rfl, hb''⟩
            exact hK _ (grow_below hb hb'')
          | 4, _, ho =>
            obtain rfl := Option.some.inj ho
            have v0 : act.tmps[17]?.getD undef = .agg #[.int .i64 (needs s).reads, .int .i64 (needs s).writes, .bool (needs s).moves, .bool (needs s).life] := hv 1 17 rfl rfl
            have v1 : act.tmps[19]?.getD undef = .agg #[.int .i64 (needs s).reads, .int .i64 (needs s).writes, .bool (needs s).moves, .bool (needs s).life] := hv 3 19 rfl rfl
            clear hv hwas
            go_simp
            exact hK _ hb
          | 5, _, ho =>
            obtain rfl := Option.some.inj ho
            have v0 : act.tmps[20]?.getD undef = .bool false := hv 4 20 rfl rfl
            clear hv hwas
            go_simp
            exact hK _ hb
          | 6, _, ho =>
            obtain rfl := Option.some.inj ho
            clear hv hwas
            go_simp
            exact hK _ hb
          | 7, _, ho =>
            obtain rfl := Option.some.inj ho
            have v0 : act.tmps[22]?.getD undef = .pointer (some ⟨w.heap.size + 1 + 1, 0, none⟩) := hv 6 22 rfl rfl
            clear hv hwas
            go_simp
            exact hK _ hb
          | 8, _, ho =>
            obtain rfl := Option.some.inj ho
            have v0 : act.tmps[23]?.getD undef = .int .i64 mr := hv 7 23 rfl rfl
            clear hv hwas
            go_simp
            have hq := rset_any mr w'
            rw [hm1] at hq
            refine (hq).mono ?_
            rintro e w'' ⟨rfl, rfl⟩
            exact hK _ hb
          | 9, _, ho =>
            obtain rfl := Option.some.inj ho
            have v0 : act.tmps[24]?.getD undef = .bool false := hv 8 24 rfl rfl
            clear hv hwas
            go_simp
            exact hK _ hb
          | 10, _, ho =>
            obtain rfl := Option.some.inj ho
            cases hyes
          | 11, _, ho =>
            obtain rfl := Option.some.inj ho
            cases hyes
          | 12, _, ho =>
            obtain rfl := Option.some.inj ho
            cases hyes
          | 13, _, ho =>
            obtain rfl := Option.some.inj ho
            have v0 : act.tmps[25]?.getD undef = .bool false := hv 9 25 rfl rfl
            have v1 : act.tmps[28]?.getD undef = undef := hv 12 28 rfl rfl
            clear hv hwas
            go_simp
            exact hK _ hb
          | 14, _, ho =>
            obtain rfl := Option.some.inj ho
            have v0 : act.tmps[29]?.getD undef = .bool false := hv 13 29 rfl rfl
            clear hv hwas
            go_simp
            exact hK _ hb
          | 15, _, ho =>
            obtain rfl := Option.some.inj ho
            cases hyes
          | 16, _, ho =>
            obtain rfl := Option.some.inj ho
            cases hyes
          | 17, _, ho =>
            obtain rfl := Option.some.inj ho
            cases hyes
          | 18, _, ho =>
            obtain rfl := Option.some.inj ho
            cases hyes
          | 19, _, ho =>
            obtain rfl := Option.some.inj ho
            cases hyes
          | 20, _, ho =>
            obtain rfl := Option.some.inj ho
            cases hyes
          | 21, _, ho =>
            obtain rfl := Option.some.inj ho
            cases hyes
          | 22, _, ho =>
            obtain rfl := Option.some.inj ho
            have v0 : act.tmps[30]?.getD undef = .bool false := hv 14 30 rfl rfl
            have v1 : act.tmps[37]?.getD undef = undef := hv 21 37 rfl rfl
            clear hv hwas
            go_simp
            exact hK _ hb
          | 23, _, ho =>
            obtain rfl := Option.some.inj ho
            have v0 : act.tmps[21]?.getD undef = .bool false := hv 5 21 rfl rfl
            have v1 : act.tmps[38]?.getD undef = .bool false := hv 22 38 rfl rfl
            clear hv hwas
            go_simp
            exact hK _ hb
      case true =>
        cases hm2 : isSet mw
        case false =>
          refine wp_region_guarded mixed (by kernel_rfl) (by kernel_rfl) (tab [.agg #[.int .i64 s.mod, .int .i64 s.all, .int .i64 s.non, .slice A s.acts.length c], .agg #[.int .i64 (needs s).reads, .int .i64 (needs s).writes, .bool (needs s).moves, .bool (needs s).life], .agg #[.int .i64 s.mod, .int .i64 s.all, .int .i64 s.non, .slice A s.acts.length c], .agg #[.int .i64 (needs s).reads, .int .i64 (needs s).writes, .bool (needs s).moves, .bool (needs s).life], .bool false, .bool false, .pointer (some ⟨w.heap.size + 1 + 1, 0, none⟩), .int .i64 mr, .bool true, .bool true, .pointer (some ⟨w.heap.size + 1 + 1, 1, none⟩), .int .i64 mw, .bool false, .bool false, .bool false, undef, undef, undef, undef, undef, undef, undef, .bool false, .bool false]) ?_ ?_ ?_
          · intro w' hb
            rw [putAll_tab _ _ _ _ [(some 16, .agg #[.int .i64 s.mod, .int .i64 s.all, .int .i64 s.non, .slice A s.acts.length c]), (some 17, .agg #[.int .i64 (needs s).reads, .int .i64 (needs s).writes, .bool (needs s).moves, .bool (needs s).life]), (some 18, .agg #[.int .i64 s.mod, .int .i64 s.all, .int .i64 s.non, .slice A s.acts.length c]), (some 19, .agg #[.int .i64 (needs s).reads, .int .i64 (needs s).writes, .bool (needs s).moves, .bool (needs s).life]), (some 20, .bool false), (some 21, .bool false), (some 22, .pointer (some ⟨w.heap.size + 1 + 1, 0, none⟩)), (some 23, .int .i64 mr), (some 24, .bool true), (some 25, .bool true), (some 26, .pointer (some ⟨w.heap.size + 1 + 1, 1, none⟩)), (some 27, .int .i64 mw), (some 28, .bool false), (some 29, .bool false), (some 30, .bool false), (some 31, undef), (some 32, undef), (some 33, undef), (some 34, undef), (some 35, undef), (some 36, undef), (some 37, undef), (some 38, .bool false), (some 39, .bool false)] rfl]
            simp only [putL_eq, putT, List.set_cons_succ, List.set_cons_zero]
            go_wp2_with fail
            go_meet
            exact ⟨rfl, hb⟩
          · intro i o ho hno
            have hi : i < 24 := lt_of_some ho
            match i, hi, ho with
            | 0, _, ho => obtain rfl := Option.some.inj ho; cases hno
            | 1, _, ho => obtain rfl := Option.some.inj ho; cases hno
            | 2, _, ho => obtain rfl := Option.some.inj ho; cases hno
            | 3, _, ho => obtain rfl := Option.some.inj ho; cases hno
            | 4, _, ho => obtain rfl := Option.some.inj ho; cases hno
            | 5, _, ho => obtain rfl := Option.some.inj ho; cases hno
            | 6, _, ho => obtain rfl := Option.some.inj ho; cases hno
            | 7, _, ho => obtain rfl := Option.some.inj ho; cases hno
            | 8, _, ho => obtain rfl := Option.some.inj ho; cases hno
            | 9, _, ho => obtain rfl := Option.some.inj ho; cases hno
            | 10, _, ho => obtain rfl := Option.some.inj ho; cases hno
            | 11, _, ho => obtain rfl := Option.some.inj ho; cases hno
            | 12, _, ho => obtain rfl := Option.some.inj ho; cases hno
            | 13, _, ho => obtain rfl := Option.some.inj ho; cases hno
            | 14, _, ho => obtain rfl := Option.some.inj ho; cases hno
            | 15, _, ho => rfl
            | 16, _, ho => rfl
            | 17, _, ho => rfl
            | 18, _, ho => rfl
            | 19, _, ho => rfl
            | 20, _, ho => rfl
            | 21, _, ho => rfl
            | 22, _, ho => obtain rfl := Option.some.inj ho; cases hno
            | 23, _, ho => obtain rfl := Option.some.inj ho; cases hno
          · intro i o ho hyes act w' hb hv hwas K hK
            replace HS := HS.below hb HS.lt
            replace HT := HT.below hb HT.lt
            replace HM := HM.below hb HM.lt
            replace hA0 : RdA w' A s.acts := Rd.grow hA0 hb
            replace hA1 : RdA w' A' t.acts := Rd.grow hA1 hb
            have e3 := hwas 3 rfl; have e4 := hwas 4 rfl; have e5 := hwas 5 rfl
            simp at e3 e4 e5
            have s0 := HS.cell 0; have s1 := HS.cell 1; have s2 := HS.cell 2; have s3 := HS.cell 3
            simp at s0 s1 s2 s3
            have t0 := HT.cell 0; have t1 := HT.cell 1; have t2 := HT.cell 2; have t3 := HT.cell 3
            simp at t0 t1 t2 t3
            have m0 := HM.cell 0; have m1 := HM.cell 1; have m2 := HM.cell 2
            simp at m0 m1 m2
            have hi : i < 24 := lt_of_some ho
            match i, hi, ho with
            | 0, _, ho =>
              obtain rfl := Option.some.inj ho
              clear hv hwas
              go_simp
              exact hK _ hb
            | 1, _, ho =>
              obtain rfl := Option.some.inj ho
              have v0 : act.tmps[16]?.getD undef = .agg #[.int .i64 s.mod, .int .i64 s.all, .int .i64 s.non, .slice A s.acts.length c] := hv 0 16 rfl rfl
              clear hv hwas
              go_simp
              refine (needs_right s hR A c w' hA0).mono ?_
              rintro e w'' ⟨rfl, hb''⟩
              exact hK _ (grow_below hb hb'')
            | 2, _, ho =>
              obtain rfl := Option.some.inj ho
              clear hv hwas
              go_simp
              exact hK _ hb
            | 3, _, ho =>
              obtain rfl := Option.some.inj ho
              have v0 : act.tmps[18]?.getD undef = .agg #[.int .i64 s.mod, .int .i64 s.all, .int .i64 s.non, .slice A s.acts.length c] := hv 2 18 rfl rfl
              clear hv hwas
              go_simp
              refine (rneeds_right s hR A c w' hA0).mono ?_
              rintro e w'' ⟨rfl, hb''⟩
              exact hK _ (grow_below hb hb'')
            | 4, _, ho =>
              obtain rfl := Option.some.inj ho
              have v0 : act.tmps[17]?.getD undef = .agg #[.int .i64 (needs s).reads, .int .i64 (needs s).writes, .bool (needs s).moves, .bool (needs s).life] := hv 1 17 rfl rfl
              have v1 : act.tmps[19]?.getD undef = .agg #[.int .i64 (needs s).reads, .int .i64 (needs s).writes, .bool (needs s).moves, .bool (needs s).life] := hv 3 19 rfl rfl
              clear hv hwas
              go_simp
              exact hK _ hb
            | 5, _, ho =>
              obtain rfl := Option.some.inj ho
              have v0 : act.tmps[20]?.getD undef = .bool false := hv 4 20 rfl rfl
              clear hv hwas
              go_simp
              exact hK _ hb
            | 6, _, ho =>
              obtain rfl := Option.some.inj ho
              clear hv hwas
              go_simp
              exact hK _ hb
            | 7, _, ho =>
              obtain rfl := Option.some.inj ho
              have v0 : act.tmps[22]?.getD undef = .pointer (some ⟨w.heap.size + 1 + 1, 0, none⟩) := hv 6 22 rfl rfl
              clear hv hwas
              go_simp
              exact hK _ hb
            | 8, _, ho =>
              obtain rfl := Option.some.inj ho
              have v0 : act.tmps[23]?.getD undef = .int .i64 mr := hv 7 23 rfl rfl
              clear hv hwas
              go_simp
              have hq := rset_any mr w'
              rw [hm1] at hq
              refine (hq).mono ?_
              rintro e w'' ⟨rfl, rfl⟩
              exact hK _ hb
            | 9, _, ho =>
              obtain rfl := Option.some.inj ho
              have v0 : act.tmps[24]?.getD undef = .bool true := hv 8 24 rfl rfl
              clear hv hwas
              go_simp
              exact hK _ hb
            | 10, _, ho =>
              obtain rfl := Option.some.inj ho
              clear hv hwas
              go_simp
              exact hK _ hb
            | 11, _, ho =>
              obtain rfl := Option.some.inj ho
              have v0 : act.tmps[26]?.getD undef = .pointer (some ⟨w.heap.size + 1 + 1, 1, none⟩) := hv 10 26 rfl rfl
              clear hv hwas
              go_simp
              exact hK _ hb
            | 12, _, ho =>
              obtain rfl := Option.some.inj ho
              have v0 : act.tmps[27]?.getD undef = .int .i64 mw := hv 11 27 rfl rfl
              clear hv hwas
              go_simp
              have hq := rset_any mw w'
              rw [hm2] at hq
              refine (hq).mono ?_
              rintro e w'' ⟨rfl, rfl⟩
              exact hK _ hb
            | 13, _, ho =>
              obtain rfl := Option.some.inj ho
              have v0 : act.tmps[25]?.getD undef = .bool true := hv 9 25 rfl rfl
              have v1 : act.tmps[28]?.getD undef = .bool false := hv 12 28 rfl rfl
              clear hv hwas
              go_simp
              exact hK _ hb
            | 14, _, ho =>
              obtain rfl := Option.some.inj ho
              have v0 : act.tmps[29]?.getD undef = .bool false := hv 13 29 rfl rfl
              clear hv hwas
              go_simp
              exact hK _ hb
            | 15, _, ho =>
              obtain rfl := Option.some.inj ho
              cases hyes
            | 16, _, ho =>
              obtain rfl := Option.some.inj ho
              cases hyes
            | 17, _, ho =>
              obtain rfl := Option.some.inj ho
              cases hyes
            | 18, _, ho =>
              obtain rfl := Option.some.inj ho
              cases hyes
            | 19, _, ho =>
              obtain rfl := Option.some.inj ho
              cases hyes
            | 20, _, ho =>
              obtain rfl := Option.some.inj ho
              cases hyes
            | 21, _, ho =>
              obtain rfl := Option.some.inj ho
              cases hyes
            | 22, _, ho =>
              obtain rfl := Option.some.inj ho
              have v0 : act.tmps[30]?.getD undef = .bool false := hv 14 30 rfl rfl
              have v1 : act.tmps[37]?.getD undef = undef := hv 21 37 rfl rfl
              clear hv hwas
              go_simp
              exact hK _ hb
            | 23, _, ho =>
              obtain rfl := Option.some.inj ho
              have v0 : act.tmps[21]?.getD undef = .bool false := hv 5 21 rfl rfl
              have v1 : act.tmps[38]?.getD undef = .bool false := hv 22 38 rfl rfl
              clear hv hwas
              go_simp
              exact hK _ hb
        case true =>
          refine wp_region_guarded mixed (by kernel_rfl) (by kernel_rfl) (tab [.agg #[.int .i64 s.mod, .int .i64 s.all, .int .i64 s.non, .slice A s.acts.length c], .agg #[.int .i64 (needs s).reads, .int .i64 (needs s).writes, .bool (needs s).moves, .bool (needs s).life], .agg #[.int .i64 s.mod, .int .i64 s.all, .int .i64 s.non, .slice A s.acts.length c], .agg #[.int .i64 (needs s).reads, .int .i64 (needs s).writes, .bool (needs s).moves, .bool (needs s).life], .bool false, .bool false, .pointer (some ⟨w.heap.size + 1 + 1, 0, none⟩), .int .i64 mr, .bool true, .bool true, .pointer (some ⟨w.heap.size + 1 + 1, 1, none⟩), .int .i64 mw, .bool true, .bool true, .bool true, .agg #[.int .i64 mr, .int .i64 mw, .bool ml], .agg #[.int .i64 s.mod, .int .i64 s.all, .int .i64 s.non, .slice A s.acts.length c], .bool (may ⟨mr, mw, ml⟩ s), .agg #[.int .i64 mr, .int .i64 mw, .bool ml], .agg #[.int .i64 s.mod, .int .i64 s.all, .int .i64 s.non, .slice A s.acts.length c], .bool (may ⟨mr, mw, ml⟩ s), .bool false, .bool false, .bool false]) ?_ ?_ ?_
          · intro w' hb
            rw [putAll_tab _ _ _ _ [(some 16, .agg #[.int .i64 s.mod, .int .i64 s.all, .int .i64 s.non, .slice A s.acts.length c]), (some 17, .agg #[.int .i64 (needs s).reads, .int .i64 (needs s).writes, .bool (needs s).moves, .bool (needs s).life]), (some 18, .agg #[.int .i64 s.mod, .int .i64 s.all, .int .i64 s.non, .slice A s.acts.length c]), (some 19, .agg #[.int .i64 (needs s).reads, .int .i64 (needs s).writes, .bool (needs s).moves, .bool (needs s).life]), (some 20, .bool false), (some 21, .bool false), (some 22, .pointer (some ⟨w.heap.size + 1 + 1, 0, none⟩)), (some 23, .int .i64 mr), (some 24, .bool true), (some 25, .bool true), (some 26, .pointer (some ⟨w.heap.size + 1 + 1, 1, none⟩)), (some 27, .int .i64 mw), (some 28, .bool true), (some 29, .bool true), (some 30, .bool true), (some 31, .agg #[.int .i64 mr, .int .i64 mw, .bool ml]), (some 32, .agg #[.int .i64 s.mod, .int .i64 s.all, .int .i64 s.non, .slice A s.acts.length c]), (some 33, .bool (may ⟨mr, mw, ml⟩ s)), (some 34, .agg #[.int .i64 mr, .int .i64 mw, .bool ml]), (some 35, .agg #[.int .i64 s.mod, .int .i64 s.all, .int .i64 s.non, .slice A s.acts.length c]), (some 36, .bool (may ⟨mr, mw, ml⟩ s)), (some 37, .bool false), (some 38, .bool false), (some 39, .bool false)] rfl]
            simp only [putL_eq, putT, List.set_cons_succ, List.set_cons_zero]
            go_wp2_with fail
            go_meet
            exact ⟨rfl, hb⟩
          · intro i o ho hno
            have hi : i < 24 := lt_of_some ho
            match i, hi, ho with
            | 0, _, ho => obtain rfl := Option.some.inj ho; cases hno
            | 1, _, ho => obtain rfl := Option.some.inj ho; cases hno
            | 2, _, ho => obtain rfl := Option.some.inj ho; cases hno
            | 3, _, ho => obtain rfl := Option.some.inj ho; cases hno
            | 4, _, ho => obtain rfl := Option.some.inj ho; cases hno
            | 5, _, ho => obtain rfl := Option.some.inj ho; cases hno
            | 6, _, ho => obtain rfl := Option.some.inj ho; cases hno
            | 7, _, ho => obtain rfl := Option.some.inj ho; cases hno
            | 8, _, ho => obtain rfl := Option.some.inj ho; cases hno
            | 9, _, ho => obtain rfl := Option.some.inj ho; cases hno
            | 10, _, ho => obtain rfl := Option.some.inj ho; cases hno
            | 11, _, ho => obtain rfl := Option.some.inj ho; cases hno
            | 12, _, ho => obtain rfl := Option.some.inj ho; cases hno
            | 13, _, ho => obtain rfl := Option.some.inj ho; cases hno
            | 14, _, ho => obtain rfl := Option.some.inj ho; cases hno
            | 15, _, ho => obtain rfl := Option.some.inj ho; cases hno
            | 16, _, ho => obtain rfl := Option.some.inj ho; cases hno
            | 17, _, ho => obtain rfl := Option.some.inj ho; cases hno
            | 18, _, ho => obtain rfl := Option.some.inj ho; cases hno
            | 19, _, ho => obtain rfl := Option.some.inj ho; cases hno
            | 20, _, ho => obtain rfl := Option.some.inj ho; cases hno
            | 21, _, ho => obtain rfl := Option.some.inj ho; cases hno
            | 22, _, ho => obtain rfl := Option.some.inj ho; cases hno
            | 23, _, ho => obtain rfl := Option.some.inj ho; cases hno
          · intro i o ho hyes act w' hb hv hwas K hK
            replace HS := HS.below hb HS.lt
            replace HT := HT.below hb HT.lt
            replace HM := HM.below hb HM.lt
            replace hA0 : RdA w' A s.acts := Rd.grow hA0 hb
            replace hA1 : RdA w' A' t.acts := Rd.grow hA1 hb
            have e3 := hwas 3 rfl; have e4 := hwas 4 rfl; have e5 := hwas 5 rfl
            simp at e3 e4 e5
            have s0 := HS.cell 0; have s1 := HS.cell 1; have s2 := HS.cell 2; have s3 := HS.cell 3
            simp at s0 s1 s2 s3
            have t0 := HT.cell 0; have t1 := HT.cell 1; have t2 := HT.cell 2; have t3 := HT.cell 3
            simp at t0 t1 t2 t3
            have m0 := HM.cell 0; have m1 := HM.cell 1; have m2 := HM.cell 2
            simp at m0 m1 m2
            have hi : i < 24 := lt_of_some ho
            match i, hi, ho with
            | 0, _, ho =>
              obtain rfl := Option.some.inj ho
              clear hv hwas
              go_simp
              exact hK _ hb
            | 1, _, ho =>
              obtain rfl := Option.some.inj ho
              have v0 : act.tmps[16]?.getD undef = .agg #[.int .i64 s.mod, .int .i64 s.all, .int .i64 s.non, .slice A s.acts.length c] := hv 0 16 rfl rfl
              clear hv hwas
              go_simp
              refine (needs_right s hR A c w' hA0).mono ?_
              rintro e w'' ⟨rfl, hb''⟩
              exact hK _ (grow_below hb hb'')
            | 2, _, ho =>
              obtain rfl := Option.some.inj ho
              clear hv hwas
              go_simp
              exact hK _ hb
            | 3, _, ho =>
              obtain rfl := Option.some.inj ho
              have v0 : act.tmps[18]?.getD undef = .agg #[.int .i64 s.mod, .int .i64 s.all, .int .i64 s.non, .slice A s.acts.length c] := hv 2 18 rfl rfl
              clear hv hwas
              go_simp
              refine (rneeds_right s hR A c w' hA0).mono ?_
              rintro e w'' ⟨rfl, hb''⟩
              exact hK _ (grow_below hb hb'')
            | 4, _, ho =>
              obtain rfl := Option.some.inj ho
              have v0 : act.tmps[17]?.getD undef = .agg #[.int .i64 (needs s).reads, .int .i64 (needs s).writes, .bool (needs s).moves, .bool (needs s).life] := hv 1 17 rfl rfl
              have v1 : act.tmps[19]?.getD undef = .agg #[.int .i64 (needs s).reads, .int .i64 (needs s).writes, .bool (needs s).moves, .bool (needs s).life] := hv 3 19 rfl rfl
              clear hv hwas
              go_simp
              exact hK _ hb
            | 5, _, ho =>
              obtain rfl := Option.some.inj ho
              have v0 : act.tmps[20]?.getD undef = .bool false := hv 4 20 rfl rfl
              clear hv hwas
              go_simp
              exact hK _ hb
            | 6, _, ho =>
              obtain rfl := Option.some.inj ho
              clear hv hwas
              go_simp
              exact hK _ hb
            | 7, _, ho =>
              obtain rfl := Option.some.inj ho
              have v0 : act.tmps[22]?.getD undef = .pointer (some ⟨w.heap.size + 1 + 1, 0, none⟩) := hv 6 22 rfl rfl
              clear hv hwas
              go_simp
              exact hK _ hb
            | 8, _, ho =>
              obtain rfl := Option.some.inj ho
              have v0 : act.tmps[23]?.getD undef = .int .i64 mr := hv 7 23 rfl rfl
              clear hv hwas
              go_simp
              have hq := rset_any mr w'
              rw [hm1] at hq
              refine (hq).mono ?_
              rintro e w'' ⟨rfl, rfl⟩
              exact hK _ hb
            | 9, _, ho =>
              obtain rfl := Option.some.inj ho
              have v0 : act.tmps[24]?.getD undef = .bool true := hv 8 24 rfl rfl
              clear hv hwas
              go_simp
              exact hK _ hb
            | 10, _, ho =>
              obtain rfl := Option.some.inj ho
              clear hv hwas
              go_simp
              exact hK _ hb
            | 11, _, ho =>
              obtain rfl := Option.some.inj ho
              have v0 : act.tmps[26]?.getD undef = .pointer (some ⟨w.heap.size + 1 + 1, 1, none⟩) := hv 10 26 rfl rfl
              clear hv hwas
              go_simp
              exact hK _ hb
            | 12, _, ho =>
              obtain rfl := Option.some.inj ho
              have v0 : act.tmps[27]?.getD undef = .int .i64 mw := hv 11 27 rfl rfl
              clear hv hwas
              go_simp
              have hq := rset_any mw w'
              rw [hm2] at hq
              refine (hq).mono ?_
              rintro e w'' ⟨rfl, rfl⟩
              exact hK _ hb
            | 13, _, ho =>
              obtain rfl := Option.some.inj ho
              have v0 : act.tmps[25]?.getD undef = .bool true := hv 9 25 rfl rfl
              have v1 : act.tmps[28]?.getD undef = .bool true := hv 12 28 rfl rfl
              clear hv hwas
              go_simp
              exact hK _ hb
            | 14, _, ho =>
              obtain rfl := Option.some.inj ho
              have v0 : act.tmps[29]?.getD undef = .bool true := hv 13 29 rfl rfl
              clear hv hwas
              go_simp
              exact hK _ hb
            | 15, _, ho =>
              obtain rfl := Option.some.inj ho
              clear hv hwas
              go_simp
              exact hK _ hb
            | 16, _, ho =>
              obtain rfl := Option.some.inj ho
              clear hv hwas
              go_simp
              exact hK _ hb
            | 17, _, ho =>
              obtain rfl := Option.some.inj ho
              have v0 : act.tmps[31]?.getD undef = .agg #[.int .i64 mr, .int .i64 mw, .bool ml] := hv 15 31 rfl rfl
              have v1 : act.tmps[32]?.getD undef = .agg #[.int .i64 s.mod, .int .i64 s.all, .int .i64 s.non, .slice A s.acts.length c] := hv 16 32 rfl rfl
              clear hv hwas
              go_simp
              refine (may_any ⟨mr, mw, ml⟩ hm1 hm2 s hR A c w' hA0).mono ?_
              rintro e w'' ⟨rfl, hb''⟩
              exact hK _ (grow_below hb hb'')
            | 18, _, ho =>
              obtain rfl := Option.some.inj ho
              clear hv hwas
              go_simp
              exact hK _ hb
            | 19, _, ho =>
              obtain rfl := Option.some.inj ho
              clear hv hwas
              go_simp
              exact hK _ hb
            | 20, _, ho =>
              obtain rfl := Option.some.inj ho
              have v0 : act.tmps[34]?.getD undef = .agg #[.int .i64 mr, .int .i64 mw, .bool ml] := hv 18 34 rfl rfl
              have v1 : act.tmps[35]?.getD undef = .agg #[.int .i64 s.mod, .int .i64 s.all, .int .i64 s.non, .slice A s.acts.length c] := hv 19 35 rfl rfl
              clear hv hwas
              go_simp
              refine (rmay_any ⟨mr, mw, ml⟩ hm1 hm2 s hR A c w' hA0).mono ?_
              rintro e w'' ⟨rfl, hb''⟩
              exact hK _ (grow_below hb hb'')
            | 21, _, ho =>
              obtain rfl := Option.some.inj ho
              have v0 : act.tmps[33]?.getD undef = .bool (may ⟨mr, mw, ml⟩ s) := hv 17 33 rfl rfl
              have v1 : act.tmps[36]?.getD undef = .bool (may ⟨mr, mw, ml⟩ s) := hv 20 36 rfl rfl
              clear hv hwas
              go_simp
              exact hK _ hb
            | 22, _, ho =>
              obtain rfl := Option.some.inj ho
              have v0 : act.tmps[30]?.getD undef = .bool true := hv 14 30 rfl rfl
              have v1 : act.tmps[37]?.getD undef = .bool false := hv 21 37 rfl rfl
              clear hv hwas
              go_simp
              exact hK _ hb
            | 23, _, ho =>
              obtain rfl := Option.some.inj ho
              have v0 : act.tmps[21]?.getD undef = .bool false := hv 5 21 rfl rfl
              have v1 : act.tmps[38]?.getD undef = .bool false := hv 22 38 rfl rfl
              clear hv hwas
              go_simp
              exact hK _ hb
    case rest =>
      obtain ⟨rfl, hb3⟩ := hcut
      replace HS := HS.below hb3 HS.lt
      replace HT := HT.below hb3 HT.lt
      replace HM := HM.below hb3 HM.lt
      replace hA0 : RdA wc A s.acts := Rd.grow hA0 hb3
      replace hA1 : RdA wc A' t.acts := Rd.grow hA1 hb3
      replace hbel := grow_below hbel hb3
      go_upto_region 7 with fail
      by_cases hw' : (sysWrong t).1 = 0
      case pos =>
        have hR' := right_of hw'
        refine wp_region_guarded mixed (by kernel_rfl) (by kernel_rfl) (tab [.agg #[.int .i64 t.mod, .int .i64 t.all, .int .i64 t.non, .slice A' t.acts.length c'], .agg #[.int .i64 0, .int .i64 (sysWrong t).2], .int .i64 0, .bool false, .bool false, .agg #[.int .i64 s.mod, .int .i64 s.all, .int .i64 s.non, .slice A s.acts.length c], .agg #[.int .i64 t.mod, .int .i64 t.all, .int .i64 t.non, .slice A' t.acts.length c'], .bool (clash s t), .agg #[.int .i64 s.mod, .int .i64 s.all, .int .i64 s.non, .slice A s.acts.length c], .agg #[.int .i64 t.mod, .int .i64 t.all, .int .i64 t.non, .slice A' t.acts.length c'], .bool (clash s t), .bool true, .bool true, .bool true]) ?_ ?_ ?_
        · intro w' hb
          rw [putAll_tab _ _ _ _ [(some 40, .agg #[.int .i64 t.mod, .int .i64 t.all, .int .i64 t.non, .slice A' t.acts.length c']), (some 41, .agg #[.int .i64 0, .int .i64 (sysWrong t).2]), (some 42, .int .i64 0), (some 43, .bool false), (some 44, .bool false), (some 45, .agg #[.int .i64 s.mod, .int .i64 s.all, .int .i64 s.non, .slice A s.acts.length c]), (some 46, .agg #[.int .i64 t.mod, .int .i64 t.all, .int .i64 t.non, .slice A' t.acts.length c']), (some 47, .bool (clash s t)), (some 48, .agg #[.int .i64 s.mod, .int .i64 s.all, .int .i64 s.non, .slice A s.acts.length c]), (some 49, .agg #[.int .i64 t.mod, .int .i64 t.all, .int .i64 t.non, .slice A' t.acts.length c']), (some 50, .bool (clash s t)), (some 51, .bool true), (some 52, .bool true), (some 6, .bool true)] rfl]
          simp only [putL_eq, putT, List.set_cons_succ, List.set_cons_zero]
          go_wp2_with fail
          go_ret
          exact ⟨rfl, grow_below hbel hb⟩
        · intro i o ho hno
          have hi : i < 14 := lt_of_some ho
          match i, hi, ho with
          | 0, _, ho => obtain rfl := Option.some.inj ho; cases hno
          | 1, _, ho => obtain rfl := Option.some.inj ho; cases hno
          | 2, _, ho => obtain rfl := Option.some.inj ho; cases hno
          | 3, _, ho => obtain rfl := Option.some.inj ho; cases hno
          | 4, _, ho => obtain rfl := Option.some.inj ho; cases hno
          | 5, _, ho => obtain rfl := Option.some.inj ho; cases hno
          | 6, _, ho => obtain rfl := Option.some.inj ho; cases hno
          | 7, _, ho => obtain rfl := Option.some.inj ho; cases hno
          | 8, _, ho => obtain rfl := Option.some.inj ho; cases hno
          | 9, _, ho => obtain rfl := Option.some.inj ho; cases hno
          | 10, _, ho => obtain rfl := Option.some.inj ho; cases hno
          | 11, _, ho => obtain rfl := Option.some.inj ho; cases hno
          | 12, _, ho => obtain rfl := Option.some.inj ho; cases hno
          | 13, _, ho => obtain rfl := Option.some.inj ho; cases hno
        · intro i o ho hyes act w' hb hv hwas K hK
          replace HS := HS.below hb HS.lt
          replace HT := HT.below hb HT.lt
          replace HM := HM.below hb HM.lt
          replace hA0 : RdA w' A s.acts := Rd.grow hA0 hb
          replace hA1 : RdA w' A' t.acts := Rd.grow hA1 hb
          have e3 := hwas 3 rfl; have e4 := hwas 4 rfl; have e5 := hwas 5 rfl
          simp at e3 e4 e5
          have s0 := HS.cell 0; have s1 := HS.cell 1; have s2 := HS.cell 2; have s3 := HS.cell 3
          simp at s0 s1 s2 s3
          have t0 := HT.cell 0; have t1 := HT.cell 1; have t2 := HT.cell 2; have t3 := HT.cell 3
          simp at t0 t1 t2 t3
          have m0 := HM.cell 0; have m1 := HM.cell 1; have m2 := HM.cell 2
          simp at m0 m1 m2
          have hi : i < 14 := lt_of_some ho
          match i, hi, ho with
          | 0, _, ho =>
            obtain rfl := Option.some.inj ho
            clear hv hwas
            go_simp
            exact hK _ hb
          | 1, _, ho =>
            obtain rfl := Option.some.inj ho
            have v0 : act.tmps[40]?.getD undef = .agg #[.int .i64 t.mod, .int .i64 t.all, .int .i64 t.non, .slice A' t.acts.length c'] := hv 0 40 rfl rfl
            clear hv hwas
            go_simp
            have hq := rwrong_any t A' c' w' hA1
            rw [hw'] at hq
            refine (hq).mono ?_
            rintro e w'' ⟨rfl, hb''⟩
            exact hK _ (grow_below hb hb'')
          | 2, _, ho =>
            obtain rfl := Option.some.inj ho
            have v0 : act.tmps[41]?.getD undef = .agg #[.int .i64 0, .int .i64 (sysWrong t).2] := hv 1 41 rfl rfl
            clear hv hwas
            go_simp
            exact hK _ hb
          | 3, _, ho =>
            obtain rfl := Option.some.inj ho
            have v0 : act.tmps[42]?.getD undef = .int .i64 0 := hv 2 42 rfl rfl
            clear hv hwas
            go_simp
            exact hK _ hb
          | 4, _, ho =>
            obtain rfl := Option.some.inj ho
            have v0 : act.tmps[43]?.getD undef = .bool false := hv 3 43 rfl rfl
            clear hv hwas
            go_simp
            exact hK _ hb
          | 5, _, ho =>
            obtain rfl := Option.some.inj ho
            clear hv hwas
            go_simp
            exact hK _ hb
          | 6, _, ho =>
            obtain rfl := Option.some.inj ho
            clear hv hwas
            go_simp
            exact hK _ hb
          | 7, _, ho =>
            obtain rfl := Option.some.inj ho
            have v0 : act.tmps[45]?.getD undef = .agg #[.int .i64 s.mod, .int .i64 s.all, .int .i64 s.non, .slice A s.acts.length c] := hv 5 45 rfl rfl
            have v1 : act.tmps[46]?.getD undef = .agg #[.int .i64 t.mod, .int .i64 t.all, .int .i64 t.non, .slice A' t.acts.length c'] := hv 6 46 rfl rfl
            clear hv hwas
            go_simp
            refine (clash_any s t hR hR' A A' c c' w' hA0 hA1).mono ?_
            rintro e w'' ⟨rfl, hb''⟩
            exact hK _ (grow_below hb hb'')
          | 8, _, ho =>
            obtain rfl := Option.some.inj ho
            clear hv hwas
            go_simp
            exact hK _ hb
          | 9, _, ho =>
            obtain rfl := Option.some.inj ho
            clear hv hwas
            go_simp
            exact hK _ hb
          | 10, _, ho =>
            obtain rfl := Option.some.inj ho
            have v0 : act.tmps[48]?.getD undef = .agg #[.int .i64 s.mod, .int .i64 s.all, .int .i64 s.non, .slice A s.acts.length c] := hv 8 48 rfl rfl
            have v1 : act.tmps[49]?.getD undef = .agg #[.int .i64 t.mod, .int .i64 t.all, .int .i64 t.non, .slice A' t.acts.length c'] := hv 9 49 rfl rfl
            clear hv hwas
            go_simp
            refine (rclash_any s t hR hR' A A' c c' w' hA0 hA1).mono ?_
            rintro e w'' ⟨rfl, hb''⟩
            exact hK _ (grow_below hb hb'')
          | 11, _, ho =>
            obtain rfl := Option.some.inj ho
            have v0 : act.tmps[47]?.getD undef = .bool (clash s t) := hv 7 47 rfl rfl
            have v1 : act.tmps[50]?.getD undef = .bool (clash s t) := hv 10 50 rfl rfl
            clear hv hwas
            go_simp
            exact hK _ hb
          | 12, _, ho =>
            obtain rfl := Option.some.inj ho
            have v0 : act.tmps[44]?.getD undef = .bool false := hv 4 44 rfl rfl
            have v1 : act.tmps[51]?.getD undef = .bool true := hv 11 51 rfl rfl
            clear hv hwas
            go_simp
            exact hK _ hb
          | 13, _, ho =>
            obtain rfl := Option.some.inj ho
            have v0 : act.tmps[52]?.getD undef = .bool true := hv 12 52 rfl rfl
            clear hv hwas
            go_simp
            exact hK _ hb
      case neg =>
        have hx' : ((sysWrong t).1 != 0) = true := by simpa using hw'
        refine wp_region_guarded mixed (by kernel_rfl) (by kernel_rfl) (tab [.agg #[.int .i64 t.mod, .int .i64 t.all, .int .i64 t.non, .slice A' t.acts.length c'], .agg #[.int .i64 (sysWrong t).1, .int .i64 (sysWrong t).2], .int .i64 (sysWrong t).1, .bool true, .bool true, undef, undef, undef, undef, undef, undef, undef, .bool true, .bool true]) ?_ ?_ ?_
        · intro w' hb
          rw [putAll_tab _ _ _ _ [(some 40, .agg #[.int .i64 t.mod, .int .i64 t.all, .int .i64 t.non, .slice A' t.acts.length c']), (some 41, .agg #[.int .i64 (sysWrong t).1, .int .i64 (sysWrong t).2]), (some 42, .int .i64 (sysWrong t).1), (some 43, .bool true), (some 44, .bool true), (some 45, undef), (some 46, undef), (some 47, undef), (some 48, undef), (some 49, undef), (some 50, undef), (some 51, undef), (some 52, .bool true), (some 6, .bool true)] rfl]
          simp only [putL_eq, putT, List.set_cons_succ, List.set_cons_zero]
          go_wp2_with fail
          go_ret
          exact ⟨rfl, grow_below hbel hb⟩
        · intro i o ho hno
          have hi : i < 14 := lt_of_some ho
          match i, hi, ho with
          | 0, _, ho => obtain rfl := Option.some.inj ho; cases hno
          | 1, _, ho => obtain rfl := Option.some.inj ho; cases hno
          | 2, _, ho => obtain rfl := Option.some.inj ho; cases hno
          | 3, _, ho => obtain rfl := Option.some.inj ho; cases hno
          | 4, _, ho => obtain rfl := Option.some.inj ho; cases hno
          | 5, _, ho => rfl
          | 6, _, ho => rfl
          | 7, _, ho => rfl
          | 8, _, ho => rfl
          | 9, _, ho => rfl
          | 10, _, ho => rfl
          | 11, _, ho => rfl
          | 12, _, ho => obtain rfl := Option.some.inj ho; cases hno
          | 13, _, ho => obtain rfl := Option.some.inj ho; cases hno
        · intro i o ho hyes act w' hb hv hwas K hK
          replace HS := HS.below hb HS.lt
          replace HT := HT.below hb HT.lt
          replace HM := HM.below hb HM.lt
          replace hA0 : RdA w' A s.acts := Rd.grow hA0 hb
          replace hA1 : RdA w' A' t.acts := Rd.grow hA1 hb
          have e3 := hwas 3 rfl; have e4 := hwas 4 rfl; have e5 := hwas 5 rfl
          simp at e3 e4 e5
          have s0 := HS.cell 0; have s1 := HS.cell 1; have s2 := HS.cell 2; have s3 := HS.cell 3
          simp at s0 s1 s2 s3
          have t0 := HT.cell 0; have t1 := HT.cell 1; have t2 := HT.cell 2; have t3 := HT.cell 3
          simp at t0 t1 t2 t3
          have m0 := HM.cell 0; have m1 := HM.cell 1; have m2 := HM.cell 2
          simp at m0 m1 m2
          have hi : i < 14 := lt_of_some ho
          match i, hi, ho with
          | 0, _, ho =>
            obtain rfl := Option.some.inj ho
            clear hv hwas
            go_simp
            exact hK _ hb
          | 1, _, ho =>
            obtain rfl := Option.some.inj ho
            have v0 : act.tmps[40]?.getD undef = .agg #[.int .i64 t.mod, .int .i64 t.all, .int .i64 t.non, .slice A' t.acts.length c'] := hv 0 40 rfl rfl
            clear hv hwas
            go_simp
            refine (rwrong_any t A' c' w' hA1).mono ?_
            rintro e w'' ⟨rfl, hb''⟩
            exact hK _ (grow_below hb hb'')
          | 2, _, ho =>
            obtain rfl := Option.some.inj ho
            have v0 : act.tmps[41]?.getD undef = .agg #[.int .i64 (sysWrong t).1, .int .i64 (sysWrong t).2] := hv 1 41 rfl rfl
            clear hv hwas
            go_simp
            exact hK _ hb
          | 3, _, ho =>
            obtain rfl := Option.some.inj ho
            have v0 : act.tmps[42]?.getD undef = .int .i64 (sysWrong t).1 := hv 2 42 rfl rfl
            clear hv hwas
            go_simp
            exact hK _ hb
          | 4, _, ho =>
            obtain rfl := Option.some.inj ho
            have v0 : act.tmps[43]?.getD undef = .bool true := hv 3 43 rfl rfl
            clear hv hwas
            go_simp
            exact hK _ hb
          | 5, _, ho =>
            obtain rfl := Option.some.inj ho
            cases hyes
          | 6, _, ho =>
            obtain rfl := Option.some.inj ho
            cases hyes
          | 7, _, ho =>
            obtain rfl := Option.some.inj ho
            cases hyes
          | 8, _, ho =>
            obtain rfl := Option.some.inj ho
            cases hyes
          | 9, _, ho =>
            obtain rfl := Option.some.inj ho
            cases hyes
          | 10, _, ho =>
            obtain rfl := Option.some.inj ho
            cases hyes
          | 11, _, ho =>
            obtain rfl := Option.some.inj ho
            cases hyes
          | 12, _, ho =>
            obtain rfl := Option.some.inj ho
            have v0 : act.tmps[44]?.getD undef = .bool true := hv 4 44 rfl rfl
            have v1 : act.tmps[51]?.getD undef = undef := hv 11 51 rfl rfl
            clear hv hwas
            go_simp
            exact hK _ hb
          | 13, _, ho =>
            obtain rfl := Option.some.inj ho
            have v0 : act.tmps[52]?.getD undef = .bool true := hv 12 52 rfl rfl
            clear hv hwas
            go_simp
            exact hK _ hb
end Go.Proofs.Ytefdblaolmckmaa
