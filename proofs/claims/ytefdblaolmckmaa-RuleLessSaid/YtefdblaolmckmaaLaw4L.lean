/- RuleLess: one act less needs no more. -/
import Derived.Test.YtefdblaolmckmaaLaw4M
import Derived.Test.YtefdblaolmckmaaLaw4B
namespace Go.Proofs.Ytefdblaolmckmaa
open Go.RowKit
open Brood
set_option linter.unusedVariables false
set_option linter.unusedSimpArgs false

theorem subS_refl (a : Int) : subS a a = true := by simp [subS]
theorem subS_with {a b k : Int} (h : subS a b = true) : subS a (withS b k) = true := by
  unfold withS
  split
  · exact subS_or (c := ((2 ^ k.toNat : Nat) : Int)) h
  · exact h
theorem needAct_grows (all : Int) (n : BNeed) (a : BAct) :
    subS n.reads (needAct all n a).reads = true ∧ subS n.writes (needAct all n a).writes = true ∧ (n.moves = true → (needAct all n a).moves = true) ∧ (n.life = true → (needAct all n a).life = true) := by
  unfold needAct
  split
  · exact ⟨subS_refl _, subS_refl _, id, fun _ => rfl⟩
  · split
    · exact ⟨subS_refl _, subS_or (subS_refl _), id, fun _ => rfl⟩
    · refine ⟨?_, subS_with (subS_refl _), fun h => by simp [h], id⟩
      simp only
      split <;> split <;> first | exact subS_with (subS_with (subS_refl _)) | exact subS_with (subS_refl _) | exact subS_refl _
theorem wrongFrom_less {all : Int} (a : BAct) : ∀ (l : List BAct) (g : Int) (i : Nat), (wrongFrom all g i (l ++ [a])).1 = 0 → (wrongFrom all g i l).1 = 0
  | [], _, _, _ => rfl
  | b :: l, g, i, h => by
    rw [List.cons_append] at h
    unfold wrongFrom at h ⊢
    split at h
    · rename_i hh
      exact absurd h hh
    · rename_i hh
      rw [if_neg hh]
      split at h
      · cases h
      · rename_i h2
        rw [if_neg h2]
        exact wrongFrom_less a l _ _ h
theorem sysWrong_less {mod all non : Int} {l : List BAct} {a : BAct} (h : (sysWrong ⟨mod, all, non, l ++ [a]⟩).1 = 0) : (sysWrong ⟨mod, all, non, l⟩).1 = 0 := by
  unfold sysWrong at h ⊢
  have e : sysHead ⟨mod, all, non, l ++ [a]⟩ = sysHead ⟨mod, all, non, l⟩ := rfl
  rw [e] at h
  split at h
  · rename_i hh
    rw [if_pos hh]
    simp only [List.length_append, List.length_cons, List.length_nil] at h ⊢
    split at h
    · cases h
    · rw [if_neg (by omega)]
      exact wrongFrom_less a l _ _ h
  · cases h
theorem needs_last {mod all non : Int} {l : List BAct} {a : BAct} : needs ⟨mod, all, non, l ++ [a]⟩ = needAct all (needs ⟨mod, all, non, l⟩) a := by
  simp [needs, List.foldl_append]

theorem RdA.less {w : World} {A : Option Addr} {l : List BAct} {a : BAct} (h : RdA w A (l ++ [a])) : RdA w A l := by
  unfold RdA RdAB at *
  obtain ⟨h1, h2⟩ := h
  have hlen : (l.flatMap actCells).length = l.length * 4 := by
    rw [List.flatMap_append, List.length_append] at h1
    simp [actCells] at h1 ⊢
    omega
  refine ⟨hlen, fun hn => ?_⟩
  obtain ⟨b, o, e, hlt, hc⟩ := h2 (by simp)
  refine ⟨b, o, e, hlt, fun j u hu => hc j u ?_⟩
  rw [List.flatMap_append, List.getElem?_append_left]
  · exact hu
  · exact (List.getElem?_eq_some_iff.1 hu).1

set_option maxRecDepth 20000 in
set_option maxHeartbeats 1600000 in
theorem ruleLess_any (s : BSys) (A : Option Addr) (c : Nat) (w : World) (hlc : s.acts.length ≤ c) (hA : RdA w A s.acts) :
    Calls Try.prog 8 #[.agg #[.int .i64 s.mod, .int .i64 s.all, .int .i64 s.non, .slice A s.acts.length c]] w fun e w' => e = .returned (.bool true) ∧ Below w.heap.size w w' := by
  have hfd : ∀ (a b : Int) (w : World), (Instr.field 43 (.agg #[.int .i64 a, .int .i64 b]) 0).run Try.prog w = .ok (.int .i64 a) w := fun _ _ _ => by kernel_rfl
  have HS := Blk.new w 38 #[.int .i64 s.mod, .int .i64 s.all, .int .i64 s.non, .slice A s.acts.length c]
  have hA0 : RdA (w.alloc (.cells #[.int .i64 s.mod, .int .i64 s.all, .int .i64 s.non, .slice A s.acts.length c] 38)) A s.acts := Rd.alloc_ hA _
  have hbel : Below w.heap.size w (w.alloc (.cells #[.int .i64 s.mod, .int .i64 s.all, .int .i64 s.non, .slice A s.acts.length c] 38)) := (Below.refl _ _).alloc (Nat.le_refl _) _
  go_enter Try.func8, Try.ntmps8
  go_wp2_with fail
  refine (alive4_any _).mono ?_
  rintro e w1 ⟨rfl, hb1⟩
  replace HS := HS.below hb1 HS.lt
  replace hA0 : RdA w1 A s.acts := Rd.grow hA0 hb1
  replace hbel := grow_below hbel hb1
  have s0 := HS.cell 0; have s1 := HS.cell 1; have s2 := HS.cell 2; have s3 := HS.cell 3
  simp at s0 s1 s2 s3
  go_wp2_with fail
  refine (wrong_any s A c w1 hA0).mono ?_
  rintro e w2 ⟨rfl, hb2⟩
  replace HS := HS.below hb2 HS.lt
  replace hA0 : RdA w2 A s.acts := Rd.grow hA0 hb2
  replace hbel := grow_below hbel hb2
  clear s0 s1 s2 s3
  have s0 := HS.cell 0; have s1 := HS.cell 1; have s2 := HS.cell 2; have s3 := HS.cell 3
  simp at s0 s1 s2 s3
  by_cases hw : (sysWrong s).1 = 0
  case neg =>
    go_wp2_with fail
    go_ret
    exact ⟨rfl, hbel⟩
  rw [hw]
  have hR := right_of hw
  obtain ⟨mod, all, non, acts⟩ := s
  simp only at *
  rcases List.eq_nil_or_concat acts with rfl | ⟨l, a, rfl⟩
  · go_wp2_with fail
    go_ret
    exact ⟨rfl, hbel⟩
  rw [List.concat_eq_append] at *
  have hR' := right_of (sysWrong_less hw)
  have hG := needAct_grows all (needs ⟨mod, all, non, l⟩) a
  rw [← needs_last (mod := mod) (non := non)] at hG
  have h8 := hR.2.2.1
  simp only [List.length_append, List.length_cons, List.length_nil, Nat.zero_add] at *
  have hne : ¬ ((l.length : Int) + 1 = 0) := by omega
  have HS3 := HS.alloc (.cells #[.int .i64 mod, .int .i64 all, .int .i64 non, .slice A (l.length + 1) c] 38)
  have HQ := Blk.new w2 38 #[.int .i64 mod, .int .i64 all, .int .i64 non, .slice A (l.length + 1) c]
  have hA3 : RdA (w2.alloc (.cells #[.int .i64 mod, .int .i64 all, .int .i64 non, .slice A (l.length + 1) c] 38)) A (l ++ [a]) := Rd.alloc_ hA0 _
  have hbel3 := hbel.alloc hbel.size (.cells #[.int .i64 mod, .int .i64 all, .int .i64 non, .slice A (l.length + 1) c] 38)
  have hz : w.heap.size < w2.heap.size := HS.lt
  have u0 := HS3.cell 0; have u1 := HS3.cell 1; have u2 := HS3.cell 2; have u3 := HS3.cell 3
  simp at u0 u1 u2 u3
  have q0 := HQ.cell 0; have q1 := HQ.cell 1; have q2 := HQ.cell 2; have q3 := HQ.cell 3
  simp at q0 q1 q2 q3
  have f3 := HQ.frozen 3
  go_upto_region 7 with fail
  clear u0 u1 u2 u3 q0 q1 q2 q3 f3 HS3 HQ hA3 hbel3 s0 s1 s2 s3
  have HS7 := HS.alloc (.cells #[.int .i64 mod, .int .i64 all, .int .i64 non, .slice A l.length c] 38)
  have HQ7 := Blk.new w2 38 #[.int .i64 mod, .int .i64 all, .int .i64 non, .slice A l.length c]
  have hA7 : RdA (w2.alloc (.cells #[.int .i64 mod, .int .i64 all, .int .i64 non, .slice A l.length c] 38)) A (l ++ [a]) := Rd.alloc_ hA0 _
  have hL7 : RdA (w2.alloc (.cells #[.int .i64 mod, .int .i64 all, .int .i64 non, .slice A l.length c] 38)) A l := hA7.less
  have hbel7 := hbel.alloc hbel.size (.cells #[.int .i64 mod, .int .i64 all, .int .i64 non, .slice A l.length c] 38)
  clear HS hA0 hbel
  go_cut [4, 5] (fun s5 s6 wx => ∃ g g' : Nat, s5 = .pointer (some ⟨g, 0, none⟩) ∧ s6 = .pointer (some ⟨g', 0, none⟩) ∧ Below (w2.alloc (.cells #[.int .i64 mod, .int .i64 all, .int .i64 non, .slice A l.length c] 38)).heap.size (w2.alloc (.cells #[.int .i64 mod, .int .i64 all, .int .i64 non, .slice A l.length c] 38)) wx ∧
      Blk wx g 46 #[.int .i64 (needs ⟨mod, all, non, l⟩).reads, .int .i64 (needs ⟨mod, all, non, l⟩).writes, .bool (needs ⟨mod, all, non, l⟩).moves, .bool (needs ⟨mod, all, non, l⟩).life] ∧
      Blk wx g' 46 #[.int .i64 (needs ⟨mod, all, non, l ++ [a]⟩).reads, .int .i64 (needs ⟨mod, all, non, l ++ [a]⟩).writes, .bool (needs ⟨mod, all, non, l ++ [a]⟩).moves, .bool (needs ⟨mod, all, non, l ++ [a]⟩).life])
  case first =>
    refine two_calls 27 28 29 30 4 5 3 1 36 _ _ _ _ _ _ _ _ _ _ mod all non (.slice A l.length c) mod all non (.slice A (l.length + 1) c) _ _ _ _ _ _ _ _ w2.heap.size w.heap.size needs_enter (by decide) (by simp) rfl rfl HQ7 HS7
      (fun W hW => needs_right ⟨mod, all, non, l⟩ hR' A c W (RdA.grow hL7 hW)) (fun W hW => by have := needs_right ⟨mod, all, non, l ++ [a]⟩ hR A c W (RdA.grow hA7 hW); simpa using this) ?_
    intro g g' W hW hg hg'
    go_wp2_with fail
    go_meet
    exact ⟨g, g', rfl, rfl, hW, hg, hg'⟩
  case rest =>
    obtain ⟨g, g', rfl, rfl, hb5, hg, hg'⟩ := hcut
    have HQ := HQ7.below hb5 HQ7.lt
    have hL := RdA.grow hL7 hb5
    have hbel := grow_below hbel7 hb5
    clear HQ7 HS7 hA7 hL7 hbel7
    have q0 := HQ.cell 0; have q1 := HQ.cell 1; have q2 := HQ.cell 2; have q3 := HQ.cell 3
    simp at q0 q1 q2 q3
    go_wp2_with fail
    refine (wrong_any ⟨mod, all, non, l⟩ A c _ hL).mono ?_
    rintro e w6 ⟨rfl, hb6⟩
    rw [sysWrong_less hw]
    replace hbel := grow_below hbel hb6
    replace hg := hg.below hb6 hg.lt
    replace hg' := hg'.below hb6 hg'.lt
    clear q0 q1 q2 q3 HQ hL
    have hs := needs_sets hR'
    have hs' := needs_sets hR
    have F1 := bits_subS hs.1 hs'.1
    have F2 := bits_subS hs.2 hs'.2
    rw [hG.1] at F1
    rw [hG.2.1] at F2
    have F3 := Lib.hid hG.2.2.1
    have F4 := Lib.hid hG.2.2.2
    clear hG
    generalize needs ⟨mod, all, non, l⟩ = x at *
    generalize needs ⟨mod, all, non, l ++ [a]⟩ = y at *
    obtain ⟨xr, xw, xm, xl⟩ := x
    obtain ⟨yr, yw, ym, yl⟩ := y
    simp only at *
    have g0 := hg.cell 0; have g1 := hg.cell 1; have g2 := hg.cell 2; have g3 := hg.cell 3
    have k0 := hg'.cell 0; have k1 := hg'.cell 1; have k2 := hg'.cell 2; have k3 := hg'.cell 3
    simp at g0 g1 g2 g3 k0 k1 k2 k3
    clear hg hg'
    cases xm <;> cases ym <;> cases xl <;> cases yl
    all_goals first
      | (exfalso; have := F3.out rfl; cases this; done)
      | (exfalso; have := F4.out rfl; cases this; done)
      | (clear F3 F4
         go_wp2_with fail
         go_ret
         exact ⟨rfl, hbel⟩)
end Go.Proofs.Ytefdblaolmckmaa
