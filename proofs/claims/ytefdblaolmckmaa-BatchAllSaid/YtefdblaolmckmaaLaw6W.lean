/- The walk of alive of chapter 6. -/
import Derived.Test.YtefdblaolmckmaaBatM
import Derived.Test.YtefdblaolmckmaaConcat
import Derived.Test.YtefdblaolmckmaaLaw4W
namespace Go.Proofs.Ytefdblaolmckmaa
open Go.RowKit
open Brood
set_option linter.unusedVariables false
set_option linter.unusedSimpArgs false

def moreS (p : Int) : BSys := ⟨0, 2 ^ p.toNat, 0, [⟨4, p, 0, 1⟩]⟩

set_option maxRecDepth 20000 in
set_option maxHeartbeats 1600000 in
theorem more_any (p : Int) (hp : p = 0 ∨ p = 1) (w : World) :
    Calls Try.prog 65 #[.int .i64 p] w fun e w' => ∃ g, e = .returned (sysV ⟨moreS p, some ⟨g, 0, none⟩, 1⟩) ∧ RdA w' (some ⟨g, 0, none⟩) (moreS p).acts ∧ Below w.heap.size w w' := by
  rcases hp with rfl | rfl
  · go_enter Try.func65, Try.ntmps65
    go_wp2_with fail
    have hb := (Blk.new w 38 #[.int .i64 0, .int .i64 1, .int .i64 0, .slice (some ⟨w.heap.size + 1, 0, none⟩) 1 1]).alloc (.cells #[.int .i64 4, .int .i64 0, .int .i64 0, .int .i64 1] 91)
    have c0 := hb.cell 0; have c1 := hb.cell 1; have c2 := hb.cell 2; have c3 := hb.cell 3
    simp at c0 c1 c2 c3
    refine bodyPost_ret (v := .agg #[.int .i64 0, .int .i64 1, .int .i64 0, .slice (some ⟨w.heap.size + 1, 0, none⟩) 1 1]) (by simp [results, Try.results65, go_sem, c0, c1, c2, c3]) rfl ⟨w.heap.size + 1, rfl, ?_, ((Below.refl _ _).alloc (Nat.le_refl _) _).alloc (by simp) _⟩
    have h := Rd.of_blk (n := 1) (sz := 4) (Blk.new (w.alloc (.cells #[.int .i64 0, .int .i64 1, .int .i64 0, .slice (some ⟨w.heap.size + 1, 0, none⟩) 1 1] 38)) 91 #[.int .i64 4, .int .i64 0, .int .i64 0, .int .i64 1]) rfl
    simp only [World.size_alloc] at h
    have h2 := h.more (B' := w.heap.size + 1 + 1) (by simp)
    unfold RdA RdAB
    simp only [World.size_alloc]
    exact h2
  · go_enter Try.func65, Try.ntmps65
    go_wp2_with fail
    have hb := (Blk.new w 38 #[.int .i64 0, .int .i64 2, .int .i64 0, .slice (some ⟨w.heap.size + 1, 0, none⟩) 1 1]).alloc (.cells #[.int .i64 4, .int .i64 1, .int .i64 0, .int .i64 1] 91)
    have c0 := hb.cell 0; have c1 := hb.cell 1; have c2 := hb.cell 2; have c3 := hb.cell 3
    simp at c0 c1 c2 c3
    refine bodyPost_ret (v := .agg #[.int .i64 0, .int .i64 2, .int .i64 0, .slice (some ⟨w.heap.size + 1, 0, none⟩) 1 1]) (by simp [results, Try.results65, go_sem, c0, c1, c2, c3]) rfl ⟨w.heap.size + 1, rfl, ?_, ((Below.refl _ _).alloc (Nat.le_refl _) _).alloc (by simp) _⟩
    have h := Rd.of_blk (n := 1) (sz := 4) (Blk.new (w.alloc (.cells #[.int .i64 0, .int .i64 2, .int .i64 0, .slice (some ⟨w.heap.size + 1, 0, none⟩) 1 1] 38)) 91 #[.int .i64 4, .int .i64 1, .int .i64 0, .int .i64 1]) rfl
    simp only [World.size_alloc] at h
    have h2 := h.more (B' := w.heap.size + 1 + 1) (by simp)
    unfold RdA RdAB
    simp only [World.size_alloc]
    exact h2
theorem mk_alive : makeV [moreS 0, moreS 0, moreS 1] = ([[0, 2], [1]], (0, 0)) := by decide

set_option maxRecDepth 20000 in
set_option maxHeartbeats 3200000 in
theorem alive6_any (w : World) :
    Calls Try.prog 49 #[] w fun e w' => e = .returned (.bool true) ∧ Below w.heap.size w w' := by
  have hm := Lib.hid mk_alive
  have m0 : (moreS 0).acts.length = 1 := rfl
  go_enter Try.func49, Try.ntmps49
  go_wp2_with fail
  refine (more_any 0 (.inl rfl) w).mono ?_
  rintro e w1 ⟨g1, rfl, ha1, hb1⟩
  go_wp2_with fail
  refine (more_any 0 (.inl rfl) w1).mono ?_
  rintro e w2 ⟨g2, rfl, ha2, hb2⟩
  go_wp2_with fail
  refine (more_any 1 (.inr rfl) w2).mono ?_
  rintro e w3 ⟨g3, rfl, ha3, hb3⟩
  replace ha1 : RdA w3 _ _ := Rd.grow (Rd.grow ha1 hb2) hb3
  replace ha2 : RdA w3 _ _ := Rd.grow ha2 hb3
  have hbel := grow_below (grow_below hb1 hb2) hb3
  unfold sysV
  obtain ⟨L, hL⟩ : ∃ L : List SysIn, L = [⟨moreS 0, some ⟨g1, 0, none⟩, 1⟩, ⟨moreS 0, some ⟨g2, 0, none⟩, 1⟩, ⟨moreS 1, some ⟨g3, 0, none⟩, 1⟩] := ⟨_, rfl⟩
  have hLm : Hid (makeV (sysOf L) = ([[0, 2], [1]], (0, 0))) := Lib.hid (by rw [hL]; exact mk_alive)
  have hcs := Rd.of_blk (n := 3) (sz := 4) (Blk.new w3 38 #[.int .i64 (moreS 0).mod, .int .i64 (moreS 0).all, .int .i64 (moreS 0).non, .slice (some ⟨g1, 0, none⟩) 1 1, .int .i64 (moreS 0).mod, .int .i64 (moreS 0).all, .int .i64 (moreS 0).non, .slice (some ⟨g2, 0, none⟩) 1 1, .int .i64 (moreS 1).mod, .int .i64 (moreS 1).all, .int .i64 (moreS 1).non, .slice (some ⟨g3, 0, none⟩) (moreS 1).acts.length 1]) rfl
  have hRd : RdS (w3.alloc (.cells #[.int .i64 (moreS 0).mod, .int .i64 (moreS 0).all, .int .i64 (moreS 0).non, .slice (some ⟨g1, 0, none⟩) 1 1, .int .i64 (moreS 0).mod, .int .i64 (moreS 0).all, .int .i64 (moreS 0).non, .slice (some ⟨g2, 0, none⟩) 1 1, .int .i64 (moreS 1).mod, .int .i64 (moreS 1).all, .int .i64 (moreS 1).non, .slice (some ⟨g3, 0, none⟩) (moreS 1).acts.length 1] 38)) (w3.alloc (.cells #[.int .i64 (moreS 0).mod, .int .i64 (moreS 0).all, .int .i64 (moreS 0).non, .slice (some ⟨g1, 0, none⟩) 1 1, .int .i64 (moreS 0).mod, .int .i64 (moreS 0).all, .int .i64 (moreS 0).non, .slice (some ⟨g2, 0, none⟩) 1 1, .int .i64 (moreS 1).mod, .int .i64 (moreS 1).all, .int .i64 (moreS 1).non, .slice (some ⟨g3, 0, none⟩) (moreS 1).acts.length 1] 38)).heap.size (some ⟨w3.heap.size, 0, none⟩) L := by
    subst hL
    refine ⟨hcs, ?_⟩
    intro x hx
    simp only [List.mem_cons, List.not_mem_nil, or_false] at hx
    rcases hx with rfl | rfl | rfl
    · exact Rd.alloc_ ha1 _
    · exact Rd.alloc_ ha2 _
    · exact Rd.alloc_ ha3 _
  have hL3 : L.length = 3 := by rw [hL]; rfl
  have hmk := make_any L _ 3 _ hRd
  rw [hL3] at hmk
  have hmk' := Lib.hid hmk
  clear hmk hcs ha1 ha2 ha3 hb1 hb2 hb3 hRd hL
  go_wp2_with fail
  refine hmk'.out.mono ?_
  rintro e w4 ⟨v, us, rfl, hown, hb4⟩
  have hbel4 := grow_below (hbel.alloc hbel.size _) hb4
  clear hmk' hb4 hbel
  rw [hLm.out] at hown ⊢
  have O5 := hown.alloc (.cells #[.int .i64 0, .int .i64 0] 43)
  have hbel5 := hbel4.alloc hbel4.size (.cells #[.int .i64 0, .int .i64 0] 43)
  have HF := Blk.new w4 43 #[.int .i64 0, .int .i64 0]
  clear hown hbel4
  have hr : rowsI [[0, 2], [1]] = [[0, 2], [1]] := rfl
  rw [hr] at O5
  obtain ⟨g, cap, rfl, hg1, hg2, hg3, hcell, hfr⟩ := O5.place (by decide)
  obtain ⟨u, hu, hrow⟩ := O5.rowAt (k := 0) (by decide)
  obtain ⟨A', c', rfl, hlen', hRI⟩ := own_at hrow
  obtain ⟨b2, off2, rfl, hb2, hc2⟩ := hRI.at_ (k := 1) (by decide)
  have hc0 := hcell 0 (by decide)
  rw [hu] at hc0
  simp at hc0 hc2 hg3
  have hll := RdLL.of_own O5
  clear hcell hfr hu hrow hRI hlen' hr
  have hor := Lib.hid (fun W (hW : Below (w4.alloc (.cells #[.int .i64 0, .int .i64 0] 43)).heap.size (w4.alloc (.cells #[.int .i64 0, .int .i64 0] 43)) W) => order_any (some ⟨g, 0, none⟩) cap us [[0, 2], [1]] (by decide) (by decide) W ⟨hll.len, (hll.out.under hW (Nat.le_refl _)).more hW.size, fun k u r h1 h2 => by obtain ⟨A', c', e, h3, h3', h4⟩ := hll.row k u r h1 h2; exact ⟨A', c', e, h3, h3', (h4.under hW (Nat.le_refl _)).more hW.size⟩⟩)
  clear hll O5
  go_wp2_with fail
  refine (hor.out _ (Below.refl _ _)).mono ?_
  rintro e w6 ⟨v6, rfl, hown6, hb6⟩
  obtain ⟨A6, c6, rfl, _, _⟩ := own_shape hown6
  go_wp2_with fail
  go_ret
  exact ⟨ret_bool rfl, grow_below hbel5 hb6⟩
end Go.Proofs.Ytefdblaolmckmaa
