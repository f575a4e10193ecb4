/- The walks of the laws of chapter 4. -/
import Derived.Test.YtefdblaolmckmaaClash
import Derived.Test.YtefdblaolmckmaaRefW
namespace Go.Proofs.Ytefdblaolmckmaa
open Go.RowKit
open Brood
set_option linter.unusedVariables false
set_option linter.unusedSimpArgs false

theorem Rd.of_blk {w : World} {g sz n : Nat} {t : TypeId} {cs : Array Value} (h : Blk w g t cs) (hl : cs.toList.length = n * sz) : Rd w w.heap.size sz (some ⟨g, 0, none⟩) n cs.toList :=
  ⟨hl, fun _ => ⟨g, 0, rfl, h.lt, fun j u hu => by rw [Nat.zero_add, h.cell j]; simpa using hu⟩⟩
def S0 : BSys := ⟨0, 3, 0, [⟨3, 0, 1, 0⟩]⟩
theorem S0_wrong : sysWrong S0 = (0, 0) := by decide
theorem S0_right : Right S0 := right_of (by rw [S0_wrong])
theorem S0_may1 : may ⟨3, 1, false⟩ S0 = true := by decide
theorem S0_may2 : may ⟨1, 1, false⟩ S0 = false := by decide
theorem S0_clash : clash S0 S0 = true := by decide

set_option maxRecDepth 20000 in
set_option maxHeartbeats 1600000 in
theorem alive4_any (w : World) :
    Calls Try.prog 42 #[] w fun e w' => e = .returned (.bool true) ∧ Below w.heap.size w w' := by
  have n1 : (needs S0).reads = 3 := by decide
  have n2 : (needs S0).writes = 1 := by decide
  have n3 : (needs S0).moves = false := by decide
  have n4 : (needs S0).life = false := by decide
  have hfd : ∀ (a b : Int) (w : World), (Instr.field 43 (.agg #[.int .i64 a, .int .i64 b]) 0).run Try.prog w = .ok (.int .i64 a) w := fun _ _ _ => by kernel_rfl
  have N1 := Lib.hid n1; have N2 := Lib.hid n2; have N3 := Lib.hid n3; have N4 := Lib.hid n4
  clear n1 n2 n3 n4
  go_enter Try.func42, Try.ntmps42
  go_wp2_with fail
  have HA := (Blk.new w 91 #[.int .i64 3, .int .i64 0, .int .i64 1, .int .i64 0]).alloc (.cells #[.int .i64 0, .int .i64 3, .int .i64 0, .slice (some ⟨w.heap.size, 0, none⟩) 1 1] 38)
  have HB := Blk.new (w.alloc (.cells #[.int .i64 3, .int .i64 0, .int .i64 1, .int .i64 0] 91)) 38 #[.int .i64 0, .int .i64 3, .int .i64 0, .slice (some ⟨w.heap.size, 0, none⟩) 1 1]
  simp only [World.size_alloc] at HB
  have hbel : Below w.heap.size w ((w.alloc (.cells #[.int .i64 3, .int .i64 0, .int .i64 1, .int .i64 0] 91)).alloc (.cells #[.int .i64 0, .int .i64 3, .int .i64 0, .slice (some ⟨w.heap.size, 0, none⟩) 1 1] 38)) := ((Below.refl _ _).alloc (Nat.le_refl _) _).alloc (by simp) _
  refine (needs_right S0 S0_right (some ⟨w.heap.size, 0, none⟩) 1 _ (Rd.of_blk HA rfl)).mono ?_
  rintro e w1 ⟨rfl, hb1⟩
  rw [N1.out, N2.out, N3.out, N4.out]
  replace HA := (HA.below hb1 HA.lt).alloc (.cells #[.int .i64 3, .int .i64 1, .bool false, .bool false] 46)
  replace HB := (HB.below hb1 (by have := HB.lt; exact this)).alloc (.cells #[.int .i64 3, .int .i64 1, .bool false, .bool false] 46)
  replace hbel := (grow_below hbel hb1).alloc (grow_below hbel hb1).size (.cells #[.int .i64 3, .int .i64 1, .bool false, .bool false] 46)
  have HN := Blk.new w1 46 #[.int .i64 3, .int .i64 1, .bool false, .bool false]
  have hz1 : w.heap.size + 1 < w1.heap.size := by have := hb1.size; simp at this; omega
  have b0 := HB.cell 0; have b1 := HB.cell 1; have b2 := HB.cell 2; have b3 := HB.cell 3
  simp at b0 b1 b2 b3
  go_wp2_with fail
  refine (wrong_any S0 (some ⟨w.heap.size, 0, none⟩) 1 _ (Rd.of_blk HA rfl)).mono ?_
  rintro e w2 ⟨rfl, hb2⟩
  rw [S0_wrong]
  replace HA := HA.below hb2 HA.lt
  replace HB := HB.below hb2 HB.lt
  replace HN := HN.below hb2 HN.lt
  replace hbel := grow_below hbel hb2
  clear b0 b1 b2 b3
  have b0 := HB.cell 0; have b1 := HB.cell 1; have b2 := HB.cell 2; have b3 := HB.cell 3
  simp at b0 b1 b2 b3
  have c0 := HN.cell 0; have c1 := HN.cell 1; have c2 := HN.cell 2; have c3 := HN.cell 3
  simp at c0 c1 c2 c3
  go_wp2_with fail
  refine (may_any ⟨3, 1, false⟩ (by decide) (by decide) S0 S0_right (some ⟨w.heap.size, 0, none⟩) 1 _ (Rd.of_blk HA rfl)).mono ?_
  rintro e w3 ⟨rfl, hb3⟩
  rw [S0_may1]
  replace HA := HA.below hb3 HA.lt
  replace HB := HB.below hb3 HB.lt
  replace hbel := grow_below hbel hb3
  clear b0 b1 b2 b3 c0 c1 c2 c3 HN
  have b0 := HB.cell 0; have b1 := HB.cell 1; have b2 := HB.cell 2; have b3 := HB.cell 3
  simp at b0 b1 b2 b3
  go_wp2_with fail
  refine (may_any ⟨1, 1, false⟩ (by decide) (by decide) S0 S0_right (some ⟨w.heap.size, 0, none⟩) 1 _ (Rd.of_blk HA rfl)).mono ?_
  rintro e w4 ⟨rfl, hb4⟩
  rw [S0_may2]
  replace HA := HA.below hb4 HA.lt
  replace HB := HB.below hb4 HB.lt
  replace hbel := grow_below hbel hb4
  clear b0 b1 b2 b3
  have b0 := HB.cell 0; have b1 := HB.cell 1; have b2 := HB.cell 2; have b3 := HB.cell 3
  simp at b0 b1 b2 b3
  go_wp2_with fail
  refine (clash_any S0 S0 S0_right S0_right (some ⟨w.heap.size, 0, none⟩) (some ⟨w.heap.size, 0, none⟩) 1 1 _ (Rd.of_blk HA rfl) (Rd.of_blk HA rfl)).mono ?_
  rintro e w5 ⟨rfl, hb5⟩
  rw [S0_clash]
  replace hbel := grow_below hbel hb5
  go_wp2_with fail
  go_ret
  exact ⟨rfl, hbel⟩
end Go.Proofs.Ytefdblaolmckmaa
