/- Lemmas of the proof. -/
import Derived.Deep.QuietTactic
import Derived.BigQuiet
import Derived.Deep.RegionHeld3
import Derived.Deep.DeepCutAuto
import Derived.Test.YtefdblaolmckmabGreatRBRowToInv
set_option linter.unusedVariables false
set_option linter.unusedSimpArgs false
set_option maxRecDepth 100000
set_option maxHeartbeats 12800000
namespace Go.Proofs.YtefdblaolmckmabGreat
open Go.RowKit
open Brood
def ActAt (w:World) (b o:Nat) (a:BAct):Prop:=
 w.cell? ⟨b,o,none⟩=some (.int .i64 a.kind)∧w.cell? ⟨b,o+1,none⟩=some (.int .i64 a.part) ∧
 w.cell? ⟨b,o+2,none⟩=some (.int .i64 a.src)∧w.cell? ⟨b,o+3,none⟩=some (.int .i64 a.n)
theorem act_1_0 (all non part src n:Int) (hall:isSet all=true) (b o:Nat) (w:World) (hb:b<w.heap.size) (c0:w.cell? ⟨b,o,none⟩=some (.int .i64 1)) (c1:w.cell? ⟨b,o+1,none⟩=some (.int .i64 part)) (c2:w.cell? ⟨b,o+2,none⟩=some (.int .i64 src)) (c3:w.cell? ⟨b,o+3,none⟩=some (.int .i64 n)) (e0:isPart part=false) :
  Calls Tryz.prog 106 #[.agg #[.int .i64 all,.int .i64 non],.pointer (some ⟨b,o,none⟩)] w fun e w'=>e=.returned (.int .i64 3)∧Below w.heap.size w w':=by
 go_enter Tryz.func106,Tryz.ntmps106
 go_wp2_with (first
  | (go_at_call 43;refine (set_any _ _).mono ?_;rintro e w' ⟨rfl,rfl⟩)
  | (go_at_call 59;refine (part_any _ _).mono ?_;rintro e w' ⟨rfl,rfl⟩)
  | (go_at_call 44;refine (value_any _ _).mono ?_;rintro e w' ⟨rfl,rfl⟩))
 go_ret
 exact ⟨rfl,by first | exact (Below.refl _ _).alloc (Nat.le_refl _) _ | exact below_drewN ((Below.refl _ _).alloc (Nat.le_refl _) _) _⟩
theorem act_1_1 (all non part src n:Int) (hall:isSet all=true) (b o:Nat) (w:World) (hb:b<w.heap.size) (c0:w.cell? ⟨b,o,none⟩=some (.int .i64 1)) (c1:w.cell? ⟨b,o+1,none⟩=some (.int .i64 part)) (c2:w.cell? ⟨b,o+2,none⟩=some (.int .i64 src)) (c3:w.cell? ⟨b,o+3,none⟩=some (.int .i64 n)) (e0:isPart part=true) (e1:isVal n=false) :
  Calls Tryz.prog 106 #[.agg #[.int .i64 all,.int .i64 non],.pointer (some ⟨b,o,none⟩)] w fun e w'=>e=.returned (.int .i64 3)∧Below w.heap.size w w':=by
 go_enter Tryz.func106,Tryz.ntmps106
 go_wp2_with (first
  | (go_at_call 43;refine (set_any _ _).mono ?_;rintro e w' ⟨rfl,rfl⟩)
  | (go_at_call 59;refine (part_any _ _).mono ?_;rintro e w' ⟨rfl,rfl⟩)
  | (go_at_call 44;refine (value_any _ _).mono ?_;rintro e w' ⟨rfl,rfl⟩))
 go_ret
 exact ⟨rfl,by first | exact (Below.refl _ _).alloc (Nat.le_refl _) _ | exact below_drewN ((Below.refl _ _).alloc (Nat.le_refl _) _) _⟩
theorem act_1_2 (all non part src n:Int) (hall:isSet all=true) (b o:Nat) (w:World) (hb:b<w.heap.size) (c0:w.cell? ⟨b,o,none⟩=some (.int .i64 1)) (c1:w.cell? ⟨b,o+1,none⟩=some (.int .i64 part)) (c2:w.cell? ⟨b,o+2,none⟩=some (.int .i64 src)) (c3:w.cell? ⟨b,o+3,none⟩=some (.int .i64 n)) (e0:isPart part=true) (e1:isVal n=true) :
  Calls Tryz.prog 106 #[.agg #[.int .i64 all,.int .i64 non],.pointer (some ⟨b,o,none⟩)] w fun e w'=>e=.returned (.int .i64 0)∧Below w.heap.size w w':=by
 go_enter Tryz.func106,Tryz.ntmps106
 go_wp2_with (first
  | (go_at_call 43;refine (set_any _ _).mono ?_;rintro e w' ⟨rfl,rfl⟩)
  | (go_at_call 59;refine (part_any _ _).mono ?_;rintro e w' ⟨rfl,rfl⟩)
  | (go_at_call 44;refine (value_any _ _).mono ?_;rintro e w' ⟨rfl,rfl⟩))
 go_quiet ((go_at_call 36;exact quiet_same (has_any _ _ hall _)))
 go_wp2_with fail
 go_ret
 exact ⟨rfl,by first | exact (Below.refl _ _).alloc (Nat.le_refl _) _ | exact below_drewN ((Below.refl _ _).alloc (Nat.le_refl _) _) _⟩
theorem act_2_0 (all non part src n:Int) (hall:isSet all=true) (b o:Nat) (w:World) (hb:b<w.heap.size) (c0:w.cell? ⟨b,o,none⟩=some (.int .i64 2)) (c1:w.cell? ⟨b,o+1,none⟩=some (.int .i64 part)) (c2:w.cell? ⟨b,o+2,none⟩=some (.int .i64 src)) (c3:w.cell? ⟨b,o+3,none⟩=some (.int .i64 n)) (e0:isPart part=false) :
  Calls Tryz.prog 106 #[.agg #[.int .i64 all,.int .i64 non],.pointer (some ⟨b,o,none⟩)] w fun e w'=>e=.returned (.int .i64 3)∧Below w.heap.size w w':=by
 go_enter Tryz.func106,Tryz.ntmps106
 go_wp2_with (first
  | (go_at_call 43;refine (set_any _ _).mono ?_;rintro e w' ⟨rfl,rfl⟩)
  | (go_at_call 59;refine (part_any _ _).mono ?_;rintro e w' ⟨rfl,rfl⟩)
  | (go_at_call 44;refine (value_any _ _).mono ?_;rintro e w' ⟨rfl,rfl⟩))
 go_ret
 exact ⟨rfl,by first | exact (Below.refl _ _).alloc (Nat.le_refl _) _ | exact below_drewN ((Below.refl _ _).alloc (Nat.le_refl _) _) _⟩
theorem act_2_1 (all non part src n:Int) (hall:isSet all=true) (b o:Nat) (w:World) (hb:b<w.heap.size) (c0:w.cell? ⟨b,o,none⟩=some (.int .i64 2)) (c1:w.cell? ⟨b,o+1,none⟩=some (.int .i64 part)) (c2:w.cell? ⟨b,o+2,none⟩=some (.int .i64 src)) (c3:w.cell? ⟨b,o+3,none⟩=some (.int .i64 n)) (e0:isPart part=true) (e1:isPart src=false) :
  Calls Tryz.prog 106 #[.agg #[.int .i64 all,.int .i64 non],.pointer (some ⟨b,o,none⟩)] w fun e w'=>e=.returned (.int .i64 3)∧Below w.heap.size w w':=by
 go_enter Tryz.func106,Tryz.ntmps106
 go_wp2_with (first
  | (go_at_call 43;refine (set_any _ _).mono ?_;rintro e w' ⟨rfl,rfl⟩)
  | (go_at_call 59;refine (part_any _ _).mono ?_;rintro e w' ⟨rfl,rfl⟩)
  | (go_at_call 44;refine (value_any _ _).mono ?_;rintro e w' ⟨rfl,rfl⟩))
 go_ret
 exact ⟨rfl,by first | exact (Below.refl _ _).alloc (Nat.le_refl _) _ | exact below_drewN ((Below.refl _ _).alloc (Nat.le_refl _) _) _⟩
theorem act_2_2 (all non part src n:Int) (hall:isSet all=true) (b o:Nat) (w:World) (hb:b<w.heap.size) (c0:w.cell? ⟨b,o,none⟩=some (.int .i64 2)) (c1:w.cell? ⟨b,o+1,none⟩=some (.int .i64 part)) (c2:w.cell? ⟨b,o+2,none⟩=some (.int .i64 src)) (c3:w.cell? ⟨b,o+3,none⟩=some (.int .i64 n)) (e0:isPart part=true) (e1:isPart src=true) (e2:hasB all src=false) :
  Calls Tryz.prog 106 #[.agg #[.int .i64 all,.int .i64 non],.pointer (some ⟨b,o,none⟩)] w fun e w'=>e=.returned (.int .i64 7)∧Below w.heap.size w w':=by
 go_enter Tryz.func106,Tryz.ntmps106
 go_wp2_with (first
  | (go_at_call 43;refine (set_any _ _).mono ?_;rintro e w' ⟨rfl,rfl⟩)
  | (go_at_call 59;refine (part_any _ _).mono ?_;rintro e w' ⟨rfl,rfl⟩)
  | (go_at_call 44;refine (value_any _ _).mono ?_;rintro e w' ⟨rfl,rfl⟩))
 go_quiet ((go_at_call 36;exact quiet_same (has_any _ _ hall _)))
 go_wp2_with fail
 go_ret
 exact ⟨rfl,by first | exact (Below.refl _ _).alloc (Nat.le_refl _) _ | exact below_drewN ((Below.refl _ _).alloc (Nat.le_refl _) _) _⟩
theorem act_2_3 (all non part src n:Int) (hall:isSet all=true) (b o:Nat) (w:World) (hb:b<w.heap.size) (c0:w.cell? ⟨b,o,none⟩=some (.int .i64 2)) (c1:w.cell? ⟨b,o+1,none⟩=some (.int .i64 part)) (c2:w.cell? ⟨b,o+2,none⟩=some (.int .i64 src)) (c3:w.cell? ⟨b,o+3,none⟩=some (.int .i64 n)) (e0:isPart part=true) (e1:isPart src=true) (e2:hasB all src=true) :
  Calls Tryz.prog 106 #[.agg #[.int .i64 all,.int .i64 non],.pointer (some ⟨b,o,none⟩)] w fun e w'=>e=.returned (.int .i64 0)∧Below w.heap.size w w':=by
 go_enter Tryz.func106,Tryz.ntmps106
 go_wp2_with (first
  | (go_at_call 43;refine (set_any _ _).mono ?_;rintro e w' ⟨rfl,rfl⟩)
  | (go_at_call 59;refine (part_any _ _).mono ?_;rintro e w' ⟨rfl,rfl⟩)
  | (go_at_call 44;refine (value_any _ _).mono ?_;rintro e w' ⟨rfl,rfl⟩))
 go_quiet ((go_at_call 36;exact quiet_same (has_any _ _ hall _)))
 go_wp2_with fail
 go_ret
 exact ⟨rfl,by first | exact (Below.refl _ _).alloc (Nat.le_refl _) _ | exact below_drewN ((Below.refl _ _).alloc (Nat.le_refl _) _) _⟩
theorem act_3_0 (all non part src n:Int) (hall:isSet all=true) (b o:Nat) (w:World) (hb:b<w.heap.size) (c0:w.cell? ⟨b,o,none⟩=some (.int .i64 3)) (c1:w.cell? ⟨b,o+1,none⟩=some (.int .i64 part)) (c2:w.cell? ⟨b,o+2,none⟩=some (.int .i64 src)) (c3:w.cell? ⟨b,o+3,none⟩=some (.int .i64 n)) (e0:isPart part=false) :
  Calls Tryz.prog 106 #[.agg #[.int .i64 all,.int .i64 non],.pointer (some ⟨b,o,none⟩)] w fun e w'=>e=.returned (.int .i64 3)∧Below w.heap.size w w':=by
 go_enter Tryz.func106,Tryz.ntmps106
 go_wp2_with (first
  | (go_at_call 43;refine (set_any _ _).mono ?_;rintro e w' ⟨rfl,rfl⟩)
  | (go_at_call 59;refine (part_any _ _).mono ?_;rintro e w' ⟨rfl,rfl⟩)
  | (go_at_call 44;refine (value_any _ _).mono ?_;rintro e w' ⟨rfl,rfl⟩))
 go_ret
 exact ⟨rfl,by first | exact (Below.refl _ _).alloc (Nat.le_refl _) _ | exact below_drewN ((Below.refl _ _).alloc (Nat.le_refl _) _) _⟩
theorem act_3_1 (all non part src n:Int) (hall:isSet all=true) (b o:Nat) (w:World) (hb:b<w.heap.size) (c0:w.cell? ⟨b,o,none⟩=some (.int .i64 3)) (c1:w.cell? ⟨b,o+1,none⟩=some (.int .i64 part)) (c2:w.cell? ⟨b,o+2,none⟩=some (.int .i64 src)) (c3:w.cell? ⟨b,o+3,none⟩=some (.int .i64 n)) (e0:isPart part=true) (e1:isPart src=false) :
  Calls Tryz.prog 106 #[.agg #[.int .i64 all,.int .i64 non],.pointer (some ⟨b,o,none⟩)] w fun e w'=>e=.returned (.int .i64 3)∧Below w.heap.size w w':=by
 go_enter Tryz.func106,Tryz.ntmps106
 go_wp2_with (first
  | (go_at_call 43;refine (set_any _ _).mono ?_;rintro e w' ⟨rfl,rfl⟩)
  | (go_at_call 59;refine (part_any _ _).mono ?_;rintro e w' ⟨rfl,rfl⟩)
  | (go_at_call 44;refine (value_any _ _).mono ?_;rintro e w' ⟨rfl,rfl⟩))
 go_ret
 exact ⟨rfl,by first | exact (Below.refl _ _).alloc (Nat.le_refl _) _ | exact below_drewN ((Below.refl _ _).alloc (Nat.le_refl _) _) _⟩
theorem act_3_2 (all non part src n:Int) (hall:isSet all=true) (b o:Nat) (w:World) (hb:b<w.heap.size) (c0:w.cell? ⟨b,o,none⟩=some (.int .i64 3)) (c1:w.cell? ⟨b,o+1,none⟩=some (.int .i64 part)) (c2:w.cell? ⟨b,o+2,none⟩=some (.int .i64 src)) (c3:w.cell? ⟨b,o+3,none⟩=some (.int .i64 n)) (e0:isPart part=true) (e1:isPart src=true) (e2:hasB all src=false) :
  Calls Tryz.prog 106 #[.agg #[.int .i64 all,.int .i64 non],.pointer (some ⟨b,o,none⟩)] w fun e w'=>e=.returned (.int .i64 7)∧Below w.heap.size w w':=by
 go_enter Tryz.func106,Tryz.ntmps106
 go_wp2_with (first
  | (go_at_call 43;refine (set_any _ _).mono ?_;rintro e w' ⟨rfl,rfl⟩)
  | (go_at_call 59;refine (part_any _ _).mono ?_;rintro e w' ⟨rfl,rfl⟩)
  | (go_at_call 44;refine (value_any _ _).mono ?_;rintro e w' ⟨rfl,rfl⟩))
 go_quiet ((go_at_call 36;exact quiet_same (has_any _ _ hall _)))
 go_wp2_with fail
 go_ret
 exact ⟨rfl,by first | exact (Below.refl _ _).alloc (Nat.le_refl _) _ | exact below_drewN ((Below.refl _ _).alloc (Nat.le_refl _) _) _⟩
theorem act_3_3 (all non part src n:Int) (hall:isSet all=true) (b o:Nat) (w:World) (hb:b<w.heap.size) (c0:w.cell? ⟨b,o,none⟩=some (.int .i64 3)) (c1:w.cell? ⟨b,o+1,none⟩=some (.int .i64 part)) (c2:w.cell? ⟨b,o+2,none⟩=some (.int .i64 src)) (c3:w.cell? ⟨b,o+3,none⟩=some (.int .i64 n)) (e0:isPart part=true) (e1:isPart src=true) (e2:hasB all src=true) (e3:hasB all part=false) :
  Calls Tryz.prog 106 #[.agg #[.int .i64 all,.int .i64 non],.pointer (some ⟨b,o,none⟩)] w fun e w'=>e=.returned (.int .i64 7)∧Below w.heap.size w w':=by
 go_enter Tryz.func106,Tryz.ntmps106
 go_wp2_with (first
  | (go_at_call 43;refine (set_any _ _).mono ?_;rintro e w' ⟨rfl,rfl⟩)
  | (go_at_call 59;refine (part_any _ _).mono ?_;rintro e w' ⟨rfl,rfl⟩)
  | (go_at_call 44;refine (value_any _ _).mono ?_;rintro e w' ⟨rfl,rfl⟩))
 go_quiet ((go_at_call 36;exact quiet_same (has_any _ _ hall _)))
 go_wp2_with fail
 go_ret
 exact ⟨rfl,by first | exact (Below.refl _ _).alloc (Nat.le_refl _) _ | exact below_drewN ((Below.refl _ _).alloc (Nat.le_refl _) _) _⟩
theorem act_3_4 (all non part src n:Int) (hall:isSet all=true) (b o:Nat) (w:World) (hb:b<w.heap.size) (c0:w.cell? ⟨b,o,none⟩=some (.int .i64 3)) (c1:w.cell? ⟨b,o+1,none⟩=some (.int .i64 part)) (c2:w.cell? ⟨b,o+2,none⟩=some (.int .i64 src)) (c3:w.cell? ⟨b,o+3,none⟩=some (.int .i64 n)) (e0:isPart part=true) (e1:isPart src=true) (e2:hasB all src=true) (e3:hasB all part=true) :
  Calls Tryz.prog 106 #[.agg #[.int .i64 all,.int .i64 non],.pointer (some ⟨b,o,none⟩)] w fun e w'=>e=.returned (.int .i64 0)∧Below w.heap.size w w':=by
 go_enter Tryz.func106,Tryz.ntmps106
 go_wp2_with (first
  | (go_at_call 43;refine (set_any _ _).mono ?_;rintro e w' ⟨rfl,rfl⟩)
  | (go_at_call 59;refine (part_any _ _).mono ?_;rintro e w' ⟨rfl,rfl⟩)
  | (go_at_call 44;refine (value_any _ _).mono ?_;rintro e w' ⟨rfl,rfl⟩))
 go_quiet ((go_at_call 36;exact quiet_same (has_any _ _ hall _)))
 go_wp2_with fail
 go_ret
 exact ⟨rfl,by first | exact (Below.refl _ _).alloc (Nat.le_refl _) _ | exact below_drewN ((Below.refl _ _).alloc (Nat.le_refl _) _) _⟩
theorem act_4_0 (all non part src n:Int) (hall:isSet all=true) (b o:Nat) (w:World) (hb:b<w.heap.size) (c0:w.cell? ⟨b,o,none⟩=some (.int .i64 4)) (c1:w.cell? ⟨b,o+1,none⟩=some (.int .i64 part)) (c2:w.cell? ⟨b,o+2,none⟩=some (.int .i64 src)) (c3:w.cell? ⟨b,o+3,none⟩=some (.int .i64 n)) (e0:isPart part=false) :
  Calls Tryz.prog 106 #[.agg #[.int .i64 all,.int .i64 non],.pointer (some ⟨b,o,none⟩)] w fun e w'=>e=.returned (.int .i64 3)∧Below w.heap.size w w':=by
 go_enter Tryz.func106,Tryz.ntmps106
 go_wp2_with (first
  | (go_at_call 43;refine (set_any _ _).mono ?_;rintro e w' ⟨rfl,rfl⟩)
  | (go_at_call 59;refine (part_any _ _).mono ?_;rintro e w' ⟨rfl,rfl⟩)
  | (go_at_call 44;refine (value_any _ _).mono ?_;rintro e w' ⟨rfl,rfl⟩))
 go_ret
 exact ⟨rfl,by first | exact (Below.refl _ _).alloc (Nat.le_refl _) _ | exact below_drewN ((Below.refl _ _).alloc (Nat.le_refl _) _) _⟩
theorem act_4_1 (all non part src n:Int) (hall:isSet all=true) (b o:Nat) (w:World) (hb:b<w.heap.size) (c0:w.cell? ⟨b,o,none⟩=some (.int .i64 4)) (c1:w.cell? ⟨b,o+1,none⟩=some (.int .i64 part)) (c2:w.cell? ⟨b,o+2,none⟩=some (.int .i64 src)) (c3:w.cell? ⟨b,o+3,none⟩=some (.int .i64 n)) (e0:isPart part=true) (e1:isVal n=false) :
  Calls Tryz.prog 106 #[.agg #[.int .i64 all,.int .i64 non],.pointer (some ⟨b,o,none⟩)] w fun e w'=>e=.returned (.int .i64 3)∧Below w.heap.size w w':=by
 go_enter Tryz.func106,Tryz.ntmps106
 go_wp2_with (first
  | (go_at_call 43;refine (set_any _ _).mono ?_;rintro e w' ⟨rfl,rfl⟩)
  | (go_at_call 59;refine (part_any _ _).mono ?_;rintro e w' ⟨rfl,rfl⟩)
  | (go_at_call 44;refine (value_any _ _).mono ?_;rintro e w' ⟨rfl,rfl⟩))
 go_ret
 exact ⟨rfl,by first | exact (Below.refl _ _).alloc (Nat.le_refl _) _ | exact below_drewN ((Below.refl _ _).alloc (Nat.le_refl _) _) _⟩
theorem act_4_2 (all non part src n:Int) (hall:isSet all=true) (b o:Nat) (w:World) (hb:b<w.heap.size) (c0:w.cell? ⟨b,o,none⟩=some (.int .i64 4)) (c1:w.cell? ⟨b,o+1,none⟩=some (.int .i64 part)) (c2:w.cell? ⟨b,o+2,none⟩=some (.int .i64 src)) (c3:w.cell? ⟨b,o+3,none⟩=some (.int .i64 n)) (e0:isPart part=true) (e1:isVal n=true) (e2:hasB all part=false) :
  Calls Tryz.prog 106 #[.agg #[.int .i64 all,.int .i64 non],.pointer (some ⟨b,o,none⟩)] w fun e w'=>e=.returned (.int .i64 7)∧Below w.heap.size w w':=by
 go_enter Tryz.func106,Tryz.ntmps106
 go_wp2_with (first
  | (go_at_call 43;refine (set_any _ _).mono ?_;rintro e w' ⟨rfl,rfl⟩)
  | (go_at_call 59;refine (part_any _ _).mono ?_;rintro e w' ⟨rfl,rfl⟩)
  | (go_at_call 44;refine (value_any _ _).mono ?_;rintro e w' ⟨rfl,rfl⟩))
 go_quiet ((go_at_call 36;exact quiet_same (has_any _ _ hall _)))
 go_wp2_with fail
 go_ret
 exact ⟨rfl,by first | exact (Below.refl _ _).alloc (Nat.le_refl _) _ | exact below_drewN ((Below.refl _ _).alloc (Nat.le_refl _) _) _⟩
theorem act_4_3 (all non part src n:Int) (hall:isSet all=true) (b o:Nat) (w:World) (hb:b<w.heap.size) (c0:w.cell? ⟨b,o,none⟩=some (.int .i64 4)) (c1:w.cell? ⟨b,o+1,none⟩=some (.int .i64 part)) (c2:w.cell? ⟨b,o+2,none⟩=some (.int .i64 src)) (c3:w.cell? ⟨b,o+3,none⟩=some (.int .i64 n)) (e0:isPart part=true) (e1:isVal n=true) (e2:hasB all part=true) :
  Calls Tryz.prog 106 #[.agg #[.int .i64 all,.int .i64 non],.pointer (some ⟨b,o,none⟩)] w fun e w'=>e=.returned (.int .i64 0)∧Below w.heap.size w w':=by
 go_enter Tryz.func106,Tryz.ntmps106
 go_wp2_with (first
  | (go_at_call 43;refine (set_any _ _).mono ?_;rintro e w' ⟨rfl,rfl⟩)
  | (go_at_call 59;refine (part_any _ _).mono ?_;rintro e w' ⟨rfl,rfl⟩)
  | (go_at_call 44;refine (value_any _ _).mono ?_;rintro e w' ⟨rfl,rfl⟩))
 go_quiet ((go_at_call 36;exact quiet_same (has_any _ _ hall _)))
 go_wp2_with fail
 go_ret
 exact ⟨rfl,by first | exact (Below.refl _ _).alloc (Nat.le_refl _) _ | exact below_drewN ((Below.refl _ _).alloc (Nat.le_refl _) _) _⟩
theorem act_5_0 (all non part src n:Int) (hall:isSet all=true) (b o:Nat) (w:World) (hb:b<w.heap.size) (c0:w.cell? ⟨b,o,none⟩=some (.int .i64 5)) (c1:w.cell? ⟨b,o+1,none⟩=some (.int .i64 part)) (c2:w.cell? ⟨b,o+2,none⟩=some (.int .i64 src)) (c3:w.cell? ⟨b,o+3,none⟩=some (.int .i64 n)) (e0:isPart part=false) :
  Calls Tryz.prog 106 #[.agg #[.int .i64 all,.int .i64 non],.pointer (some ⟨b,o,none⟩)] w fun e w'=>e=.returned (.int .i64 3)∧Below w.heap.size w w':=by
 go_enter Tryz.func106,Tryz.ntmps106
 go_wp2_with (first
  | (go_at_call 43;refine (set_any _ _).mono ?_;rintro e w' ⟨rfl,rfl⟩)
  | (go_at_call 59;refine (part_any _ _).mono ?_;rintro e w' ⟨rfl,rfl⟩)
  | (go_at_call 44;refine (value_any _ _).mono ?_;rintro e w' ⟨rfl,rfl⟩))
 go_ret
 exact ⟨rfl,by first | exact (Below.refl _ _).alloc (Nat.le_refl _) _ | exact below_drewN ((Below.refl _ _).alloc (Nat.le_refl _) _) _⟩
theorem act_5_1 (all non part src n:Int) (hall:isSet all=true) (b o:Nat) (w:World) (hb:b<w.heap.size) (c0:w.cell? ⟨b,o,none⟩=some (.int .i64 5)) (c1:w.cell? ⟨b,o+1,none⟩=some (.int .i64 part)) (c2:w.cell? ⟨b,o+2,none⟩=some (.int .i64 src)) (c3:w.cell? ⟨b,o+3,none⟩=some (.int .i64 n)) (e0:isPart part=true) :
  Calls Tryz.prog 106 #[.agg #[.int .i64 all,.int .i64 non],.pointer (some ⟨b,o,none⟩)] w fun e w'=>e=.returned (.int .i64 0)∧Below w.heap.size w w':=by
 go_enter Tryz.func106,Tryz.ntmps106
 go_wp2_with (first
  | (go_at_call 43;refine (set_any _ _).mono ?_;rintro e w' ⟨rfl,rfl⟩)
  | (go_at_call 59;refine (part_any _ _).mono ?_;rintro e w' ⟨rfl,rfl⟩)
  | (go_at_call 44;refine (value_any _ _).mono ?_;rintro e w' ⟨rfl,rfl⟩))
 go_quiet ((go_at_call 36;exact quiet_same (has_any _ _ hall _)))
 go_wp2_with fail
 go_ret
 exact ⟨rfl,by first | exact (Below.refl _ _).alloc (Nat.le_refl _) _ | exact below_drewN ((Below.refl _ _).alloc (Nat.le_refl _) _) _⟩
theorem act_6_0 (all non part src n:Int) (hall:isSet all=true) (b o:Nat) (w:World) (hb:b<w.heap.size) (c0:w.cell? ⟨b,o,none⟩=some (.int .i64 6)) (c1:w.cell? ⟨b,o+1,none⟩=some (.int .i64 part)) (c2:w.cell? ⟨b,o+2,none⟩=some (.int .i64 src)) (c3:w.cell? ⟨b,o+3,none⟩=some (.int .i64 n)) :
  Calls Tryz.prog 106 #[.agg #[.int .i64 all,.int .i64 non],.pointer (some ⟨b,o,none⟩)] w fun e w'=>e=.returned (.int .i64 0)∧Below w.heap.size w w':=by
 go_enter Tryz.func106,Tryz.ntmps106
 go_wp2_with (first
  | (go_at_call 43;refine (set_any _ _).mono ?_;rintro e w' ⟨rfl,rfl⟩)
  | (go_at_call 59;refine (part_any _ _).mono ?_;rintro e w' ⟨rfl,rfl⟩)
  | (go_at_call 44;refine (value_any _ _).mono ?_;rintro e w' ⟨rfl,rfl⟩))
 go_ret
 exact ⟨rfl,by first | exact (Below.refl _ _).alloc (Nat.le_refl _) _ | exact below_drewN ((Below.refl _ _).alloc (Nat.le_refl _) _) _⟩
theorem act_7_0 (all non part src n:Int) (hall:isSet all=true) (b o:Nat) (w:World) (hb:b<w.heap.size) (c0:w.cell? ⟨b,o,none⟩=some (.int .i64 7)) (c1:w.cell? ⟨b,o+1,none⟩=some (.int .i64 part)) (c2:w.cell? ⟨b,o+2,none⟩=some (.int .i64 src)) (c3:w.cell? ⟨b,o+3,none⟩=some (.int .i64 n)) (e0:isSet part=false) :
  Calls Tryz.prog 106 #[.agg #[.int .i64 all,.int .i64 non],.pointer (some ⟨b,o,none⟩)] w fun e w'=>e=.returned (.int .i64 3)∧Below w.heap.size w w':=by
 go_enter Tryz.func106,Tryz.ntmps106
 go_wp2_with (first
  | (go_at_call 43;refine (set_any _ _).mono ?_;rintro e w' ⟨rfl,rfl⟩)
  | (go_at_call 59;refine (part_any _ _).mono ?_;rintro e w' ⟨rfl,rfl⟩)
  | (go_at_call 44;refine (value_any _ _).mono ?_;rintro e w' ⟨rfl,rfl⟩))
 go_ret
 exact ⟨rfl,by first | exact (Below.refl _ _).alloc (Nat.le_refl _) _ | exact below_drewN ((Below.refl _ _).alloc (Nat.le_refl _) _) _⟩
theorem act_7_1 (all non part src n:Int) (hall:isSet all=true) (b o:Nat) (w:World) (hb:b<w.heap.size) (c0:w.cell? ⟨b,o,none⟩=some (.int .i64 7)) (c1:w.cell? ⟨b,o+1,none⟩=some (.int .i64 part)) (c2:w.cell? ⟨b,o+2,none⟩=some (.int .i64 src)) (c3:w.cell? ⟨b,o+3,none⟩=some (.int .i64 n)) (e0:isSet part=true) (e1:isVal n=false) :
  Calls Tryz.prog 106 #[.agg #[.int .i64 all,.int .i64 non],.pointer (some ⟨b,o,none⟩)] w fun e w'=>e=.returned (.int .i64 3)∧Below w.heap.size w w':=by
 go_enter Tryz.func106,Tryz.ntmps106
 go_wp2_with (first
  | (go_at_call 43;refine (set_any _ _).mono ?_;rintro e w' ⟨rfl,rfl⟩)
  | (go_at_call 59;refine (part_any _ _).mono ?_;rintro e w' ⟨rfl,rfl⟩)
  | (go_at_call 44;refine (value_any _ _).mono ?_;rintro e w' ⟨rfl,rfl⟩))
 go_ret
 exact ⟨rfl,by first | exact (Below.refl _ _).alloc (Nat.le_refl _) _ | exact below_drewN ((Below.refl _ _).alloc (Nat.le_refl _) _) _⟩
theorem act_7_2 (all non part src n:Int) (hall:isSet all=true) (b o:Nat) (w:World) (hb:b<w.heap.size) (c0:w.cell? ⟨b,o,none⟩=some (.int .i64 7)) (c1:w.cell? ⟨b,o+1,none⟩=some (.int .i64 part)) (c2:w.cell? ⟨b,o+2,none⟩=some (.int .i64 src)) (c3:w.cell? ⟨b,o+3,none⟩=some (.int .i64 n)) (e0:isSet part=true) (e1:isVal n=true) :
  Calls Tryz.prog 106 #[.agg #[.int .i64 all,.int .i64 non],.pointer (some ⟨b,o,none⟩)] w fun e w'=>e=.returned (.int .i64 0)∧Below w.heap.size w w':=by
 go_enter Tryz.func106,Tryz.ntmps106
 go_wp2_with (first
  | (go_at_call 43;refine (set_any _ _).mono ?_;rintro e w' ⟨rfl,rfl⟩)
  | (go_at_call 59;refine (part_any _ _).mono ?_;rintro e w' ⟨rfl,rfl⟩)
  | (go_at_call 44;refine (value_any _ _).mono ?_;rintro e w' ⟨rfl,rfl⟩))
 go_ret
 exact ⟨rfl,by first | exact (Below.refl _ _).alloc (Nat.le_refl _) _ | exact below_drewN ((Below.refl _ _).alloc (Nat.le_refl _) _) _⟩
theorem act_other (all non kind part src n:Int) (hall:isSet all=true) (b o:Nat) (w:World) (hb:b<w.heap.size) (c0:w.cell? ⟨b,o,none⟩=some (.int .i64 kind)) (c1:w.cell? ⟨b,o+1,none⟩=some (.int .i64 part)) (c2:w.cell? ⟨b,o+2,none⟩=some (.int .i64 src)) (c3:w.cell? ⟨b,o+3,none⟩=some (.int .i64 n)) (h:kind≠1∧kind≠2∧kind≠3∧kind≠4∧kind≠5∧kind≠6∧kind≠7) :
  Calls Tryz.prog 106 #[.agg #[.int .i64 all,.int .i64 non],.pointer (some ⟨b,o,none⟩)] w fun e w'=>e=.returned (.int .i64 1)∧Below w.heap.size w w':=by
 have k1:(kind==1)=false:=by simpa using h.1
 have k2:(kind==2)=false:=by simpa using h.2.1
 have k3:(kind==3)=false:=by simpa using h.2.2.1
 have k4:(kind==4)=false:=by simpa using h.2.2.2.1
 have k5:(kind==5)=false:=by simpa using h.2.2.2.2.1
 have k6:(kind==6)=false:=by simpa using h.2.2.2.2.2.1
 have k7:(kind==7)=false:=by simpa using h.2.2.2.2.2.2
 clear h
 go_enter Tryz.func106,Tryz.ntmps106
 go_wp2_with fail
 go_ret
 exact ⟨rfl,(Below.refl _ _).alloc (Nat.le_refl _) _⟩
end Go.Proofs.YtefdblaolmckmabGreat
