/- Lemmas of the proof. -/
import Derived.Test.YtefdblaolmckmacGreatMBRuleNToClash
set_option linter.unusedVariables false
set_option linter.unusedSimpArgs false
set_option maxRecDepth 100000
set_option maxHeartbeats 12800000
namespace Go.Proofs.YtefdblaolmckmacGreat
open Go.RowKit
open Brood
theorem may_any (m:BMod) (hm1:isSet m.reads=true) (hm2:isSet m.writes=true) (s:BSys) (h:Right s) (A:Option Addr) (c:Nat) (w:World) (hA:RdA w A s.acts) :
  Calls Tryz.prog 20 #[.agg #[.int .i64 m.reads,.int .i64 m.writes,.bool m.life],.agg #[.int .i64 s.mod,.int .i64 s.all,.int .i64 s.non,.slice A s.acts.length c]] w fun e w'=>
   e=.returned (.bool (may m s))∧Below w.heap.size w w':=by
 have hs:=needs_sets h
 have hB2:=(Blk.new w 55 #[.int .i64 m.reads,.int .i64 m.writes,.bool m.life]).alloc (.cells #[.int .i64 s.mod,.int .i64 s.all,.int .i64 s.non,.slice A s.acts.length c] 51)
 have hB3:=Blk.new (w.alloc (.cells #[.int .i64 m.reads,.int .i64 m.writes,.bool m.life] 55)) 51 #[.int .i64 s.mod,.int .i64 s.all,.int .i64 s.non,.slice A s.acts.length c]
 simp only [World.size_alloc] at hB3
 have hr1:=or_set hs.1 h.1
 have hr2:=or_set hr1 h.2.1
 have q1:=bits_or_set hs.1 h.1
 have q2:=bits_or_set hr1 h.2.1
 have q3:=Lib.hid (bits_subS hr2 hm1)
 have q4:=Lib.hid (bits_subS hs.2 hm2)
 have hmay:Hid (may m s=(subS (orS (orS (needs s).reads s.all) s.non) m.reads && subS (needs s).writes m.writes && (m.life || !(needs s).life))):=Lib.hid rfl
 have hcall:=needs_right s h A c
 have hcall':=Lib.hid hcall
 clear hcall
 generalize (needs s).reads=nr at *
 generalize (needs s).writes=nw at *
 generalize (needs s).moves=nm at *
 generalize (needs s).life=nl at *
 obtain ⟨mr,mw,ml⟩:=m
 simp only at *
 cases b1:subS (orS (orS nr s.all) s.non) mr<;>cases b2:subS nw mw<;>cases ml<;>cases nl
 all_goals (
  have q3':=q3.out
  have q4':=q4.out
  rw [b1] at q3'
  rw [b2] at q4'
  go_enter Tryz.func20,Tryz.ntmps20
  go_wp2_with fail
  refine (hcall'.out _ (RdA.grow hA (((Below.refl _ _).alloc (Nat.le_refl _) _).alloc (by simp) _))).mono ?_
  rintro e w1 ⟨rfl,hb1⟩
  have HM:=hB2.below hb1 hB2.lt
  have HS:=hB3.below hb1 (by simp)
  have m0:=HM.cell 0;have m1:=HM.cell 1;have m2:=HM.cell 2
  have s1:=HS.cell 1;have s2:=HS.cell 2
  have z1:=HM.lt;have z2:=HS.lt
  simp at m0 m1 m2 s1 s2)
 all_goals go_wp2_with fail
 all_goals go_ret
 all_goals exact ⟨ret_bool (by rw [hmay.out,b1,b2];rfl),(grow_below (((Below.refl _ _).alloc (Nat.le_refl _) _).alloc (by simp) _) hb1).alloc (by have:=hb1.size;simp at this;omega) _⟩
end Go.Proofs.YtefdblaolmckmacGreat
