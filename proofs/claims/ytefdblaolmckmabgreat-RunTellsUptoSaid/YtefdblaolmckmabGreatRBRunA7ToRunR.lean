/- Lemmas of the proof. -/
import Derived.Test.YtefdblaolmckmabGreatRRunA
import Derived.Test.YtefdblaolmckmabGreatRBRowToInv
import Derived.Test.YtefdblaolmckmabGreatRRuleA
set_option linter.unusedVariables false
set_option linter.unusedSimpArgs false
set_option maxRecDepth 100000
set_option maxHeartbeats 12800000
namespace Go.Proofs.YtefdblaolmckmabGreat
open Go.RowKit
theorem bq4E {es:Array Edge} {l:Nat→Bool} {j:Nat} (hd:(es.all fun e=>!Region.binds .any e||l e.on)=true) (h:(es.toList.any fun e=>e.on==j&&Region.binds .any e)=true):l j=true:=rb hd h
end Go.Proofs.YtefdblaolmckmabGreat
namespace Go.Proofs.YtefdblaolmckmabGreat
open Go.RowKit
open Brood
def opE (b:Bool) (L:List Ent):List Ent:=if b then L else []
def L7 (P:List Ent) (g8 g9:Nat) (A':Option Addr) (c':Nat) (l':List TabIn) (Ag':Option Addr) (cg':Nat) (xg:List Int) (xi xg':Int) (b12 b17 b18 b19 b20:Bool):List Ent:=
 opE b17 [.box g8 40 (if b19 then [.slice A' l'.length c',.slice Ag' xg.length cg'] else [.slice none 0 0,.slice none 0 0])] ++
 (opE b18 [.box g9 24 (if b20 then [.int .i64 xi,.int .i64 xg'] else [.int .i64 0,.int .i64 0])]++(P++opE b12 (stE A' c' l' Ag' cg' xg)))
structure J7s (w0:World) (P:List Ent) (xr:List BRow) (xg:List Int) (xi xg' xe:Int) (b12 b13 b14 b17 b18 b19 b20:Bool) (v12 v13 v14 v17 v18:Value) (w':World) (g8 g9:Nat) (A':Option Addr) (c':Nat) (l':List TabIn) (Ag':Option Addr) (cg':Nat):Prop where
 p8:b17=true→v17=.pointer (some ⟨g8,0,none⟩)
 p9:b18=true→v18=.pointer (some ⟨g9,0,none⟩)
 q12:b12=true→v12=.tuple #[.agg #[.slice A' l'.length c',.slice Ag' xg.length cg'],.agg #[.int .i64 xi,.int .i64 xg'],.int .i64 xe]∧l'.map tabOf=tabsW xr
 q13:b12=true→b13=true→v13=.tuple #[.agg #[.slice A' l'.length c',.slice Ag' xg.length cg'],.agg #[.int .i64 xi,.int .i64 xg'],.int .i64 xe]
 q14:b12=true→b14=true→v14=.agg #[.slice A' l'.length c',.slice Ag' xg.length cg']
 hp:Hp w0 w' (L7 P g8 g9 A' c' l' Ag' cg' xg xi xg' b12 b17 b18 b19 b20)
def J7 (w0:World) (P:List Ent) (xr:List BRow) (xg:List Int) (xi xg' xe:Int) (b12 b13 b14 b17 b18 b19 b20:Bool) (v12 v13 v14 v17 v18:Value) (w':World):Prop:=
 ∃ g8 g9 A' c' l' Ag' cg',J7s w0 P xr xg xi xg' xe b12 b13 b14 b17 b18 b19 b20 v12 v13 v14 v17 v18 w' g8 g9 A' c' l' Ag' cg'
section
variable {w0 w' w4:World} {P:List Ent} {xr:List BRow} {xg:List Int} {xi xg' xe:Int} {b12 b13 b14 b17 b18 b19 b20:Bool} {v12 v13 v14 v17 v18:Value}
theorem J7.start (h:Hp w0 w' P):J7 w0 P xr xg xi xg' xe false false false false false false false v12 v13 v14 v17 v18 w':=
 ⟨0,0,none,0,[],none,0,(fun h=>by cases h),(fun h=>by cases h),(fun h=>by cases h),(fun h=>by cases h),(fun h=>by cases h),by
  show Hp w0 w' (P++[])
  rw [List.append_nil];exact h⟩
theorem J7.bel (h:J7 w0 P xr xg xi xg' xe b12 b13 b14 b17 b18 b19 b20 v12 v13 v14 v17 v18 w'):Below w0.heap.size w0 w':=by
 obtain ⟨_,_,_,_,_,_,_,h⟩:=h
 exact h.hp.bel
theorem mem_L7 {p:Ent} {g8 g9:Nat} {A':Option Addr} {c':Nat} {l':List TabIn} {Ag':Option Addr} {cg':Nat} (h:p∈P):p∈L7 P g8 g9 A' c' l' Ag' cg' xg xi xg' b12 b17 b18 b19 b20:=by
 unfold L7
 simp [h]
theorem J7.mem (h:J7 w0 P xr xg xi xg' xe b12 b13 b14 b17 b18 b19 b20 v12 v13 v14 v17 v18 w') (p:Ent) (hp:p∈P):p.holds w0.heap.size w':=by
 obtain ⟨_,_,_,_,_,_,_,h⟩:=h
 exact h.hp.all p (mem_L7 hp)
theorem J7.rd (h:J7 w0 P xr xg xi xg' xe b12 b13 b14 b17 b18 b19 b20 v12 v13 v14 v17 v18 w') {A:Option Addr} {c:Nat} {l:List TabIn} {Ag:Option Addr} {cg:Nat} {gens:List Int} (hs:∀ p∈stE A c l Ag cg gens,p∈P):RdSt w' w'.heap.size ⟨A,c,l,Ag,cg,gens⟩:=by
 obtain ⟨_,_,_,_,_,_,_,h⟩:=h
 exact h.hp.stRd (fun p hp=>mem_L7 (hs p hp))
theorem J7.call (h:J7 w0 P xr xg xi xg' xe b12 b13 b14 b17 b18 b19 b20 v12 v13 v14 v17 v18 w') (n12:b12=false) (n13:b13=false) (n14:b14=false) (n19:b19=false) (n20:b20=false) {A':Option Addr} {c':Nat} {l':List TabIn} {Ag':Option Addr} {cg':Nat} (hl':l'.map tabOf=tabsW xr)
  (hN:Hp w' w4 (stE A' c' l' Ag' cg' xg)):J7 w0 P xr xg xi xg' xe true b13 b14 b17 b18 b19 b20 (.tuple #[.agg #[.slice A' l'.length c',.slice Ag' xg.length cg'],.agg #[.int .i64 xi,.int .i64 xg'],.int .i64 xe]) v13 v14 v17 v18 w4:=by
 obtain ⟨g8,g9,_,_,_,_,_,h⟩:=h
 subst n12 n13 n14 n19 n20
 refine ⟨g8,g9,A',c',l',Ag',cg',h.p8,h.p9,fun _=>⟨rfl,hl'⟩,(fun _ h=>by cases h),(fun _ h=>by cases h),?_⟩
 have:=h.hp.join hN
 unfold L7 opE at this ⊢
 simpa only [Bool.false_eq_true,if_false,if_true,List.append_nil,List.append_assoc] using this
theorem J7.move (h:J7 w0 P xr xg xi xg' xe b12 b13 b14 b17 b18 b19 b20 v12 v13 v14 v17 v18 w') (l12:b12=true) (n13:b13=false):J7 w0 P xr xg xi xg' xe b12 true b14 b17 b18 b19 b20 v12 v12 v14 v17 v18 w':=by
 obtain ⟨g8,g9,A',c',l',Ag',cg',h⟩:=h
 exact ⟨g8,g9,A',c',l',Ag',cg',h.p8,h.p9,h.q12,fun h12 _=>(h.q12 h12).1,h.q14,h.hp⟩
theorem J7.at13 (h:J7 w0 P xr xg xi xg' xe b12 b13 b14 b17 b18 b19 b20 v12 v13 v14 v17 v18 w') (l12:b12=true) (l13:b13=true):∃ (A':Option Addr) (c':Nat) (l':List TabIn) (Ag':Option Addr) (cg':Nat),v13=.tuple #[.agg #[.slice A' l'.length c',.slice Ag' xg.length cg'],.agg #[.int .i64 xi,.int .i64 xg'],.int .i64 xe]∧∃ g8 g9,J7s w0 P xr xg xi xg' xe b12 b13 b14 b17 b18 b19 b20 v12 v13 v14 v17 v18 w' g8 g9 A' c' l' Ag' cg':=by
 obtain ⟨g8,g9,A',c',l',Ag',cg',h⟩:=h
 exact ⟨A',c',l',Ag',cg',h.q13 l12 l13,g8,g9,h⟩
theorem J7.ext {g8 g9:Nat} {A':Option Addr} {c':Nat} {l':List TabIn} {Ag':Option Addr} {cg':Nat} (h:J7s w0 P xr xg xi xg' xe b12 b13 b14 b17 b18 b19 b20 v12 v13 v14 v17 v18 w' g8 g9 A' c' l' Ag' cg'):J7 w0 P xr xg xi xg' xe b12 b13 true b17 b18 b19 b20 v12 v13 (.agg #[.slice A' l'.length c',.slice Ag' xg.length cg']) v17 v18 w':=
 ⟨g8,g9,A',c',l',Ag',cg',h.p8,h.p9,h.q12,h.q13,fun _ _=>rfl,h.hp⟩
theorem Hp.newAt {E R:List Ent} (h:Hp w0 w' (E++R)) (t:TypeId) (cs:List Value):Hp w0 (w'.alloc (.cells cs.toArray t)) (E++([.box w'.heap.size t cs]++R)):=by
 refine (h.new w'.heap.size rfl t cs).perm ?_
 rw [List.append_assoc]
 exact List.Perm.append_left E List.perm_append_comm
theorem J7.al17 (h:J7 w0 P xr xg xi xg' xe b12 b13 b14 b17 b18 b19 b20 v12 v13 v14 v17 v18 w') (n17:b17=false) (n19:b19=false):J7 w0 P xr xg xi xg' xe b12 b13 b14 true b18 b19 b20 v12 v13 v14 (.pointer (some ⟨w'.heap.size,0,none⟩)) v18 (w'.alloc (.cells #[.slice none 0 0,.slice none 0 0] 40)):=by
 obtain ⟨g8,g9,A',c',l',Ag',cg',h⟩:=h
 subst n17 n19
 refine ⟨w'.heap.size,g9,A',c',l',Ag',cg',fun _=>rfl,h.p9,h.q12,h.q13,h.q14,?_⟩
 have:=h.hp.newAt (E:=[]) 40 [.slice none 0 0,.slice none 0 0]
 unfold L7 opE at this ⊢
 simpa only [Bool.false_eq_true,if_false,if_true,List.nil_append] using this
theorem J7.al18 (h:J7 w0 P xr xg xi xg' xe b12 b13 b14 b17 b18 b19 b20 v12 v13 v14 v17 v18 w') (n18:b18=false) (n20:b20=false):J7 w0 P xr xg xi xg' xe b12 b13 b14 b17 true b19 b20 v12 v13 v14 v17 (.pointer (some ⟨w'.heap.size,0,none⟩)) (w'.alloc (.cells #[.int .i64 0,.int .i64 0] 24)):=by
 obtain ⟨g8,g9,A',c',l',Ag',cg',h⟩:=h
 subst n18 n20
 refine ⟨g8,w'.heap.size,A',c',l',Ag',cg',h.p8,fun _=>rfl,h.q12,h.q13,h.q14,?_⟩
 have hh:=h.hp
 unfold L7 at hh ⊢
 have:=hh.newAt 24 [.int .i64 0,.int .i64 0]
 exact this
theorem J7.st19 (h:J7 w0 P xr xg xi xg' xe b12 b13 b14 b17 b18 b19 b20 v12 v13 v14 v17 v18 w') (l17:b17=true) (l14:b14=true) (l12:b12=true) (n19:b19=false) :
  ∃ (g8:Nat) (A':Option Addr) (c':Nat) (l':List TabIn) (Ag':Option Addr) (cg':Nat),v17=.pointer (some ⟨g8,0,none⟩)∧v14=.agg #[.slice A' l'.length c',.slice Ag' xg.length cg']∧w'.frozen? ⟨g8,0,none⟩=false∧w'.frozen? ⟨g8,1,none⟩=false∧w'.cell? ⟨g8,0,none⟩=some (.slice none 0 0)∧w'.cell? ⟨g8,1,none⟩=some (.slice none 0 0) ∧
   J7 w0 P xr xg xi xg' xe b12 b13 b14 b17 b18 true b20 v12 v13 v14 v17 v18 ((w'.setCell ⟨g8,0,none⟩ (.slice A' l'.length c')).setCell ⟨g8,1,none⟩ (.slice Ag' xg.length cg')):=by
 obtain ⟨g8,g9,A',c',l',Ag',cg',h⟩:=h
 subst l17 n19
 have hh:=h.hp
 exact ⟨g8,A',c',l',Ag',cg',h.p8 rfl,h.q14 l12 l14,hh.frozen 0 0 rfl,hh.frozen 0 1 rfl,hh.cell 0 0 rfl rfl,hh.cell 0 1 rfl rfl,g8,g9,A',c',l',Ag',cg',h.p8,h.p9,h.q12,h.q13,h.q14,(hh.set 0 0 (.slice A' l'.length c') rfl).set 0 1 (.slice Ag' xg.length cg') rfl⟩
theorem J7.st20 (h:J7 w0 P xr xg xi xg' xe b12 b13 b14 b17 b18 b19 b20 v12 v13 v14 v17 v18 w') (l18:b18=true) (n20:b20=false) :
  ∃ g9,v18=.pointer (some ⟨g9,0,none⟩)∧w'.frozen? ⟨g9,0,none⟩=false∧w'.frozen? ⟨g9,1,none⟩=false∧w'.cell? ⟨g9,0,none⟩=some (.int .i64 0)∧w'.cell? ⟨g9,1,none⟩=some (.int .i64 0) ∧
   J7 w0 P xr xg xi xg' xe b12 b13 b14 b17 b18 b19 true v12 v13 v14 v17 v18 ((w'.setCell ⟨g9,0,none⟩ (.int .i64 xi)).setCell ⟨g9,1,none⟩ (.int .i64 xg')):=by
 obtain ⟨g8,g9,A',c',l',Ag',cg',h⟩:=h
 subst l18 n20
 have hh:=h.hp
 cases b17 with
 | false=>exact ⟨g9,h.p9 rfl,hh.frozen 0 0 rfl,hh.frozen 0 1 rfl,hh.cell 0 0 rfl rfl,hh.cell 0 1 rfl rfl,g8,g9,A',c',l',Ag',cg',h.p8,h.p9,h.q12,h.q13,h.q14,(hh.set 0 0 (.int .i64 xi) rfl).set 0 1 (.int .i64 xg') rfl⟩
 | true=>exact ⟨g9,h.p9 rfl,hh.frozen 1 0 rfl,hh.frozen 1 1 rfl,hh.cell 1 0 rfl rfl,hh.cell 1 1 rfl rfl,g8,g9,A',c',l',Ag',cg',h.p8,h.p9,h.q12,h.q13,h.q14,(hh.set 1 0 (.int .i64 xi) rfl).set 1 1 (.int .i64 xg') rfl⟩
theorem J7.done {R:List Ent} {p q:Ent} (h:J7 w0 (p::q::R) xr xg xi xg' xe b12 b13 b14 b17 b18 b19 b20 v12 v13 v14 v17 v18 w') (l12:b12=true) (l17:b17=true) (l19:b19=true):∃ g8 A' c' l' Ag' cg',v17=.pointer (some ⟨g8,0,none⟩)∧l'.map tabOf=tabsW xr ∧
  Hp w0 w' (.box g8 40 [.slice A' l'.length c',.slice Ag' xg.length cg']::p::q::(R++stE A' c' l' Ag' cg' xg)):=by
 obtain ⟨g8,g9,A',c',l',Ag',cg',h⟩:=h
 subst l12 l17 l19
 refine ⟨g8,A',c',l',Ag',cg',h.p8 rfl,(h.q12 rfl).2,?_⟩
 refine h.hp.sub ?_
 unfold L7 opE
 simp
end
theorem ract7 (rb:Nat) (A:Option Addr) (c:Nat) (l:List TabIn) (Ag:Option Addr) (cg:Nat) (rows:List BRow) (gens:List Int) (err:Int) (hw:RightW rows gens) (hfit:l.map tabOf=tabsW rows) (i g part src n:Int) (ab ao:Nat) (w0 w:World) (E:List Ent) (h:Hp w0 w (rnE rb A c l Ag cg gens err E))
  (hab:ab<w0.heap.size) (hat:ActAt w0 ab ao ⟨7,part,src,n⟩) :
  Calls Tryz.prog 71 #[.pointer (some ⟨rb,0,none⟩),.agg #[.int .i64 i,.int .i64 g],.pointer (some ⟨ab,ao,none⟩)] w fun e w'=>e=.returned (.bool true)∧ActPost w0 w' rb E (keepE (⟨rows,gens⟩,err) (spawnC rows gens part n)):=by
 have hsp0:=Lib.hid (fun W hR=>sspawn_any l A c gens Ag cg part n (right_small hw hfit) W hR)
 rw [hfit,spawnT_right hw] at hsp0
 unfold spawnC
 generalize spawnV rows gens part n=V at *
 obtain ⟨xr,xg,xi,xg',xe⟩:=V
 dsimp only at hsp0 ⊢
 have hsp:Hid (∀ W,RdSt W W.heap.size ⟨A,c,l,Ag,cg,gens⟩→Calls Tryz.prog 15 #[.agg #[.slice A l.length c,.slice Ag gens.length cg],.int .i64 part,.int .i64 n] W fun e w'=>∃ A' c' l' Ag' cg',e=.returned (.tuple #[.agg #[.slice A' l'.length c',.slice Ag' xg.length cg'],.agg #[.int .i64 xi,.int .i64 xg'],.int .i64 xe])∧l'.map tabOf=tabsW xr∧Hp W w' (stE A' c' l' Ag' cg' xg)):=Lib.hid (fun W hR=>by
  refine (hsp0.out W hR).mono ?_
  rintro e w' ⟨v,rfl,A',c',l',Ag',cg',rfl,hl',hN⟩
  exact ⟨A',c',l',Ag',cg',rfl,hl',hN⟩)
 clear hsp0
 have H:=h.newL w.heap.size rfl 24 [.int .i64 i,.int .i64 g]
 have hst:=Lib.hid (rnE_rd h)
 have B0:Below w.heap.size w (w.alloc (.cells #[.int .i64 i,.int .i64 g] 24)):=(Below.refl _ _).alloc (Nat.le_refl _) _
 obtain ⟨c0,c1,c2,c3⟩:=hat.below h.bel hab
 have hab1:ab<w.heap.size:=Nat.lt_of_lt_of_le hab h.bel.size
 have Hh:=Lib.hid H;have Bh:=Lib.hid B0;have hfith:=Lib.hid hfit;have hwh:=Lib.hid hw
 dsimp only at c0 c1 c2 c3
 clear h hw hfit H B0
 go_enter Tryz.func71,Tryz.ntmps71
 go_upto_region 7 with fail
 obtain ⟨w1,hw1,Hh⟩:∃ w1,w.alloc (.cells #[.int .i64 i,.int .i64 g] 24)=w1∧Hid (Hp w0 w1 (bEnt w.heap.size i g::rnE rb A c l Ag cg gens err E)):=⟨_,rfl,Hh⟩
 rw [hw1]
 clear hw1 Bh c0 c1 c2 c3
 obtain ⟨b,hb⟩:∃ b,b=w.heap.size:=⟨_,rfl⟩
 rw [← hb] at Hh ⊢
 clear hb
 have Hd:Hid (Hp w0 w1.drew (bEnt b i g::rnE rb A c l Ag cg gens err E)):=Lib.hid Hh.out.drew
 refine wp_region_mx mixed (by kernel_rfl) (by kernel_rfl) (fun q=>!(q==12) && !(q==13) && !(q==14) && !(q==17) && !(q==18)) (tab [.pointer (some ⟨rb,0,none⟩),.pointer (some ⟨rb,0,none⟩),.pointer (some ⟨rb,0,none⟩),.agg #[.slice A l.length c,.slice Ag gens.length cg],.pointer (some ⟨ab,ao,none⟩),.pointer (some ⟨ab,ao,none⟩),.pointer (some ⟨ab,ao+1,none⟩),.int .i64 part,.pointer (some ⟨ab,ao,none⟩),.pointer (some ⟨ab,ao,none⟩),.pointer (some ⟨ab,ao+3,none⟩),.int .i64 n,undef,undef,undef,.agg #[.int .i64 xi,.int .i64 xg'],.int .i64 xe,undef,undef,undef,undef,.int .i64 xe]) (fun u vs w'=>J7 w0 (bEnt b i g::rnE rb A c l Ag cg gens err E) xr xg xi xg' xe (u 12) (u 13) (u 14) (u 17) (u 18) (u 19) (u 20) (vs 12) (vs 13) (vs 14) (vs 17) (vs 18) w') ?_ ?_ ?_
 ·exact J7.start Hd.out
 ·intro vs w' l1 hJ hl
  rw [putAll_tab _ _ _ _ [(some 36,.pointer (some ⟨rb,0,none⟩)),(some 37,.pointer (some ⟨rb,0,none⟩)),(some 38,.pointer (some ⟨rb,0,none⟩)),(some 39,.agg #[.slice A l.length c,.slice Ag gens.length cg]),(some 40,.pointer (some ⟨ab,ao,none⟩)),(some 41,.pointer (some ⟨ab,ao,none⟩)),(some 42,.pointer (some ⟨ab,ao+1,none⟩)),(some 43,.int .i64 part),(some 44,.pointer (some ⟨ab,ao,none⟩)),(some 45,.pointer (some ⟨ab,ao,none⟩)),(some 46,.pointer (some ⟨ab,ao+3,none⟩)),(some 47,.int .i64 n),(some 48,vs 12),(some 35,vs 13),(some 49,vs 14),(some 50,.agg #[.int .i64 xi,.int .i64 xg']),(some 51,.int .i64 xe),(some 8,vs 17),(some 9,vs 18),(none,undef),(none,undef),(some 10,.int .i64 xe)] rfl]
  simp only [putL_eq,putT,List.set_cons_succ,List.set_cons_zero]
  obtain ⟨g8,A',c',l',Ag',cg',hv17,hl',HQ⟩:=J7.done hJ (hl 12 (by decide)) (hl 17 (by decide)) (hl 19 (by decide))
  rw [hv17]
  clear hJ hv17
  have q0:=HQ.cell 0 0 rfl rfl;have q1:=HQ.cell 0 1 rfl rfl
  have HQ2:Hp w0 w' (.box g8 40 [.slice A' l'.length c',.slice Ag' xg.length cg']::bEnt b i g::rnBox rb A l.length c Ag gens.length cg err::((stE A c l Ag cg gens++E)++stE A' c' l' Ag' cg' xg)):=HQ
  have H5:=HQ2.perm (((List.Perm.swap _ _ _).cons _).trans (List.Perm.swap _ _ _))
  have H5h:=Lib.hid H5;have hl2:=Lib.hid hl'
  clear H5 HQ HQ2 hl'
  go_wp2_with fail
  have H5:=H5h.out;have hl':=hl2.out
  refine (rnset_any rb A l.length c Ag gens.length cg A' l'.length c' Ag' xg.length cg' (.int .i64 err) xe w0 w' _ H5).mono ?_
  rintro e w5 ⟨rfl,H6⟩
  have HF:=Lib.hid (rn_close (X:=⟨xr,xg,xe⟩) (rows:=rows) hfith.out hl' ((H6.drop1 1).drop1 1))
  clear H5 H6 H5h q0 q1 hl' hl2
  go_wp2_with fail
  go_ret
  exact ⟨rfl,HF.out⟩
 ·intro qq op ho u vs act w' hJ hsh hli hd hv hwas K hK
  have hiq:qq<22:=lt_of_some ho
  have s0_:=hwas 0 rfl
  have s2_:=hwas 2 rfl
  simp at s0_ s2_
  match qq,hiq,ho,hli,hK with
  | 0,_,ho,hli,hK=>
   obtain rfl:=sj ho
   clear hv hwas
   go_simp
   exact hK _ _ (fun _=>rfl) hJ
  | 1,_,ho,hli,hK=>
   obtain rfl:=sj ho
   have x36:act.tmps[36]?.getD undef=.pointer (some ⟨rb,0,none⟩):=hv 0 36 rfl (bq4E hd rfl)
   clear hv hwas
   go_simp
   exact hK _ _ (fun _=>rfl) hJ
  | 2,_,ho,hli,hK=>
   obtain rfl:=sj ho
   have x37:act.tmps[37]?.getD undef=.pointer (some ⟨rb,0,none⟩):=hv 1 37 rfl (bq4E hd rfl)
   clear hv hwas
   go_simp
   exact hK _ _ (fun _=>rfl) hJ
  | 3,_,ho,hli,hK=>
   obtain rfl:=sj ho
   have x38:act.tmps[38]?.getD undef=.pointer (some ⟨rb,0,none⟩):=hv 2 38 rfl (bq4E hd rfl)
   have hB:=hJ.mem (rnBox rb A l.length c Ag gens.length cg err) (by unfold rnE;simp)
   have r0:=hB.2.cell 0;have r1:=hB.2.cell 1
   simp only [List.getElem?_toArray,List.getElem?_cons_zero,List.getElem?_cons_succ] at r0 r1
   clear hB
   clear hv hwas
   go_simp
   exact hK _ _ (fun _=>rfl) hJ
  | 4,_,ho,hli,hK=>
   obtain rfl:=sj ho
   clear hv hwas
   go_simp
   exact hK _ _ (fun _=>rfl) hJ
  | 5,_,ho,hli,hK=>
   obtain rfl:=sj ho
   have x40:act.tmps[40]?.getD undef=.pointer (some ⟨ab,ao,none⟩):=hv 4 40 rfl (bq4E hd rfl)
   clear hv hwas
   go_simp
   exact hK _ _ (fun _=>rfl) hJ
  | 6,_,ho,hli,hK=>
   obtain rfl:=sj ho
   have x41:act.tmps[41]?.getD undef=.pointer (some ⟨ab,ao,none⟩):=hv 5 41 rfl (bq4E hd rfl)
   clear hv hwas
   go_simp
   exact hK _ _ (fun _=>rfl) hJ
  | 7,_,ho,hli,hK=>
   obtain rfl:=sj ho
   have x42:act.tmps[42]?.getD undef=.pointer (some ⟨ab,ao+1,none⟩):=hv 6 42 rfl (bq4E hd rfl)
   obtain ⟨c0,c1,c2,c3⟩:=hat.below hJ.bel hab;dsimp only at c0 c1 c2 c3
   clear hv hwas
   go_simp
   exact hK _ _ (fun _=>rfl) hJ
  | 8,_,ho,hli,hK=>
   obtain rfl:=sj ho
   clear hv hwas
   go_simp
   exact hK _ _ (fun _=>rfl) hJ
  | 9,_,ho,hli,hK=>
   obtain rfl:=sj ho
   have x44:act.tmps[44]?.getD undef=.pointer (some ⟨ab,ao,none⟩):=hv 8 44 rfl (bq4E hd rfl)
   clear hv hwas
   go_simp
   exact hK _ _ (fun _=>rfl) hJ
  | 10,_,ho,hli,hK=>
   obtain rfl:=sj ho
   have x45:act.tmps[45]?.getD undef=.pointer (some ⟨ab,ao,none⟩):=hv 9 45 rfl (bq4E hd rfl)
   clear hv hwas
   go_simp
   exact hK _ _ (fun _=>rfl) hJ
  | 11,_,ho,hli,hK=>
   obtain rfl:=sj ho
   have x46:act.tmps[46]?.getD undef=.pointer (some ⟨ab,ao+3,none⟩):=hv 10 46 rfl (bq4E hd rfl)
   obtain ⟨c0,c1,c2,c3⟩:=hat.below hJ.bel hab;dsimp only at c0 c1 c2 c3
   clear hv hwas
   go_simp
   exact hK _ _ (fun _=>rfl) hJ
  | 12,_,ho,hli,hK=>
   obtain rfl:=sj ho
   have x39:act.tmps[39]?.getD undef=.agg #[.slice A l.length c,.slice Ag gens.length cg]:=hv 3 39 rfl (bq4E hd rfl)
   have x43:act.tmps[43]?.getD undef=.int .i64 part:=hv 7 43 rfl (bq4E hd rfl)
   have x47:act.tmps[47]?.getD undef=.int .i64 n:=hv 11 47 rfl (bq4E hd rfl)
   have n13:=hsh.not (i:=13) (j:=12) (by rfl) hli
   have n14:=hsh.not (i:=14) (j:=13) (by rfl) n13
   have n15:=hsh.not (i:=15) (j:=13) (by rfl) n13
   have n19:=hsh.not (i:=19) (j:=14) (by rfl) n14
   have n20:=hsh.not (i:=20) (j:=15) (by rfl) n15
   have hR:=hJ.rd (A:=A) (c:=c) (l:=l) (Ag:=Ag) (cg:=cg) (gens:=gens) (fun p hp=>by unfold rnE;simp [hp])
   clear hv hwas
   go_simp
   refine (hsp.out w' hR).mono ?_
   rintro e w4 ⟨A',c',l',Ag',cg',rfl,hl',hN⟩
   exact hK _ _ (fun h=>by cases h) (J7.call hJ hli n13 n14 n19 n20 hl' hN)
  | 13,_,ho,hli,hK=>
   obtain rfl:=sj ho
   have x48:act.tmps[48]?.getD undef=vs 12:=hv 12 48 rfl (bq4E hd rfl)
   have l12:u 12=true:=by simp [Region.binds] at hd;simp [hd]
   clear hv hwas
   go_simp
   exact hK _ _ (fun h=>by cases h) (J7.move hJ l12 hli)
  | 14,_,ho,hli,hK=>
   obtain rfl:=sj ho
   have x35:act.tmps[35]?.getD undef=vs 13:=hv 13 35 rfl (bq4E hd rfl)
   have l13:u 13=true:=by simp [Region.binds] at hd;simp [hd]
   have l12:u 12=true:=hsh 13 12 (by rfl) l13
   have n19:=hsh.not (i:=19) (j:=14) (by rfl) hli
   obtain ⟨A',c',l',Ag',cg',hv13,g8,g9,hJs⟩:=J7.at13 hJ l12 l13
   rw [hv13] at x35
   clear hv hwas
   go_simp
   exact hK _ _ (fun h=>by cases h) (J7.ext hJs)
  | 15,_,ho,hli,hK=>
   obtain rfl:=sj ho
   have x35:act.tmps[35]?.getD undef=vs 13:=hv 13 35 rfl (bq4E hd rfl)
   have l13:u 13=true:=by simp [Region.binds] at hd;simp [hd]
   have l12:u 12=true:=hsh 13 12 (by rfl) l13
   obtain ⟨A',c',l',Ag',cg',hv13,_⟩:=J7.at13 hJ l12 l13
   rw [hv13] at x35
   clear hv hwas
   go_simp
   exact hK _ _ (fun _=>rfl) hJ
  | 16,_,ho,hli,hK=>
   obtain rfl:=sj ho
   have x35:act.tmps[35]?.getD undef=vs 13:=hv 13 35 rfl (bq4E hd rfl)
   have l13:u 13=true:=by simp [Region.binds] at hd;simp [hd]
   have l12:u 12=true:=hsh 13 12 (by rfl) l13
   obtain ⟨A',c',l',Ag',cg',hv13,_⟩:=J7.at13 hJ l12 l13
   rw [hv13] at x35
   clear hv hwas
   go_simp
   exact hK _ _ (fun _=>rfl) hJ
  | 17,_,ho,hli,hK=>
   obtain rfl:=sj ho
   have nx:=hsh.not (i:=19) (j:=17) (by rfl) hli
   clear hv hwas
   go_simp
   exact hK _ _ (fun h=>by cases h) (J7.al17 hJ hli nx)
  | 18,_,ho,hli,hK=>
   obtain rfl:=sj ho
   have nx:=hsh.not (i:=20) (j:=18) (by rfl) hli
   clear hv hwas
   go_simp
   exact hK _ _ (fun h=>by cases h) (J7.al18 hJ hli nx)
  | 19,_,ho,hli,hK=>
   obtain rfl:=sj ho
   have x8:act.tmps[8]?.getD undef=vs 17:=hv 17 8 rfl (bq4E hd rfl)
   have x49:act.tmps[49]?.getD undef=vs 14:=hv 14 49 rfl (bq4E hd rfl)
   have l17:u 17=true:=by simp [Region.binds] at hd;simp [hd]
   have l14:u 14=true:=by simp [Region.binds] at hd;simp [hd]
   have l13:u 13=true:=hsh 14 13 (by rfl) l14
   have l12:u 12=true:=hsh 13 12 (by rfl) l13
   obtain ⟨g8,A',c',l',Ag',cg',hv17,hv14,y0,y1,z0,z1,hQ⟩:=J7.st19 hJ l17 l14 l12 hli
   rw [hv17] at x8;rw [hv14] at x49
   clear hv hwas
   go_simp
   exact hK _ _ (fun _=>rfl) hQ
  | 20,_,ho,hli,hK=>
   obtain rfl:=sj ho
   have x9:act.tmps[9]?.getD undef=vs 18:=hv 18 9 rfl (bq4E hd rfl)
   have x50:act.tmps[50]?.getD undef=.agg #[.int .i64 xi,.int .i64 xg']:=hv 15 50 rfl (bq4E hd rfl)
   have l18:u 18=true:=by simp [Region.binds] at hd;simp [hd]
   obtain ⟨g9,hv18,y0,y1,z0,z1,hQ⟩:=J7.st20 hJ l18 hli
   rw [hv18] at x9
   clear hv hwas
   go_simp
   exact hK _ _ (fun _=>rfl) hQ
  | 21,_,ho,hli,hK=>
   obtain rfl:=sj ho
   have x51:act.tmps[51]?.getD undef=.int .i64 xe:=hv 16 51 rfl (bq4E hd rfl)
   clear hv hwas
   go_simp
   exact hK _ _ (fun _=>rfl) hJ
open Go.RowKit
open Brood
def goesOn (k:Int):Bool:=k != 6
theorem ract_any (rb:Nat) (A:Option Addr) (c:Nat) (l:List TabIn) (Ag:Option Addr) (cg:Nat) (rows:List BRow) (gens:List Int) (err:Int) (hw:RightW rows gens) (hfit:l.map tabOf=tabsW rows) (i g:Int) (a:BAct) (ha:okAct a) (ab ao:Nat) (w0 w:World) (E:List Ent) (h:Hp w0 w (rnE rb A c l Ag cg gens err E))
  (hab:ab<w0.heap.size) (hat:ActAt w0 ab ao a) :
  Calls Tryz.prog 71 #[.pointer (some ⟨rb,0,none⟩),.agg #[.int .i64 i,.int .i64 g],.pointer (some ⟨ab,ao,none⟩)] w fun e w'=>e=.returned (.bool (goesOn a.kind))∧ActPost w0 w' rb E (oneM (⟨rows,gens⟩,err) i g a):=by
 obtain ⟨kind,part,src,n⟩:=a
 have key:∀ (X:Changed),stepV ⟨rows,gens⟩ i g ⟨kind,part,src,n⟩=X→∀ {w':World},ActPost w0 w' rb E (keepE (⟨rows,gens⟩,err) X)→ActPost w0 w' rb E (oneM (⟨rows,gens⟩,err) i g ⟨kind,part,src,n⟩):=by
  intro X hX w' hp
  unfold oneM
  rw [hX];exact hp
 rcases ha with h6 | ⟨h7,_,_⟩ | ⟨hk,hp,hs,hn⟩
 ·dsimp only at h6
  subst h6
  refine (ract6 rb A c l Ag cg rows gens err hw hfit i g part src n ab ao w0 w E h hab hat).mono ?_
  rintro e w' ⟨rfl,hP⟩
  exact ⟨rfl,key _ (by simp [stepV]) hP⟩
 ·dsimp only at h7
  subst h7
  refine (ract7 rb A c l Ag cg rows gens err hw hfit i g part src n ab ao w0 w E h hab hat).mono ?_
  rintro e w' ⟨rfl,hP⟩
  exact ⟨rfl,key _ (by simp [stepV]) hP⟩
 ·have hk':kind=1∨kind=2∨kind=3∨kind=4∨kind=5:=by
   simp only [isWrite,decide_eq_true_eq] at hk
   omega
  rcases hk' with rfl | rfl | rfl | rfl | rfl
  ·refine (ract1 rb A c l Ag cg rows gens err hw hfit i g part src n ab ao w0 w E h hab hat).mono ?_
   rintro e w' ⟨rfl,hP⟩
   exact ⟨rfl,key _ (by simp [stepV,amountV]) hP⟩
  ·refine (ract2 rb A c l Ag cg rows gens err hw hfit i g part src n ab ao w0 w E h hab hat).mono ?_
   rintro e w' ⟨rfl,hP⟩
   exact ⟨rfl,key _ (by simp [stepV,amountV]) hP⟩
  ·refine (ract3 rb A c l Ag cg rows gens err hw hfit i g part src n ab ao w0 w E h hab hat).mono ?_
   rintro e w' ⟨rfl,hP⟩
   exact ⟨rfl,key _ (by simp [stepV,amountV]) hP⟩
  ·have hb:=isVal_iff.1 (hn (.inr rfl))
   refine (ract4 rb A c l Ag cg rows gens err hw hfit i g part src n ab ao w0 w E h hab hat hb.1 hb.2).mono ?_
   rintro e w' ⟨rfl,hP⟩
   exact ⟨rfl,key _ (by simp [stepV,amountV]) hP⟩
  ·cases hg:(getP i g rows part).2 with
   | false=>
    refine (ract5_no rb A c l Ag cg rows gens err hw hfit i g part src n ab ao w0 w E h hab hat hg).mono ?_
    rintro e w' ⟨rfl,hP⟩
    exact ⟨rfl,key _ (by simp [stepV,hg]) hP⟩
   | true=>
    refine (ract5_yes rb A c l Ag cg rows gens err hw hfit i g part src n ab ao w0 w E h hab hat hg).mono ?_
    rintro e w' ⟨rfl,hP⟩
    exact ⟨rfl,key _ (by simp [stepV,hg]) hP⟩
theorem Hp.cellM {w0 w:World} {E:List Ent} (h:Hp w0 w E) {g:Nat} {t:TypeId} {cs:List Value} (hm:Ent.box g t cs∈E) (i:Nat) {u:Value} (hi:cs[i]?=some u):w.cell? ⟨g,i,none⟩=some u:=by
 have:=(h.all _ hm).2.cell i
 rw [this]
 simpa using hi
theorem Hp.ltM {w0 w:World} {E:List Ent} (h:Hp w0 w E) {g:Nat} {t:TypeId} {cs:List Value} (hm:Ent.box g t cs∈E):g<w.heap.size:=(h.all _ hm).2.lt
theorem Hp.rdM {w0 w:World} {E:List Ent} (h:Hp w0 w E) {A:Option Addr} {c:Nat} {e:TypeId} {sz n:Nat} {xs:List Value} (hm:Ent.own (.slice A n c) e sz n xs∈E):Rd w w.heap.size sz A n xs:=Rd.of_own (h.all _ hm:w.ownsRow w0.heap.size e sz (.slice A n c) n xs)
def runT (T:List BTab) (gens:List Int) (x:BSys):ChangedT:=
 if (storeErr T gens).1≠0 then ⟨[],[],(storeErr T gens).1⟩
 else ⟨tabsW (runM ⟨worldT T,gens⟩ x).rows,(runM ⟨worldT T,gens⟩ x).gens,(runM ⟨worldT T,gens⟩ x).err⟩
theorem acts_drop {i g:Int} {acts:List BAct} {k:Nat} (hk:k<acts.length) (S:BWorld×Int):actsM i g (acts.drop k) S=if acts[k].kind=6 then (oneM S i g acts[k],false) else if (oneM S i g acts[k]).2≠0 then (oneM S i g acts[k],true) else actsM i g (acts.drop (k+1)) (oneM S i g acts[k]):=by
 rw [List.drop_eq_getElem_cons hk,actsM]
theorem bes_drop {acts:List BAct} {bs:List BRow} {j:Nat} (hj:j<bs.length) (S:BWorld×Int):besM acts (bs.drop j) S=if (actsM bs[j].idx bs[j].gen acts S).2 then actsM bs[j].idx bs[j].gen acts S else besM acts (bs.drop (j+1)) (actsM bs[j].idx bs[j].gen acts S).1:=by
 rw [List.drop_eq_getElem_cons hj,besM]
theorem oneM_right {i g:Int} {a:BAct} {S:BWorld×Int} (h:RightB S.1):RightB (oneM S i g a).1:=(oneM_ind (P:=fun _=>True) (fun _=>trivial) h trivial).1
end Go.Proofs.YtefdblaolmckmabGreat
namespace Brood
end Brood
namespace Go.Proofs.YtefdblaolmckmabGreat
open Go.RowKit
open Brood
structure SysIn where
 s:BSys
 A:Option Addr
 c:Nat
def sysCells (x:SysIn):List Value:=[.int .i64 x.s.mod,.int .i64 x.s.all,.int .i64 x.s.non,.slice x.A x.s.acts.length x.c]
structure RdS (w:World) (B:Nat) (A:Option Addr) (l:List SysIn):Prop where
 cells:Rd w B 4 A l.length (l.flatMap sysCells)
 acts:∀ x∈l,RdAB w B x.A x.s.acts
section
variable {w w':World} {B:Nat} {A:Option Addr} {l:List SysIn}
theorem RdS.keep (h:RdS w B A l) (hk:∀ p:Addr,p.block<B→w'.cell? p=w.cell? p):RdS w' B A l:=
 ⟨h.cells.keep hk,fun x hx=>Rd.keep (h.acts x hx) hk⟩
theorem RdS.under (h:RdS w B A l) {C:Nat} (hb:Below C w w') (hC:B≤C):RdS w' B A l:=h.keep fun _ hp=>hb.cell (by omega)
theorem RdS.alloc (h:RdS w B A l) (hB:B≤w.heap.size) (o:Obj):RdS (w.alloc o) B A l:=h.keep fun p hp=>World.cell?_alloc_lt w o p (by omega)
theorem RdS.setCell (h:RdS w B A l) {p:Addr} (hB:B≤p.block) (u:Value):RdS (w.setCell p u) B A l:=
 h.keep fun q hq=>World.cell?_setCell_other w p q u (fun e=>by subst e;omega)
theorem RdS.more (h:RdS w B A l) {C:Nat} (hB:B≤C):RdS w C A l:=⟨h.cells.more hB,fun x hx=>Rd.more (h.acts x hx) hB⟩
theorem RdS.drew (h:RdS w B A l):RdS w.drew B A l:=⟨h.cells,h.acts⟩
theorem RdS.drewN (h:RdS w B A l) (n:Nat):RdS (w.drewN n) B A l:=⟨h.cells,h.acts⟩
theorem RdS.at_ (h:RdS w B A l) {k:Nat} (hk:k<l.length) :
  ∃ b off,A=some ⟨b,off,none⟩∧b<B∧w.cell? ⟨b,off+k*4,none⟩=some (.int .i64 l[k].s.mod)∧w.cell? ⟨b,off+k*4+1,none⟩=some (.int .i64 l[k].s.all) ∧
   w.cell? ⟨b,off+k*4+2,none⟩=some (.int .i64 l[k].s.non)∧w.cell? ⟨b,off+k*4+3,none⟩=some (.slice l[k].A l[k].s.acts.length l[k].c):=by
 obtain ⟨b,off,e,hb,hc⟩:=h.cells.2 (by omega)
 have hf:∀ x,(sysCells x).length=4:=fun _=>rfl
 refine ⟨b,off,e,hb,?_,?_,?_,?_⟩
 ·have:=hc (k*4+0) _ (flat_get hf l k hk 0 (by omega));simpa using this
 ·have:=hc (k*4+1) _ (flat_get hf l k hk 1 (by omega));simpa [Nat.add_assoc] using this
 ·have:=hc (k*4+2) _ (flat_get hf l k hk 2 (by omega));simpa [Nat.add_assoc] using this
 ·have:=hc (k*4+3) _ (flat_get hf l k hk 3 (by omega));simpa [Nat.add_assoc] using this
end
def sysOf (l:List SysIn):List BSys:=l.map (·.s)
theorem sysOf_length (l:List SysIn):(sysOf l).length=l.length:=by simp [sysOf]
open Go.RowKit
open Brood
def runE (b:Nat) (A:Option Addr) (n c:Nat) (Ag:Option Addr) (m cg:Nat) (mod all non:Int) (xA:Option Addr) (xn xc:Nat) (Am:Option Addr) (bs:List BRow) (cm:Nat):List Ent:=
 [stBox b A n c Ag m cg,.box (b+1) 29 [.int .i64 mod,.int .i64 all,.int .i64 non,.slice xA xn xc],.box (b+1+1) 40 [.slice none 0 0,.slice none 0 0],.own (.slice Am bs.length cm) 24 2 bs.length (bs.flatMap beCells)]
theorem perm_rn (P S:List Ent) (r m:Ent):(P++S++[r]++[m]).Perm ([r]++(S++(P++[m]))):=by
 simp only [List.append_assoc]
 refine (List.perm_append_comm (l₁:=P)).trans ?_
 simp only [List.append_assoc]
 refine (List.perm_middle (l₁:=S) (a:=r) (l₂:=[m]++P)).trans ?_
 exact List.Perm.cons r (List.Perm.append_left S List.perm_append_comm)
theorem Hp.newR {w0 w':World} {rb:Nat} {A:Option Addr} {c:Nat} {l:List TabIn} {Ag:Option Addr} {cg:Nat} {gens:List Int} {err:Int} {E:List Ent} (h:Hp w0 w' (rnE rb A c l Ag cg gens err E)) (t:TypeId) (cs:List Value):Hp w0 (w'.alloc (.cells cs.toArray t)) (rnE rb A c l Ag cg gens err (.box w'.heap.size t cs::E)):=by
 unfold rnE at h ⊢
 rw [← List.append_assoc] at h ⊢
 exact h.newAt t cs
theorem rnE_drop {w0 w':World} {rb:Nat} {A:Option Addr} {c:Nat} {l:List TabIn} {Ag:Option Addr} {cg:Nat} {gens:List Int} {err:Int} {E:List Ent} {p:Ent} (h:Hp w0 w' (rnE rb A c l Ag cg gens err (p::E))):Hp w0 w' (rnE rb A c l Ag cg gens err E):=by
 unfold rnE at h ⊢
 exact h.sub (List.Sublist.append (List.Sublist.refl _) (List.Sublist.append (List.Sublist.refl _) (List.sublist_cons_self _ _)))
theorem rnE_res {w0 w':World} {rb:Nat} {A:Option Addr} {c:Nat} {l:List TabIn} {Ag:Option Addr} {cg:Nat} {gens:List Int} {err:Int} {E:List Ent} {p:Ent} (h:Hp w0 w' (rnE rb A c l Ag cg gens err E)) (hp:p∈E):Hp w0 w' (rnBox rb A l.length c Ag gens.length cg err::p::stE A c l Ag cg gens):=by
 unfold rnE at h
 have h1:Hp w0 w' ([rnBox rb A l.length c Ag gens.length cg err]++(stE A c l Ag cg gens++[p])):=h.sub (List.Sublist.append (List.Sublist.refl _) (List.Sublist.append (List.Sublist.refl _) (List.singleton_sublist.2 hp)))
 exact h1.perm (List.Perm.cons _ (List.perm_append_comm (l₁:=stE A c l Ag cg gens) (l₂:=[p])))
theorem runM_eq {W:BWorld} {x:BSys} (hx:(sysWrong x).1=0) {R:(BWorld×Int)×Bool} (hR:besM x.acts (matchV x.all x.non W.rows) (W,0)=R):runM W x=if R.2 then ⟨[],[],R.1.2⟩ else ⟨R.1.1.rows,R.1.1.gens,0⟩:=by
 unfold runM
 rw [if_neg (by simpa using hx),hR]
theorem srun_any (l:List TabIn) (A:Option Addr) (c:Nat) (gens:List Int) (Ag:Option Addr) (cg:Nat) (hs:StSmall l gens) (x:BSys) (xA:Option Addr) (xc:Nat) (w:World) (hx:RdAB w w.heap.size xA x.acts) (h:RdSt w w.heap.size ⟨A,c,l,Ag,cg,gens⟩) :
  Calls Tryz.prog 29 #[.agg #[.slice A l.length c,.slice Ag gens.length cg],.agg #[.int .i64 x.mod,.int .i64 x.all,.int .i64 x.non,.slice xA x.acts.length xc]] w fun e w'=>
   ∃ v,e=.returned (.tuple #[v,.int .i64 (runT (l.map tabOf) gens x).err])∧GotSt w w' v (runT (l.map tabOf) gens x).tabs (runT (l.map tabOf) gens x).gens:=by
 have hE0:Hid (runT (l.map tabOf) gens x=if (storeErr (l.map tabOf) gens).1≠0 then ⟨[],[],(storeErr (l.map tabOf) gens).1⟩
  else ⟨tabsW (runM ⟨worldT (l.map tabOf),gens⟩ x).rows,(runM ⟨worldT (l.map tabOf),gens⟩ x).gens,(runM ⟨worldT (l.map tabOf),gens⟩ x).err⟩):=Lib.hid rfl
 generalize runT (l.map tabOf) gens x=E at *
 have hh:=Lib.hid h;have hsh:=Lib.hid hs;have hxh:=Lib.hid hx
 have hsw:=Lib.hid (fun W hA=>wrong_any x xA xc W hA)
 have hM0:=Lib.hid (fun (W:BWorld) (h1:(sysWrong x).1≠0)=>(show runM W x=⟨[],[],(sysWrong x).1⟩ by unfold runM;rw [if_pos h1]))
 have hM1:=Lib.hid (fun (W:BWorld) (R:(BWorld×Int)×Bool) (h1:(sysWrong x).1=0) (h2:besM x.acts (matchV x.all x.non W.rows) (W,0)=R)=>runM_eq h1 h2)
 have hok:=Lib.hid (fun h1:(sysWrong x).1=0=>sysOk_of h1)
 clear h hs hx
 have H0:=(((Hp.start w).new w.heap.size rfl 40 [.slice A l.length c,.slice Ag gens.length cg]).new (w.heap.size+1) (by simp) 29 [.int .i64 x.mod,.int .i64 x.all,.int .i64 x.non,.slice xA x.acts.length xc]).new (w.heap.size+1+1) (by simp) 40 [.slice none 0 0,.slice none 0 0]
 replace H0:Hp w _ [stBox w.heap.size A l.length c Ag gens.length cg,.box (w.heap.size+1) 29 [.int .i64 x.mod,.int .i64 x.all,.int .i64 x.non,.slice xA x.acts.length xc],.box (w.heap.size+1+1) 40 [.slice none 0 0,.slice none 0 0]]:=H0
 have a0:=H0.cell 0 0 rfl rfl;have a1:=H0.cell 0 1 rfl rfl
 generalize sysWrong x=F2 at *
 obtain ⟨mod,all,non,acts⟩:=x
 dsimp only at *
 go_enter Tryz.func29,Tryz.ntmps29
 go_wp2_with fail
 obtain ⟨w0,hw0,H0⟩:=H0.name
 rw [hw0];clear hw0 a0 a1
 have hg0:RdSt w0 w0.heap.size ⟨A,c,l,Ag,cg,gens⟩:=hh.out.hp H0
 refine (swrong_any l A c gens Ag cg hsh.out w0 hg0.tabs hg0.gen hg0.ng).mono ?_
 rintro e w1 ⟨rfl,hb1⟩
 replace H0:=H0.grow hb1
 clear hb1 hg0
 have hrt:Hid ((storeErr (l.map tabOf) gens).1=0→RightW (worldT (l.map tabOf)) gens∧l.map tabOf=tabsW (worldT (l.map tabOf))):=Lib.hid store_right
 generalize storeErr (l.map tabOf) gens=F at *
 obtain ⟨f1,f2⟩:=F
 have H2:=H0.new _ rfl 48 [.int .i64 f1,.int .i64 f2]
 simp only at hE0 hrt ⊢
 by_cases hf:f1=0
 case neg=>
  clear H0
  have hf':(f1 != 0)=true:=by simpa using hf
  have hE:Hid (E=⟨[],[],f1⟩):=Lib.hid (by rw [hE0.out,if_pos hf])
  clear hE0 hrt
  go_upto_region 3 with fail
  obtain ⟨w2,hw2,H2⟩:=H2.name
  rw [hw2];clear hw2
  have n23:=H2.ne 2 3 rfl rfl (by omega);have n32:=n23.symm
  have q2:=H2.cell 2 0 rfl rfl;have q3:=H2.cell 2 1 rfl rfl
  have y2:=H2.frozen 2 0 rfl;have y3:=H2.frozen 2 1 rfl
  have c0:=H2.cell 3 0 rfl rfl
  have H4:=((H2.set 2 0 (.slice none 0 0) rfl).set 2 1 (.slice none 0 0) rfl).drew
  have H4h:=Lib.hid H4
  clear H4 H2
  go_region_held3 (fun w'=>w'.cell? ⟨w1.heap.size,0,none⟩=some (.int .i64 f1)) (go_keep) (fail)
  have H4:=H4h.out
  have p2:=H4.cell 2 0 rfl rfl;have p3:=H4.cell 2 1 rfl rfl
  go_wp2_with fail
  refine bodyPost_ret (v:=.tuple #[.agg #[.slice none 0 0,.slice none 0 0],.int .i64 f1]) (by simp [results,Tryz.results29,go_sem,p2,p3]) rfl ⟨_,by rw [hE.out],by rw [hE.out];exact GotSt.zero H4.bel⟩
 case pos=>
  subst hf
  obtain ⟨hrw,hfit0⟩:=hrt.out rfl
  have hE1:Hid (E=⟨tabsW (runM ⟨worldT (l.map tabOf),gens⟩ ⟨mod,all,non,acts⟩).rows,(runM ⟨worldT (l.map tabOf),gens⟩ ⟨mod,all,non,acts⟩).gens,(runM ⟨worldT (l.map tabOf),gens⟩ ⟨mod,all,non,acts⟩).err⟩):=Lib.hid (by rw [hE0.out,if_neg (by simp)])
  clear hE0 hrt
  have hfit:=Lib.hid hfit0
  clear hfit0
  generalize hrows:worldT (l.map tabOf)=rows at *
  clear hrows
  have hrwh:=Lib.hid hrw
  have hlr:rows.length≤60:=Nat.le_trans hrw.rows_le hrw.len
  clear hrw
  have s0:=H2.cell 1 0 rfl rfl;have s1:=H2.cell 1 1 rfl rfl;have s2:=H2.cell 1 2 rfl rfl;have s3:=H2.cell 1 3 rfl rfl
  go_wp2_with fail
  clear H0
  obtain ⟨w2,hw2,H2⟩:=H2.name
  rw [hw2];clear hw2 s0 s1 s2 s3
  refine (hsw.out w2 (Rd.more (Rd.under hxh.out H2.bel (Nat.le_refl _)) H2.bel.size)).mono ?_
  rintro e w3 ⟨rfl,hb3⟩
  have H3:=(H2.grow hb3).drop1 3
  clear hb3 H2
  replace H3:=H3.new w3.heap.size rfl 48 [.int .i64 F2.1,.int .i64 F2.2]
  obtain ⟨g1,g2⟩:=F2
  dsimp only at *
  by_cases hf:g1=0
  case neg=>
   have hf':(g1 != 0)=true:=by simpa using hf
   have hE:Hid (E=⟨[],[],g1⟩):=Lib.hid (by rw [hE1.out,hM0.out _ hf];rfl)
   clear hE1 hM0 hM1 hok
   go_upto_region 6 with fail
   obtain ⟨w4,hw4,H2⟩:=H3.name
   rw [hw4];clear hw4
   have n23:=H2.ne 2 3 rfl rfl (by omega);have n32:=n23.symm
   have q2:=H2.cell 2 0 rfl rfl;have q3:=H2.cell 2 1 rfl rfl
   have y2:=H2.frozen 2 0 rfl;have y3:=H2.frozen 2 1 rfl
   have c0:=H2.cell 3 0 rfl rfl
   have H4:=((H2.set 2 0 (.slice none 0 0) rfl).set 2 1 (.slice none 0 0) rfl).drew
   have H4h:=Lib.hid H4
   clear H4 H2 H3
   go_region_held3 (fun w'=>w'.cell? ⟨w3.heap.size,0,none⟩=some (.int .i64 g1)) (go_keep) (fail)
   have H4:=H4h.out
   have p2:=H4.cell 2 0 rfl rfl;have p3:=H4.cell 2 1 rfl rfl
   go_wp2_with fail
   refine bodyPost_ret (v:=.tuple #[.agg #[.slice none 0 0,.slice none 0 0],.int .i64 g1]) (by simp [results,Tryz.results29,go_sem,p2,p3]) rfl ⟨_,by rw [hE.out],by rw [hE.out];exact GotSt.zero H4.bel⟩
  case pos=>
   subst hf
   have hokx:=hok.out rfl
   have hacts:acts.length≤8:=hokx.many
   have hall:isSet all=true:=hokx.all
   have hnon:isSet non=true:=hokx.non
   have hoka:Hid (∀ a∈acts,okAct a):=Lib.hid (fun a ha=>okAct_of (hokx.acts a ha))
   have hM:Hid (∀ R,besM acts (matchV all non rows) (⟨rows,gens⟩,0)=R→E=if R.2 then ⟨[],[],R.1.2⟩ else ⟨tabsW R.1.1.rows,R.1.1.gens,0⟩):=Lib.hid (fun R hR=>by
    rw [hE1.out,hM1.out _ R rfl hR]
    split<;>rfl)
   clear hE1 hM0 hM1 hok hokx hsw
   have a0:=H3.cell 0 0 rfl rfl;have a1:=H3.cell 0 1 rfl rfl
   have lt0:=H3.lt 0 rfl
   go_wp2_with fail
   clear a0 a1 lt0
   obtain ⟨w4,hw4,H4⟩:=H3.name
   rw [hw4];clear hw4 H3
   have hg4:RdSt w4 w4.heap.size ⟨A,c,l,Ag,cg,gens⟩:=hh.out.hp H4
   refine (sown_any l A c gens Ag cg hsh.out w4 hg4).mono ?_
   rintro e w5 ⟨A2,c2,l2,Ag2,cg2,rfl,hl2,H5⟩
   have hfit2:Hid (l2.map tabOf=tabsW rows):=Lib.hid (hl2.trans hfit.out)
   replace H5:=((H4.join H5).drop1 3).new w5.heap.size rfl 138 [.slice A2 l2.length c2,.slice Ag2 gens.length cg2,.int .i64 0]
   have t0:=H5.cell 0 0 rfl rfl;have t1:=H5.cell 0 1 rfl rfl;have t2:=H5.cell 1 1 rfl rfl;have t3:=H5.cell 1 2 rfl rfl
   clear H4 hg4 hl2
   go_wp2_with fail
   obtain ⟨w6,hw6,H6⟩:=H5.name
   rw [hw6];clear hw6 H5 t0 t1 t2 t3 H2 H0
   obtain ⟨rb,hrb⟩:∃ rb,rb=w5.heap.size:=⟨_,rfl⟩
   rw [← hrb] at H6 ⊢
   clear hrb
   refine (smatch_any l A c gens Ag cg rows hrwh.out hfit.out all non hall hnon w6 (hh.out.hp H6)).mono ?_
   rintro e w7 ⟨⟨Am,cm,rfl,hom⟩,hb7⟩
   have hbl:(matchV all non rows).length≤60:=Nat.le_trans (List.length_filter_le _ _) hlr
   obtain ⟨R,hR⟩:∃ R,besM acts (matchV all non rows) (⟨rows,gens⟩,0)=R:=⟨_,rfl⟩
   have hE:Hid (E=if R.2 then ⟨[],[],R.1.2⟩ else ⟨tabsW R.1.1.rows,R.1.1.gens,0⟩):=Lib.hid (hM.out R hR)
   have hRh:=Lib.hid hR
   clear hR hM
   generalize matchV all non rows=bs at *
   have H7:Hp w w7 (rnE rb A2 c2 l2 Ag2 cg2 gens 0 (runE w.heap.size A l.length c Ag gens.length cg mod all non xA acts.length xc Am bs cm)):=by
    have h1:=H6.got hb7 hom
    exact h1.perm (perm_rn [_,_,_] (stE A2 c2 l2 Ag2 cg2 gens) _ _)
   clear H6 hom hb7
   have H7h:=Lib.hid H7
   clear H7
   go_wp2_with fail
   go_loopw [37] (fun q wr=>∃ j:Nat,j≤bs.length∧q=.int .i64 j∧∃ (S:BWorld×Int) (A':Option Addr) (c':Nat) (l':List TabIn) (Ag':Option Addr) (cg':Nat),Hid (RightB S.1∧l'.map tabOf=tabsW S.1.rows∧besM acts (bs.drop j) S=R)∧Hp w wr (rnE rb A' c' l' Ag' cg' S.1.gens S.2 (runE w.heap.size A l.length c Ag gens.length cg mod all non xA acts.length xc Am bs cm))) (fun q _=>bs.length-(intOf q).toNat)
   case atStart=>exact ⟨0,by omega,rfl,(⟨rows,gens⟩,0),A2,c2,l2,Ag2,cg2,Lib.hid ⟨hrwh.out,hfit2.out,hRh.out⟩,H7h.out⟩
   case round=>
    clear H7h hfit2 hRh hfit
    obtain ⟨j,hj,rfl,S,A',c',l',Ag',cg',hS,H⟩:=hrel
    by_cases hlt:j<bs.length
    ·have hb2:=hS.out.2.2
     rw [bes_drop hlt] at hb2
     obtain ⟨b1,off,hA,hb1,e0,e1⟩:=RdB.at_ (w:=wr) (H.rdM (A:=Am) (c:=cm) (e:=24) (sz:=2) (xs:=bs.flatMap beCells) (by unfold rnE runE;simp)) hlt
     have s3:=H.cellM (g:=w.heap.size+1) (t:=29) (cs:=[.int .i64 mod,.int .i64 all,.int .i64 non,.slice xA acts.length xc]) (by unfold rnE runE;simp) 3 rfl
     have ls:=H.ltM (g:=w.heap.size+1) (t:=29) (cs:=[.int .i64 mod,.int .i64 all,.int .i64 non,.slice xA acts.length xc]) (by unfold rnE runE;simp)
     generalize bs[j]=B at *
     obtain ⟨bi,bg,bh,bv,b8⟩:=B
     dsimp only at hb2 e0 e1
     subst hA
     have hb2h:=Lib.hid hb2;have Hh:=Lib.hid H;have hS2:=Lib.hid (And.intro hS.out.1 hS.out.2.1)
     have i0:(0:Int)≤(j:Int):=by omega
     have i1:(j:Int)<(bs.length:Int):=by omega
     clear hb2 H hS
     go_wp2_with fail
     have HB:=Hh.out.newR 24 [.int .i64 bi,.int .i64 bg]
     obtain ⟨b10,hb10⟩:∃ b10,b10=wr.heap.size:=⟨_,rfl⟩
     rw [← hb10] at HB ⊢
     have HBh:=Lib.hid HB
     clear HB Hh hb10
     go_loopw [44] (fun q wx=>∃ k:Nat,k≤acts.length∧q=.int .i64 k∧∃ (T:BWorld×Int) (A3:Option Addr) (c3:Nat) (l3:List TabIn) (Ag3:Option Addr) (cg3:Nat),Hid (RightB T.1∧l3.map tabOf=tabsW T.1.rows∧actsM bi bg (acts.drop k) T=actsM bi bg acts S)∧Hp w wx (rnE rb A3 c3 l3 Ag3 cg3 T.1.gens T.2 (bEnt b10 bi bg::runE w.heap.size A l.length c Ag gens.length cg mod all non xA acts.length xc (some ⟨b1,off,none⟩) bs cm))) (fun q _=>acts.length-(intOf q).toNat)
     case atStart=>exact ⟨0,by omega,rfl,S,A',c',l',Ag',cg',Lib.hid ⟨hS2.out.1,hS2.out.2,rfl⟩,HBh.out⟩
     case round=>
      clear HBh hS2 s3 e0 e1 hb1 ls
      obtain ⟨k,hk,rfl,T,A3,c3,l3,Ag3,cg3,hT,H⟩:=hrel
      by_cases hlk:k<acts.length
      ·obtain ⟨ab,ao,rfl,hab,hat⟩:=hxh.out.at_ hlk
       have hT3:=hT.out.2.2
       rw [acts_drop hlk] at hT3
       have hoa:=hoka.out _ (List.getElem_mem hlk)
       have hact:=Lib.hid (ract_any rb A3 c3 l3 Ag3 cg3 T.1.rows T.1.gens T.2 hT.out.1 hT.out.2.1 bi bg acts[k] hoa ab (ao+k*4) w)
       have hri:Hid (RightB (oneM T bi bg acts[k]).1):=Lib.hid (oneM_right hT.out.1)
       obtain ⟨T1,hT1⟩:∃ T1,oneM T bi bg acts[k]=T1:=⟨_,rfl⟩
       rw [show ((⟨T.1.rows,T.1.gens⟩:BWorld),T.2)=T from rfl,hT1] at hact
       rw [hT1] at hT3 hri
       have x0:=H.cellM (g:=b10) (t:=24) (cs:=[.int .i64 bi,.int .i64 bg]) (by unfold rnE;simp [bEnt]) 0 rfl
       have x1:=H.cellM (g:=b10) (t:=24) (cs:=[.int .i64 bi,.int .i64 bg]) (by unfold rnE;simp [bEnt]) 1 rfl
       have s3:=H.cellM (g:=w.heap.size+1) (t:=29) (cs:=[.int .i64 mod,.int .i64 all,.int .i64 non,.slice (some ⟨ab,ao,none⟩) acts.length xc]) (by unfold rnE runE;simp) 3 rfl
       have k0:(0:Int)≤(k:Int):=by omega
       have k1:(k:Int)<(acts.length:Int):=by omega
       have hT3h:=Lib.hid hT3;have hath:=Lib.hid hat;have Hh:=Lib.hid H.drew
       clear hT1 hT3 hT hoa H hat
       generalize acts[k]=a at *
       obtain ⟨kind,part,src,n⟩:=a
       dsimp only at hT3h hact
       go_upto_region 14 with fail
       go_region_held3 (fun w'=>w'.cell? ⟨b10,0,none⟩=some (.int .i64 bi)∧w'.cell? ⟨b10,1,none⟩=some (.int .i64 bg)∧w'.cell? ⟨w.heap.size+1,3,none⟩=some (.slice (some ⟨ab,ao,none⟩) acts.length xc))
        (first | exact ⟨x0,x1,s3⟩ | go_keep)
        ((go_at_call 71;refine (hact.out wr.drew _ Hh.out hab hath.out).mono ?_;rintro e wx ⟨rfl,A4,c4,l4,Ag4,cg4,hl4,H4⟩;have x0:=H4.cellM (g:=b10) (t:=24) (cs:=[.int .i64 bi,.int .i64 bg]) (by unfold rnE;simp [bEnt]) 0 rfl;have x1:=H4.cellM (g:=b10) (t:=24) (cs:=[.int .i64 bi,.int .i64 bg]) (by unfold rnE;simp [bEnt]) 1 rfl;have s3:=H4.cellM (g:=w.heap.size+1) (t:=29) (cs:=[.int .i64 mod,.int .i64 all,.int .i64 non,.slice (some ⟨ab,ao,none⟩) acts.length xc]) (by unfold rnE runE;simp) 3 rfl))
       obtain ⟨⟨tr,tg⟩,te⟩:=T1
       dsimp only at hri hl4 H4 hT3h
       have e2:=H4.cell 0 2 rfl rfl
       have hl4h:=Lib.hid hl4;have H4h:=Lib.hid H4
       clear hl4 H4 Hh hact x0 x1 s3
       cases hG:goesOn kind with
       | false=>
        have h6:kind=6:=by simpa [goesOn] using hG
        have hnx:Hid (besM acts (bs.drop (j+1)) (⟨tr,tg⟩,te)=R):=Lib.hid (by
         have h1:=hT3h.out
         rw [if_pos h6] at h1
         have h2:=hb2h.out
         rw [← h1] at h2
         simpa using h2)
        clear h6 hT3h hb2h hG
        go_wp2_with fail
        go_roundw
        case rel=>exact ⟨j+1,by omega,by go_num,(⟨tr,tg⟩,te),A4,c4,l4,Ag4,cg4,Lib.hid ⟨hri.out,hl4h.out,hnx.out⟩,rnE_drop H4h.out⟩
        case measure=>simp [intOf];omega
       | true=>
        have h6:¬ kind=6:=by simpa [goesOn] using hG
        clear hG
        by_cases he:te=0
        ·subst he
         have hnx:Hid (actsM bi bg (acts.drop (k+1)) (⟨tr,tg⟩,0)=actsM bi bg acts S):=Lib.hid (by
          have h1:=hT3h.out
          rw [if_neg h6,if_neg (by simp)] at h1
          exact h1)
         clear h6 hT3h
         go_wp2_with fail
         go_roundw
         case rel=>exact ⟨k+1,by omega,by go_num,(⟨tr,tg⟩,0),A4,c4,l4,Ag4,cg4,Lib.hid ⟨hri.out,hl4h.out,hnx.out⟩,H4h.out⟩
         case measure=>simp [intOf];omega
        ·have he':(te != 0)=true:=by simpa using he
         have hE3:Hid (E=⟨[],[],te⟩):=Lib.hid (by
          have h1:=hT3h.out
          rw [if_neg h6,if_pos he] at h1
          have h2:=hb2h.out
          rw [← h1] at h2
          rw [hE.out,← h2]
          rfl)
         clear h6 hT3h hb2h he hE
         have H2:=rnE_res (p:=.box (w.heap.size+1+1) 40 [.slice none 0 0,.slice none 0 0]) H4h.out (by unfold runE;simp)
         have n01:=H2.ne 0 1 rfl rfl (by omega);have n10:=n01.symm
         have q2:=H2.cell 1 0 rfl rfl;have q3:=H2.cell 1 1 rfl rfl
         have y2:=H2.frozen 1 0 rfl;have y3:=H2.frozen 1 1 rfl
         have H4:=((H2.set 1 0 (.slice none 0 0) rfl).set 1 1 (.slice none 0 0) rfl).drew
         have H5h:=Lib.hid H4
         clear H4 H2
         go_upto_region 16 with fail
         go_region_held3 (fun w'=>w'.cell? ⟨rb,2,none⟩=some (.int .i64 te)) (first | exact e2 | go_keep) (fail)
         have H4:=H5h.out
         have p2:=H4.cell 1 0 rfl rfl;have p3:=H4.cell 1 1 rfl rfl
         go_wp2_with fail
         refine bodyPost_ret (v:=.tuple #[.agg #[.slice none 0 0,.slice none 0 0],.int .i64 te]) (by simp [results,Tryz.results29,go_sem,p2,p3]) rfl ⟨_,by rw [hE3.out],by rw [hE3.out];exact GotSt.zero H4.bel⟩
      ·obtain rfl:k=acts.length:=by omega
       have hnx:Hid (besM acts (bs.drop (j+1)) T=R):=Lib.hid (by
        have h1:=hT.out.2.2
        rw [List.drop_length] at h1
        have h2:=hb2h.out
        rw [← h1] at h2
        simpa [actsM] using h2)
       have hT2:=Lib.hid (And.intro hT.out.1 hT.out.2.1)
       have Hh:=Lib.hid H
       clear hb2h hT H
       go_wp2_with fail
       go_roundw
       case rel=>exact ⟨j+1,by omega,by go_num,T,A3,c3,l3,Ag3,cg3,Lib.hid ⟨hT2.out.1,hT2.out.2,hnx.out⟩,rnE_drop Hh.out⟩
       case measure=>simp [intOf];omega
    ·obtain rfl:j=bs.length:=by omega
     obtain ⟨⟨tr,tg⟩,te⟩:=S
     have hE3:Hid (E=⟨tabsW tr,tg,0⟩):=Lib.hid (by
      have h1:=hS.out.2.2
      rw [List.drop_length] at h1
      rw [hE.out,← h1]
      rfl)
     have hl4h:Hid (l'.map tabOf=tabsW tr):=Lib.hid hS.out.2.1
     clear hE hS
     dsimp only at H
     have H2:=rnE_res (p:=.box (w.heap.size+1+1) 40 [.slice none 0 0,.slice none 0 0]) H (by unfold runE;simp)
     clear H
     have x0:=H2.cell 0 0 rfl rfl;have x1:=H2.cell 0 1 rfl rfl
     have q2:=H2.cell 1 0 rfl rfl;have q3:=H2.cell 1 1 rfl rfl
     have y2:=H2.frozen 1 0 rfl;have y3:=H2.frozen 1 1 rfl
     have H4:=(H2.set 1 0 (.slice A' l'.length c') rfl).set 1 1 (.slice Ag' tg.length cg') rfl
     have p2:=H4.cell 1 0 rfl rfl;have p3:=H4.cell 1 1 rfl rfl
     have H5h:=Lib.hid H4
     clear H4 H2
     go_wp2_with fail
     refine bodyPost_ret (v:=.tuple #[.agg #[.slice A' l'.length c',.slice Ag' tg.length cg'],.int .i64 0]) (by simp [results,Tryz.results29,go_sem,p2,p3]) rfl ⟨_,by rw [hE3.out],by rw [hE3.out];exact ⟨A',c',l',Ag',cg',rfl,hl4h.out,(H5h.out.drop1 1).drop1 0⟩⟩
end Go.Proofs.YtefdblaolmckmabGreat
