/- Lemmas of the proof. -/
import Derived.Test.YtefdblaolmckmacGreatMBSpecDToHouU
import Derived.Test.YtefdblaolmckmacGreatMBConcatToHouD
import Derived.Test.YtefdblaolmckmacGreatMBRef2MToRunG
import Derived.Test.YtefdblaolmckmacGreatMBRowToInv
import Derived.Test.YtefdblaolmckmacGreatMBStoBToKg
import Derived.Test.YtefdblaolmckmacGreatMBInsIToMx
set_option linter.unusedVariables false
set_option linter.unusedSimpArgs false
set_option maxRecDepth 100000
set_option maxHeartbeats 12800000
namespace Go.Proofs.YtefdblaolmckmacGreat
open Go.RowKit
open Brood
def pairCells (p:Int×Int):List Value:=[.int .i64 p.1,.int .i64 p.2]
def aoE (A:Option Addr) (c:Nat) (bs:List (Int×Int)):Ent:=.own (.slice A bs.length c) 41 2 bs.length (bs.flatMap pairCells)
theorem be_pairs (l:List BRow):(l.map beOf).flatMap pairCells=l.flatMap beCells:=by
 rw [List.flatMap_map]
 rfl
theorem aoE_none {w0 w:World} {E:List Ent} (h:Hp w0 w E):Hp w0 w (aoE none 0 []::E):=(h.nil_ 41 2).perm List.perm_append_comm
theorem sumV_snoc {part:Int} {rows:List BRow}:∀ (l:List BRow) (b:BRow),sumV part rows (l++[b])=sumV part rows l+(getP b.idx b.gen rows part).1
 | [],b=>by simp [sumV]
 | c::l,b=>by
  rw [List.cons_append,sumV,sumV,sumV_snoc l b]
  omega
theorem getP_bound {rows:List BRow} {gens:List Int} (hw:RightW rows gens) {i g part:Int} (hp:isPart part=true):-1000000≤(getP i g rows part).1∧(getP i g rows part).1≤1000000:=by
 cases h:rowOf i g rows with
 | none=>
  have e:getP i g rows part=(0,false):=getP_none part h
  rw [e]
  exact ⟨by decide,by decide⟩
 | some r=>
  have hm:=((rowOf_some_iff hw.rise).1 h).1
  rw [getP_val h (hw.row r hm) hp]
  have h8:=isPart_iff.1 hp
  exact isVal_iff.1 (((rowErr_iff r).1 (hw.row r hm)).2 part.toNat (by omega)).1
theorem sumV_bound {rows:List BRow} {gens:List Int} (hw:RightW rows gens) {part:Int} (hp:isPart part=true):∀ l:List BRow,-1000000*(l.length:Int)≤sumV part rows l∧sumV part rows l≤1000000*(l.length:Int)
 | []=>by simp [sumV]
 | b::l=>by
  have h1:=sumV_bound hw hp l
  have h2:=getP_bound hw (i:=b.idx) (g:=b.gen) hp
  rw [sumV,List.length_cons]
  omega
def opC (b:Bool) (L:List Ent):List Ent:=if b then L else []
structure JQs (w0:World) (P:List Ent) (n:Nat) (xs:List Value) (b9 b10 b11 b12:Bool) (v9 v10 v11:Value) (w':World) (A:Option Addr) (c g5:Nat):Prop where
 q9:b9=true→v9=.slice A n c
 q10:b9=true→b10=true→v10=.agg #[.int .i64 0,.int .i64 0,.int .i64 0,.slice A n c,.int .i64 0]
 p11:b11=true→v11=.pointer (some ⟨g5,0,none⟩)
 hp:Hp w0 w' (opC b11 [.box g5 44 (if b12 then [.int .i64 0,.int .i64 0,.int .i64 0,.slice A n c,.int .i64 0] else [.int .i64 0,.int .i64 0,.int .i64 0,.slice none 0 0,.int .i64 0])]++(P++opC b9 [.own (.slice A n c) 41 2 n xs]))
def JQ (w0:World) (P:List Ent) (n:Nat) (xs:List Value) (b9 b10 b11 b12:Bool) (v9 v10 v11:Value) (w':World):Prop:=∃ A c g5,JQs w0 P n xs b9 b10 b11 b12 v9 v10 v11 w' A c g5
section
variable {w0 w' w4:World} {P:List Ent} {n:Nat} {xs:List Value} {b9 b10 b11 b12:Bool} {v9 v10 v11:Value}
theorem JQ.start (h:Hp w0 w' P):JQ w0 P n xs false false false false v9 v10 v11 w':=
 ⟨none,0,0,(fun h=>by cases h),(fun h=>by cases h),(fun h=>by cases h),by
  show Hp w0 w' (P++[])
  rw [List.append_nil];exact h⟩
theorem JQ.bel (h:JQ w0 P n xs b9 b10 b11 b12 v9 v10 v11 w'):Below w0.heap.size w0 w':=by
 obtain ⟨_,_,_,h⟩:=h
 exact h.hp.bel
theorem JQ.mem (h:JQ w0 P n xs b9 b10 b11 b12 v9 v10 v11 w') (p:Ent) (hp:p∈P):p.holds w0.heap.size w':=by
 obtain ⟨_,_,_,h⟩:=h
 exact h.hp.all p (by simp [hp])
theorem JQ.st (h:JQ w0 P n xs b9 b10 b11 b12 v9 v10 v11 w') {bh:Nat} {s:HIn} (hs:∀ p∈hoE bh s,p∈P):RdSt w' w'.heap.size ⟨s.A,s.c,s.l,s.Ag,s.cg,s.gens⟩:=by
 obtain ⟨_,_,_,h⟩:=h
 exact h.hp.hoSt (hb:=bh) (fun p hp=>by simp [hs p hp])
theorem JQ.call (h:JQ w0 P n xs b9 b10 b11 b12 v9 v10 v11 w') (n9:b9=false) (n10:b10=false) (n12:b12=false) {A:Option Addr} {c:Nat} (ho:w4.ownsRow w'.heap.size 41 2 (.slice A n c) n xs) (hb:Below w'.heap.size w' w4) :
  JQ w0 P n xs true b10 b11 b12 (.slice A n c) v10 v11 w4:=by
 obtain ⟨_,_,g5,h⟩:=h
 subst n9 n10 n12
 refine ⟨A,c,g5,fun _=>rfl,(fun _ h=>by cases h),h.p11,?_⟩
 have:=h.hp.got hb ho
 unfold opC at this ⊢
 simpa only [Bool.false_eq_true,if_false,if_true,List.append_nil,List.append_assoc] using this
theorem JQ.ext (h:JQ w0 P n xs b9 b10 b11 b12 v9 v10 v11 w') (l9:b9=true) {A:Option Addr} {c:Nat} (e:v9=.slice A n c):JQ w0 P n xs b9 true b11 b12 v9 (.agg #[.int .i64 0,.int .i64 0,.int .i64 0,.slice A n c,.int .i64 0]) v11 w':=by
 obtain ⟨A',c',g5,h⟩:=h
 have:=h.q9 l9
 rw [e] at this
 injection this with e1 _ e3
 subst e1 e3
 exact ⟨A,c,g5,h.q9,fun _ _=>rfl,h.p11,h.hp⟩
theorem JQ.at9 (h:JQ w0 P n xs b9 b10 b11 b12 v9 v10 v11 w') (l9:b9=true):∃ A c,v9=.slice A n c:=by
 obtain ⟨A,c,g5,h⟩:=h
 exact ⟨A,c,h.q9 l9⟩
theorem JQ.al (h:JQ w0 P n xs b9 b10 b11 b12 v9 v10 v11 w') (n11:b11=false) (n12:b12=false):JQ w0 P n xs b9 b10 true b12 v9 v10 (.pointer (some ⟨w'.heap.size,0,none⟩)) (w'.alloc (.cells #[.int .i64 0,.int .i64 0,.int .i64 0,.slice none 0 0,.int .i64 0] 44)):=by
 obtain ⟨A,c,g5,h⟩:=h
 subst n11 n12
 exact ⟨A,c,w'.heap.size,h.q9,h.q10,fun _=>rfl,h.hp.newL w'.heap.size rfl _ _⟩
theorem JQ.put (h:JQ w0 P n xs b9 b10 b11 b12 v9 v10 v11 w') (l9:b9=true) (l10:b10=true) (l11:b11=true) (n12:b12=false):∃ A c g5,v10=.agg #[.int .i64 0,.int .i64 0,.int .i64 0,.slice A n c,.int .i64 0]∧v11=.pointer (some ⟨g5,0,none⟩) ∧
  (∀ i<5,w'.frozen? ⟨g5,i,none⟩=false)∧(w'.cell? ⟨g5,0,none⟩=some (.int .i64 0)∧w'.cell? ⟨g5,1,none⟩=some (.int .i64 0)∧w'.cell? ⟨g5,2,none⟩=some (.int .i64 0)∧w'.cell? ⟨g5,3,none⟩=some (.slice none 0 0)∧w'.cell? ⟨g5,4,none⟩=some (.int .i64 0)) ∧
  JQ w0 P n xs b9 b10 b11 true v9 v10 v11 (((((w'.setCell ⟨g5,0,none⟩ (.int .i64 0)).setCell ⟨g5,1,none⟩ (.int .i64 0)).setCell ⟨g5,2,none⟩ (.int .i64 0)).setCell ⟨g5,3,none⟩ (.slice A n c)).setCell ⟨g5,4,none⟩ (.int .i64 0)):=by
 obtain ⟨A,c,g5,h⟩:=h
 subst l9 l10 l11 n12
 have H:=h.hp
 refine ⟨A,c,g5,h.q10 rfl rfl,h.p11 rfl,fun i _=>H.frozen 0 i rfl,⟨H.cell 0 0 rfl rfl,H.cell 0 1 rfl rfl,H.cell 0 2 rfl rfl,H.cell 0 3 rfl rfl,H.cell 0 4 rfl rfl⟩,A,c,g5,h.q9,h.q10,h.p11,?_⟩
 exact ((((H.set 0 0 (.int .i64 0) rfl).set 0 1 (.int .i64 0) rfl).set 0 2 (.int .i64 0) rfl).set 0 3 (.slice A n c) rfl).set 0 4 (.int .i64 0) rfl
theorem JQ.done (h:JQ w0 P n xs b9 b10 b11 b12 v9 v10 v11 w') (l9:b9=true) (l11:b11=true) (l12:b12=true):∃ A c g5,v11=.pointer (some ⟨g5,0,none⟩)∧Hp w0 w' (.box g5 44 [.int .i64 0,.int .i64 0,.int .i64 0,.slice A n c,.int .i64 0]::.own (.slice A n c) 41 2 n xs::P):=by
 obtain ⟨A,c,g5,h⟩:=h
 subst l9 l11 l12
 refine ⟨A,c,g5,h.p11 rfl,?_⟩
 have H:Hp w0 w' (.box g5 44 [.int .i64 0,.int .i64 0,.int .i64 0,.slice A n c,.int .i64 0]::(P++[.own (.slice A n c) 41 2 n xs])):=h.hp
 exact H.perm (.cons _ List.perm_append_comm)
end
theorem hask_any (mods0:List BMod) (bh:Nat) (s:HIn) (h:BHouse) (his:HIs s h) (hr:HouseR mods0 h) (x:DIn) (db od:Nat) (w0 w:World) (E:List Ent) (H:Hp w0 w (hoE bh s++E)) (hdb:db<w0.heap.size) (hd:DoAt w0 db od x) :
  Calls Tryz.prog 62 #[.pointer (some ⟨bh,0,none⟩),.pointer (some ⟨db,od,none⟩)] w fun e w'=>∃ A c,e=.returned (ansVal (askV h x.d).err 0 0 A (askV h x.d).bs.length c (askV h x.d).n)∧Hp w0 w' (aoE A c (askV h x.d).bs::(hoE bh s++E)):=by
 have hrw:=Lib.hid hr.W
 have htabs:=Lib.hid his.tabs
 have hgens:Hid (RightW h.W.rows s.gens):=Lib.hid (by rw [his.gens];exact hr.W)
 obtain ⟨c0,c1,c2,c3,c4,c5,c6,c7,c8,c9,c10,c11⟩:=hd
 have hV:Hid (askV h x.d=if (!isSet x.d.fa || !isSet x.d.fn || !isPart x.d.part)=true then ansE 3 else ⟨0,0,0,(matchV x.d.fa x.d.fn h.W.rows).map beOf,sumV x.d.part h.W.rows (matchV x.d.fa x.d.fn h.W.rows)⟩):=Lib.hid rfl
 generalize askV h x.d=V at *
 have H0:=H.newL w.heap.size rfl 44 [.int .i64 0,.int .i64 0,.int .i64 0,.slice none 0 0,.int .i64 0]
 have hH0:=Lib.hid H0
 clear H H0 c0 c1 c3 c4 c5 c6 c7 c8 c9
 go_enter Tryz.func62,Tryz.ntmps62
 go_upto_region 1 with fail
 obtain ⟨w1,hw1,H0⟩:=hH0.out.name
 rw [hw1]
 obtain ⟨ga,hga⟩:∃ ga,ga=w.heap.size:=⟨_,rfl⟩
 rw [← hga] at H0 ⊢
 clear hw1 hH0 hga
 have b2:=(H0.bel.cell (p:=⟨db,od+2,none⟩) hdb).trans c2;have b10:=(H0.bel.cell (p:=⟨db,od+10,none⟩) hdb).trans c10;have b11:=(H0.bel.cell (p:=⟨db,od+11,none⟩) hdb).trans c11
 have hH0:=Lib.hid H0
 clear H0
 generalize hfa:x.d.fa=fa at *
 generalize hfn:x.d.fn=fn at *
 generalize hpt:x.d.part=part at *
 clear hfa hfn hpt
 have s1:=set_any fa w1;have s2:=set_any fn w1;have s3:=part_any part w1
 cases h1:isSet fa with
 | false=>
  have hE:Hid (V=ansE 3):=Lib.hid (by rw [hV.out,h1];rfl)
  rw [h1] at s1
  have sh1:=Lib.hid s1
  have H1:=hH0.out
  have z0:=H1.frozen 0 0 rfl;have z1:=H1.frozen 0 1 rfl;have z2:=H1.frozen 0 2 rfl;have z3:=H1.frozen 0 3 rfl;have z4:=H1.frozen 0 4 rfl
  have d0:=H1.cell 0 0 rfl rfl;have d1:=H1.cell 0 1 rfl rfl;have d2:=H1.cell 0 2 rfl rfl;have d3:=H1.cell 0 3 rfl rfl;have d4:=H1.cell 0 4 rfl rfl
  have H2:=((((H1.set 0 0 (.int .i64 3) rfl).set 0 1 (.int .i64 0) rfl).set 0 2 (.int .i64 0) rfl).set 0 3 (.slice none 0 0) rfl).set 0 4 (.int .i64 0) rfl
  have r0:=H2.cell 0 0 rfl rfl;have r1:=H2.cell 0 1 rfl rfl;have r2:=H2.cell 0 2 rfl rfl;have r3:=H2.cell 0 3 rfl rfl;have r4:=H2.cell 0 4 rfl rfl
  have hH2:=Lib.hid H2
  clear H1 H2 hV s1 s2 s3
  go_wp2_with fail
  refine sh1.out.mono ?_
  rintro e w2 ⟨rfl,rfl⟩
  go_wp2_with fail
  refine bodyPost_ret (v:=ansVal 3 0 0 none 0 0 0) (by simp [results,Tryz.results62,go_sem,r0,r1,r2,r3,r4,ansVal]) rfl ⟨none,0,by rw [hE.out];rfl,by rw [hE.out];exact aoE_none (hH2.out.drop1 0)⟩
 | true=>
  cases h2:isSet fn with
  | false=>
   have hE:Hid (V=ansE 3):=Lib.hid (by rw [hV.out,h1,h2];rfl)
   rw [h1] at s1;rw [h2] at s2
   have sh1:=Lib.hid s1
   have sh2:=Lib.hid s2
   have H1:=hH0.out
   have z0:=H1.frozen 0 0 rfl;have z1:=H1.frozen 0 1 rfl;have z2:=H1.frozen 0 2 rfl;have z3:=H1.frozen 0 3 rfl;have z4:=H1.frozen 0 4 rfl
   have d0:=H1.cell 0 0 rfl rfl;have d1:=H1.cell 0 1 rfl rfl;have d2:=H1.cell 0 2 rfl rfl;have d3:=H1.cell 0 3 rfl rfl;have d4:=H1.cell 0 4 rfl rfl
   have H2:=((((H1.set 0 0 (.int .i64 3) rfl).set 0 1 (.int .i64 0) rfl).set 0 2 (.int .i64 0) rfl).set 0 3 (.slice none 0 0) rfl).set 0 4 (.int .i64 0) rfl
   have r0:=H2.cell 0 0 rfl rfl;have r1:=H2.cell 0 1 rfl rfl;have r2:=H2.cell 0 2 rfl rfl;have r3:=H2.cell 0 3 rfl rfl;have r4:=H2.cell 0 4 rfl rfl
   have hH2:=Lib.hid H2
   clear H1 H2 hV s1 s2 s3
   go_wp2_with fail
   refine sh1.out.mono ?_
   rintro e w2 ⟨rfl,rfl⟩
   go_wp2_with fail
   refine sh2.out.mono ?_
   rintro e w2 ⟨rfl,rfl⟩
   go_wp2_with fail
   refine bodyPost_ret (v:=ansVal 3 0 0 none 0 0 0) (by simp [results,Tryz.results62,go_sem,r0,r1,r2,r3,r4,ansVal]) rfl ⟨none,0,by rw [hE.out];rfl,by rw [hE.out];exact aoE_none (hH2.out.drop1 0)⟩
  | true=>
   cases h3:isPart part with
   | false=>
    have hE:Hid (V=ansE 3):=Lib.hid (by rw [hV.out,h1,h2,h3];rfl)
    rw [h1] at s1;rw [h2] at s2;rw [h3] at s3
    have sh1:=Lib.hid s1
    have sh2:=Lib.hid s2
    have sh3:=Lib.hid s3
    have H1:=hH0.out
    have z0:=H1.frozen 0 0 rfl;have z1:=H1.frozen 0 1 rfl;have z2:=H1.frozen 0 2 rfl;have z3:=H1.frozen 0 3 rfl;have z4:=H1.frozen 0 4 rfl
    have d0:=H1.cell 0 0 rfl rfl;have d1:=H1.cell 0 1 rfl rfl;have d2:=H1.cell 0 2 rfl rfl;have d3:=H1.cell 0 3 rfl rfl;have d4:=H1.cell 0 4 rfl rfl
    have H2:=((((H1.set 0 0 (.int .i64 3) rfl).set 0 1 (.int .i64 0) rfl).set 0 2 (.int .i64 0) rfl).set 0 3 (.slice none 0 0) rfl).set 0 4 (.int .i64 0) rfl
    have r0:=H2.cell 0 0 rfl rfl;have r1:=H2.cell 0 1 rfl rfl;have r2:=H2.cell 0 2 rfl rfl;have r3:=H2.cell 0 3 rfl rfl;have r4:=H2.cell 0 4 rfl rfl
    have hH2:=Lib.hid H2
    clear H1 H2 hV s1 s2 s3
    go_wp2_with fail
    refine sh1.out.mono ?_
    rintro e w2 ⟨rfl,rfl⟩
    go_wp2_with fail
    refine sh2.out.mono ?_
    rintro e w2 ⟨rfl,rfl⟩
    go_wp2_with fail
    refine sh3.out.mono ?_
    rintro e w2 ⟨rfl,rfl⟩
    go_wp2_with fail
    refine bodyPost_ret (v:=ansVal 3 0 0 none 0 0 0) (by simp [results,Tryz.results62,go_sem,r0,r1,r2,r3,r4,ansVal]) rfl ⟨none,0,by rw [hE.out];rfl,by rw [hE.out];exact aoE_none (hH2.out.drop1 0)⟩
   | true=>
    have hE:Hid (V=⟨0,0,0,(matchV fa fn h.W.rows).map beOf,sumV part h.W.rows (matchV fa fn h.W.rows)⟩):=Lib.hid (by rw [hV.out,h1,h2,h3];rfl)
    rw [h1] at s1;rw [h2] at s2;rw [h3] at s3
    have sh1:=Lib.hid s1;have sh2:=Lib.hid s2;have sh3:=Lib.hid s3
    clear s1 s2 s3 hV
    go_wp2_with fail
    refine sh1.out.mono ?_
    rintro e w2 ⟨rfl,rfl⟩
    go_wp2_with fail
    refine sh2.out.mono ?_
    rintro e w2 ⟨rfl,rfl⟩
    go_wp2_with fail
    refine sh3.out.mono ?_
    rintro e w2 ⟨rfl,rfl⟩
    go_upto_region 3 with fail
    clear sh1 sh2 sh3 b2 b10 b11
    go_cut [5] (fun s5 wx=>∃ (g5:Nat) (A:Option Addr) (c:Nat),s5=.pointer (some ⟨g5,0,none⟩)∧Hp w0 wx (.box g5 44 [.int .i64 0,.int .i64 0,.int .i64 0,.slice A (matchV fa fn h.W.rows).length c,.int .i64 0]::.own (.slice A (matchV fa fn h.W.rows).length c) 41 2 (matchV fa fn h.W.rows).length ((matchV fa fn h.W.rows).flatMap beCells)::.box ga 44 [.int .i64 0,.int .i64 0,.int .i64 0,.slice none 0 0,.int .i64 0]::(hoE bh s++E)))
    case first=>
     refine wp_region_mx mixed (by kernel_rfl) (by kernel_rfl) (fun q=>!(q==9) && !(q==10) && !(q==11)) (tab [.pointer (some ⟨bh,0,none⟩),.pointer (some ⟨bh,0,none⟩),.pointer (some ⟨bh,0,none⟩),.pointer (some ⟨bh,0,none⟩),.agg #[.slice s.A s.l.length s.c,.slice s.Ag s.gens.length s.cg],.pointer (some ⟨db,od,none⟩),.pointer (some ⟨db,od,none⟩),.pointer (some ⟨db,od+10,none⟩),.agg #[.int .i64 fa,.int .i64 fn],undef,undef,undef,undef]) (fun l vs w'=>JQ w0 (.box ga 44 [.int .i64 0,.int .i64 0,.int .i64 0,.slice none 0 0,.int .i64 0]::(hoE bh s++E)) (matchV fa fn h.W.rows).length ((matchV fa fn h.W.rows).flatMap beCells) (l 9) (l 10) (l 11) (l 12) (vs 9) (vs 10) (vs 11) w') ?_ ?_ ?_
     ·exact JQ.start hH0.out.drew
     ·intro vs w' l1 hJ hl
      rw [putAll_tab _ _ _ _ [(some 35,.pointer (some ⟨bh,0,none⟩)),(some 36,.pointer (some ⟨bh,0,none⟩)),(some 37,.pointer (some ⟨bh,0,none⟩)),(some 38,.pointer (some ⟨bh,0,none⟩)),(some 39,.agg #[.slice s.A s.l.length s.c,.slice s.Ag s.gens.length s.cg]),(some 40,.pointer (some ⟨db,od,none⟩)),(some 41,.pointer (some ⟨db,od,none⟩)),(some 42,.pointer (some ⟨db,od+10,none⟩)),(some 43,.agg #[.int .i64 fa,.int .i64 fn]),(some 44,vs 9),(some 45,vs 10),(some 5,vs 11),(none,undef)] rfl]
      simp only [putL_eq,putT,List.set_cons_succ,List.set_cons_zero]
      obtain ⟨A,c,g5,hv11,HF⟩:=hJ.done (hl 9 (by decide)) (hl 11 (by decide)) (hl 12 (by decide))
      rw [hv11]
      have hF:=Lib.hid HF
      clear hJ hl hv11 HF
      go_wp2_with fail
      go_meet
      exact ⟨g5,A,c,rfl,hF.out⟩
     ·intro qq op ho l vs act w' hJ hsh hli hd hv hwas K hK
      have hiq:qq<13:=lt_of_some ho
      have s0_:=hwas 0 rfl
      have s1_:=hwas 1 rfl
      simp at s0_ s1_
      match qq,hiq,ho,hli,hK with
      | 0,_,ho,hli,hK=>
       obtain rfl:=sj ho
       clear hv hwas
       go_simp
       exact hK _ _ (fun _=>rfl) hJ
      | 1,_,ho,hli,hK=>
       obtain rfl:=sj ho
       have x35:act.tmps[35]?.getD undef=.pointer (some ⟨bh,0,none⟩):=hv 0 35 rfl (rb hd rfl)
       clear hv hwas
       go_simp
       exact hK _ _ (fun _=>rfl) hJ
      | 2,_,ho,hli,hK=>
       obtain rfl:=sj ho
       have x36:act.tmps[36]?.getD undef=.pointer (some ⟨bh,0,none⟩):=hv 1 36 rfl (rb hd rfl)
       clear hv hwas
       go_simp
       exact hK _ _ (fun _=>rfl) hJ
      | 3,_,ho,hli,hK=>
       obtain rfl:=sj ho
       have x37:act.tmps[37]?.getD undef=.pointer (some ⟨bh,0,none⟩):=hv 2 37 rfl (rb hd rfl)
       clear hv hwas
       go_simp
       exact hK _ _ (fun _=>rfl) hJ
      | 4,_,ho,hli,hK=>
       obtain rfl:=sj ho
       have x38:act.tmps[38]?.getD undef=.pointer (some ⟨bh,0,none⟩):=hv 3 38 rfl (rb hd rfl)
       have hB:=hJ.mem (s.box bh) (by unfold hoE;simp)
       have r0:=hB.2.cell 0;have r1:=hB.2.cell 1
       simp only [List.getElem?_toArray,List.getElem?_cons_zero,List.getElem?_cons_succ] at r0 r1
       clear hB
       clear hv hwas
       go_simp
       exact hK _ _ (fun _=>rfl) hJ
      | 5,_,ho,hli,hK=>
       obtain rfl:=sj ho
       clear hv hwas
       go_simp
       exact hK _ _ (fun _=>rfl) hJ
      | 6,_,ho,hli,hK=>
       obtain rfl:=sj ho
       have x40:act.tmps[40]?.getD undef=.pointer (some ⟨db,od,none⟩):=hv 5 40 rfl (rb hd rfl)
       clear hv hwas
       go_simp
       exact hK _ _ (fun _=>rfl) hJ
      | 7,_,ho,hli,hK=>
       obtain rfl:=sj ho
       have x41:act.tmps[41]?.getD undef=.pointer (some ⟨db,od,none⟩):=hv 6 41 rfl (rb hd rfl)
       clear hv hwas
       go_simp
       exact hK _ _ (fun _=>rfl) hJ
      | 8,_,ho,hli,hK=>
       obtain rfl:=sj ho
       have x42:act.tmps[42]?.getD undef=.pointer (some ⟨db,od+10,none⟩):=hv 7 42 rfl (rb hd rfl)
       have b10:=(hJ.bel.cell (p:=⟨db,od+10,none⟩) hdb).trans c10;have b11:=(hJ.bel.cell (p:=⟨db,od+11,none⟩) hdb).trans c11
       clear hv hwas
       go_simp
       exact hK _ _ (fun _=>rfl) hJ
      | 9,_,ho,hli,hK=>
       obtain rfl:=sj ho
       have x39:act.tmps[39]?.getD undef=.agg #[.slice s.A s.l.length s.c,.slice s.Ag s.gens.length s.cg]:=hv 4 39 rfl (rb hd rfl)
       have x43:act.tmps[43]?.getD undef=.agg #[.int .i64 fa,.int .i64 fn]:=hv 8 43 rfl (rb hd rfl)
       have n10:=hsh.not (i:=10) (j:=9) (by rfl) hli
       have n12:=hsh.not (i:=12) (j:=10) (by rfl) n10
       have hSt:=hJ.st (bh:=bh) (s:=s) (fun p hp=>by simp [hp])
       clear hv hwas
       go_simp
       refine (smatch_any s.l s.A s.c s.gens s.Ag s.cg h.W.rows hgens.out htabs.out fa fn h1 h2 w' hSt).mono ?_
       rintro e w4 ⟨⟨A,c,rfl,hown⟩,hb4⟩
       exact hK _ _ (fun h=>by cases h) (hJ.call hli n10 n12 hown hb4)
      | 10,_,ho,hli,hK=>
       obtain rfl:=sj ho
       have x44:act.tmps[44]?.getD undef=vs 9:=hv 9 44 rfl (rb hd rfl)
       have l9:l 9=true:=by simp [Region.binds] at hd;simp [hd]
       obtain ⟨A,c,hv9⟩:=hJ.at9 l9
       rw [hv9] at x44
       clear hv hwas
       go_simp
       exact hK _ _ (fun h=>by cases h) (hJ.ext l9 hv9)
      | 11,_,ho,hli,hK=>
       obtain rfl:=sj ho
       have n12:=hsh.not (i:=12) (j:=11) (by rfl) hli
       clear hv hwas
       go_simp
       exact hK _ _ (fun h=>by cases h) (hJ.al hli n12)
      | 12,_,ho,hli,hK=>
       obtain rfl:=sj ho
       have x5:act.tmps[5]?.getD undef=vs 11:=hv 11 5 rfl (rb hd rfl)
       have x45:act.tmps[45]?.getD undef=vs 10:=hv 10 45 rfl (rb hd rfl)
       have l10:l 10=true:=by simp [Region.binds] at hd;simp [hd]
       have l11:l 11=true:=by simp [Region.binds] at hd;simp [hd]
       have l9:l 9=true:=hsh 10 9 (by rfl) l10
       obtain ⟨A,c,g5,hv10,hv11,hz,⟨d0,d1,d2,d3,d4⟩,hQ⟩:=hJ.put l9 l10 l11 hli
       rw [hv10] at x45;rw [hv11] at x5
       have z0:=hz 0 (by decide);have z1:=hz 1 (by decide);have z2:=hz 2 (by decide);have z3:=hz 3 (by decide);have z4:=hz 4 (by decide)
       clear hv hwas hz
       go_simp
       exact hK _ _ (fun _=>rfl) hQ
    case rest=>
    obtain ⟨g5,A,c,rfl,H1⟩:=hcut
    obtain ⟨w3,hw3⟩:∃ w3,w3=wc:=⟨_,rfl⟩
    rw [← hw3] at H1 ⊢
    clear hw3 hH0
    have hmem:Hid (∀ b∈matchV fa fn h.W.rows,b∈h.W.rows):=Lib.hid (fun b hb=>(List.mem_filter.1 hb).1)
    have hml:(matchV fa fn h.W.rows).length≤60:=by
     have h1:=List.length_filter_le (fun r:BRow=>meetsB fa fn r.has) h.W.rows
     have h2:=hrw.out.rows_le
     have h3:=hrw.out.len
     unfold matchV
     omega
    generalize matchV fa fn h.W.rows=M at *
    have g3:=H1.cell 0 3 rfl rfl
    have hH1:=Lib.hid H1
    clear H1 h1 h2
    go_wp2_with fail
    go_loopw [49] (fun q wr=>∃ k:Nat,k≤M.length∧q=.int .i64 k∧Hp w0 wr (.box g5 44 [.int .i64 0,.int .i64 0,.int .i64 0,.slice A M.length c,.int .i64 (sumV part h.W.rows (M.take k))]::.own (.slice A M.length c) 41 2 M.length (M.flatMap beCells)::.box ga 44 [.int .i64 0,.int .i64 0,.int .i64 0,.slice none 0 0,.int .i64 0]::(hoE bh s++E))) (fun q _=>M.length-(intOf q).toNat)
    case atStart=>exact ⟨0,by omega,rfl,hH1.out⟩
    case round=>
     clear hH1 g3
     obtain ⟨k,hk,rfl,H⟩:=hrel
     by_cases hlt:k<M.length
     ·have hRb:RdB wr wr.heap.size A M:=H.rd 1 rfl
      obtain ⟨b2,off2,rfl,hb2,e0,e1⟩:=hRb.at_ hlt
      have hst:Hid (sumV part h.W.rows (M.take (k+1))=sumV part h.W.rows (M.take k)+(getP M[k].idx M[k].gen h.W.rows part).1):=Lib.hid (by rw [← List.take_append_getElem hlt,sumV_snoc])
      have hS:=sumV_bound hrw.out (part:=part) h3 (M.take k)
      have hG:=getP_bound hrw.out (i:=M[k].idx) (g:=M[k].gen) (part:=part) h3
      rw [List.length_take] at hS
      have hget:=Lib.hid (fun (w':World) hR=>sget_any s.l s.A s.c s.gens s.Ag s.cg h.W.rows hgens.out htabs.out M[k].idx M[k].gen part w' hR)
      generalize getP M[k].idx M[k].gen h.W.rows part=G at *
      generalize M[k].idx=bi at *
      generalize M[k].gen=bg at *
      generalize sumV part h.W.rows (M.take k)=S at *
      obtain ⟨G1,G2⟩:=G
      dsimp only at hG hst hget
      have hw:IntKind.i64.wrap (S+G1)=S+G1:=by rw [IntKind.wrap_i64];omega
      have g3:=H.cell 0 3 rfl rfl
      have i0:(0:Int)≤(k:Int):=by omega
      have i1:(k:Int)<(M.length:Int):=by omega
      have H1:=H.newL wr.heap.size rfl 41 [.int .i64 bi,.int .i64 bg]
      have hH1:=Lib.hid H1
      clear H H1 hRb hS hG
      go_upto_region 7 with fail
      obtain ⟨w5,hw5,H1⟩:=hH1.out.name
      rw [hw5]
      obtain ⟨g7,hg7⟩:∃ g7,g7=wr.heap.size:=⟨_,rfl⟩
      rw [← hg7] at H1 ⊢
      clear hw5 hH1 hg7 e0 e1 g3
      have hbh:=H1.lt 4 rfl
      have hg7l:=H1.lt 0 rfl
      have hdb5:db<w5.heap.size:=Nat.lt_of_lt_of_le hdb H1.bel.size
      have q0:=H1.cell 4 0 rfl rfl;have q1:=H1.cell 4 1 rfl rfl
      have y0:=H1.cell 0 0 rfl rfl;have y1:=H1.cell 0 1 rfl rfl
      have p2:=(H1.bel.cell (p:=⟨db,od+2,none⟩) hdb).trans c2
      have hSt:=Lib.hid (H1.hoSt (hb:=bh) (s:=s) (fun p hp=>by simp [hp]))
      have hH1:=Lib.hid H1
      clear H1
      go_cut [8] (fun s8 wx=>s8=.int .i64 G1∧Below w5.heap.size w5 wx)
      case first=>
       refine wp_region_pred mixed (by kernel_rfl) (by kernel_rfl) (fun _=>true) (fun j w' v=>v=tab [.pointer (some ⟨bh,0,none⟩),.pointer (some ⟨bh,0,none⟩),.pointer (some ⟨bh,0,none⟩),.pointer (some ⟨bh,0,none⟩),.agg #[.slice s.A s.l.length s.c,.slice s.Ag s.gens.length s.cg],.agg #[.int .i64 bi,.int .i64 bg],.pointer (some ⟨db,od,none⟩),.pointer (some ⟨db,od,none⟩),.pointer (some ⟨db,od+2,none⟩),.int .i64 part,.tuple #[.int .i64 G1,.bool G2],.tuple #[.int .i64 G1,.bool G2],.int .i64 G1,.bool G2,.int .i64 G1,.bool G2] j) ?_ ?_ ?_ ?_ ?_
       ·intro j w' w'' v h hb;exact h
       ·intro q op ho
        have hi:q<16:=lt_of_some ho
        match q,hi,ho with
        | 0,_,ho | 1,_,ho | 2,_,ho | 3,_,ho | 4,_,ho | 5,_,ho | 6,_,ho | 7,_,ho | 8,_,ho | 9,_,ho | 10,_,ho | 11,_,ho | 12,_,ho | 13,_,ho | 14,_,ho | 15,_,ho=>
         obtain rfl:=sj ho
         rfl
       ·intro q w' h;cases h
       ·intro vs w' hb hv
        rw [putAll_tab _ _ _ _ [(some 54,vs 0),(some 55,vs 1),(some 56,vs 2),(some 57,vs 3),(some 58,vs 4),(some 59,vs 5),(some 60,vs 6),(some 61,vs 7),(some 62,vs 8),(some 63,vs 9),(some 64,vs 10),(some 53,vs 11),(some 65,vs 12),(some 66,vs 13),(some 8,vs 14),(some 9,vs 15)] rfl]
        simp only [putL_eq,putT,List.set_cons_succ,List.set_cons_zero]
        have hv14:vs 14=.int .i64 G1:=hv 14 (by decide)
        rw [hv14]
        have hb5:=Lib.hid hb
        clear hv hb hv14 q0 q1 y0 y1 p2
        go_wp2_with fail
        go_meet
        exact ⟨rfl,hb5.out⟩
       ·intro q op ho hG act w' hb hv hwas K hK
        have e0:=hwas 0 rfl
        have e1:=hwas 1 rfl
        have e7:=hwas 7 rfl
        simp at e0 e1 e7
        have x0:=(hb.cell (p:=⟨bh,0,none⟩) hbh).trans q0;have x1:=(hb.cell (p:=⟨bh,1,none⟩) hbh).trans q1
        have x2:=(hb.cell (p:=⟨g7,0,none⟩) hg7l).trans y0;have x3:=(hb.cell (p:=⟨g7,1,none⟩) hg7l).trans y1;have x4:=(hb.cell (p:=⟨db,od+2,none⟩) hdb5).trans p2
        have hi:q<16:=lt_of_some ho
        match q,hi,ho,hG,hK,hv with
        | 0,_,ho,hG,hK,hv=>
         obtain rfl:=sj ho
         clear hv hwas
         go_simp
         exact hK _ _ (Below.refl _ _) rfl
        | 1,_,ho,hG,hK,hv=>
         obtain rfl:=sj ho
         have x54:act.tmps[54]?.getD undef=.pointer (some ⟨bh,0,none⟩):=hv 0 54 rfl rfl
         clear hv hwas
         go_simp
         exact hK _ _ (Below.refl _ _) rfl
        | 2,_,ho,hG,hK,hv=>
         obtain rfl:=sj ho
         have x55:act.tmps[55]?.getD undef=.pointer (some ⟨bh,0,none⟩):=hv 1 55 rfl rfl
         clear hv hwas
         go_simp
         exact hK _ _ (Below.refl _ _) rfl
        | 3,_,ho,hG,hK,hv=>
         obtain rfl:=sj ho
         have x56:act.tmps[56]?.getD undef=.pointer (some ⟨bh,0,none⟩):=hv 2 56 rfl rfl
         clear hv hwas
         go_simp
         exact hK _ _ (Below.refl _ _) rfl
        | 4,_,ho,hG,hK,hv=>
         obtain rfl:=sj ho
         have x57:act.tmps[57]?.getD undef=.pointer (some ⟨bh,0,none⟩):=hv 3 57 rfl rfl
         clear hv hwas
         go_simp
         exact hK _ _ (Below.refl _ _) rfl
        | 5,_,ho,hG,hK,hv=>
         obtain rfl:=sj ho
         clear hv hwas
         go_simp
         exact hK _ _ (Below.refl _ _) rfl
        | 6,_,ho,hG,hK,hv=>
         obtain rfl:=sj ho
         clear hv hwas
         go_simp
         exact hK _ _ (Below.refl _ _) rfl
        | 7,_,ho,hG,hK,hv=>
         obtain rfl:=sj ho
         have x60:act.tmps[60]?.getD undef=.pointer (some ⟨db,od,none⟩):=hv 6 60 rfl rfl
         clear hv hwas
         go_simp
         exact hK _ _ (Below.refl _ _) rfl
        | 8,_,ho,hG,hK,hv=>
         obtain rfl:=sj ho
         have x61:act.tmps[61]?.getD undef=.pointer (some ⟨db,od,none⟩):=hv 7 61 rfl rfl
         clear hv hwas
         go_simp
         exact hK _ _ (Below.refl _ _) rfl
        | 9,_,ho,hG,hK,hv=>
         obtain rfl:=sj ho
         have x62:act.tmps[62]?.getD undef=.pointer (some ⟨db,od+2,none⟩):=hv 8 62 rfl rfl
         clear hv hwas
         go_simp
         exact hK _ _ (Below.refl _ _) rfl
        | 10,_,ho,hG,hK,hv=>
         obtain rfl:=sj ho
         have x58:act.tmps[58]?.getD undef=.agg #[.slice s.A s.l.length s.c,.slice s.Ag s.gens.length s.cg]:=hv 4 58 rfl rfl
         have x59:act.tmps[59]?.getD undef=.agg #[.int .i64 bi,.int .i64 bg]:=hv 5 59 rfl rfl
         have x63:act.tmps[63]?.getD undef=.int .i64 part:=hv 9 63 rfl rfl
         clear hv hwas
         go_simp
         refine (hget.out w' (hSt.out.grow hb)).mono ?_
         rintro e w'' ⟨rfl,hb''⟩
         exact hK _ _ hb'' rfl
        | 11,_,ho,hG,hK,hv=>
         obtain rfl:=sj ho
         have x64:act.tmps[64]?.getD undef=.tuple #[.int .i64 G1,.bool G2]:=hv 10 64 rfl rfl
         clear hv hwas
         go_simp
         exact hK _ _ (Below.refl _ _) rfl
        | 12,_,ho,hG,hK,hv=>
         obtain rfl:=sj ho
         have x53:act.tmps[53]?.getD undef=.tuple #[.int .i64 G1,.bool G2]:=hv 11 53 rfl rfl
         clear hv hwas
         go_simp
         exact hK _ _ (Below.refl _ _) rfl
        | 13,_,ho,hG,hK,hv=>
         obtain rfl:=sj ho
         have x53:act.tmps[53]?.getD undef=.tuple #[.int .i64 G1,.bool G2]:=hv 11 53 rfl rfl
         clear hv hwas
         go_simp
         exact hK _ _ (Below.refl _ _) rfl
        | 14,_,ho,hG,hK,hv=>
         obtain rfl:=sj ho
         have x65:act.tmps[65]?.getD undef=.int .i64 G1:=hv 12 65 rfl rfl
         clear hv hwas
         go_simp
         exact hK _ _ (Below.refl _ _) rfl
        | 15,_,ho,hG,hK,hv=>
         obtain rfl:=sj ho
         have x66:act.tmps[66]?.getD undef=.bool G2:=hv 13 66 rfl rfl
         clear hv hwas
         go_simp
         exact hK _ _ (Below.refl _ _) rfl
      case rest=>
      obtain ⟨rfl,hb5⟩:=hcut
      have H2:=hH1.out.grow hb5
      obtain ⟨w6,hw6⟩:∃ w6,w6=wc:=⟨_,rfl⟩
      rw [← hw6] at H2 ⊢
      clear hw6 hb5 hH1 hSt q0 q1 y0 y1 p2
      have g4:=H2.cell 1 4 rfl rfl;have z4:=H2.frozen 1 4 rfl
      have H3:=H2.set 1 4 (.int .i64 (S+G1)) rfl
      have hH3:=Lib.hid H3
      clear H2 H3 hget
      go_wp2_with fail
      go_roundw
      case rel=>exact ⟨k+1,by omega,by go_num,by rw [hst.out];exact hH3.out.drop1 0⟩
      case measure=>simp [intOf];omega
     ·obtain rfl:k=M.length:=by omega
      rw [List.take_length] at H
      have g3:=H.cell 0 3 rfl rfl;have g0:=H.cell 0 0 rfl rfl;have g1:=H.cell 0 1 rfl rfl;have g2:=H.cell 0 2 rfl rfl;have g4:=H.cell 0 4 rfl rfl
      have z0:=H.frozen 2 0 rfl;have z1:=H.frozen 2 1 rfl;have z2:=H.frozen 2 2 rfl;have z3:=H.frozen 2 3 rfl;have z4:=H.frozen 2 4 rfl
      have d0:=H.cell 2 0 rfl rfl;have d1:=H.cell 2 1 rfl rfl;have d2:=H.cell 2 2 rfl rfl;have d3:=H.cell 2 3 rfl rfl;have d4:=H.cell 2 4 rfl rfl
      have H2:=((((H.set 2 0 (.int .i64 0) rfl).set 2 1 (.int .i64 0) rfl).set 2 2 (.int .i64 0) rfl).set 2 3 (.slice A M.length c) rfl).set 2 4 (.int .i64 (sumV part h.W.rows M)) rfl
      have r0:=H2.cell 2 0 rfl rfl;have r1:=H2.cell 2 1 rfl rfl;have r2:=H2.cell 2 2 rfl rfl;have r3:=H2.cell 2 3 rfl rfl;have r4:=H2.cell 2 4 rfl rfl
      have hH2:=Lib.hid H2
      clear H H2
      go_wp2_with fail
      refine bodyPost_ret (v:=ansVal 0 0 0 A M.length c (sumV part h.W.rows M)) (by simp [results,Tryz.results62,go_sem,r0,r1,r2,r3,r4,ansVal]) rfl ⟨A,c,by rw [hE.out];simp,?_⟩
      rw [hE.out]
      have HB:Hp w0 _ (.own (.slice A M.length c) 41 2 M.length (M.flatMap beCells)::(hoE bh s++E)):=(hH2.out.drop1 0).drop1 1
      unfold aoE
      dsimp only
      rw [be_pairs,List.length_map]
      exact HB
end Go.Proofs.YtefdblaolmckmacGreat
