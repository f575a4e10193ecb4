/- Lemmas of the proof. -/
import Derived.Test.YtefdblaolmckmabGreatRBRef2AToAppOp
import Derived.Test.YtefdblaolmckmabGreatRBPosKToInsB
import Derived.Test.YtefdblaolmckmabGreatRBSortTBToRefW
import Derived.Test.YtefdblaolmckmabGreatRBInsIToMx
import Derived.Test.YtefdblaolmckmabGreatRBSortTRToStoO
import Derived.Test.YtefdblaolmckmabGreatRBStoFToPlainM
set_option linter.unusedVariables false
set_option linter.unusedSimpArgs false
set_option maxRecDepth 100000
set_option maxHeartbeats 12800000
namespace Go.Proofs.YtefdblaolmckmabGreat
open Go.RowKit
open Brood
def rofE (b:Nat) (Ar:Option Addr) (n cr:Nat) (Ag:Option Addr) (m cg:Nat) (A:Option Addr) (c:Nat) (l:List TabIn):List Ent:=
 .box b 64 [.slice Ar n cr,.slice Ag m cg]::.box (b+1) 40 [.slice none 0 0,.slice none 0 0]::.box (b+1+1) 40 [.slice A l.length c,.slice Ag m cg]::outE A c l::l.flatMap tabE
theorem made_own (w:World) (base n:Nat) (hb:base≤w.heap.size) (hn:n≤maxLen):(w.alloc (.cells (madeCells #[.slice none 0 0] n) 38)).ownsRow base 38 1 (.slice (some ⟨w.heap.size,0,none⟩) n n) n (List.replicate n (.slice none 0 0)):=by
 have hsz:(madeCells #[Value.slice none 0 0] n).size=n*1:=by rw [← Array.length_toList,toList_madeCells_one];simp
 have h:=World.ownsRow_lit (base:=base) (e:=38) (size:=1) w (madeCells #[.slice none 0 0] n) n hb hn hsz
 rw [toList_madeCells_one] at h
 exact h
def zcol:ColIn:=⟨none,0,[]⟩
theorem Hp.nilsC {w0 w:World} {E:List Ent} (h:Hp w0 w E):∀ n,Hp w0 w ((List.replicate n zcol).map colE++E)
 | 0=>h
 | n+1=>by
  have h1:=(Hp.nilsC h n).nil_ 3 1
  refine h1.perm ?_
  rw [List.replicate_succ,List.map_cons]
  exact List.perm_append_comm (l₂:=[_])
theorem Hp.madeC {w0 w:World} {E:List Ent} (h:Hp w0 w E) (n:Nat) (hn:n≤maxLen):Hp w0 (w.alloc (.cells (madeCells #[.slice none 0 0] n) 38)) (.own (.slice (some ⟨w.heap.size,0,none⟩) n n) 38 1 n ((List.replicate n zcol).map colV)::((List.replicate n zcol).map colE++E)):=by
 have h1:=(h.nilsC n).more (World.grownBy_alloc w _ _) (p:=.own (.slice (some ⟨w.heap.size,0,none⟩) n n) 38 1 n (List.replicate n (.slice none 0 0))) (made_own w w0.heap.size n h.bel.size hn) (fun g hg=>by
  have:w.heap.size=g:=by simpa [Ent.blk,Value.ownBlock] using hg
  omega)
 have e:(List.replicate n zcol).map colV=List.replicate n (.slice none 0 0):=by
  rw [List.map_replicate]
  rfl
 rw [e]
 exact h1
def ColJ (w0:World) (B:List Ent) (x:ColIn) (z:Int) (b12 b13:Bool) (v12 v13:Value) (w':World):Prop:=
 ∃ g,(b12=true→v12=.slice (some ⟨g,0,none⟩) 1 1)∧Hp w0 w' ((if b13 then .own v13 3 1 (x.zs.length+1) (ints (x.zs++[z])) else colE x)::((if b12 then [.box g 3 [.int .i64 z]] else [])++B))
section
variable {w0 w' w4:World} {B:List Ent} {x:ColIn} {z:Int} {b12 b13:Bool} {v12 v13:Value}
theorem ColJ.start (h:Hp w0 w' (colE x::B)):ColJ w0 B x z false false v12 v13 w':=⟨0,(fun h=>by cases h),h⟩
theorem ColJ.base (h:ColJ w0 B x z b12 b13 v12 v13 w'):Hp w0 w' B:=by
 obtain ⟨g,_,h⟩:=h
 exact h.sub ((List.sublist_append_right _ _).trans (List.sublist_cons_self _ _))
theorem ColJ.one (h:ColJ w0 B x z false b13 v12 v13 w'):ColJ w0 B x z true b13 (.slice (some ⟨w'.heap.size,0,none⟩) 1 1) v13 (w'.alloc (.cells #[.int .i64 z] 3)):=by
 obtain ⟨g,_,h⟩:=h
 refine ⟨w'.heap.size,fun _=>rfl,?_⟩
 exact (h.newL w'.heap.size rfl 3 [.int .i64 z]).perm (List.Perm.swap _ _ _)
theorem ColJ.own (h:ColJ w0 B x z b12 false v12 v13 w'):w'.ownsRow w0.heap.size 3 1 (colV x) x.zs.length (ints x.zs):=by
 obtain ⟨g,_,h⟩:=h
 exact h.owns 0 rfl
theorem ColJ.box (h:ColJ w0 B x z true b13 v12 v13 w'):∃ g,v12=.slice (some ⟨g,0,none⟩) 1 1∧Blk w' g 3 #[.int .i64 z]:=by
 obtain ⟨g,h1,h⟩:=h
 exact ⟨g,h1 rfl,(h.mem (k:=1) rfl).2⟩
theorem ColJ.app (h:ColJ w0 B x z b12 false v12 v13 w') {v:Value} (ho:w4.ownsRow w0.heap.size 3 1 v (x.zs.length+1) (ints x.zs++[.int .i64 z])) (hg:w'.grownBy w4 (colV x).ownBlock) (hat:v.ownBlock=(colV x).ownBlock∨v.ownBlock=some w'.heap.size):ColJ w0 B x z b12 true v12 v w4:=by
 obtain ⟨g,h1,h⟩:=h
 have e:ints (x.zs++[z])=ints x.zs++[.int .i64 z]:=by simp [ints]
 refine ⟨g,h1,?_⟩
 rw [e]
 exact h.app 0 rfl hg ho (hat.imp id (fun e g hg=>by rw [e] at hg;injection hg with hg;exact Nat.le_of_eq hg))
theorem ColJ.last (h:ColJ w0 B x z true true v12 v13 w'):∃ g,v12=.slice (some ⟨g,0,none⟩) 1 1∧Hp w0 w' (.own v13 3 1 (x.zs.length+1) (ints (x.zs++[z]))::.box g 3 [.int .i64 z]::B):=by
 obtain ⟨g,h1,h⟩:=h
 exact ⟨g,h1 rfl,h⟩
theorem ColJ.own13 (h:ColJ w0 B x z b12 true v12 v13 w'):w'.ownsRow w0.heap.size 3 1 v13 (x.zs.length+1) (ints (x.zs++[z])):=by
 obtain ⟨g,h1,h⟩:=h
 exact h.owns 0 rfl
theorem ColJ.fin {e0 e1 e2 e3:Ent} {hd:Value} {n j:Nat} {cols:List ColIn} {R:List Ent} {A0:Option Addr} {c0:Nat} {xs:List Int} (h:ColJ w0 ([e0,e1,e2,e3,.own hd 38 1 n ((cols.map colV).set j v13)]++((cols.eraseIdx j).map colE++R)) ⟨A0,c0,xs⟩ z true true v12 v13 w') (hj:j<cols.length):∃ A9 c9,Hp w0 w' ([e0,e1,e2,e3,.own hd 38 1 n ((cols.set j ⟨A9,c9,xs++[z]⟩).map colV)]++((cols.set j ⟨A9,c9,xs++[z]⟩).map colE++R)):=by
 obtain ⟨A9,c9,e9,_,_⟩:=own_shape h.own13
 obtain ⟨g9,_,HL⟩:=h.last
 subst e9
 refine ⟨A9,c9,?_⟩
 have hx1:(xs++[z]).length=xs.length+1:=by simp
 have hx2:(.own (.slice A9 (xs.length+1) c9) 3 1 (xs.length+1) (ints (xs++[z])):Ent)=colE ⟨A9,c9,xs++[z]⟩:=by
  unfold colE colV
  rw [hx1]
 have hset:(cols.map colV).set j (.slice A9 (xs.length+1) c9)=(cols.set j ⟨A9,c9,xs++[z]⟩).map colV:=by
  rw [List.map_set]
  congr 1
  unfold colV
  rw [hx1]
 have H9:=HL.drop1 1
 change Hp w0 w' ((.own (.slice A9 (xs.length+1) c9) 3 1 (xs.length+1) (ints (xs++[z])):Ent)::([e0,e1,e2,e3,.own hd 38 1 n ((cols.map colV).set j (.slice A9 (xs.length+1) c9))]++((cols.eraseIdx j).map colE++R))) at H9
 rw [hx2,hset] at H9
 refine Hp.colB (H9.perm ?_) hj
 rw [List.append_assoc]
 exact (List.perm_middle (l₁:=[_,_,_,_,_])).symm
end
theorem perm_in {x p q a b c o:Ent} {C L:List Ent}:([x,p,q]++(C++(a::b::c::o::L))).Perm ([x,a,b,c,o,p,q]++(C++L)):=by
 refine List.Perm.cons x ?_
 show (p::q::(C++(a::b::c::o::L))).Perm (a::b::c::o::p::q::(C++L))
 have h1:(C++(a::b::c::o::L)).Perm (a::b::c::o::(C++L)):=by
  have:=(List.perm_append_comm_assoc C [a,b,c,o] L)
  exact this
 refine ((h1.cons q).cons p).trans ?_
 exact (List.perm_append_comm (l₁:=[p,q]) (l₂:=[a,b,c,o])).append_right (C++L)
theorem perm_out {p q a b c o:Ent} {C L:List Ent}:([a,b,c,o,p,q]++(C++L)).Perm (a::b::c::o::(L++(p::q::C))):=by
 refine List.Perm.append_left [a,b,c,o] ?_
 exact List.perm_append_comm (l₁:=[p,q]++C)
theorem upG_len (rows:List BRow):∀ k,(upG rows k).length≤k
 | 0=>Nat.le_refl 0
 | k+1=>by
  rw [upG,List.length_append]
  have:=upG_len rows k
  split<;>simp<;>omega
theorem tabOf_grp {k:Nat} {rs:List BRow} {bA cA:Option Addr} {bc cc:Nat} {cols:List ColIn} (h:cols.map ColIn.zs=(listS (k:Int)).map (colOf rs)):tabOf ⟨(k:Int),bA,bc,rs.map beOf,cA,cc,cols⟩=tabG ⟨(k:Int),rs⟩:=by
 unfold tabOf tabG
 dsimp only
 rw [h]
theorem fin_of {w0 w':World} {b gc n k:Nat} {Ar Ag A3:Option Addr} {nr cr m cg c3 bc:Nat} {l:List TabIn} {bA:Option Addr} {rs:List BRow} {cols:List ColIn} (hc:cols.length=n) (h:Hp w0 w' (.box b 64 [.slice Ar nr cr,.slice Ag m cg]::.box (b+1) 40 [.slice none 0 0,.slice none 0 0]::.box (b+1+1) 40 [.slice A3 (l.length+1) c3,.slice Ag m cg]::.own (.slice A3 (l.length+1) c3) 100 3 (l.length+1) (l.flatMap tabCells++[.int .i64 (k:Int),.slice bA rs.length bc,.slice (some ⟨gc,0,none⟩) n n])::(l.flatMap tabE++(.own (.slice bA rs.length bc) 24 2 rs.length (rs.flatMap beCells)::.own (.slice (some ⟨gc,0,none⟩) n n) 38 1 n (cols.map colV)::cols.map colE)))):Hp w0 w' (rofE b Ar nr cr Ag m cg A3 c3 (l++[(⟨(k:Int),bA,bc,rs.map beOf,some ⟨gc,0,none⟩,n,cols⟩:TabIn)])):=by
 subst hc
 unfold rofE
 rw [outE_snoc,tabE_snoc,List.length_append]
 unfold tabCells tabE bsE csE
 dsimp only
 rw [be_flat,List.length_map]
 exact h
def filR (rows:List BRow) (k i:Nat):List BRow:=(rows.take i).filter (fun r=>r.has==(k:Int))
theorem filR_yes {rows:List BRow} {k i:Nat} (hi:i<rows.length) (h:rows[i].has=(k:Int)):filR rows k (i+1)=filR rows k i++[rows[i]]:=by
 unfold filR
 rw [List.take_add_one,List.getElem?_eq_getElem hi,Option.toList_some,List.filter_append]
 congr 1
 rw [List.filter_cons,if_pos (by simpa using h)]
 rfl
theorem filR_no {rows:List BRow} {k i:Nat} (hi:i<rows.length) (h:rows[i].has≠(k:Int)):filR rows k (i+1)=filR rows k i:=by
 unfold filR
 rw [List.take_add_one,List.getElem?_eq_getElem hi,Option.toList_some,List.filter_append]
 have:[rows[i]].filter (fun r=>r.has==(k:Int))=[]:=by
  rw [List.filter_cons,if_neg (by simpa using h)]
  rfl
 rw [this,List.append_nil]
theorem filR_all (rows:List BRow) (k:Nat):filR rows k rows.length=(grpAt rows k).rs:=by
 unfold filR grpAt
 rw [List.take_length]
theorem colOf_snoc (rs:List BRow) (r:BRow) (p:Int):colOf (rs++[r]) p=colOf rs p++[r.vals.getD p.toNat 0]:=by simp [colOf]
theorem row_valO (r:BRow) {k:Nat} (hk:k<8):(rowCells r)[3+k]?=some (.int .i64 (r.vals.getD k 0)):=by
 obtain ⟨idx,gen,has,vals,h8⟩:=r
 obtain ⟨z0,z1,z2,z3,z4,z5,z6,z7,rfl⟩:=vals_eight h8
 rcases (show k=0∨k=1∨k=2∨k=3∨k=4∨k=5∨k=6∨k=7 by omega) with rfl | rfl | rfl | rfl | rfl | rfl | rfl | rfl<;>rfl
theorem Hp.cellO {w0 w:World} {E:List Ent} (h:Hp w0 w E) {g:Nat} {t:TypeId} {cs:List Value} (hm:Ent.box g t cs∈E) {i:Nat} {u:Value} (hi:cs[i]?=some u):w.cell? ⟨g,i,none⟩=some u:=by
 obtain ⟨k,hk⟩:=List.getElem?_of_mem hm
 exact h.cell k i hk hi
theorem Hp.cellOwn {w0 w:World} {E:List Ent} (h:Hp w0 w E) {A:Option Addr} {n c:Nat} {xs:List Value} {t:TypeId} (hm:Ent.own (.slice A n c) t 1 n xs∈E) {i:Nat} {u:Value} (hi:xs[i]?=some u):∃ b o,A=some ⟨b,o,none⟩∧w.cell? ⟨b,o+i,none⟩=some u:=by
 obtain ⟨k,hk⟩:=List.getElem?_of_mem hm
 have hr:=h.rd k hk
 have hlt:i<xs.length:=(List.getElem?_eq_some_iff.1 hi).1
 have hl:=hr.1
 obtain ⟨b,o,e,_,hc⟩:=hr.2 (by omega)
 exact ⟨b,o,e,hc i u hi⟩
theorem rof_any (rows:List BRow) (gens:List Int) (Ar:Option Addr) (cr:Nat) (Ag:Option Addr) (cg:Nat) (hw:RightW rows gens) (w:World) (hr:RdR w w.heap.size Ar rows) :
  Calls Tryz.prog 75 #[.agg #[.slice Ar rows.length cr,.slice Ag gens.length cg]] w fun e w'=>∃ (A:Option Addr) (c:Nat) (l:List TabIn),e=.returned (.agg #[.slice A l.length c,.slice Ag gens.length cg])∧l.map tabOf=tabsW rows∧Hp w w' (tabsE A c l):=by
 have hal:=Lib.hid (upG_all hw)
 have hrl:rows.length≤60:=Nat.le_trans hw.rows_le hw.len
 clear hw
 have H:=(((Hp.start w).new w.heap.size rfl 64 [.slice Ar rows.length cr,.slice Ag gens.length cg]).new (w.heap.size+1) (by simp) 40 [.slice none 0 0,.slice none 0 0])
 have H1:=(H.new (w.heap.size+1+1) (by simp) 40 [.slice none 0 0,.slice Ag gens.length cg]).nil_ 100 3
 replace H1:Hp w _ (rofE w.heap.size Ar rows.length cr Ag gens.length cg none 0 []):=H1
 have hHH:=Lib.hid H1
 clear H H1
 go_enter Tryz.func75,Tryz.ntmps75
 go_upto_region 2 with fail
 obtain ⟨w1,hw1,H⟩:=hHH.out.name
 rw [hw1]
 clear hw1 hHH
 obtain ⟨bb,hbb⟩:∃ bb,bb=w.heap.size:=⟨_,rfl⟩
 rw [← hbb] at H ⊢
 clear hbb
 have hHH:=Lib.hid H
 clear H
 go_wp2_with fail
 go_loopw [4] (fun q wr=>∃ k:Nat,k≤256∧q=.int .i64 k∧∃ A c l,Hid (l.map tabOf=(upG rows k).map tabG)∧Hp w wr (rofE bb Ar rows.length cr Ag gens.length cg A c l)) (fun q _=>256-(intOf q).toNat)
 case atStart=>exact ⟨0,by omega,rfl,none,0,[],Lib.hid rfl,hHH.out⟩
 case round=>
  clear hHH
  obtain ⟨k,hk,rfl,A,c,l,hlt0,H⟩:=hrel
  by_cases hk6:k<256
  ·have i0:(k:Int)<256:=by omega
   have hlist:=Lib.hid (fun W=>rlist_any k hk6 W)
   have hl8:=listS_len (k:Int)
   obtain ⟨n,hn⟩:∃ n,n=(listS (k:Int)).length:=⟨_,rfl⟩
   have hnh:=Lib.hid hn
   rw [← hn] at hl8 hlist
   clear hn
   have hHo:=Lib.hid H
   clear H
   go_wp2_with fail
   refine (hlist.out wr).mono ?_
   rintro e w2 ⟨vl,rfl,hol,hb2⟩
   obtain ⟨Al,cl,rfl,hlc,hlm⟩:=own_shape hol
   have H2:=hHo.out.grow hb2
   clear hHo hol hlc hlm hb2
   obtain ⟨i1',hi1,hz1a,hz1b,hz1c⟩:=info_parts infoInts
   have hmkb:=fun W:World=>run_make (P:=Tryz.prog) W 98 38 i1' (.slice none 0 0) Tryz.underlying98 hi1 hz1a .i64 .i64 n n (by omega) (Int.le_refl _) (by rw [hz1c];omega) (by omega)
   simp only [Int.toNat_natCast,hz1b,Nat.mul_one] at hmkb
   have hcell1:(Value.slice none 0 0).cells=#[.slice none 0 0]:=rfl
   have H3:=(H2.madeC n (by unfold maxLen;omega)).newL (w2.heap.size+1) (by simp) 100 [.int .i64 (k:Int),.slice none 0 0,.slice (some ⟨w2.heap.size,0,none⟩) n n]
   have hH3:=Lib.hid H3
   clear H2 H3
   go_upto_region 6 with fail
   obtain ⟨w3,hw3,H3⟩:=hH3.out.name
   rw [hw3]
   obtain ⟨gc,hgc⟩:∃ gc,gc=w2.heap.size:=⟨_,rfl⟩
   rw [← hgc] at H3 ⊢
   obtain ⟨g5,hg5⟩:∃ g5,g5=gc+1:=⟨_,rfl⟩
   rw [← hg5] at H3 ⊢
   clear hw3 hgc hg5 hH3 hmkb hcell1 hi1 hz1a hz1b hz1c
   have H4:Hp w w3 ([.box g5 100 [.int .i64 (k:Int),.slice none ([]:List BRow).length 0,.slice (some ⟨gc,0,none⟩) n n],.own (.slice none ([]:List BRow).length 0) 24 2 ([]:List BRow).length (([]:List BRow).flatMap beCells),.own (.slice (some ⟨gc,0,none⟩) n n) 38 1 n ((List.replicate n zcol).map colV)]++((List.replicate n zcol).map colE++rofE bb Ar rows.length cr Ag gens.length cg A c l)):=(H3.nil_ 24 2).perm (by
    refine (List.perm_append_comm (l₂:=[_])).trans ?_
    exact List.Perm.swap _ _ _)
   have hb0:=Lib.hid (H4.cell 3)
   have q0:w3.cell? ⟨bb,0,none⟩=some (.slice Ar rows.length cr):=H4.cellO (List.mem_append_right _ (List.mem_append_right _ (by unfold rofE;exact List.mem_cons_self ..))) (i:=0) rfl
   have hcz:Hid ((List.replicate n zcol).map ColIn.zs=(listS (k:Int)).map (colOf (filR rows k 0))):=Lib.hid (by
    have e:filR rows k 0=[]:=by unfold filR;simp
    rw [e,hnh.out,List.map_replicate]
    apply List.ext_getElem (by simp)
    intro j h1 h2
    simp [zcol,colOf])
   have hH4:=Lib.hid H4
   clear hb0 H3 H4
   go_wp2_with fail
   clear q0
   go_loopw [26] (fun q wr=>∃ (i:Nat) (bA:Option Addr) (bc:Nat) (cols:List ColIn),i≤rows.length∧q=.int .i64 i∧Hid (cols.map ColIn.zs=(listS (k:Int)).map (colOf (filR rows k i)))∧Hp w wr ([.box g5 100 [.int .i64 (k:Int),.slice bA (filR rows k i).length bc,.slice (some ⟨gc,0,none⟩) n n],.own (.slice bA (filR rows k i).length bc) 24 2 (filR rows k i).length ((filR rows k i).flatMap beCells),.own (.slice (some ⟨gc,0,none⟩) n n) 38 1 n (cols.map colV)]++(cols.map colE++rofE bb Ar rows.length cr Ag gens.length cg A c l))) (fun q _=>rows.length-(intOf q).toNat)
   case atStart=>exact ⟨0,none,0,List.replicate n zcol,by omega,rfl,hcz,hH4.out⟩
   case round=>
    clear hH4 hcz
    obtain ⟨i,bA,bc,cols,hi,rfl,hcz,H⟩:=hrel
    by_cases hil:i<rows.length
    ·have hrow0:RdR wr w.heap.size Ar rows:=Rd.under hr H.bel (Nat.le_refl _)
     obtain ⟨b1,off,eA,hb1,hrow⟩:=hrow0.at_ hil
     have hy:=Lib.hid (filR_yes (k:=k) hil);have hno:=Lib.hid (filR_no (k:=k) hil)
     have hfl:(filR rows k i).length≤60:=by
      unfold filR
      have h1:=List.length_filter_le (fun r:BRow=>r.has==(k:Int)) (rows.take i)
      rw [List.length_take] at h1
      omega
     generalize rows[i]=r at *
     obtain ⟨c0,c1,c2⟩:=hrow.head
     obtain ⟨ri,rg,rh,rv,r8⟩:=r
     obtain ⟨a0,a1,a2,a3,a4,a5,a6,a7,rfl⟩:=vals_eight r8
     have v0:=hrow 3 (.int .i64 a0) rfl;have v1:=hrow 4 (.int .i64 a1) rfl;have v2:=hrow 5 (.int .i64 a2) rfl;have v3:=hrow 6 (.int .i64 a3) rfl;have v4:=hrow 7 (.int .i64 a4) rfl;have v5:=hrow 8 (.int .i64 a5) rfl;have v6:=hrow 9 (.int .i64 a6) rfl;have v7:=hrow 10 (.int .i64 a7) rfl
     simp only at c0 c1 c2
     dsimp only at hno hy
     have i1:(0:Int)≤(i:Int):=by omega
     have i2:(i:Int)<(rows.length:Int):=by omega
     have H1:=H.newL wr.heap.size rfl 114 [.int .i64 ri,.int .i64 rg,.int .i64 rh,.int .i64 a0,.int .i64 a1,.int .i64 a2,.int .i64 a3,.int .i64 a4,.int .i64 a5,.int .i64 a6,.int .i64 a7]
     have hH1:=Lib.hid H1
     rw [eA]
     clear H H1 hrow hrow0
     go_upto_region 9 with fail
     clear c0 c1 c2 v0 v1 v2 v3 v4 v5 v6 v7 hb1 i1 i2
     obtain ⟨w4,hw4,H4⟩:=hH1.out.name
     rw [hw4]
     obtain ⟨b7,hb7⟩:∃ b7,b7=wr.heap.size:=⟨_,rfl⟩
     rw [← hb7] at H4 ⊢
     clear hw4 hb7 hH1
     have m2:=H4.cell 0 2 rfl rfl
     by_cases hh:rh=(k:Int)
     case neg=>
      have hh':(rh != (k:Int))=true:=by simpa using hh
      have e2:=Lib.hid (hno.out hh)
      have hH2:=Lib.hid (H4.drop1 0)
      clear H4 hy hno hh
      go_wp2_with fail
      go_roundw
      case rel=>
       exact ⟨i+1,bA,bc,cols,by omega,by go_num,Lib.hid (by rw [e2.out];exact hcz.out),by rw [e2.out,← eA];exact hH2.out⟩
      case measure=>simp [intOf];omega
     subst hh
     obtain ⟨r0,hr0⟩:∃ r0:BRow,r0=⟨ri,rg,(k:Int),[a0,a1,a2,a3,a4,a5,a6,a7],r8⟩:=⟨_,rfl⟩
     have e2:=Lib.hid (hy.out rfl)
     rw [← hr0] at e2
     have hr0h:=Lib.hid hr0
     obtain ⟨rs',hrs'⟩:∃ rs',rs'=filR rows k (i+1):=⟨_,rfl⟩
     rw [← hrs'] at e2
     have hrs'h:=Lib.hid hrs'
     have hsn:Hid ((filR rows k (i+1)).length=(filR rows k i).length+1):=Lib.hid (by rw [← hrs',e2.out];simp)
     have hfn:Hid ((filR rows k (i+1)).flatMap beCells=(filR rows k i).flatMap beCells++[.int .i64 ri,.int .i64 rg]):=Lib.hid (by rw [← hrs',e2.out,List.flatMap_append,hr0];rfl)
     generalize filR rows k i=rs at *
     have m0:=H4.cell 0 0 rfl rfl;have m1:=H4.cell 0 1 rfl rfl;have m5:=H4.cell 1 1 rfl rfl
     obtain ⟨i0',hi0,hz0a,hz0b,hz0c⟩:=info_parts infoBe
     have HN:=H4.newL w4.heap.size rfl 24 [.int .i64 ri,.int .i64 rg]
     have hHN:=Lib.hid HN
     have hown:=HN.owns 3 rfl
     clear H4 HN hy hno hr0 hrs'
     go_wp2_with (at_builtin;refine wpList_append_own_at _ rfl _ _ 58 rfl w.heap.size 24 i0' (.agg #[.int .i64 0,.int .i64 0]) 2 16 Tryz.underlying58 hi0 hz0a hz0b hz0c rfl (by decide) _ _ _ rfl hown ⟨w4.heap.size,0,none⟩ 1 1 [.int .i64 ri,.int .i64 rg] rfl rfl ?c1 ?c2 ?c3 ?c4 ?c5 ?_;rotate_left 5;intro v' w8 hown8 hgrow8 hif8 hat8;have H8:=hHN.out.app 3 rfl hgrow8 hown8 (hat8.imp id (fun e g hg=>by rw [e] at hg;injection hg with hg;exact Nat.le_of_eq hg));have z0:=H8.cell 2 1 rfl rfl;have z3:=H8.frozen 2 1 rfl;obtain ⟨A3,c3,rfl,hs1,hs2⟩:=own_shape hown8;clear hown8 hgrow8 hif8 hat8 hs1 hs2)
     case c1=>exact news_blk (hHN.out.blk 0 rfl)
     case c2=>simp [Value.oneCell']
     case c3=>unfold maxLen;omega
     case c4=>omega
     case c5=>simpa using hHN.out.bel.size
     have H9:=(H8.set 2 1 (.slice A3 (rs.length+1) c3) rfl).drop1 0
     obtain ⟨w9,hw9,H9⟩:=H9.name
     rw [hw9]
     clear hw9 H8 hHN hown z0 z3 m0 m1 m2 m5
     refine (hlist.out w9).mono ?_
     rintro e w10 ⟨vl,rfl,hol,hb2⟩
     obtain ⟨Al,cl,rfl,hlc,hlm⟩:=own_shape hol
     have H10:=(H9.got hb2 hol).perm (List.perm_append_comm (l₂:=[_]))
     replace H10:Hp w w10 ([.own (.slice Al n cl) 3 1 n (ints (listS (k:Int))),.box b7 114 [.int .i64 ri,.int .i64 rg,.int .i64 (k:Int),.int .i64 a0,.int .i64 a1,.int .i64 a2,.int .i64 a3,.int .i64 a4,.int .i64 a5,.int .i64 a6,.int .i64 a7],.box g5 100 [.int .i64 (k:Int),.slice A3 (rs.length+1) c3,.slice (some ⟨gc,0,none⟩) n n],.own (.slice A3 (rs.length+1) c3) 24 2 (rs.length+1) (rs.flatMap beCells++[.int .i64 ri,.int .i64 rg]),.own (.slice (some ⟨gc,0,none⟩) n n) 38 1 n (cols.map colV)]++(cols.map colE++rofE bb Ar rows.length cr Ag gens.length cg A c l)):=H10
     have hH10:=Lib.hid H10
     clear H9 H10 hol hlc hlm hb2
     have hcz0:Hid (cols.map ColIn.zs=colsJ (k:Int) rs rs' 0):=Lib.hid (by rw [colsJ_zero];exact hcz.out)
     go_wp2_with fail
     go_loopw [44] (fun q wr=>∃ (j:Nat) (cols:List ColIn),j≤n∧q=.int .i64 j∧Hid (cols.map ColIn.zs=colsJ (k:Int) rs rs' j)∧Hp w wr ([.own (.slice Al n cl) 3 1 n (ints (listS (k:Int))),.box b7 114 [.int .i64 ri,.int .i64 rg,.int .i64 (k:Int),.int .i64 a0,.int .i64 a1,.int .i64 a2,.int .i64 a3,.int .i64 a4,.int .i64 a5,.int .i64 a6,.int .i64 a7],.box g5 100 [.int .i64 (k:Int),.slice A3 (rs.length+1) c3,.slice (some ⟨gc,0,none⟩) n n],.own (.slice A3 (rs.length+1) c3) 24 2 (rs.length+1) (rs.flatMap beCells++[.int .i64 ri,.int .i64 rg]),.own (.slice (some ⟨gc,0,none⟩) n n) 38 1 n (cols.map colV)]++(cols.map colE++rofE bb Ar rows.length cr Ag gens.length cg A c l))) (fun q _=>n-(intOf q).toNat)
     case atStart=>exact ⟨0,cols,by omega,rfl,hcz0,hH10.out⟩
     case round=>
      clear hH10 hcz0 hcz
      obtain ⟨j,cols,hj,rfl,hcz,H⟩:=hrel
      by_cases hjn:j<n
      ·have hjl:j<(listS (k:Int)).length:=by rw [← hnh.out];exact hjn
       have hcl:cols.length=n:=by
        have:=congrArg List.length hcz.out
        rw [List.length_map,colsJ_len,← hnh.out] at this
        exact this
       have hjc:Hid (j<cols.length):=Lib.hid (by omega)
       have hjc':=hjc.out
       obtain ⟨p0,p8⟩:=listS_range (listS (k:Int))[j] (List.getElem_mem hjl)
       obtain ⟨q,hq⟩:=nat_of p0
       obtain ⟨gl,go2,eL,z0⟩:=H.cellOwn (List.mem_append_left _ (List.mem_cons_self ..)) (i:=j) (ints_get hjl)
       subst eL
       have hcx:cols[j].zs=colOf rs (listS (k:Int))[j]:=by
        have h1:(cols.map ColIn.zs)[j]?=some (colOf rs (listS (k:Int))[j]):=by rw [hcz.out];exact colsJ_at rs rs' hjl
        rw [List.getElem?_map,List.getElem?_eq_getElem hjc'] at h1
        exact Option.some.inj h1
       have hcj:Hid ((cols.map colV)[j]?=some (colV cols[j])):=Lib.hid (by rw [List.getElem?_map,List.getElem?_eq_getElem hjc'];rfl)
       rw [hq] at z0 p8 hcx
       obtain ⟨z,hz⟩:∃ z,z=r0.vals.getD q 0:=⟨_,rfl⟩
       have hzq:Hid (([.int .i64 ri,.int .i64 rg,.int .i64 (k:Int),.int .i64 a0,.int .i64 a1,.int .i64 a2,.int .i64 a3,.int .i64 a4,.int .i64 a5,.int .i64 a6,.int .i64 a7]:List Value)[3+q]?=some (.int .i64 z)):=Lib.hid (by
        have:=row_valO r0 (k:=q) (by omega)
        rw [← hz,hr0h.out] at this
        exact this)
       have hzz:cols[j].zs++[z]=colOf rs' (q:Int):=by rw [e2.out,colOf_snoc,hcx,Int.toNat_natCast,hz]
       have hnew:Hid (∀ A9 c9,Hid ((cols.set j ⟨A9,c9,cols[j].zs++[z]⟩).map ColIn.zs=colsJ (k:Int) rs rs' (j+1))):=Lib.hid (fun A9 c9=>Lib.hid (by
        have e:=colsJ_succ (h:=(k:Int)) rs rs' hjl
        rw [hq,← hzz] at e
        rw [List.map_set,hcz.out]
        exact e))
       clear hzz
       have hxl60:Hid (cols[j].zs.length≤60):=Lib.hid (by rw [hcx,colOf_len];omega)
       have hF:=H.colF hjc'
       have hB14:Hid (Hp w wr (colE cols[j]::([.own (.slice (some ⟨gl,go2,none⟩) n cl) 3 1 n (ints (listS (k:Int))),.box b7 114 [.int .i64 ri,.int .i64 rg,.int .i64 (k:Int),.int .i64 a0,.int .i64 a1,.int .i64 a2,.int .i64 a3,.int .i64 a4,.int .i64 a5,.int .i64 a6,.int .i64 a7],.box g5 100 [.int .i64 (k:Int),.slice A3 (rs.length+1) c3,.slice (some ⟨gc,0,none⟩) n n],.own (.slice A3 (rs.length+1) c3) 24 2 (rs.length+1) (rs.flatMap beCells++[.int .i64 ri,.int .i64 rg]),.own (.slice (some ⟨gc,0,none⟩) n n) 38 1 n (cols.map colV)]++((cols.eraseIdx j).map colE++rofE bb Ar rows.length cr Ag gens.length cg A c l)))):=Lib.hid (hF.perm (by
        rw [List.append_assoc]
        exact List.perm_middle (l₁:=[_,_,_,_,_])))
       generalize cols[j]=X at *
       obtain ⟨xA,xc,xs⟩:=X
       dsimp only at hcx hnew hxl60
       have i1:(0:Int)≤(j:Int):=by omega
       have i2:(j:Int)<(n:Int):=by omega
       have i3:(0:Int)≤(q:Int):=by omega
       have i4:(q:Int)<8:=by omega
       obtain ⟨i2',hk0,hk1,hk2,hk3⟩:=info_parts infoInt
       have hj0:=Lib.hid hk0;have hj1:=Lib.hid hk1;have hj2:=Lib.hid hk2;have hj3:=Lib.hid hk3
       clear hk0 hk1 hk2 hk3 hF H hz hcx hcl
       clear p0 p8 hq hjl
       go_upto_region 14 with fail
       clear z0
       refine wp_region_mx mixed (by kernel_rfl) (by kernel_rfl) (fun q=>!(q==12) && !(q==13) && !(q==15)) (tab [.pointer (some ⟨g5,2,none⟩),.slice (some ⟨gc,0,none⟩) n n,.int .i64 (j:Int),.pointer (some ⟨g5,2,none⟩),.slice (some ⟨gc,0,none⟩) n n,.int .i64 (j:Int),.pointer (some ⟨gc,j,none⟩),.slice xA xs.length xc,.int .i64 (q:Int),.pointer (some ⟨b7,3,none⟩),.pointer (some ⟨b7,3+q,none⟩),.int .i64 z,undef,undef,.pointer (some ⟨gc,j,none⟩),undef]) (fun u vs w'=>ColJ w ([.own (.slice (some ⟨gl,go2,none⟩) n cl) 3 1 n (ints (listS (k:Int))),.box b7 114 [.int .i64 ri,.int .i64 rg,.int .i64 (k:Int),.int .i64 a0,.int .i64 a1,.int .i64 a2,.int .i64 a3,.int .i64 a4,.int .i64 a5,.int .i64 a6,.int .i64 a7],.box g5 100 [.int .i64 (k:Int),.slice A3 (rs.length+1) c3,.slice (some ⟨gc,0,none⟩) n n],.own (.slice A3 (rs.length+1) c3) 24 2 (rs.length+1) (rs.flatMap beCells++[.int .i64 ri,.int .i64 rg]),.own (.slice (some ⟨gc,0,none⟩) n n) 38 1 n (if u 15 then (cols.map colV).set j (vs 13) else cols.map colV)]++((cols.eraseIdx j).map colE++rofE bb Ar rows.length cr Ag gens.length cg A c l)) ⟨xA,xc,xs⟩ z (u 12) (u 13) (vs 12) (vs 13) w') ?_ ?_ ?_
       ·exact ColJ.start hB14.out.drew
       ·intro vs w' l9 hJ hl
        rw [putAll_tab _ _ _ _ [(some 49,.pointer (some ⟨g5,2,none⟩)),(some 50,.slice (some ⟨gc,0,none⟩) n n),(some 51,.int .i64 (j:Int)),(some 52,.pointer (some ⟨g5,2,none⟩)),(some 53,.slice (some ⟨gc,0,none⟩) n n),(some 54,.int .i64 (j:Int)),(some 55,.pointer (some ⟨gc,j,none⟩)),(some 56,.slice xA xs.length xc),(some 57,.int .i64 (q:Int)),(some 58,.pointer (some ⟨b7,3,none⟩)),(some 59,.pointer (some ⟨b7,3+q,none⟩)),(some 60,.int .i64 z),(some 61,vs 12),(some 62,vs 13),(some 63,.pointer (some ⟨gc,j,none⟩)),(none,vs 15)] rfl]
        simp only [putL_eq,putT,List.set_cons_succ,List.set_cons_zero]
        have l12:=hl 12 (by decide);have l13:=hl 13 (by decide);have l15:=hl 15 (by decide)
        rw [l12,l13,l15,if_pos rfl] at hJ
        obtain ⟨A9,c9,H11⟩:=hJ.fin hjc.out
        have hH11:=Lib.hid H11
        clear hJ H11 hl
        go_wp2_with fail
        go_roundw
        case rel=>exact ⟨j+1,cols.set j ⟨A9,c9,xs++[z]⟩,by omega,by go_num,hnew.out A9 c9,hH11.out⟩
        case measure=>simp [intOf];omega
       ·intro qq op ho u vs act w' hJ hsh hli hd hv hwas K hK
        have hiq:qq<16:=lt_of_some ho
        have s5_:=hwas 5 rfl
        have s7_:=hwas 7 rfl
        have s8_:=hwas 8 rfl
        have s9_:=hwas 9 rfl
        simp at s5_ s7_ s8_ s9_
        match qq,hiq,ho,hli,hK with
        | 0,_,ho,hli,hK=>
         obtain rfl:=sj ho
         clear hv hwas
         go_simp
         exact hK _ _ (fun _=>rfl) hJ
        | 1,_,ho,hli,hK=>
         obtain rfl:=sj ho
         have x49:act.tmps[49]?.getD undef=.pointer (some ⟨g5,2,none⟩):=hv 0 49 rfl (rb hd rfl)
         have hBs:=hJ.base
         have q0:=hBs.cell 2 2 rfl rfl
         clear hv hwas hBs
         go_simp
         exact hK _ _ (fun _=>rfl) hJ
        | 2,_,ho,hli,hK=>
         obtain rfl:=sj ho
         clear hv hwas
         go_simp
         exact hK _ _ (fun _=>rfl) hJ
        | 3,_,ho,hli,hK=>
         obtain rfl:=sj ho
         clear hv hwas
         go_simp
         exact hK _ _ (fun _=>rfl) hJ
        | 4,_,ho,hli,hK=>
         obtain rfl:=sj ho
         have x52:act.tmps[52]?.getD undef=.pointer (some ⟨g5,2,none⟩):=hv 3 52 rfl (rb hd rfl)
         have hBs:=hJ.base
         have q0:=hBs.cell 2 2 rfl rfl
         clear hv hwas hBs
         go_simp
         exact hK _ _ (fun _=>rfl) hJ
        | 5,_,ho,hli,hK=>
         obtain rfl:=sj ho
         clear hv hwas
         go_simp
         exact hK _ _ (fun _=>rfl) hJ
        | 6,_,ho,hli,hK=>
         obtain rfl:=sj ho
         have x53:act.tmps[53]?.getD undef=.slice (some ⟨gc,0,none⟩) n n:=hv 4 53 rfl (rb hd rfl)
         have x54:act.tmps[54]?.getD undef=.int .i64 (j:Int):=hv 5 54 rfl (rb hd rfl)
         clear hv hwas
         go_simp
         exact hK _ _ (fun _=>rfl) hJ
        | 7,_,ho,hli,hK=>
         obtain rfl:=sj ho
         have x55:act.tmps[55]?.getD undef=.pointer (some ⟨gc,j,none⟩):=hv 6 55 rfl (rb hd rfl)
         have n15:=hsh.not (i:=15) (j:=13) (by rfl) (hsh.not (i:=13) (j:=7) (by rfl) hli)
         have hBs:=hJ.base
         rw [n15] at hBs
         have q0:=hBs.ownCell 4 j rfl hcj.out
         clear hv hwas hBs
         go_simp
         exact hK _ _ (fun _=>rfl) hJ
        | 8,_,ho,hli,hK=>
         obtain rfl:=sj ho
         clear hv hwas
         go_simp
         exact hK _ _ (fun _=>rfl) hJ
        | 9,_,ho,hli,hK=>
         obtain rfl:=sj ho
         clear hv hwas
         go_simp
         exact hK _ _ (fun _=>rfl) hJ
        | 10,_,ho,hli,hK=>
         obtain rfl:=sj ho
         have x57:act.tmps[57]?.getD undef=.int .i64 (q:Int):=hv 8 57 rfl (rb hd rfl)
         have x58:act.tmps[58]?.getD undef=.pointer (some ⟨b7,3,none⟩):=hv 9 58 rfl (rb hd rfl)
         clear hv hwas
         go_simp
         exact hK _ _ (fun _=>rfl) hJ
        | 11,_,ho,hli,hK=>
         obtain rfl:=sj ho
         have x59:act.tmps[59]?.getD undef=.pointer (some ⟨b7,3+q,none⟩):=hv 10 59 rfl (rb hd rfl)
         have hBs:=hJ.base
         have q0:=hBs.cell 1 (3+q) rfl hzq.out
         clear hv hwas hBs
         go_simp
         exact hK _ _ (fun _=>rfl) hJ
        | 12,_,ho,hli,hK=>
         obtain rfl:=sj ho
         have x60:act.tmps[60]?.getD undef=.int .i64 z:=hv 11 60 rfl (rb hd rfl)
         rw [hli] at hJ
         have hQ:=hJ.one
         clear hv hwas
         go_simp
         exact hK _ _ (fun h=>by cases h) hQ
        | 13,_,ho,hli,hK=>
         obtain rfl:=sj ho
         have x56:act.tmps[56]?.getD undef=.slice xA xs.length xc:=hv 7 56 rfl (rb hd rfl)
         have x61:act.tmps[61]?.getD undef=vs 12:=hv 12 61 rfl (rb hd rfl)
         have l12:u 12=true:=by simp [Region.binds] at hd;simp [hd]
         have n15:=hsh.not (i:=15) (j:=13) (by rfl) hli
         rw [hli,l12,n15] at hJ
         have hBs:=hJ.base
         have hown:=hJ.own
         obtain ⟨g9,e9,hblk⟩:=hJ.box
         rw [e9] at x61
         have hJh:=Lib.hid hJ
         have hxl:=hxl60.out
         obtain ⟨hi0,hz0a,hz0b,hz0c⟩:_∧_∧_∧_:=⟨hj0.out,hj1.out,hj2.out,hj3.out⟩
         clear hv hwas hJ
         refine oper_append_own (.tmp 56) (.tmp 61) 38 rfl w.heap.size 3 i2' (.int .i64 0) 1 8 Tryz.underlying38 hi0 hz0a hz0b hz0c rfl (by decide) _ _ _ (eval_tmp x56) hown ⟨g9,0,none⟩ 1 1 [.int .i64 z] (eval_tmp x61) rfl (news_blk hblk) (by simp [Value.oneCell']) (by unfold maxLen;dsimp only;omega) (by dsimp only;omega) hBs.bel.size ?_
         intro v' w9 ho hg hat
         refine hK _ _ (fun h=>by cases h) ?_
         show ColJ _ _ _ _ (u 12) _ _ _ _
         rw [l12]
         show ColJ _ ([_,_,_,_,.own _ _ _ _ (if u 15 then _ else _)]++_) _ _ _ _ _ _ _
         rw [n15]
         exact hJh.out.app ho hg hat
        | 14,_,ho,hli,hK=>
         obtain rfl:=sj ho
         have x50:act.tmps[50]?.getD undef=.slice (some ⟨gc,0,none⟩) n n:=hv 1 50 rfl (rb hd rfl)
         have x51:act.tmps[51]?.getD undef=.int .i64 (j:Int):=hv 2 51 rfl (rb hd rfl)
         clear hv hwas
         go_simp
         exact hK _ _ (fun _=>rfl) hJ
        | 15,_,ho,hli,hK=>
         obtain rfl:=sj ho
         have x62:act.tmps[62]?.getD undef=vs 13:=hv 13 62 rfl (rb hd rfl)
         have x63:act.tmps[63]?.getD undef=.pointer (some ⟨gc,j,none⟩):=hv 14 63 rfl (rb hd rfl)
         have l13:u 13=true:=by simp [Region.binds] at hd;simp [hd]
         have l12:u 12=true:=hsh 13 12 (by rfl) l13
         rw [hli,l13,l12] at hJ
         obtain ⟨g9,e7,HL⟩:=hJ.last
         have q0:=HL.ownCell 6 j rfl hcj.out
         have y0:=HL.ownFrozen 6 j rfl
         obtain ⟨A9,c9,e9,_,_⟩:=own_shape hJ.own13
         have hQ:=HL.put 6 j (vs 13) rfl
         obtain ⟨n9,hn9⟩:∃ n9,n9=xs.length+1:=⟨_,rfl⟩
         replace e9:vs 13=.slice A9 n9 c9:=by rw [hn9];exact e9
         rw [e9] at x62
         clear hv hwas hJ HL hn9
         go_simp
         refine hK undef _ (fun _=>rfl) ?_
         show ColJ _ _ _ _ (u 12) (u 13) _ _ _
         rw [l13,l12]
         refine ⟨g9,fun _=>e7,?_⟩
         rw [← e9]
         exact hQ
      ·obtain rfl:j=n:=by omega
       have hcz2:Hid (cols.map ColIn.zs=(listS (k:Int)).map (colOf (filR rows k (i+1)))):=Lib.hid (by rw [hcz.out,hnh.out,colsJ_all,← hrs'h.out])
       have hH2:=Lib.hid ((H.drop1 1).drop1 0)
       clear H
       go_wp2_with fail
       go_roundw
       case rel=>
        exact ⟨i+1,A3,c3,cols,by omega,by go_num,hcz2,by rw [hsn.out,hfn.out,← eA];exact hH2.out⟩
       case measure=>simp [intOf];omega
    ·obtain rfl:i=rows.length:=by omega
     rw [filR_all] at hcz H
     obtain ⟨rs,hrs⟩:∃ rs,rs=(grpAt rows k).rs:=⟨_,rfl⟩
     have hgr:grpAt rows k=⟨(k:Int),rs⟩:=by rw [hrs];rfl
     have hrl2:Hid (rs.length≤60):=Lib.hid (by
      rw [hrs]
      exact Nat.le_trans (List.length_filter_le _ _) hrl)
     rw [← hrs] at hcz H
     clear hrs
     have hll:Hid (l.length≤256):=Lib.hid (by
      have:=congrArg List.length hlt0.out
      rw [List.length_map,List.length_map] at this
      have:=upG_len rows k
      omega)
     have H5:=H.perm perm_in
     clear H
     have m1:=H5.cell 0 1 rfl rfl
     by_cases hre:rs=[]
     ·subst hre
      have hup:Hid (l.map tabOf=(upG rows (k+1)).map tabG):=Lib.hid (by
       rw [upG,hgr,if_pos rfl,List.append_nil]
       exact hlt0.out)
      have hH6:=Lib.hid (Hp.sub (E':=rofE bb Ar rows.length cr Ag gens.length cg A c l) H5 (by
       refine List.Sublist.cons _ (List.Sublist.cons_cons _ (List.Sublist.cons_cons _ (List.Sublist.cons_cons _ (List.Sublist.cons_cons _ (List.Sublist.cons _ (List.Sublist.cons _ ?_))))))
       exact List.sublist_append_right _ _))
      clear H5
      go_wp2_with fail
      go_roundw
      case rel=>
       exact ⟨k+1,by omega,by go_num,A,c,l,hup,hH6.out⟩
      case measure=>simp [intOf];omega
     ·have hup:Hid ((l++[(⟨(k:Int),bA,bc,rs.map beOf,some ⟨gc,0,none⟩,n,cols⟩:TabIn)]).map tabOf=(upG rows (k+1)).map tabG):=Lib.hid (by
       rw [upG,hgr,if_neg hre,List.map_append,List.map_append,hlt0.out]
       rw [List.map_singleton,List.map_singleton,tabOf_grp hcz.out])
      have hr0:0<rs.length:=List.length_pos_iff.2 hre
      have i3:(0:Int)<(rs.length:Int):=by omega
      have m0:=H5.cell 0 0 rfl rfl;have m2:=H5.cell 0 2 rfl rfl;have m3:=H5.cell 3 0 rfl rfl
      obtain ⟨i3',hi0,hz0a,hz0b,hz0c⟩:=info_parts infoTab
      have HN:=H5.newL wr.heap.size rfl 100 [.int .i64 (k:Int),.slice bA rs.length bc,.slice (some ⟨gc,0,none⟩) n n]
      have hHN:=Lib.hid HN
      have hown:=HN.owns 5 rfl
      clear H5 HN
      have hcl:Hid (cols.length=n):=Lib.hid (by
       have:=congrArg List.length hcz.out
       rw [List.length_map,List.length_map,← hnh.out] at this
       exact this)
      go_wp2_with (at_builtin;refine wpList_append_own_at _ rfl _ _ 37 rfl w.heap.size 100 i3' (.agg #[.int .i64 0,.slice none 0 0,.slice none 0 0]) 3 56 Tryz.underlying37 hi0 hz0a hz0b hz0c rfl (by decide) _ _ _ rfl hown ⟨wr.heap.size,0,none⟩ 1 1 [.int .i64 (k:Int),.slice bA rs.length bc,.slice (some ⟨gc,0,none⟩) n n] rfl rfl ?d1 ?d2 ?d3 ?d4 ?d5 ?_;rotate_left 5;intro v' w8 hown8 hgrow8 hif8 hat8;have H8:=hHN.out.app 5 rfl hgrow8 hown8 (hat8.imp id (fun e g hg=>by rw [e] at hg;injection hg with hg;exact Nat.le_of_eq hg));have z0:=H8.cell 4 0 rfl rfl;have z3:=H8.frozen 4 0 rfl;obtain ⟨A3,c3,rfl,hs1,hs2⟩:=own_shape hown8;clear hown8 hgrow8 hif8 hat8 hs1 hs2)
      case d1=>exact news_blk (hHN.out.blk 0 rfl)
      case d2=>simp [Value.oneCell']
      case d3=>have:=hll.out;unfold maxLen;omega
      case d4=>have:=hll.out;omega
      case d5=>simpa using hHN.out.bel.size
      have H9:=(((H8.set 4 0 (.slice A3 (l.length+1) c3) rfl).drop1 0).drop1 0).perm perm_out
      have hH9:=Lib.hid (fin_of hcl.out H9)
      clear H8 H9 hHN hown z0 z3 m0 m1 m2 m3
      go_wp2_with fail
      go_roundw
      case rel=>
       exact ⟨k+1,by omega,by go_num,A3,c3,l++[(⟨(k:Int),bA,bc,rs.map beOf,some ⟨gc,0,none⟩,n,cols⟩:TabIn)],hup,hH9.out⟩
      case measure=>simp [intOf];omega
  ·have hlt1:Hid (l.map tabOf=tabsW rows):=Lib.hid (by
    have hk256:k=256:=by omega
    rw [hk256,hal.out] at hlt0
    exact hlt0.out)
   have i0:¬ ((k:Int)<256):=by omega
   clear hlt0 hal hk hk6
   have H1:=Hp.sub (E':=tabsE A c l) H (by
    refine List.Sublist.cons _ (List.Sublist.cons _ (List.Sublist.cons _ ?_))
    exact List.Sublist.refl _)
   have q0:=H.cell 2 0 rfl rfl;have q1:=H.cell 2 1 rfl rfl;have x0:=H.cell 1 0 rfl rfl;have x1:=H.cell 1 1 rfl rfl
   have y0:=H.frozen 1 0 rfl;have y1:=H.frozen 1 1 rfl
   have H2:=(H.set 1 0 (.slice A l.length c) rfl).set 1 1 (.slice Ag gens.length cg) rfl
   have p0:=H2.cell 1 0 rfl rfl;have p1:=H2.cell 1 1 rfl rfl
   have H3:=Hp.sub (E':=tabsE A c l) H2 (by
    refine List.Sublist.cons _ (List.Sublist.cons _ (List.Sublist.cons _ ?_))
    exact List.Sublist.refl _)
   have hH3:=Lib.hid H3
   clear H H1 H2 H3
   go_wp2_with fail
   refine bodyPost_ret (v:=.agg #[.slice A l.length c,.slice Ag gens.length cg]) (by simp [results,Tryz.results75,go_sem,p0,p1]) rfl ⟨A,c,l,rfl,hlt1.out,hH3.out⟩
end Go.Proofs.YtefdblaolmckmabGreat
