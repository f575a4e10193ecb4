/- Lemmas of the proof. -/
import Derived.BigQuiet
import Derived.Deep.DeepCutAuto
import Derived.Deep.QuietTactic
import Derived.Maps.OwnSet
import Derived.OpenShut
import Derived.Maps.OwnOps
import Derived.Laws.IdiomMaps
import Derived.Maps.AppendAt
import Derived.Test.YtefdblaolmckmabGreatRBRowToInv
import Derived.Test.YtefdblaolmckmabGreatRRuleA
set_option linter.unusedVariables false
set_option linter.unusedSimpArgs false
set_option maxRecDepth 100000
set_option maxHeartbeats 12800000
namespace Go.Proofs.YtefdblaolmckmabGreat
open Go.RowKit
open Brood
def rowCells (r:BRow):List Value:=[.int .i64 r.idx,.int .i64 r.gen,.int .i64 r.has]++ints r.vals
theorem rowCells_length (r:BRow):(rowCells r).length=11:=by simp [rowCells,ints,r.h8]
def RdR (w:World) (B:Nat) (A:Option Addr) (rows:List BRow):Prop:=Rd w B 11 A rows.length (rows.flatMap rowCells)
def RdG (w:World) (B:Nat) (A:Option Addr) (zs:List Int):Prop:=Rd w B 1 A zs.length (ints zs)
def RowAt (w:World) (b o:Nat) (r:BRow):Prop:=∀ j u,(rowCells r)[j]?=some u→w.cell? ⟨b,o+j,none⟩=some u
theorem RdR.at_ {w:World} {B:Nat} {A:Option Addr} {rows:List BRow} (h:RdR w B A rows) {k:Nat} (hk:k<rows.length) :
  ∃ b off,A=some ⟨b,off,none⟩∧b<B∧RowAt w b (off+k*11) rows[k]:=by
 obtain ⟨b,off,e,hb,hc⟩:=h.2 (by omega)
 refine ⟨b,off,e,hb,fun j u hu=>?_⟩
 have hj:j<11:=by rw [← rowCells_length rows[k]];exact (List.getElem?_eq_some_iff.1 hu).1
 have:=hc (k*11+j) u ((flat_get rowCells_length rows k hk j hj).trans hu)
 rwa [← Nat.add_assoc] at this
theorem RdG.at_ {w:World} {B:Nat} {A:Option Addr} {zs:List Int} (h:RdG w B A zs) {k:Nat} (hk:k<zs.length) :
  ∃ b off,A=some ⟨b,off,none⟩∧b<B∧w.cell? ⟨b,off+k,none⟩=some (.int .i64 zs[k]):=by
 obtain ⟨b,off,e,hb,hc⟩:=h.2 (by omega)
 exact ⟨b,off,e,hb,hc k _ (ints_get hk)⟩
theorem RowAt.below {w w':World} {b o:Nat} {r:BRow} (h:RowAt w b o r) {B:Nat} (hb:Below B w w') (hB:b<B):RowAt w' b o r:=fun j u hu=>(hb.cell (by simpa using hB)).trans (h j u hu)
theorem RowAt.head {w:World} {b o:Nat} {r:BRow} (h:RowAt w b o r):w.cell? ⟨b,o,none⟩=some (.int .i64 r.idx)∧w.cell? ⟨b,o+1,none⟩=some (.int .i64 r.gen)∧w.cell? ⟨b,o+2,none⟩=some (.int .i64 r.has):=
 ⟨h 0 _ rfl,h 1 _ rfl,h 2 _ rfl⟩
theorem RowAt.val {w:World} {b o:Nat} {r:BRow} (h:RowAt w b o r) {k:Nat} (hk:k<8):w.cell? ⟨b,o+3+k,none⟩=some (.int .i64 (r.vals[k]'(by rw [r.h8];exact hk))):=by
 have:=h (3+k) (.int .i64 (r.vals[k]'(by rw [r.h8];exact hk))) (by
  unfold rowCells
  rw [List.getElem?_append_right (by simp),show 3+k - [Value.int IntKind.i64 r.idx,Value.int IntKind.i64 r.gen,Value.int IntKind.i64 r.has].length=k by simp]
  exact ints_get (by rw [r.h8];exact hk))
 rwa [← Nat.add_assoc] at this
theorem gens_any (zs:List Int) (A:Option Addr) (c:Nat) (w:World) (hA:RdG w w.heap.size A zs) :
  Calls Tryz.prog 84 #[.slice A zs.length c] w fun e w'=>e=.returned (.agg #[.int .i64 (gensErr zs).1,.int .i64 (gensErr zs).2])∧Below w.heap.size w w':=by
 by_cases hlen:60<zs.length
 ·have hr:Hid (gensErr zs=(4,0)):=Lib.hid (by simp [gensErr,hlen])
  go_enter Tryz.func84,Tryz.ntmps84
  go_wp2_with fail
  refine bodyPost_ret (v:=.agg #[.int .i64 4,.int .i64 0]) (by simp [results,Tryz.results84,go_sem]) rfl ⟨by rw [hr.out],?_⟩
  exact (Below.refl _ _).alloc (Nat.le_refl _) _
 ·have hr:Hid (gensErr zs=gensFrom 0 zs):=Lib.hid (by simp [gensErr,hlen])
  go_enter Tryz.func84,Tryz.ntmps84
  go_wp2_with fail
  go_loopw [11] (fun i wr=>∃ k:Nat,k≤zs.length∧i=.int .i64 k∧Hid (gensFrom 0 zs=gensFrom k (zs.drop k))∧Below w.heap.size w wr∧RdG wr w.heap.size A zs∧Blk wr w.heap.size 48 #[.int .i64 0,.int .i64 0]) (fun i _=>zs.length-(intOf i).toNat)
  case atStart=>exact ⟨0,by omega,rfl,Lib.hid (by simp),(Below.refl _ _).alloc (Nat.le_refl _) _,Rd.alloc hA (Nat.le_refl _) _,Blk.new _ _ _⟩
  case round=>
   clear hA
   obtain ⟨k,hk,rfl,heq,hbel,hA,HF⟩:=hrel
   have f0:=HF.cell 0;have f1:=HF.cell 1;have z0:=HF.frozen 0;have z1:=HF.frozen 1
   simp at f0 f1
   have s1:=HF.lt
   by_cases hlt:k<zs.length
   ·obtain ⟨b,off,rfl,hb,hc⟩:=hA.at_ hlt
    have hst:=Lib.hid (drop_cons hlt)
    generalize zs[k]=n at *
    have i0:(0:Int)≤(k:Int):=by omega
    have i1:(k:Int)<(zs.length:Int):=by omega
    have HQ:=(HF.set_ 0 (.int .i64 3)).set_ 1 (.int .i64 (k:Int))
    have r0:=HQ.cell 0;have r1:=HQ.cell 1
    simp at r0 r1
    by_cases h1:n<1
    ·go_wp2_with fail
     refine bodyPost_ret (v:=.agg #[.int .i64 3,.int .i64 (k:Int)]) (by simp [results,Tryz.results84,go_sem,r0,r1]) rfl ⟨?_,(hbel.setCell (by simp) _).setCell (by simp) _⟩
     rw [hr.out,heq.out,hst.out,gensFrom,if_pos (.inl h1)]
    by_cases h2:1000<n
    ·go_wp2_with fail
     refine bodyPost_ret (v:=.agg #[.int .i64 3,.int .i64 (k:Int)]) (by simp [results,Tryz.results84,go_sem,r0,r1]) rfl ⟨?_,(hbel.setCell (by simp) _).setCell (by simp) _⟩
     rw [hr.out,heq.out,hst.out,gensFrom,if_pos (.inr h2)]
    have hnext:Hid (gensFrom 0 zs=gensFrom (k+1) (zs.drop (k+1))):=Lib.hid (by rw [heq.out,hst.out,gensFrom,if_neg (by omega)])
    go_wp2_with fail
    go_roundw
    case rel=>exact ⟨k+1,by omega,by go_num,hnext,hbel,hA,HF⟩
    case measure=>simp [intOf];omega
   ·obtain rfl:k=zs.length:=by omega
    have HQ:=(HF.set_ 0 (.int .i64 0)).set_ 1 (.int .i64 0)
    have r0:=HQ.cell 0;have r1:=HQ.cell 1
    simp at r0 r1
    go_wp2_with fail
    refine bodyPost_ret (v:=.agg #[.int .i64 0,.int .i64 0]) (by simp [results,Tryz.results84,go_sem,r0,r1]) rfl ⟨?_,(hbel.setCell (by simp) _).setCell (by simp) _⟩
    rw [hr.out,heq.out,List.drop_length];rfl
open Go.RowKit
open Brood
def valsV (vs:List Int):Value:=.agg (ints vs).toArray
theorem vals_eight {vs:List Int} (h:vs.length=8):∃ a0 a1 a2 a3 a4 a5 a6 a7,vs=[a0,a1,a2,a3,a4,a5,a6,a7]:=by
 match vs,h with
 | [a0,a1,a2,a3,a4,a5,a6,a7],_=>exact ⟨_,_,_,_,_,_,_,_,rfl⟩
section
variable (a0 a1 a2 a3 a4 a5 a6 a7:Int) (w:World)
theorem vals_at0:(Instr.index 112 (.agg #[.int .i64 a0,.int .i64 a1,.int .i64 a2,.int .i64 a3,.int .i64 a4,.int .i64 a5,.int .i64 a6,.int .i64 a7]) (.int .i64 ((0:Nat):Int))).run Tryz.prog w=.ok (.int .i64 a0) w:=by kernel_rfl
theorem vals_at1:(Instr.index 112 (.agg #[.int .i64 a0,.int .i64 a1,.int .i64 a2,.int .i64 a3,.int .i64 a4,.int .i64 a5,.int .i64 a6,.int .i64 a7]) (.int .i64 ((1:Nat):Int))).run Tryz.prog w=.ok (.int .i64 a1) w:=by kernel_rfl
theorem vals_at2:(Instr.index 112 (.agg #[.int .i64 a0,.int .i64 a1,.int .i64 a2,.int .i64 a3,.int .i64 a4,.int .i64 a5,.int .i64 a6,.int .i64 a7]) (.int .i64 ((2:Nat):Int))).run Tryz.prog w=.ok (.int .i64 a2) w:=by kernel_rfl
theorem vals_at3:(Instr.index 112 (.agg #[.int .i64 a0,.int .i64 a1,.int .i64 a2,.int .i64 a3,.int .i64 a4,.int .i64 a5,.int .i64 a6,.int .i64 a7]) (.int .i64 ((3:Nat):Int))).run Tryz.prog w=.ok (.int .i64 a3) w:=by kernel_rfl
theorem vals_at4:(Instr.index 112 (.agg #[.int .i64 a0,.int .i64 a1,.int .i64 a2,.int .i64 a3,.int .i64 a4,.int .i64 a5,.int .i64 a6,.int .i64 a7]) (.int .i64 ((4:Nat):Int))).run Tryz.prog w=.ok (.int .i64 a4) w:=by kernel_rfl
theorem vals_at5:(Instr.index 112 (.agg #[.int .i64 a0,.int .i64 a1,.int .i64 a2,.int .i64 a3,.int .i64 a4,.int .i64 a5,.int .i64 a6,.int .i64 a7]) (.int .i64 ((5:Nat):Int))).run Tryz.prog w=.ok (.int .i64 a5) w:=by kernel_rfl
theorem vals_at6:(Instr.index 112 (.agg #[.int .i64 a0,.int .i64 a1,.int .i64 a2,.int .i64 a3,.int .i64 a4,.int .i64 a5,.int .i64 a6,.int .i64 a7]) (.int .i64 ((6:Nat):Int))).run Tryz.prog w=.ok (.int .i64 a6) w:=by kernel_rfl
theorem vals_at7:(Instr.index 112 (.agg #[.int .i64 a0,.int .i64 a1,.int .i64 a2,.int .i64 a3,.int .i64 a4,.int .i64 a5,.int .i64 a6,.int .i64 a7]) (.int .i64 ((7:Nat):Int))).run Tryz.prog w=.ok (.int .i64 a7) w:=by kernel_rfl
end
theorem vals_at {vs:List Int} (h:vs.length=8) {k:Nat} (hk:k<8) (w:World):(Instr.index 112 (valsV vs) (.int .i64 (k:Int))).run Tryz.prog w=.ok (.int .i64 (vs[k]'(by rw [h];exact hk))) w:=by
 obtain ⟨a0,a1,a2,a3,a4,a5,a6,a7,rfl⟩:=vals_eight h
 match k,hk with
 | 0,_=>exact vals_at0 a0 a1 a2 a3 a4 a5 a6 a7 w
 | 1,_=>exact vals_at1 a0 a1 a2 a3 a4 a5 a6 a7 w
 | 2,_=>exact vals_at2 a0 a1 a2 a3 a4 a5 a6 a7 w
 | 3,_=>exact vals_at3 a0 a1 a2 a3 a4 a5 a6 a7 w
 | 4,_=>exact vals_at4 a0 a1 a2 a3 a4 a5 a6 a7 w
 | 5,_=>exact vals_at5 a0 a1 a2 a3 a4 a5 a6 a7 w
 | 6,_=>exact vals_at6 a0 a1 a2 a3 a4 a5 a6 a7 w
 | 7,_=>exact vals_at7 a0 a1 a2 a3 a4 a5 a6 a7 w
theorem row_any (r:BRow) (b o:Nat) (w:World) (hb:b<w.heap.size) (h:RowAt w b o r) :
  Calls Tryz.prog 85 #[.pointer (some ⟨b,o,none⟩)] w fun e w'=>e=.returned (.int .i64 (rowErr r))∧w=w':=by
 obtain ⟨c0,c1,c2⟩:=h.head
 generalize hE:rowErr r=E
 obtain ⟨idx,gen,has,vals,h8⟩:=r
 simp only at c0 c1 c2
 obtain ⟨a0,a1,a2,a3,a4,a5,a6,a7,rfl⟩:=vals_eight h8
 have v0:=h.val (k:=0) (by omega);have v1:=h.val (k:=1) (by omega);have v2:=h.val (k:=2) (by omega);have v3:=h.val (k:=3) (by omega);have v4:=h.val (k:=4) (by omega);have v5:=h.val (k:=5) (by omega);have v6:=h.val (k:=6) (by omega);have v7:=h.val (k:=7) (by omega)
 simp at v0 v1 v2 v3 v4 v5 v6 v7
 simp only [Nat.add_assoc,Nat.reduceAdd] at v0 v1 v2 v3 v4 v5 v6 v7
 clear h
 have hv:∀ (k:Nat) (hk:k<8) (W:World),(Instr.index 112 (.agg #[.int .i64 a0,.int .i64 a1,.int .i64 a2,.int .i64 a3,.int .i64 a4,.int .i64 a5,.int .i64 a6,.int .i64 a7]) (.int .i64 (k:Int))).run Tryz.prog W=.ok (.int .i64 ([a0,a1,a2,a3,a4,a5,a6,a7][k]'hk)) W:=
  fun k hk W=>vals_at (vs:=[a0,a1,a2,a3,a4,a5,a6,a7]) rfl hk W
 have hvv:=Lib.hid hv
 clear hv
 cases hs:isSet has
 case false=>
  have hsh:=set_any has w
  rw [hs] at hsh
  have hshh:=Lib.hid hsh
  clear hsh
  go_enter Tryz.func85,Tryz.ntmps85
  go_wp2_with fail
  refine hshh.out.mono ?_
  rintro e w1 ⟨rfl,rfl⟩
  go_wp2_with fail
  go_ret
  exact ⟨ret_int (by rw [← hE];simp [rowErr,hs]),rfl⟩
 case true=>
  have hsh:=set_any has w
  rw [hs] at hsh
  have hshh:=Lib.hid hsh
  have hre:Hid (E=if valsBad has 0 [a0,a1,a2,a3,a4,a5,a6,a7] then 3 else 0):=Lib.hid (by
   rw [← hE]
   unfold rowErr
   rw [hs,Bool.true_and]
   cases valsBad has 0 [a0,a1,a2,a3,a4,a5,a6,a7]<;>rfl)
  clear hsh hE
  go_enter Tryz.func85,Tryz.ntmps85
  go_wp2_with fail
  refine hshh.out.mono ?_
  rintro e w1 ⟨rfl,rfl⟩
  go_wp2_with fail
  clear v0 v1 v2 v3 v4 v5 v6 v7
  have hL:([a0,a1,a2,a3,a4,a5,a6,a7]:List Int).length=8:=rfl
  have hst:=Lib.hid (fun k hk=>@valsBad_drop has [a0,a1,a2,a3,a4,a5,a6,a7] k hk)
  obtain ⟨L,hLe⟩:∃ L:List Int,L=[a0,a1,a2,a3,a4,a5,a6,a7]:=⟨_,rfl⟩
  have hvv2:Hid (∀ (k:Nat) (hk:k<L.length) (W:World),(Instr.index 112 (.agg #[.int .i64 a0,.int .i64 a1,.int .i64 a2,.int .i64 a3,.int .i64 a4,.int .i64 a5,.int .i64 a6,.int .i64 a7]) (.int .i64 (k:Int))).run Tryz.prog W=.ok (.int .i64 (L[k]'hk)) W):=by subst hLe;exact hvv
  rw [← hLe] at hre hst hL
  clear hvv hLe hshh
  go_loopw [15] (fun i wr=>∃ k:Nat,k≤8∧i=.int .i64 k∧Hid (valsBad has 0 L=valsBad has k (L.drop k))∧w=wr) (fun i _=>8-(intOf i).toNat)
  case atStart=>exact ⟨0,by omega,rfl,Lib.hid (by simp),rfl⟩
  case round=>
   obtain ⟨k,hk,rfl,heq,rfl⟩:=hrel
   by_cases hlt:k<8
   ·have hkL:k<L.length:=by omega
    have hix:=hvv2.out k hkL
    have hst2:=hst.out k hkL
    generalize L[k]=z at *
    have hst3:=Lib.hid hst2
    clear hst2
    have hvb:Hid (valBad has k z=(!isVal z || (decide (z≠0) && !hasB has (k:Int)))):=Lib.hid rfl
    have cv:=value_any z w
    have ch:=has_any has (k:Int) hs w
    cases q1:isVal z
    case false=>
     rw [q1] at cv
     have cvh:=Lib.hid cv
     clear cv ch
     have hf:Hid (valsBad has 0 L=true):=Lib.hid (by rw [heq.out,hst3.out,hvb.out,q1];rfl)
     go_wp2_with fail
     refine cvh.out.mono ?_
     rintro e w1 ⟨rfl,rfl⟩
     go_wp2_with fail
     go_ret
     exact ⟨ret_int (by rw [hre.out,hf.out];rfl),rfl⟩
    case true=>
     rw [q1] at cv
     have cvh:=Lib.hid cv
     by_cases q2:z=0
     ·subst q2
      clear cv ch
      have hf:Hid (valsBad has 0 L=valsBad has (k+1) (L.drop (k+1))):=Lib.hid (by rw [heq.out,hst3.out,hvb.out,q1];rfl)
      go_wp2_with fail
      refine cvh.out.mono ?_
      rintro e w1 ⟨rfl,rfl⟩
      go_wp2_with fail
      go_roundw
      case rel=>exact ⟨k+1,by omega,by go_num,hf,trivial⟩
      case measure=>simp [intOf];omega
     ·have q2':(z != 0)=true:=by simpa using q2
      cases q3:hasB has (k:Int)
      case false=>
       rw [q3] at ch
       have chh:=Lib.hid ch
       clear cv ch
       have hf:Hid (valsBad has 0 L=true):=Lib.hid (by rw [heq.out,hst3.out,hvb.out,q1,q3];simp [q2])
       go_wp2_with fail
       refine cvh.out.mono ?_
       rintro e w1 ⟨rfl,rfl⟩
       go_wp2_with fail
       refine chh.out.mono ?_
       rintro e w1 ⟨rfl,rfl⟩
       go_wp2_with fail
       go_ret
       exact ⟨ret_int (by rw [hre.out,hf.out];rfl),rfl⟩
      case true=>
       rw [q3] at ch
       have chh:=Lib.hid ch
       clear cv ch
       have hf:Hid (valsBad has 0 L=valsBad has (k+1) (L.drop (k+1))):=Lib.hid (by rw [heq.out,hst3.out,hvb.out,q1,q3];simp)
       go_wp2_with fail
       refine cvh.out.mono ?_
       rintro e w1 ⟨rfl,rfl⟩
       go_wp2_with fail
       refine chh.out.mono ?_
       rintro e w1 ⟨rfl,rfl⟩
       go_wp2_with fail
       go_roundw
       case rel=>exact ⟨k+1,by omega,by go_num,hf,trivial⟩
       case measure=>simp [intOf];omega
   ·obtain rfl:k=8:=by omega
    have hf:Hid (valsBad has 0 L=false):=Lib.hid (by rw [heq.out,List.drop_eq_nil_of_le (by omega)];rfl)
    go_wp2_with fail
    go_ret
    exact ⟨ret_int (by rw [hre.out,hf.out];rfl),rfl⟩
open Go.RowKit
open Brood
def prevOf (rows:List BRow) (k:Nat):Option Int:=if k=0 then none else (rows[k-1]?).map (·.idx)
theorem rowsFrom_ok {gens:List Int} {k:Nat} {p:Option Int} {r:BRow} {l:List BRow} (h1:rowErr r=0) (h2:¬ (r.idx<0∨(gens.length:Int)≤r.idx)) (h3:prevGe p r.idx=false)
  (h4:r.gen=gens.getD r.idx.toNat 0):rowsFrom gens k p (r::l)=rowsFrom gens (k+1) (some r.idx) l:=by
 rw [rowsFrom,if_neg (by simpa using h1),if_neg h2,if_neg (by rw [h3];decide),if_neg (by simpa using h4)]
theorem pwrong_any (rows:List BRow) (gens:List Int) (Ar:Option Addr) (cr:Nat) (Ag:Option Addr) (cg:Nat) (hlenr:rows.length≤9223372036854775807) (w:World) (hr:RdR w w.heap.size Ar rows) (hg:RdG w w.heap.size Ag gens) :
  Calls Tryz.prog 40 #[.agg #[.slice Ar rows.length cr,.slice Ag gens.length cg]] w fun e w'=>e=.returned (.agg #[.int .i64 (worldErr ⟨rows,gens⟩).1,.int .i64 (worldErr ⟨rows,gens⟩).2])∧Below w.heap.size w w':=by
 have B0:=(Blk.new w 64 #[.slice Ar rows.length cr,.slice Ag gens.length cg]).alloc (.cells #[.int .i64 0,.int .i64 0] 48)
 have F0:=Blk.new (w.alloc (.cells #[.slice Ar rows.length cr,.slice Ag gens.length cg] 64)) 48 #[.int .i64 0,.int .i64 0]
 simp only [World.size_alloc] at F0
 have hg0:RdG ((w.alloc (.cells #[.slice Ar rows.length cr,.slice Ag gens.length cg] 64)).alloc (.cells #[.int .i64 0,.int .i64 0] 48)) w.heap.size Ag gens:=Rd.alloc (Rd.alloc hg (Nat.le_refl _) _) (by simp) _
 have hr0:RdR ((w.alloc (.cells #[.slice Ar rows.length cr,.slice Ag gens.length cg] 64)).alloc (.cells #[.int .i64 0,.int .i64 0] 48)) w.heap.size Ar rows:=Rd.alloc (Rd.alloc hr (Nat.le_refl _) _) (by simp) _
 have hbel0:Below w.heap.size w ((w.alloc (.cells #[.slice Ar rows.length cr,.slice Ag gens.length cg] 64)).alloc (.cells #[.int .i64 0,.int .i64 0] 48)):=((Below.refl _ _).alloc (Nat.le_refl _) _).alloc (by simp) _
 have hwe:Hid (worldErr ⟨rows,gens⟩=if (gensErr gens).1≠0 then gensErr gens else rowsFrom gens 0 none rows):=Lib.hid rfl
 generalize worldErr ⟨rows,gens⟩=E at *
 go_enter Tryz.func40,Tryz.ntmps40
 go_wp2_with fail
 refine (gens_any gens Ag cg _ (Rd.more hg0 (by simp;omega))).mono ?_
 rintro e w1 ⟨rfl,hb1⟩
 have B1:=B0.below hb1 (by simp;omega)
 have F1:=F0.below hb1 (by simp)
 have hg1:RdG w1 w.heap.size Ag gens:=Rd.under hg0 hb1 (by simp;omega)
 have hr1:RdR w1 w.heap.size Ar rows:=Rd.under hr0 hb1 (by simp;omega)
 have hbel1:Below w.heap.size w w1:=hbel0.trans (hb1.mono (by simp;omega))
 have hs1:=F1.lt
 have hs0:=B1.lt
 clear B0 F0 hg0 hr0 hbel0 hb1 hr hg
 by_cases hge:(gensErr gens).1=0
 case neg=>
  have hE:Hid (E=gensErr gens):=Lib.hid (by rw [hwe.out,if_pos hge])
  have hx':((gensErr gens).1 != 0)=true:=by simpa using hge
  have f0:=F1.cell 0;have f1:=F1.cell 1;have z0:=F1.frozen 0;have z1:=F1.frozen 1
  simp at f0 f1
  have HQ:=((F1.set_ 0 (.int .i64 (gensErr gens).1)).set_ 1 (.int .i64 (gensErr gens).2)).alloc (.cells #[.int .i64 (gensErr gens).1,.int .i64 (gensErr gens).2] 48)
  have r0:=HQ.cell 0;have r1:=HQ.cell 1
  simp at r0 r1
  go_wp2_with fail
  refine bodyPost_ret (v:=.agg #[.int .i64 (gensErr gens).1,.int .i64 (gensErr gens).2]) (by simp [results,Tryz.results40,go_sem,r0,r1]) rfl ⟨by rw [hE.out],?_⟩
  exact ((hbel1.setCell (by simp) _).setCell (by simp) _).alloc (by simp;omega) _
 case pos=>
  have hE:Hid (E=rowsFrom gens 0 none rows):=Lib.hid (by rw [hwe.out,if_neg (by simpa using hge)])
  rw [hge]
  have k0:=B1.cell 0;have k1:=B1.cell 1
  simp at k0 k1
  have B2:=B1.alloc (.cells #[.int .i64 0,.int .i64 (gensErr gens).2] 48)
  have F2:=F1.alloc (.cells #[.int .i64 0,.int .i64 (gensErr gens).2] 48)
  have hg2:RdG _ w.heap.size Ag gens:=Rd.alloc hg1 hbel1.size (.cells #[.int .i64 0,.int .i64 (gensErr gens).2] 48)
  have hr2:RdR _ w.heap.size Ar rows:=Rd.alloc hr1 hbel1.size (.cells #[.int .i64 0,.int .i64 (gensErr gens).2] 48)
  have hbel2:=hbel1.alloc hbel1.size (.cells #[.int .i64 0,.int .i64 (gensErr gens).2] 48)
  go_wp2_with fail
  clear B1 F1 hg1 hr1 hbel1 k0 k1
  have hlg:gens.length≤60:=by
   rcases Nat.lt_or_ge 60 gens.length with h | h
   ·simp [gensErr,h] at hge
   ·exact h
  go_loopw [18] (fun i wr=>∃ k:Nat,k≤rows.length∧i=.int .i64 k∧Hid (E=rowsFrom gens k (prevOf rows k) (rows.drop k))∧Below w.heap.size w wr∧RdR wr w.heap.size Ar rows∧RdG wr w.heap.size Ag gens ∧
    Blk wr w.heap.size 64 #[.slice Ar rows.length cr,.slice Ag gens.length cg]∧Blk wr (w.heap.size+1) 48 #[.int .i64 0,.int .i64 0]) (fun i _=>rows.length-(intOf i).toNat)
  case atStart=>exact ⟨0,by omega,rfl,Lib.hid (by rw [hE.out];simp [prevOf]),hbel2,hr2,hg2,B2,F2⟩
  case round=>
   clear B2 F2 hg2 hr2 hbel2 hs0 hs1
   obtain ⟨k,hk,rfl,heq,hbel,hR,hG,HB,HF⟩:=hrel
   have e0:=HB.cell 0;have e1:=HB.cell 1
   have f0:=HF.cell 0;have f1:=HF.cell 1;have z0:=HF.frozen 0;have z1:=HF.frozen 1
   simp at e0 e1 f0 f1
   have s1:=HF.lt;have s0:=HB.lt
   by_cases hlt:k<rows.length
   ·obtain ⟨b,off,rfl,hb,hrow⟩:=hR.at_ hlt
    have hst:=Lib.hid (drop_cons hlt)
    have hpn:Hid (prevOf rows (k+1)=some rows[k].idx):=Lib.hid (by simp [prevOf,List.getElem?_eq_getElem hlt])
    have hsw:=hbel.size
    have hcall:=Lib.hid (row_any rows[k] b (off+k*11) wr (by omega) hrow)
    generalize rows[k]=r at *
    have i0:(0:Int)≤(k:Int):=by omega
    have i1:(k:Int)<(rows.length:Int):=by omega
    go_wp2_with fail
    refine hcall.out.mono ?_
    rintro e w2 ⟨rfl,rfl⟩
    clear hcall
    cases hx:(decide (rowErr r=0)) with
    | false=>
     have hx1:=of_decide_eq_false hx
     have hx':(rowErr r != 0)=true:=by simpa using hx1
     have hEf:Hid (E=(rowErr r,(k:Int))):=Lib.hid (by rw [heq.out,hst.out,rowsFrom,if_pos hx1])
     clear hx hx1
     have HQ:=((HF.set_ 0 (.int .i64 (rowErr r))).set_ 1 (.int .i64 (k:Int)))
     have r0:=HQ.cell 0;have r1:=HQ.cell 1
     simp at r0 r1
     go_wp2_with fail
     refine bodyPost_ret (v:=.agg #[.int .i64 (rowErr r),.int .i64 (k:Int)]) (by simp [results,Tryz.results40,go_sem,r0,r1]) rfl ⟨by rw [hEf.out],(hbel.setCell (by simp) _).setCell (by simp) _⟩
    | true=>
     have hre:rowErr r=0:=of_decide_eq_true hx
     have hx':(rowErr r != 0)=false:=by simpa using hre
     have hok:=Lib.hid (@rowsFrom_ok gens k (prevOf rows k) r (rows.drop (k+1)) hre)
     have hrf:=Lib.hid (show rowsFrom gens k (prevOf rows k) (r::rows.drop (k+1))=(if rowErr r≠0 then (rowErr r,(k:Int)) else if r.idx<0∨(gens.length:Int)≤r.idx then (3,(k:Int)) else if prevGe (prevOf rows k) r.idx=true then (2,(k:Int)) else if r.gen≠gens.getD r.idx.toNat 0 then (7,(k:Int)) else rowsFrom gens (k+1) (some r.idx) (rows.drop (k+1))) from by rw [rowsFrom])
     obtain ⟨c0,c1,_⟩:=hrow.head
     have hprev:∀ k',k=k'+1→∃ z:Int,prevOf rows k=some z∧wr.cell? ⟨b,off+k'*11,none⟩=some (.int .i64 z):=by
      rintro k' rfl
      have hk':k' < rows.length:=by omega
      obtain ⟨b',off',hbo,_,hrow'⟩:=hR.at_ hk'
      injection hbo with hbo
      injection hbo with hbo1 hbo2
      subst hbo1 hbo2
      exact ⟨rows[k'].idx,by simp [prevOf,List.getElem?_eq_getElem hk'],hrow'.head.1⟩
     have hgat:∀ ix:Nat,r.idx=(ix:Int)→ix<gens.length→∃ bg og z,Ag=some ⟨bg,og,none⟩∧bg<w.heap.size∧gens.getD r.idx.toNat 0=z∧wr.cell? ⟨bg,og+ix,none⟩=some (.int .i64 z):=by
      intro ix hix hlx
      obtain ⟨bg,og,he,hbg,hcg⟩:=hG.at_ hlx
      exact ⟨bg,og,gens[ix],he,hbg,by rw [hix];simp [List.getD_eq_getElem?_getD,hlx],hcg⟩
     rw [← hst.out] at hrf
     rw [hre]
     clear hx hrow hst
     generalize r.idx=idx at *
     generalize r.gen=gen at *
     have hbw:b≠wr.heap.size:=by omega
     by_cases h1:idx<0
     ·have hEf:Hid (E=(3,(k:Int))):=Lib.hid (by rw [heq.out,hrf.out,if_neg (by simpa using hre),if_pos (.inl h1)])
      clear hprev hgat hok hrf
      have HQ:=((HF.set_ 0 (.int .i64 3)).set_ 1 (.int .i64 (k:Int))).alloc (.cells #[.int .i64 idx,.int .i64 gen] 24)
      have r0:=HQ.cell 0;have r1:=HQ.cell 1
      simp at r0 r1
      go_wp2_with fail
      refine bodyPost_ret (v:=.agg #[.int .i64 3,.int .i64 (k:Int)]) (by simp [results,Tryz.results40,go_sem,r0,r1]) rfl ⟨by rw [hEf.out],((hbel.setCell (by simp) _).setCell (by simp) _).alloc (by simp;omega) _⟩
     by_cases h2:(gens.length:Int)≤idx
     ·have hEf:Hid (E=(3,(k:Int))):=Lib.hid (by rw [heq.out,hrf.out,if_neg (by simpa using hre),if_pos (.inr h2)])
      clear hprev hgat hok hrf
      have HQ:=((HF.set_ 0 (.int .i64 3)).set_ 1 (.int .i64 (k:Int))).alloc (.cells #[.int .i64 idx,.int .i64 gen] 24)
      have r0:=HQ.cell 0;have r1:=HQ.cell 1
      simp at r0 r1
      go_wp2_with fail
      refine bodyPost_ret (v:=.agg #[.int .i64 3,.int .i64 (k:Int)]) (by simp [results,Tryz.results40,go_sem,r0,r1]) rfl ⟨by rw [hEf.out],((hbel.setCell (by simp) _).setCell (by simp) _).alloc (by simp;omega) _⟩
     obtain ⟨ix,rfl⟩:=nat_of (n:=idx) (by omega)
     have hixl:ix<gens.length:=by omega
     obtain ⟨bg,og,z,rfl,hbg,hz,hcz⟩:=hgat ix rfl hixl
     have hrf2:Hid (E=if prevGe (prevOf rows k) (ix:Int)=true then (2,(k:Int)) else if gen≠z then (7,(k:Int)) else rowsFrom gens (k+1) (some (ix:Int)) (rows.drop (k+1))):=Lib.hid (by
      rw [heq.out,hrf.out,if_neg (by simpa using hre),if_neg (by omega),hz])
     clear hok hrf hgat hz
     go_upto_region 14 with fail
     go_cut [50] (fun s50 wx=>s50=.bool (prevGe (prevOf rows k) (ix:Int))∧∃ n,wx=(wr.alloc (.cells #[.int .i64 (ix:Int),.int .i64 gen] 24)).drewN n)
     case first=>
      clear hrf2
      have hbl:b<wr.heap.size:=by omega
      cases k with
      | zero=>
       go_quiet (fail)
       go_wp2_with fail
       go_meet
       exact ⟨by simp [prevOf,prevGe],_,rfl⟩
      | succ k'=>
       obtain ⟨q,hq,hcq⟩:=hprev k' rfl
       have hqv:Hid (prevGe (prevOf rows (k'+1)) (ix:Int)=decide ((ix:Int)≤q)):=Lib.hid (by rw [hq];rfl)
       have hwrap:IntKind.i64.wrap (((k'+1:Nat):Int)-1)=(k':Int):=by rw [IntKind.wrap_i64];omega
       have hkp:(0:Int)<((k'+1:Nat):Int):=by omega
       have k0:(0:Int)≤(k':Int):=by omega
       have k1:(k':Int)<(rows.length:Int):=by omega
       clear hprev hq
       go_quiet (fail)
       go_wp2_with fail
       go_meet
       exact ⟨by rw [hqv.out],_,rfl⟩
     case rest=>
      obtain ⟨rfl,n,rfl⟩:=hcut
      clear hprev
      have HF4:=(HF.alloc (.cells #[.int .i64 (ix:Int),.int .i64 gen] 24)).drewN n
      have HB4:=(HB.alloc (.cells #[.int .i64 (ix:Int),.int .i64 gen] 24)).drewN n
      have HX4:=(Blk.new wr 24 #[.int .i64 (ix:Int),.int .i64 gen]).drewN n
      have hR4:RdR ((wr.alloc (.cells #[.int .i64 (ix:Int),.int .i64 gen] 24)).drewN n) w.heap.size (some ⟨b,off,none⟩) rows:=Rd.alloc hR hsw _
      have hG4:RdG ((wr.alloc (.cells #[.int .i64 (ix:Int),.int .i64 gen] 24)).drewN n) w.heap.size (some ⟨bg,og,none⟩) gens:=Rd.alloc hG hsw _
      have hbel4:=below_drewN (hbel.alloc hsw (.cells #[.int .i64 (ix:Int),.int .i64 gen] 24)) n
      have hcz4:((wr.alloc (.cells #[.int .i64 (ix:Int),.int .i64 gen] 24)).drewN n).cell? ⟨bg,og+ix,none⟩=some (.int .i64 z):=(World.cell?_alloc_lt wr _ ⟨bg,og+ix,none⟩ (by simp only;omega)).trans hcz
      have hgx:wr.heap.size<((wr.alloc (.cells #[.int .i64 (ix:Int),.int .i64 gen] 24)).drewN n).heap.size:=HX4.lt
      clear HF HB hR hG hbel hcz e0 e1 f0 f1 z0 z1 c0 c1
      generalize (wr.alloc (.cells #[.int .i64 (ix:Int),.int .i64 gen] 24)).drewN n=w5 at *
      generalize wr.heap.size=gx at *
      have f0:=HF4.cell 0;have f1:=HF4.cell 1;have z0:=HF4.frozen 0;have z1:=HF4.frozen 1
      have e0:=HB4.cell 0;have e1:=HB4.cell 1
      have x0:=HX4.cell 0;have x1:=HX4.cell 1
      simp at f0 f1 e0 e1 x0 x1
      cases hpg:prevGe (prevOf rows k) (ix:Int)
      case true=>
       have hEf:Hid (E=(2,(k:Int))):=Lib.hid (by rw [hrf2.out,if_pos hpg])
       have HQ:=((HF4.set_ 0 (.int .i64 2)).set_ 1 (.int .i64 (k:Int)))
       have r0:=HQ.cell 0;have r1:=HQ.cell 1
       simp at r0 r1
       go_wp2_with fail
       refine bodyPost_ret (v:=.agg #[.int .i64 2,.int .i64 (k:Int)]) (by simp [results,Tryz.results40,go_sem,r0,r1]) rfl ⟨by rw [hEf.out],(hbel4.setCell (by simp) _).setCell (by simp) _⟩
      case false=>
       have hrf3:Hid (E=if gen≠z then (7,(k:Int)) else rowsFrom gens (k+1) (some (ix:Int)) (rows.drop (k+1))):=Lib.hid (by rw [hrf2.out,if_neg (by rw [hpg];decide)])
       clear hrf2
       go_upto_region 16 with fail
       go_cut [68] (fun s68 wx=>s68=.bool (gen != z)∧∃ m,wx=w5.drewN m)
       case first=>
        go_quiet (fail)
        go_wp2_with fail
        go_meet
        exact ⟨rfl,_,rfl⟩
       case rest=>
        obtain ⟨rfl,m,rfl⟩:=hcut
        replace HF4:=HF4.drewN m;replace HB4:=HB4.drewN m
        replace hR4:RdR (w5.drewN m) w.heap.size (some ⟨b,off,none⟩) rows:=hR4
        replace hG4:RdG (w5.drewN m) w.heap.size (some ⟨bg,og,none⟩) gens:=hG4
        replace hbel4:=below_drewN hbel4 m
        clear f0 f1 z0 z1 e0 e1 x0 x1 HX4 hcz4
        generalize w5.drewN m=w6 at *
        have f0:=HF4.cell 0;have f1:=HF4.cell 1;have z0:=HF4.frozen 0;have z1:=HF4.frozen 1
        simp at f0 f1
        by_cases hgz:gen=z
        ·subst hgz
         have hnext:Hid (E=rowsFrom gens (k+1) (prevOf rows (k+1)) (rows.drop (k+1))):=Lib.hid (by rw [hrf3.out,if_neg (by simp),hpn.out])
         go_wp2_with fail
         go_roundw
         case rel=>exact ⟨k+1,by omega,by go_num,hnext,hbel4,hR4,hG4,HB4,HF4⟩
         case measure=>simp [intOf];omega
        ·have hgz':(gen != z)=true:=by simpa using hgz
         have hEf:Hid (E=(7,(k:Int))):=Lib.hid (by rw [hrf3.out,if_pos hgz])
         have HQ:=((HF4.set_ 0 (.int .i64 7)).set_ 1 (.int .i64 (k:Int)))
         have r0:=HQ.cell 0;have r1:=HQ.cell 1
         simp at r0 r1
         go_wp2_with fail
         refine bodyPost_ret (v:=.agg #[.int .i64 7,.int .i64 (k:Int)]) (by simp [results,Tryz.results40,go_sem,r0,r1]) rfl ⟨by rw [hEf.out],(hbel4.setCell (by simp) _).setCell (by simp) _⟩
   ·obtain rfl:k=rows.length:=by omega
    have HQ:=(HF.set_ 0 (.int .i64 0)).set_ 1 (.int .i64 0)
    have r0:=HQ.cell 0;have r1:=HQ.cell 1
    simp at r0 r1
    have hEf:Hid (E=(0,0)):=Lib.hid (by rw [heq.out,List.drop_length];rfl)
    go_wp2_with fail
    refine bodyPost_ret (v:=.agg #[.int .i64 0,.int .i64 0]) (by simp [results,Tryz.results40,go_sem,r0,r1]) rfl ⟨by rw [hEf.out],(hbel.setCell (by simp) _).setCell (by simp) _⟩
open Go.RowKit Go.Maps
theorem keyInt:Keyed Tryz.prog 3:=int_keyed Tryz.underlying3
theorem int_key (k:Int):WideAt.IsKeyLit (Lit.int .i64 k):=by simp [WideAt.IsKeyLit]
open Go.RowKit
theorem own_keep {w w':World} {base:Nat} {e:TypeId} {sz:Nat} {v:Value} {n:Nat} {xs:List Value} (h:w.ownsRow base e sz v n xs) (hk:∀ b,v.ownBlock=some b→b<w.heap.size→w'.heap[b]?=w.heap[b]?):w'.ownsRow base e sz v n xs:=by
 refine ⟨h.1,?_⟩
 rcases h.2 with hn | ⟨g,cap,cur,rfl,hb,hgg,rest⟩
 ·exact .inl hn
 ·refine .inr ⟨g,cap,cur,rfl,hb,?_,rest⟩
  rw [hk g rfl (Array.getElem?_eq_some_iff.1 hgg).1]
  exact hgg
theorem own_below {w w':World} {base:Nat} {e:TypeId} {sz:Nat} {v:Value} {n:Nat} {xs:List Value} (h:w.ownsRow base e sz v n xs) (hb:Below w.heap.size w w'):w'.ownsRow base e sz v n xs:=
 own_keep h fun b _ hlt=>hb.block b hlt
structure OwnLL (w:World) (base:Nat) (v:Value) (us:List Value) (rows:List (List Int)):Prop where
 out:w.ownsRow base 38 1 v us.length us
 len:us.length=rows.length
 row:∀ (k:Nat) (u:Value) (r:List Int),us[k]?=some u→rows[k]?=some r→w.ownsRow base 3 1 u r.length (ints r)
 apart:∀ (k k':Nat) (u u':Value),us[k]?=some u→us[k']?=some u'→k≠k'→∀ b,u.ownBlock=some b→u'.ownBlock≠some b
 off:∀ (k:Nat) (u:Value),us[k]?=some u→∀ b,u.ownBlock=some b→v.ownBlock≠some b
section
variable {w w':World} {base:Nat} {v v':Value} {us:List Value} {rows:List (List Int)}
theorem OwnLL.nil_ (w:World) (base:Nat):OwnLL w base (.slice none 0 0) [] []:=
 ⟨own_nil _ _ _ _,rfl,fun k u r h=>by simp at h,fun k k' u u' h=>by simp at h,fun k u h=>by simp at h⟩
theorem OwnLL.below (h:OwnLL w base v us rows) (hb:Below w.heap.size w w'):OwnLL w' base v us rows:=
 ⟨own_below h.out hb,h.len,fun k u r h1 h2=>own_below (h.row k u r h1 h2) hb,h.apart,h.off⟩
theorem OwnLL.alloc (h:OwnLL w base v us rows) (o:Obj):OwnLL (w.alloc o) base v us rows:=
 h.below ((Below.refl _ _).alloc (Nat.le_refl _) o)
theorem OwnLL.drew (h:OwnLL w base v us rows):OwnLL w.drew base v us rows:=⟨h.out,h.len,h.row,h.apart,h.off⟩
theorem OwnLL.drewN (h:OwnLL w base v us rows) (n:Nat):OwnLL (w.drewN n) base v us rows:=⟨h.out,h.len,h.row,h.apart,h.off⟩
theorem own_lower {w:World} {base base':Nat} {e:TypeId} {sz:Nat} {v:Value} {n:Nat} {xs:List Value} (h:w.ownsRow base e sz v n xs) (hb:base'≤base):w.ownsRow base' e sz v n xs:=by
 refine ⟨h.1,?_⟩
 rcases h.2 with hn | ⟨g,cap,cur,rfl,hg,rest⟩
 ·exact .inl hn
 ·exact .inr ⟨g,cap,cur,rfl,Nat.le_trans hb hg,rest⟩
theorem own_far {w:World} {base:Nat} {e:TypeId} {sz:Nat} {v:Value} {n:Nat} {xs:List Value} (h:w.ownsRow base e sz v n xs) {p:Addr} (hp:p.block<base) (u:Value):(w.setCell p u).ownsRow base e sz v n xs:=
 own_keep h fun b hb _=>Below.heap_setCell w p u b (fun e=>by have:=(h.lt b hb).1;omega)
theorem OwnLL.lower {base':Nat} (h:OwnLL w base v us rows) (hb:base'≤base):OwnLL w base' v us rows:=
 ⟨own_lower h.out hb,h.len,fun k u r h1 h2=>own_lower (h.row k u r h1 h2) hb,h.apart,h.off⟩
theorem OwnLL.far (h:OwnLL w base v us rows) {p:Addr} (hp:p.block<base) (u:Value):OwnLL (w.setCell p u) base v us rows:=
 ⟨own_far h.out hp u,h.len,fun k x r h1 h2=>own_far (h.row k x r h1 h2) hp u,h.apart,h.off⟩
theorem OwnLL.shape (h:OwnLL w base v us rows):∃ A c,v=.slice A rows.length c∧rows.length≤c∧c≤maxLen:=by
 obtain ⟨A,c,hv,h1,h2⟩:=own_shape h.out
 exact ⟨A,c,by rw [hv,h.len],by rw [← h.len];exact h1,h2⟩
theorem OwnLL.put {g cap k:Nat} {u u':Value} {r r':List Int} (h:OwnLL w base (.slice (some ⟨g,0,none⟩) rows.length cap) us rows) (hu:us[k]?=some u) (hr:rows[k]?=some r)
  (hown:w'.ownsRow base 3 1 u' r'.length (ints r')) (hg:w.grownBy w' u.ownBlock) (hat:u'.ownBlock=u.ownBlock∨u'.ownBlock=some w.heap.size) :
  OwnLL (w'.setCell ⟨g,k,none⟩ u') base (.slice (some ⟨g,0,none⟩) rows.length cap) (us.set k u') (rows.set k r'):=by
 have hkr:k<rows.length:=(List.getElem?_eq_some_iff.1 hr).1
 have hku:k<us.length:=by rw [h.len];exact hkr
 have hgsz:g<w.heap.size:=(h.out.lt g rfl).2
 have hu'g:∀ b,u'.ownBlock=some b→b≠g:=by
  intro b hb e
  subst e
  rcases hat with e | e
  ·exact h.off k u hu b (e.symm.trans hb) rfl
  ·rw [e] at hb
   have:w.heap.size=b:=by simpa using hb
   omega
 have hout:w'.ownsRow base 38 1 (.slice (some ⟨g,0,none⟩) rows.length cap) us.length us:=by
  refine h.out.kept hg (.inr fun e=>?_)
  cases hub:u.ownBlock with
  | none=>rw [hub] at e;cases e
  | some b=>exact h.off k u hu b hub (e.trans hub)
 have hst:=World.ownsRow.stored (by rw [h.len] at hout;exact hout) k u'
 refine ⟨by rw [List.length_set,h.len];exact hst.1,by simp [h.len],?_,?_,?_⟩
 ·intro j x y h1 h2
  by_cases hj:j=k
  ·subst hj
   rw [List.getElem?_set_self hku] at h1
   rw [List.getElem?_set_self hkr] at h2
   obtain rfl:=Option.some.inj h1
   obtain rfl:=Option.some.inj h2
   exact hown.kept hst.2 (by
    cases hb:u'.ownBlock with
    | none=>exact .inl rfl
    | some b=>exact .inr (fun e=>hu'g b hb (by simpa using e)))
  ·rw [List.getElem?_set_ne (by omega)] at h1 h2
   have h3:=h.row j x y h1 h2
   have h4:w'.ownsRow base 3 1 x y.length (ints y):=by
    refine h3.kept hg ?_
    cases hb:x.ownBlock with
    | none=>exact .inl rfl
    | some b=>exact .inr (fun e=>h.apart j k x u h1 hu hj b hb e.symm)
   exact h4.kept hst.2 (by
    cases hb:x.ownBlock with
    | none=>exact .inl rfl
    | some b=>exact .inr (fun e=>h.off j x h1 b hb (by simpa [Value.ownBlock] using e.symm)))
 ·intro j j' x x' h1 h2 hne b hb hb'
  have hnew:∀ (i:Nat) (y:Value),us[i]?=some y→i≠k→y.ownBlock=some b→u'.ownBlock=some b→False:=by
   intro i y hi hik hy hub
   rcases hat with e | e
   ·exact h.apart i k y u hi hu hik b hy (e.symm.trans hub)
   ·rw [e] at hub
    have e2:w.heap.size=b:=by simpa using hub
    have hir:i<rows.length:=by rw [← h.len];exact (List.getElem?_eq_some_iff.1 hi).1
    have:=(h.row i y rows[i] hi (List.getElem?_eq_getElem hir)).lt b hy
    omega
  by_cases hj:j=k
  ·subst hj
   rw [List.getElem?_set_self hku] at h1
   obtain rfl:=Option.some.inj h1
   rw [List.getElem?_set_ne (by omega)] at h2
   exact hnew j' x' h2 (Ne.symm hne) hb' hb
  ·rw [List.getElem?_set_ne (by omega)] at h1
   by_cases hj':j'=k
   ·subst hj'
    rw [List.getElem?_set_self hku] at h2
    obtain rfl:=Option.some.inj h2
    exact hnew j x h1 hj hb hb'
   ·rw [List.getElem?_set_ne (by omega)] at h2
    exact h.apart j j' x x' h1 h2 hne b hb hb'
 ·intro j x h1 b hb hb'
  by_cases hj:j=k
  ·subst hj
   rw [List.getElem?_set_self hku] at h1
   obtain rfl:=Option.some.inj h1
   exact hu'g b hb (by simpa [Value.ownBlock] using hb'.symm)
  ·rw [List.getElem?_set_ne (by omega)] at h1
   exact h.off j x h1 b hb hb'
end
theorem infoInts:(Tryz.prog.info? 38).map (fun i=>(i.zero,i.size,i.bytes))=some (some (.slice none 0 0),1,24):=by kernel_rfl
open Go.RowKit
inductive Ent where
 | box (g:Nat) (t:TypeId) (cs:List Value)
 | own (v:Value) (e:TypeId) (sz n:Nat) (xs:List Value)
def Ent.blk:Ent→Option Nat
 | .box g _ _=>some g
 | .own v _ _ _ _=>v.ownBlock
def Ent.holds (B:Nat) (w:World):Ent→Prop
 | .box g t cs=>B≤g∧Blk w g t cs.toArray
 | .own v e sz n xs=>w.ownsRow B e sz v n xs
structure Hp (w0 w:World) (E:List Ent):Prop where
 bel:Below w0.heap.size w0 w
 all:∀ p∈E,p.holds w0.heap.size w
 dis:(E.filterMap Ent.blk).Nodup
section
variable {w0 w w':World} {E E':List Ent} {B:Nat}
theorem Ent.lt {p:Ent} (h:p.holds B w) {g:Nat} (hg:p.blk=some g):B≤g∧g<w.heap.size:=by
 cases p with
 | box b t cs=>
  obtain rfl:b=g:=by simpa [Ent.blk] using hg
  exact ⟨h.1,h.2.lt⟩
 | own v e sz n xs=>exact World.ownsRow.lt h g hg
theorem Ent.kept {p:Ent} {row:Option Nat} (h:p.holds B w) (hg:w.grownBy w' row) (hne:∀ g,p.blk=some g→row≠some g):p.holds B w':=by
 cases p with
 | box b t cs=>exact ⟨h.1,h.2.grown hg (fun e=>hne b rfl e.symm)⟩
 | own v e sz n xs=>
  refine World.ownsRow.kept h hg ?_
  cases hv:v.ownBlock with
  | none=>exact .inl rfl
  | some b=>exact .inr (fun e=>hne b hv e.symm)
theorem Ent.under {p:Ent} (h:p.holds B w) (hb:Below w.heap.size w w'):p.holds B w':=by
 cases p with
 | box b t cs=>exact ⟨h.1,h.2.below hb h.2.lt⟩
 | own v e sz n xs=>exact own_below h hb
theorem Hp.start (w:World):Hp w w []:=⟨Below.refl _ _,by simp,by simp⟩
theorem Hp.grow (h:Hp w0 w E) (hb:Below w.heap.size w w'):Hp w0 w' E:=
 ⟨h.bel.trans (hb.mono h.bel.size),fun p hp=>Ent.under (h.all p hp) hb,h.dis⟩
theorem Hp.alloc (h:Hp w0 w E) (o:Obj):Hp w0 (w.alloc o) E:=h.grow ((Below.refl _ _).alloc (Nat.le_refl _) o)
theorem Hp.drew (h:Hp w0 w E):Hp w0 w.drew E:=h.grow (Below.refl _ _).drew
theorem Hp.drewN (h:Hp w0 w E) (n:Nat):Hp w0 (w.drewN n) E:=h.grow (below_drewN (Below.refl _ _) n)
theorem Hp.mem {p:Ent} (h:Hp w0 w E) {k:Nat} (hk:E[k]?=some p):p.holds w0.heap.size w:=h.all p (List.mem_of_getElem? hk)
theorem Hp.blk (h:Hp w0 w E) (k:Nat) {g:Nat} {t:TypeId} {cs:List Value} (hk:E[k]?=some (.box g t cs)):Blk w g t cs.toArray:=(h.mem hk).2
theorem Hp.cell (h:Hp w0 w E) (k i:Nat) {g:Nat} {t:TypeId} {cs:List Value} {u:Value} (hk:E[k]?=some (.box g t cs)) (hi:cs[i]?=some u):w.cell? ⟨g,i,none⟩=some u:=by
 rw [(h.blk k hk).cell i]
 simpa using hi
theorem Hp.frozen (h:Hp w0 w E) (k i:Nat) {g:Nat} {t:TypeId} {cs:List Value} (hk:E[k]?=some (.box g t cs)):w.frozen? ⟨g,i,none⟩=false:=(h.blk k hk).frozen i
theorem Hp.lt (h:Hp w0 w E) (k:Nat) {g:Nat} {t:TypeId} {cs:List Value} (hk:E[k]?=some (.box g t cs)):g<w.heap.size:=(h.blk k hk).lt
theorem Hp.ge (h:Hp w0 w E) (k:Nat) {g:Nat} {t:TypeId} {cs:List Value} (hk:E[k]?=some (.box g t cs)):w0.heap.size≤g:=(h.mem hk).1
theorem Hp.owns (h:Hp w0 w E) (k:Nat) {v:Value} {e:TypeId} {sz n:Nat} {xs:List Value} (hk:E[k]?=some (.own v e sz n xs)):w.ownsRow w0.heap.size e sz v n xs:=h.mem hk
theorem Hp.name (h:Hp w0 w E):∃ w2,w=w2∧Hp w0 w2 E:=⟨w,rfl,h⟩
theorem Hp.apart (h:Hp w0 w E) {i j:Nat} {p q:Ent} (hi:E[i]?=some p) (hj:E[j]?=some q) (hne:i≠j) {g:Nat} (hp:p.blk=some g):q.blk≠some g:=by
 intro hq
 have hd:=h.dis
 clear h
 induction E generalizing i j with
 | nil=>simp at hi
 | cons e E ih=>
  have hmem:∀ {k:Nat} {r:Ent},E[k]?=some r→r.blk=some g→g∈E.filterMap Ent.blk:=fun hk hr=>List.mem_filterMap.2 ⟨_,List.mem_of_getElem? hk,hr⟩
  have hd2:(E.filterMap Ent.blk).Nodup:=by
   rw [List.filterMap_cons] at hd
   split at hd
   ·exact hd
   ·exact (List.nodup_cons.1 hd).2
  match i,j with
  | 0,0=>exact hne rfl
  | 0,j+1=>
   simp at hi hj
   subst hi
   rw [List.filterMap_cons,hp] at hd
   exact (List.nodup_cons.1 hd).1 (hmem hj hq)
  | i+1,0=>
   simp at hi hj
   subst hj
   rw [List.filterMap_cons,hq] at hd
   exact (List.nodup_cons.1 hd).1 (hmem hi hp)
  | i+1,j+1=>exact ih (by simpa using hi) (by simpa using hj) (by omega) hd2
theorem Hp.ne (h:Hp w0 w E) (i j:Nat) {g g':Nat} {t t':TypeId} {cs cs':List Value} (hi:E[i]?=some (.box g t cs)) (hj:E[j]?=some (.box g' t' cs')) (hne:i≠j):g≠g':=fun e=>h.apart hi hj hne (g:=g) rfl (by rw [e];rfl)
theorem perm_set {α:Type}:∀ {l:List α} {k:Nat} {a b:α},l[k]?=some a→∃ r,l.Perm (a::r)∧(l.set k b).Perm (b::r)
 | [],k,a,b,h=>by simp at h
 | x::l,0,a,b,h=>by
  simp at h
  subst h
  exact ⟨l,List.Perm.refl _,List.Perm.refl _⟩
 | x::l,k+1,a,b,h=>by
  obtain ⟨r,h1,h2⟩:=perm_set (b:=b) (show l[k]?=some a by simpa using h)
  exact ⟨x::r,(h1.cons x).trans (List.Perm.swap a x r),(h2.cons x).trans (List.Perm.swap b x r)⟩
theorem Hp.perm (h:Hp w0 w E) (hp:E.Perm E'):Hp w0 w E':=
 ⟨h.bel,fun p hp'=>h.all p (hp.mem_iff.2 hp'),(hp.filterMap _).nodup_iff.1 h.dis⟩
theorem Hp.sub (h:Hp w0 w E) (hs:E'.Sublist E):Hp w0 w E':=
 ⟨h.bel,fun p hp=>h.all p (hs.mem hp),h.dis.sublist (hs.filterMap _)⟩
theorem Hp.turn {p p':Ent} (h:Hp w0 w (p::E)) (hg:w.grownBy w' p.blk) (hp:p'.holds w0.heap.size w') (hb:∀ g,p'.blk=some g→p.blk=some g∨w.heap.size≤g):Hp w0 w' (p'::E):=by
 have hfar:∀ q∈E,∀ g,q.blk=some g→p.blk≠some g:=by
  intro q hq g hqg hpg
  obtain ⟨k,hk⟩:=List.getElem?_of_mem hq
  exact h.apart (i:=0) (j:=k+1) rfl (by simpa using hk) (by omega) hpg hqg
 have hlt:∀ q∈E,∀ g,q.blk=some g→g<w.heap.size:=fun q hq g hqg=>(Ent.lt (h.all q (by simp [hq])) hqg).2
 refine ⟨h.bel.grown hg h.bel.size (fun k hk=>(Ent.lt (h.all p (by simp)) hk).1),?_,?_⟩
 ·intro q hq
  rcases List.mem_cons.1 hq with rfl | hq
  ·exact hp
  ·exact Ent.kept (h.all q (by simp [hq])) hg (hfar q hq)
 ·have hd:(E.filterMap Ent.blk).Nodup:=h.dis.sublist ((List.sublist_cons_self p E).filterMap _)
  rw [List.filterMap_cons]
  split
  ·exact hd
  ·rename_i g hpg
   refine List.nodup_cons.2 ⟨fun hm=>?_,hd⟩
   obtain ⟨q,hq,hqg⟩:=List.mem_filterMap.1 hm
   rcases hb g hpg with e | e
   ·exact hfar q hq g hqg e
   ·have:=hlt q hq g hqg;omega
theorem Hp.step {p p':Ent} (h:Hp w0 w E) (k:Nat) (hk:E[k]?=some p) (hg:w.grownBy w' p.blk) (hp:p'.holds w0.heap.size w') (hb:∀ g,p'.blk=some g→p.blk=some g∨w.heap.size≤g):Hp w0 w' (E.set k p'):=by
 obtain ⟨r,h1,h2⟩:=perm_set (b:=p') hk
 exact ((h.perm h1).turn hg hp hb).perm h2.symm
theorem Hp.more {p:Ent} (h:Hp w0 w E) (hg:w.grownBy w' none) (hp:p.holds w0.heap.size w') (hb:∀ g,p.blk=some g→w.heap.size≤g):Hp w0 w' (p::E):=by
 have h':Hp w0 w (.own (.slice none 0 0) 0 1 0 []::E):=⟨h.bel,by
  intro q hq
  rcases List.mem_cons.1 hq with rfl | hq
  ·exact own_nil _ _ _ _
  ·exact h.all q hq,by rw [List.filterMap_cons_none rfl];exact h.dis⟩
 exact h'.turn hg hp (fun g hg=>.inr (hb g hg))
theorem Hp.moreR {p:Ent} (h:Hp w0 w E) (hg:w.grownBy w' none) (hp:p.holds w0.heap.size w') (hb:∀ g,p.blk=some g→w.heap.size≤g):Hp w0 w' (E++[p]):=
 (h.more hg hp hb).perm (List.perm_append_comm (l₁:=[p]))
theorem grown_of_below (hb:Below w.heap.size w w'):w.grownBy w' none:=⟨hb.os,hb.tape,hb.output,hb.size,fun k hk _=>hb.block k hk⟩
theorem Hp.new (h:Hp w0 w E) (g:Nat) (hg:w.heap.size=g) (t:TypeId) (cs:List Value):Hp w0 (w.alloc (.cells cs.toArray t)) (E++[.box g t cs]):=by
 refine h.moreR (World.grownBy_alloc w _ _) ⟨by have:=h.bel.size;omega,by subst hg;exact Blk.new _ _ _⟩ ?_
 intro k hk
 obtain rfl:g=k:=by simpa [Ent.blk] using hk
 exact Nat.le_of_eq hg
theorem Hp.newL (h:Hp w0 w E) (g:Nat) (hg:w.heap.size=g) (t:TypeId) (cs:List Value):Hp w0 (w.alloc (.cells cs.toArray t)) (.box g t cs::E):=
 (h.new g hg t cs).perm (List.perm_append_comm (l₂:=[_]))
theorem own_types {b b':Nat} {e e':TypeId} {sz sz' n n':Nat} {v v':Value} {xs xs':List Value} (h:w.ownsRow b e sz v n xs) (h':w.ownsRow b' e' sz' v' n' xs') (hne:e≠e') {g:Nat} (hg:v.ownBlock=some g):v'.ownBlock≠some g:=by
 intro hg'
 rcases h.2 with ⟨rfl,_⟩ | ⟨b1,cap,cur,rfl,_,hb,_⟩
 ·cases hg
 ·rcases h'.2 with ⟨rfl,_⟩ | ⟨b2,cap',cur',rfl,_,hb',_⟩
  ·cases hg'
  ·obtain rfl:b1=g:=by simpa [Value.ownBlock] using hg
   obtain rfl:b2=b1:=by simpa [Value.ownBlock] using hg'
   rw [hb] at hb'
   injection hb' with hb'
   injection hb' with _ he
   exact hne he
theorem grown_setCell (w:World) (a:Addr) (u:Value):w.grownBy (w.setCell a u) (some a.block):=
 ⟨rfl,rfl,rfl,by simp [World.setCell],fun k _ hne=>Below.heap_setCell w a u k (fun e=>hne (by rw [e]))⟩
theorem Hp.set (h:Hp w0 w E) (k i:Nat) (u:Value) {g:Nat} {t:TypeId} {cs:List Value} (hk:E[k]?=some (.box g t cs)):Hp w0 (w.setCell ⟨g,i,none⟩ u) (E.set k (.box g t (cs.set i u))):=
 h.step k hk (grown_setCell w _ u) ⟨h.ge k hk,by have:=(h.blk k hk).set_ i u;simpa using this⟩ (fun _ h=>.inl h)
theorem Hp.got (h:Hp w0 w E) (hb:Below w.heap.size w w') {v:Value} {e:TypeId} {sz n:Nat} {xs:List Value} (ho:w'.ownsRow w.heap.size e sz v n xs):Hp w0 w' (E++[.own v e sz n xs]):=
 h.moreR (grown_of_below hb) (own_lower ho h.bel.size) (fun g hg=>(ho.lt g hg).1)
theorem Hp.got2 (h:Hp w0 w E) (hb:Below w.heap.size w w') {v v':Value} {e e':TypeId} {sz sz' n n':Nat} {xs xs':List Value} (ho:w'.ownsRow w.heap.size e sz v n xs) (ho':w'.ownsRow w.heap.size e' sz' v' n' xs') (hne:e≠e'):Hp w0 w' (E++[.own v e sz n xs,.own v' e' sz' n' xs']):=by
 have h1:=h.got hb ho
 have h2:Hp w0 w' (.own v' e' sz' n' xs'::(E++[.own v e sz n xs])):=by
  refine ⟨h1.bel,?_,?_⟩
  ·intro q hq
   rcases List.mem_cons.1 hq with rfl | hq
   ·exact own_lower ho' h.bel.size
   ·exact h1.all q hq
  ·rw [List.filterMap_cons]
   split
   ·exact h1.dis
   ·rename_i g hg
    refine List.nodup_cons.2 ⟨fun hm=>?_,h1.dis⟩
    obtain ⟨q,hq,hqg⟩:=List.mem_filterMap.1 hm
    rcases List.mem_append.1 hq with hq | hq
    ·have:=(Ent.lt (h.all q hq) hqg).2
     have:=(ho'.lt g hg).1
     omega
    ·obtain rfl:q=.own v e sz n xs:=by simpa using hq
     exact own_types ho ho' hne hqg hg
 refine h2.perm ?_
 have:=List.perm_append_comm (l₁:=[Ent.own v' e' sz' n' xs']) (l₂:=E++[.own v e sz n xs])
 simpa using this
theorem Hp.nil_ (h:Hp w0 w E) (e:TypeId) (sz:Nat):Hp w0 w (E++[.own (.slice none 0 0) e sz 0 []]):=
 h.moreR (w':=w) ⟨rfl,rfl,rfl,Nat.le_refl _,fun _ _ _=>rfl⟩ (own_nil _ _ _ _) (fun g hg=>by cases hg)
theorem Hp.rd (h:Hp w0 w E) (k:Nat) {A:Option Addr} {c:Nat} {e:TypeId} {sz n:Nat} {xs:List Value} (hk:E[k]?=some (.own (.slice A n c) e sz n xs)):Rd w w.heap.size sz A n xs:=Rd.of_own (h.owns k hk)
theorem Hp.old (h:Hp w0 w E) {sz n:Nat} {A:Option Addr} {xs:List Value} (hr:Rd w0 w0.heap.size sz A n xs):Rd w w.heap.size sz A n xs:=(hr.below h.bel).more h.bel.size
theorem Hp.app {v v':Value} {e:TypeId} {sz n n':Nat} {xs xs':List Value} (h:Hp w0 w E) (k:Nat) (hk:E[k]?=some (.own v e sz n xs)) (hg:w.grownBy w' v.ownBlock) (ho:w'.ownsRow w0.heap.size e sz v' n' xs') (hat:v'.ownBlock=v.ownBlock∨∀ g,v'.ownBlock=some g→w.heap.size≤g):Hp w0 w' (E.set k (.own v' e sz n' xs')):=
 h.step k hk hg ho (fun g hg'=>hat.elim (fun e=>.inl (e.symm.trans hg')) (fun e=>.inr (e g hg')))
theorem Hp.drop1 (h:Hp w0 w E) (k:Nat):Hp w0 w (E.eraseIdx k):=h.sub (List.eraseIdx_sublist E k)
theorem Hp.put (h:Hp w0 w E) (k j:Nat) (u:Value) {g n c:Nat} {e:TypeId} {sz:Nat} {xs:List Value} (hk:E[k]?=some (.own (.slice (some ⟨g,0,none⟩) n c) e sz n xs)):Hp w0 (w.setCell ⟨g,j,none⟩ u) (E.set k (.own (.slice (some ⟨g,0,none⟩) n c) e sz n (xs.set j u))):=by
 have hs:=(h.owns k hk).stored j u
 exact h.step k hk hs.2 hs.1 (fun q hq=>.inl hq)
theorem Hp.ownCell (h:Hp w0 w E) (k j:Nat) {g n c:Nat} {e:TypeId} {sz:Nat} {xs:List Value} {u:Value} (hk:E[k]?=some (.own (.slice (some ⟨g,0,none⟩) n c) e sz n xs)) (hj:xs[j]?=some u):w.cell? ⟨g,j,none⟩=some u:=by
 have:=(h.owns k hk).cells (g:=g) rfl j u hj
 rwa [add_mk,Nat.zero_add] at this
theorem Hp.ownFrozen (h:Hp w0 w E) (k j:Nat) {g n c:Nat} {e:TypeId} {sz:Nat} {xs:List Value} (hk:E[k]?=some (.own (.slice (some ⟨g,0,none⟩) n c) e sz n xs)):w.frozen? ⟨g,j,none⟩=false:=(h.owns k hk).frozenAt j
theorem news_blk {g:Nat} {t:TypeId} {us:List Value} (h:Blk w g t us.toArray):∀ j u,us[j]?=some u→w.cell? ((⟨g,0,none⟩:Addr).add j)=some u:=by
 intro j u hu
 rw [add_mk,Nat.zero_add,h.cell]
 simpa using hu
theorem own_blk {b g:Nat} {e:TypeId} {sz n c:Nat} {xs:List Value} (h:w.ownsRow b e sz (.slice (some ⟨g,0,none⟩) n c) n xs):∃ cur,Blk w g e cur∧b≤g∧n≤c∧c≤maxLen∧cur.size=c*sz∧cur.toList.take (n*sz)=xs:=by
 rcases h.2 with ⟨h',_⟩ | ⟨g',cap,cur,h',hb,hg,h1,h2,h3,h4⟩
 ·cases h'
 ·injection h' with e1 e2 e3
  injection e1 with e1
  injection e1 with e1
  subst e1 e3
  exact ⟨cur,hg,hb,h1,h2,h3,h4⟩
theorem own_of_blk {b g:Nat} {e:TypeId} {sz n c:Nat} {xs:List Value} {cur:Array Value} (h:Blk w g e cur) (hb:b≤g) (h1:n≤c) (h2:c≤maxLen) (h3:cur.size=c*sz) (h4:cur.toList.take (n*sz)=xs):w.ownsRow b e sz (.slice (some ⟨g,0,none⟩) n c) n xs:=by
 refine ⟨?_,.inr ⟨g,c,cur,rfl,hb,h,h1,h2,h3,h4⟩⟩
 rw [← h4,List.length_take]
 simp only [Array.length_toList]
 rw [h3]
 exact Nat.min_eq_left (Nat.mul_le_mul_right _ h1)
theorem own_some {b:Nat} {e:TypeId} {sz n c:Nat} {A:Option Addr} {xs:List Value} (h:w.ownsRow b e sz (.slice A n c) n xs) (hn:0<n):∃ g,A=some ⟨g,0,none⟩:=by
 obtain ⟨g,cap,hv,_⟩:=h.form hn
 injection hv with hv
 exact ⟨g,hv⟩
end
end Go.Proofs.YtefdblaolmckmabGreat
