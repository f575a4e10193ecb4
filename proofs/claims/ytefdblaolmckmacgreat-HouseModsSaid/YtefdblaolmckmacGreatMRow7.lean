/- Lemmas of the proof. -/
import Derived.Test.YtefdblaolmckmacGreatMBSpecOToSpecR
set_option linter.unusedVariables false
set_option linter.unusedSimpArgs false
set_option maxRecDepth 100000
set_option maxHeartbeats 12800000
namespace Go.Proofs.YtefdblaolmckmacGreat
open Go.RowKit
open Brood
theorem eqBeing7 (i g i' g':Int) (w:World):(binOp .eql 41 (.agg #[.int .i64 i,.int .i64 g]) (.agg #[.int .i64 i',.int .i64 g'])).run Tryz.prog w=.ok (.bool (i==i' && g==g')) w:=by
 rw [run_eql_struct,eqIn_being]
 rfl
def ptrAt7 (A:Option Addr) (o:Option Nat) (k:Nat):Value:=
 match o with
 | none=>.pointer none
 | some j=>.pointer (A.map fun a=>⟨a.block,a.off+(k+j)*11,none⟩)
def rowPtr7 (A:Option Addr) (i g:Int) (rows:List BRow):Value:=ptrAt7 A (findR i g rows) 0
theorem ptr_drop7 {A:Option Addr} {i g:Int} {rows:List BRow} {k:Nat} (h:k<rows.length):ptrAt7 A (findR i g (rows.drop k)) k=if isB i g rows[k] then ptrAt7 A (some 0) k else ptrAt7 A (findR i g (rows.drop (k+1))) (k+1):=by
 rw [drop_cons h,findR]
 split
 ·rfl
 ·cases findR i g (rows.drop (k+1)) with
  | none=>rfl
  | some j=>
   show ptrAt7 A (some (j+1)) k=_
   simp only [ptrAt7]
   rw [show k+(j+1)=k+1+j by omega]
def RowAns7 (w:World) (v:Value) (o:Option BRow):Prop:=
 match o with
 | none=>v=.pointer none
 | some r=>∃ b o,v=.pointer (some ⟨b,o,none⟩)∧b<w.heap.size∧RowAt w b o r
theorem rowPtr_ans7 {w:World} {B:Nat} {A:Option Addr} {rows:List BRow} (hr:RdR w B A rows) (hB:B≤w.heap.size) (i g:Int):RowAns7 w (rowPtr7 A i g rows) (rowOf i g rows):=by
 rw [findR_rowOf]
 unfold rowPtr7
 cases h:findR i g rows with
 | none=>exact rfl
 | some k=>
  have hk:=findR_lt h
  obtain ⟨b,off,rfl,hb,hrow⟩:=hr.at_ hk
  simp only [Option.bind_some,List.getElem?_eq_getElem hk]
  exact ⟨b,off+k*11,by simp [ptrAt7],by omega,hrow⟩
theorem rrow_at7 (rows:List BRow) (gens:List Int) (Ar:Option Addr) (cr:Nat) (Ag:Option Addr) (cg:Nat) (i g:Int) (hlr:rows.length≤9223372036854775807) (w:World) (hr:RdR w w.heap.size Ar rows) :
  Calls Tryz.prog 23 #[.agg #[.slice Ar rows.length cr,.slice Ag gens.length cg],.agg #[.int .i64 i,.int .i64 g]] w fun e w'=>e=.returned (rowPtr7 Ar i g rows)∧Below w.heap.size w w':=by
 have hE:Hid (rowPtr7 Ar i g rows=ptrAt7 Ar (findR i g (rows.drop 0)) 0):=Lib.hid rfl
 generalize rowPtr7 Ar i g rows=E at *
 have H0:=((Hp.start w).new w.heap.size rfl 61 [.slice Ar rows.length cr,.slice Ag gens.length cg]).new (w.heap.size+1) (by simp) 41 [.int .i64 i,.int .i64 g]
 go_enter Tryz.func23,Tryz.ntmps23
 go_wp2_with fail
 go_loopw [9] (fun q wr=>∃ k:Nat,k≤rows.length∧q=.int .i64 k∧Hid (E=ptrAt7 Ar (findR i g (rows.drop k)) k)∧Hp w wr [.box w.heap.size 61 [.slice Ar rows.length cr,.slice Ag gens.length cg],.box (w.heap.size+1) 41 [.int .i64 i,.int .i64 g]]) (fun q _=>rows.length-(intOf q).toNat)
 case atStart=>exact ⟨0,by omega,rfl,hE,H0⟩
 case round=>
  clear H0 hE
  obtain ⟨k,hk,rfl,hE,H⟩:=hrel
  by_cases hlt:k<rows.length
  ·have hR1:RdR wr w.heap.size Ar rows:=Rd.under hr H.bel (Nat.le_refl _)
   obtain ⟨b1,off,rfl,hb1,hrow⟩:=hR1.at_ hlt
   have hst:=Lib.hid (@ptr_drop7 (some ⟨b1,off,none⟩) i g rows k hlt)
   generalize rows[k]=r at *
   have i0:(0:Int)≤(k:Int):=by omega
   have i1:(k:Int)<(rows.length:Int):=by omega
   obtain ⟨c0,c1,c2⟩:=hrow.head
   have e0:=H.cell 0 0 rfl rfl;have e1:=H.cell 1 0 rfl rfl;have e2:=H.cell 1 1 rfl rfl
   have hq:∀ W,(binOp .eql 41 (.agg #[.int .i64 r.idx,.int .i64 r.gen]) (.agg #[.int .i64 i,.int .i64 g])).run Tryz.prog W=.ok (.bool (isB i g r)) W:=fun W=>eqBeing7 _ _ _ _ W
   go_upto_region 4 with fail
   go_cut [19] (fun s19 wx=>s19=.bool (isB i g r)∧∃ n,wx=wr.drewN n)
   case first=>
    go_quiet (fail)
    go_wp2_with fail
    go_meet
    exact ⟨rfl,_,rfl⟩
   case rest=>
    obtain ⟨rfl,n,rfl⟩:=hcut
    have H2:=H.drewN n
    have e0:=H2.cell 0 0 rfl rfl
    cases hB:isB i g r
    ·rw [hB] at hst
     go_wp2_with fail
     go_roundw
     case rel=>exact ⟨k+1,by omega,by go_num,Lib.hid (by rw [hE.out,hst.out];simp),H2⟩
     case measure=>simp [intOf];omega
    ·rw [hB] at hst
     go_wp2_with fail
     go_ret
     refine ⟨?_,H2.bel⟩
     rw [hE.out,hst.out]
     rfl
  ·obtain rfl:k=rows.length:=by omega
   go_wp2_with fail
   go_ret
   refine ⟨?_,H.bel⟩
   rw [hE.out,List.drop_length]
   rfl
theorem row_val7 (r:BRow) {k:Nat} (hk:k<8):(rowCells r)[3+k]?=some (.int .i64 (r.vals.getD k 0)):=by
 obtain ⟨idx,gen,has,vals,h8⟩:=r
 obtain ⟨z0,z1,z2,z3,z4,z5,z6,z7,rfl⟩:=vals_eight h8
 rcases (show k=0∨k=1∨k=2∨k=3∨k=4∨k=5∨k=6∨k=7 by omega) with rfl | rfl | rfl | rfl | rfl | rfl | rfl | rfl<;>rfl
end Go.Proofs.YtefdblaolmckmacGreat
