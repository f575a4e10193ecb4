/- Lemmas of the proof. -/
import Derived.Test.YtefdblaolmckmabGreatRBSpecOToSpecR
import Derived.Test.YtefdblaolmckmabGreatRRefM
import Derived.Test.YtefdblaolmckmabGreatRBSortTRToStoO
import Derived.Test.YtefdblaolmckmabGreatRBPlainAToHp
import Derived.Test.YtefdblaolmckmabGreatRBSortTBToRefW
set_option linter.unusedVariables false
set_option linter.unusedSimpArgs false
set_option maxRecDepth 100000
set_option maxHeartbeats 12800000
namespace Go.Proofs.YtefdblaolmckmabGreat
open Go.RowKit
open Brood
theorem rmatch_any (rows:List BRow) (gens:List Int) (Ar:Option Addr) (cr:Nat) (Ag:Option Addr) (cg:Nat) (fa fn:Int) (hlr:rows.length≤60) (hset:∀ r∈rows,isSet r.has=true) (hfa:isSet fa=true) (hfn:isSet fn=true)
  (w:World) (hr:RdR w w.heap.size Ar rows) :
  Calls Tryz.prog 112 #[.agg #[.slice Ar rows.length cr,.slice Ag gens.length cg],.agg #[.int .i64 fa,.int .i64 fn]] w fun e w'=>
   (∃ A c,e=.returned (.slice A (matchV fa fn rows).length c)∧w'.ownsRow w.heap.size 24 2 (.slice A (matchV fa fn rows).length c) (matchV fa fn rows).length ((matchV fa fn rows).flatMap beCells))∧Below w.heap.size w w':=by
 obtain ⟨i0',hi0,hz0a,hz0b,hz0c⟩:=info_parts infoBe
 have H0:=((Hp.start w).new w.heap.size rfl 64 [.slice Ar rows.length cr,.slice Ag gens.length cg]).new (w.heap.size+1) (by simp) 26 [.int .i64 fa,.int .i64 fn]
 replace H0:=H0.nil_ 24 2
 go_enter Tryz.func112,Tryz.ntmps112
 go_wp2_with fail
 go_loopw [5,11] (fun s5 q wx=>∃ k:Nat,k≤rows.length∧q=.int .i64 k∧∃ (A:Option Addr) (c:Nat) (cur:List BRow),s5=.slice A cur.length c∧cur.length≤k∧Hid (cur=matchV fa fn (rows.take k))∧Hp w wx [.box w.heap.size 64 [.slice Ar rows.length cr,.slice Ag gens.length cg],.box (w.heap.size+1) 26 [.int .i64 fa,.int .i64 fn],.own (.slice A cur.length c) 24 2 cur.length (cur.flatMap beCells)]) (fun _ q _=>rows.length-(intOf q).toNat)
 case atStart=>exact ⟨0,by omega,rfl,none,0,[],rfl,by simp,Lib.hid (by simp [matchV]),H0⟩
 case round=>
  clear H0
  obtain ⟨k,hk,rfl,A,c,cur,rfl,hcl,hcur,H⟩:=hrel
  by_cases hlt:k<rows.length
  ·have hR1:RdR wr w.heap.size Ar rows:=Rd.under hr H.bel (Nat.le_refl _)
   obtain ⟨b1',off,rfl,hb1,hrow⟩:=hR1.at_ hlt
   have hkt:=Lib.hid (@match_take fa fn rows k hlt)
   have hhs:=hset rows[k] (List.getElem_mem hlt)
   clear hR1
   have hxv:Hid (∀ l:List BRow,(l++[rows[k]]).flatMap beCells=l.flatMap beCells++[.int .i64 rows[k].idx,.int .i64 rows[k].gen]):=Lib.hid (fun l=>by simp [beCells])
   obtain ⟨xo,hxo⟩:∃ xo,xo=rows[k]:=⟨_,rfl⟩
   rw [← hxo] at hkt
   have hxh:xo.has=rows[k].has:=by rw [hxo]
   rw [hxh] at hkt
   have hxv2:Hid (∀ l:List BRow,(l++[xo]).flatMap beCells=l.flatMap beCells++[.int .i64 rows[k].idx,.int .i64 rows[k].gen]):=Lib.hid (by rw [hxo];exact hxv.out)
   clear hxo hxh hxv
   generalize rows[k]=x at *
   have i0:(0:Int)≤(k:Int):=by omega
   have i1:(k:Int)<(rows.length:Int):=by omega
   obtain ⟨c0,c1,c2⟩:=hrow.head
   obtain ⟨idx,gen,has,vals,h8'⟩:=x
   obtain ⟨a0,a1,a2,a3,a4,a5,a6,a7,rfl⟩:=vals_eight h8'
   have v0:=hrow 3 (.int .i64 a0) rfl;have v1:=hrow 4 (.int .i64 a1) rfl;have v2:=hrow 5 (.int .i64 a2) rfl;have v3:=hrow 6 (.int .i64 a3) rfl;have v4:=hrow 7 (.int .i64 a4) rfl;have v5:=hrow 8 (.int .i64 a5) rfl;have v6:=hrow 9 (.int .i64 a6) rfl;have v7:=hrow 10 (.int .i64 a7) rfl
   simp only at c0 c1 c2 hkt hhs hxv2
   clear hrow
   have H1:=H.new wr.heap.size rfl 114 [.int .i64 idx,.int .i64 gen,.int .i64 has,.int .i64 a0,.int .i64 a1,.int .i64 a2,.int .i64 a3,.int .i64 a4,.int .i64 a5,.int .i64 a6,.int .i64 a7]
   have e0:=H.cell 1 0 rfl rfl;have e1:=H.cell 1 1 rfl rfl;have le:=H.lt 1 rfl
   go_wp2_with fail
   obtain ⟨wa,hwa,H1⟩:=H1.name
   rw [hwa]
   clear hwa c0 c1 c2 v0 v1 v2 v3 v4 v5 v6 v7 e0 e1 le H
   obtain ⟨fan,hfan⟩:=nat_of (isSet_iff.1 hfa).1
   obtain ⟨fnn,hfnn⟩:=nat_of (isSet_iff.1 hfn).1
   obtain ⟨hn,hhn⟩:=nat_of (isSet_iff.1 hhs).1
   have q1:=isSet_iff.1 hfa;have q2:=isSet_iff.1 hfn;have q3:=isSet_iff.1 hhs
   have hcall:=rmeets_any fan fnn hn (by omega) (by omega) (by omega) wa
   rw [← hfan,← hfnn,← hhn] at hcall
   clear q1 q2 q3 hfan hfnn hhn
   refine hcall.mono ?_
   rintro e wb ⟨rfl,hb⟩
   replace H1:=H1.grow hb
   clear hb
   have f0:=H1.cell 3 0 rfl rfl;have f1:=H1.cell 3 1 rfl rfl
   have hgw:wr.heap.size<wb.heap.size:=H1.lt 3 rfl
   generalize wr.heap.size=gx at *
   cases hB:meetsB fa fn has
   ·have hcur2:Hid (cur=matchV fa fn (rows.take (k+1))):=Lib.hid (by rw [hkt.out,hB,← hcur.out];simp)
    go_wp2_with fail
    go_roundw
    case rel=>exact ⟨k+1,by omega,by go_num,A,c,cur,rfl,by omega,hcur2,H1.drop1 3⟩
    case measure=>simp [intOf];omega
   ·have hcur2:Hid (cur++[xo]=matchV fa fn (rows.take (k+1))):=Lib.hid (by rw [hkt.out,hB,← hcur.out];simp)
    have HN:=H1.new wb.heap.size rfl 24 [.int .i64 idx,.int .i64 gen]
    go_wp2_with (at_builtin;refine wpList_append_own_at _ rfl _ _ 58 rfl w.heap.size 24 i0' (.agg #[.int .i64 0,.int .i64 0]) 2 16 Tryz.underlying58 hi0 hz0a hz0b hz0c rfl (by decide) _ _ _ rfl (HN.owns 2 rfl) ⟨wb.heap.size,0,none⟩ 1 1 [.int .i64 idx,.int .i64 gen] rfl rfl ?c1 ?c2 ?c3 ?c4 ?c5 ?_;rotate_left 5;intro v' w7 hown7 hgrow7 _ hat7;have H8:=HN.app 2 rfl hgrow7 hown7 (hat7.imp id (fun e g hg=>by rw [e] at hg;injection hg with hg;omega));obtain ⟨A3,c3,rfl,hs1,hs2⟩:=own_shape hown7)
    case c1=>exact news_blk (HN.blk 4 rfl)
    case c2=>simp [Value.oneCell']
    case c3=>unfold maxLen;omega
    case c4=>omega
    case c5=>exact HN.bel.size
    go_roundw
    have hl:(cur++[xo]).length=cur.length+1:=by simp
    case rel=>
     refine ⟨k+1,by omega,by go_num,A3,c3,cur++[xo],by rw [hl],by omega,hcur2,?_⟩
     rw [hl,hxv2.out]
     exact (H8.drop1 4).drop1 3
    case measure=>simp [intOf];omega
  ·obtain rfl:k=rows.length:=by omega
   rw [List.take_length] at hcur
   go_wp2_with fail
   go_ret
   refine ⟨⟨A,c,by rw [hcur.out];rfl,?_⟩,H.bel⟩
   have:=H.owns 2 rfl
   rwa [hcur.out] at this
open Go.RowKit
open Brood
def RowAns (w:World) (v:Value) (o:Option BRow):Prop:=
 match o with
 | none=>v=.pointer none
 | some r=>∃ b o,v=.pointer (some ⟨b,o,none⟩)∧b<w.heap.size∧RowAt w b o r
theorem rowPtr_ans {w:World} {B:Nat} {A:Option Addr} {rows:List BRow} (hr:RdR w B A rows) (hB:B≤w.heap.size) (i g:Int):RowAns w (rowPtr A i g rows) (rowOf i g rows):=by
 rw [findR_rowOf]
 unfold rowPtr
 cases h:findR i g rows with
 | none=>exact rfl
 | some k=>
  have hk:=findR_lt h
  obtain ⟨b,off,rfl,hb,hrow⟩:=hr.at_ hk
  simp only [Option.bind_some,List.getElem?_eq_getElem hk]
  exact ⟨b,off+k*11,by simp [ptrAt],by omega,hrow⟩
theorem rrow_at (rows:List BRow) (gens:List Int) (Ar:Option Addr) (cr:Nat) (Ag:Option Addr) (cg:Nat) (i g:Int) (hlr:rows.length≤9223372036854775807) (w:World) (hr:RdR w w.heap.size Ar rows) :
  Calls Tryz.prog 114 #[.agg #[.slice Ar rows.length cr,.slice Ag gens.length cg],.agg #[.int .i64 i,.int .i64 g]] w fun e w'=>e=.returned (rowPtr Ar i g rows)∧Below w.heap.size w w':=by
 have hE:Hid (rowPtr Ar i g rows=ptrAt Ar (findR i g (rows.drop 0)) 0):=Lib.hid rfl
 generalize rowPtr Ar i g rows=E at *
 have H0:=((Hp.start w).new w.heap.size rfl 64 [.slice Ar rows.length cr,.slice Ag gens.length cg]).new (w.heap.size+1) (by simp) 24 [.int .i64 i,.int .i64 g]
 go_enter Tryz.func114,Tryz.ntmps114
 go_wp2_with fail
 go_loopw [9] (fun q wr=>∃ k:Nat,k≤rows.length∧q=.int .i64 k∧Hid (E=ptrAt Ar (findR i g (rows.drop k)) k)∧Hp w wr [.box w.heap.size 64 [.slice Ar rows.length cr,.slice Ag gens.length cg],.box (w.heap.size+1) 24 [.int .i64 i,.int .i64 g]]) (fun q _=>rows.length-(intOf q).toNat)
 case atStart=>exact ⟨0,by omega,rfl,hE,H0⟩
 case round=>
  clear H0 hE
  obtain ⟨k,hk,rfl,hE,H⟩:=hrel
  by_cases hlt:k<rows.length
  ·have hR1:RdR wr w.heap.size Ar rows:=Rd.under hr H.bel (Nat.le_refl _)
   obtain ⟨b1,off,rfl,hb1,hrow⟩:=hR1.at_ hlt
   have hst:=Lib.hid (@ptr_drop (some ⟨b1,off,none⟩) i g rows k hlt)
   generalize rows[k]=r at *
   have i0:(0:Int)≤(k:Int):=by omega
   have i1:(k:Int)<(rows.length:Int):=by omega
   obtain ⟨c0,c1,c2⟩:=hrow.head
   have e0:=H.cell 0 0 rfl rfl;have e1:=H.cell 1 0 rfl rfl;have e2:=H.cell 1 1 rfl rfl
   have hq:∀ W,(binOp .eql 24 (.agg #[.int .i64 r.idx,.int .i64 r.gen]) (.agg #[.int .i64 i,.int .i64 g])).run Tryz.prog W=.ok (.bool (isB i g r)) W:=fun W=>eqBeing _ _ _ _ W
   go_upto_region 4 with fail
   go_cut [19] (fun s19 wx=>s19=.bool (isB i g r)∧∃ n,wx=wr.drewN n)
   case first=>
    go_quiet (fail)
    go_wp2_with fail
    go_meet
    exact ⟨rfl,_,rfl⟩
   case rest=>
    obtain ⟨rfl,n,rfl⟩:=hcut
    have H2:=H.drewN n
    have e0:=H2.cell 0 0 rfl rfl
    cases hB:isB i g r
    ·rw [hB] at hst
     go_wp2_with fail
     go_roundw
     case rel=>exact ⟨k+1,by omega,by go_num,Lib.hid (by rw [hE.out,hst.out];simp),H2⟩
     case measure=>simp [intOf];omega
    ·rw [hB] at hst
     go_wp2_with fail
     go_ret
     refine ⟨?_,H2.bel⟩
     rw [hE.out,hst.out]
     rfl
  ·obtain rfl:k=rows.length:=by omega
   go_wp2_with fail
   go_ret
   refine ⟨?_,H.bel⟩
   rw [hE.out,List.drop_length]
   rfl
theorem rrow_any (rows:List BRow) (gens:List Int) (Ar:Option Addr) (cr:Nat) (Ag:Option Addr) (cg:Nat) (i g:Int) (hlr:rows.length≤9223372036854775807) (w:World) (hr:RdR w w.heap.size Ar rows) :
  Calls Tryz.prog 114 #[.agg #[.slice Ar rows.length cr,.slice Ag gens.length cg],.agg #[.int .i64 i,.int .i64 g]] w fun e w'=>(∃ v,e=.returned v∧RowAns w v (rowOf i g rows))∧Below w.heap.size w w':=by
 refine (rrow_at rows gens Ar cr Ag cg i g hlr w hr).mono ?_
 rintro e w' ⟨rfl,hb⟩
 exact ⟨⟨_,rfl,rowPtr_ans hr (Nat.le_refl _) i g⟩,hb⟩
open Go.RowKit
open Brood
theorem rwith_any (rows:List BRow) (gens:List Int) (r:BRow) (Ar:Option Addr) (cr:Nat) (Ag:Option Addr) (cg:Nat) (hlr:rows.length≤60) (w:World) (hr:RdR w w.heap.size Ar rows) :
  Calls Tryz.prog 148 #[.agg #[.slice Ar rows.length cr,.slice Ag gens.length cg],rowV r] w fun e w'=>(∃ A c,e=.returned (.agg #[.slice A (withV r rows).length c,.slice Ag gens.length cg])∧w'.ownsRow w.heap.size 114 11 (.slice A (withV r rows).length c) (withV r rows).length ((withV r rows).flatMap rowCells))∧Below w.heap.size w w':=by
 obtain ⟨i0',hi0,hz0a,hz0b,hz0c⟩:=info_parts infoRow
 have hE:Hid (withV r rows=[]++withFrom r false (rows.drop 0)):=Lib.hid rfl
 generalize withV r rows=E at *
 have H0:=(((Hp.start w).new w.heap.size rfl 64 [.slice Ar rows.length cr,.slice Ag gens.length cg]).new (w.heap.size+1) (by simp) 114 (rowCells r)).new (w.heap.size+1+1) (by simp) 64 [.slice none 0 0,.slice none 0 0]
 replace H0:=H0.new (w.heap.size+1+1+1) (by simp) 64 [.slice none 0 0,.slice Ag gens.length cg]
 replace H0:=H0.nil_ 114 11
 have hrid:=Lib.hid (show ∀ x:BRow,∀ D l,withFrom r D (x::l)=(if !D && decide (r.idx≤x.idx) then [r] else [])++((if x.idx != r.idx then [x] else [])++withFrom r (D || decide (r.idx≤x.idx)) l) from fun _ _ _=>rfl)
 have hrnil:=Lib.hid (show ∀ D,withFrom r D []=if D then [] else [r] from fun _=>rfl)
 have hsn:=Lib.hid (fun l=>flat_snoc l r)
 obtain ⟨ro,hro⟩:∃ ro,ro=r:=⟨_,rfl⟩
 rw [← hro] at hE hrid hrnil hsn
 have hroi:ro.idx=r.idx:=by rw [hro]
 have hrov:rowCells ro=rowCells r:=by rw [hro]
 obtain ⟨ri,rg,rh,rv,h8⟩:=r
 obtain ⟨b0,b1,b2,b3,b4,b5,b6,b7,rfl⟩:=vals_eight h8
 have hrv:rowV ⟨ri,rg,rh,[b0,b1,b2,b3,b4,b5,b6,b7],h8⟩=.agg #[.int .i64 ri,.int .i64 rg,.int .i64 rh,.int .i64 b0,.int .i64 b1,.int .i64 b2,.int .i64 b3,.int .i64 b4,.int .i64 b5,.int .i64 b6,.int .i64 b7]:=rfl
 have hrc:rowCells ⟨ri,rg,rh,[b0,b1,b2,b3,b4,b5,b6,b7],h8⟩=[.int .i64 ri,.int .i64 rg,.int .i64 rh,.int .i64 b0,.int .i64 b1,.int .i64 b2,.int .i64 b3,.int .i64 b4,.int .i64 b5,.int .i64 b6,.int .i64 b7]:=rfl
 simp only at hroi
 rw [hrc] at H0 hrov
 rw [hrv]
 rw [hroi] at hrid
 replace hrov:=Lib.hid hrov
 clear hrv hrc hro hroi
 go_enter Tryz.func148,Tryz.ntmps148
 go_wp2_with fail
 go_loopw [6,15] (fun s6 q wx=>∃ k:Nat,k≤rows.length∧q=.int .i64 k∧∃ (D:Bool) (A:Option Addr) (c:Nat) (cur:List BRow),s6=.bool D∧cur.length≤2*k∧Hid (E=cur++withFrom ro D (rows.drop k)) ∧
   Hp w wx [.box w.heap.size 64 [.slice Ar rows.length cr,.slice Ag gens.length cg],.box (w.heap.size+1) 114 [.int .i64 ri,.int .i64 rg,.int .i64 rh,.int .i64 b0,.int .i64 b1,.int .i64 b2,.int .i64 b3,.int .i64 b4,.int .i64 b5,.int .i64 b6,.int .i64 b7],.box (w.heap.size+1+1) 64 [.slice none 0 0,.slice none 0 0],.box (w.heap.size+1+1+1) 64 [.slice A cur.length c,.slice Ag gens.length cg],.own (.slice A cur.length c) 114 11 cur.length (cur.flatMap rowCells)]) (fun _ q _=>rows.length-(intOf q).toNat)
 case atStart=>exact ⟨0,by omega,rfl,false,none,0,[],rfl,by simp,hE,H0⟩
 case round=>
  clear H0 hE
  obtain ⟨k,hk,rfl,D,A,c,cur,rfl,hcur,hE,H⟩:=hrel
  by_cases hlt:k<rows.length
  ·have hR1:RdR wr w.heap.size Ar rows:=Rd.under hr H.bel (Nat.le_refl _)
   obtain ⟨b1',off,rfl,hb1,hrow⟩:=hR1.at_ hlt
   have hst:=Lib.hid (drop_cons hlt)
   clear hR1
   have hxv:=Lib.hid (fun l=>flat_snoc l rows[k])
   obtain ⟨xo,hxo⟩:∃ xo,xo=rows[k]:=⟨_,rfl⟩
   rw [← hxo] at hst hxv
   have hxi:xo.idx=rows[k].idx:=by rw [hxo]
   have hxc:rowCells xo=rowCells rows[k]:=by rw [hxo]
   generalize rows[k]=x at *
   have i0:(0:Int)≤(k:Int):=by omega
   have i1:(k:Int)<(rows.length:Int):=by omega
   obtain ⟨c0,c1,c2⟩:=hrow.head
   obtain ⟨idx,gen,has,vals,h8'⟩:=x
   obtain ⟨a0,a1,a2,a3,a4,a5,a6,a7,rfl⟩:=vals_eight h8'
   have v0:=hrow 3 (.int .i64 a0) rfl;have v1:=hrow 4 (.int .i64 a1) rfl;have v2:=hrow 5 (.int .i64 a2) rfl;have v3:=hrow 6 (.int .i64 a3) rfl;have v4:=hrow 7 (.int .i64 a4) rfl;have v5:=hrow 8 (.int .i64 a5) rfl;have v6:=hrow 9 (.int .i64 a6) rfl;have v7:=hrow 10 (.int .i64 a7) rfl
   simp only at c0 c1 c2 hxi
   have hxr:rowCells ⟨idx,gen,has,[a0,a1,a2,a3,a4,a5,a6,a7],h8'⟩=[.int .i64 idx,.int .i64 gen,.int .i64 has,.int .i64 a0,.int .i64 a1,.int .i64 a2,.int .i64 a3,.int .i64 a4,.int .i64 a5,.int .i64 a6,.int .i64 a7]:=rfl
   rw [hxr] at hxc
   have hE1:Hid (E=(cur++if !D && decide (ri≤idx) then [ro] else [])++((if idx != ri then [xo] else [])++withFrom ro (D || decide (ri≤idx)) (rows.drop (k+1)))):=Lib.hid (by rw [hE.out,hst.out,hrid.out,hxi,List.append_assoc])
   replace hxc:=Lib.hid hxc
   clear hrow hE hst hxr hxi hxo
   have H1:=H.new wr.heap.size rfl 114 [.int .i64 idx,.int .i64 gen,.int .i64 has,.int .i64 a0,.int .i64 a1,.int .i64 a2,.int .i64 a3,.int .i64 a4,.int .i64 a5,.int .i64 a6,.int .i64 a7]
   have e0:=H1.cell 1 0 rfl rfl
   go_upto_region 6 with fail
   go_cut [29] (fun s29 wx=>s29=.bool (!D && decide (ri≤idx))∧wx=wr.alloc (.cells #[.int .i64 idx,.int .i64 gen,.int .i64 has,.int .i64 a0,.int .i64 a1,.int .i64 a2,.int .i64 a3,.int .i64 a4,.int .i64 a5,.int .i64 a6,.int .i64 a7] 114))
   case first=>
    cases D
    ·have e00:=H.cell 1 0 rfl rfl;have l00:=H.lt 1 rfl
     go_wp2_with fail
     go_meet
     exact ⟨by simp,rfl⟩
    ·go_wp2_with fail
     go_meet
     exact ⟨by simp,rfl⟩
   case rest=>
    obtain ⟨rfl,rfl⟩:=hcut
    obtain ⟨wa,hwa,H1⟩:=H1.name
    rw [hwa] at e0 ⊢
    have hga:wr.heap.size<wa.heap.size:=H1.lt 5 rfl
    generalize wr.heap.size=gx at *
    clear hwa c0 c1 c2 v0 v1 v2 v3 v4 v5 v6 v7
    go_upto_if 29 with fail
    go_cut [6] (fun s6 wx=>s6=.bool (D || decide (ri≤idx))∧∃ A c cur1,cur1=(cur++if !D && decide (ri≤idx) then [ro] else []) ∧
     Hp w wx [.box w.heap.size 64 [.slice (some ⟨b1',off,none⟩) rows.length cr,.slice Ag gens.length cg],.box (w.heap.size+1) 114 [.int .i64 ri,.int .i64 rg,.int .i64 rh,.int .i64 b0,.int .i64 b1,.int .i64 b2,.int .i64 b3,.int .i64 b4,.int .i64 b5,.int .i64 b6,.int .i64 b7],.box (w.heap.size+1+1) 64 [.slice none 0 0,.slice none 0 0],.box (w.heap.size+1+1+1) 64 [.slice A cur1.length c,.slice Ag gens.length cg],.own (.slice A cur1.length c) 114 11 cur1.length (cur1.flatMap rowCells),.box gx 114 [.int .i64 idx,.int .i64 gen,.int .i64 has,.int .i64 a0,.int .i64 a1,.int .i64 a2,.int .i64 a3,.int .i64 a4,.int .i64 a5,.int .i64 a6,.int .i64 a7]])
    case first=>
     cases hC:(!D && decide (ri≤idx))
     ·have hD:Hid (D=(D || decide (ri≤idx))):=Lib.hid (by revert hC;cases D<;>simp)
      go_wp2_with fail
      go_meet
      exact ⟨by rw [← hD.out],A,c,cur,by rw [hC];simp,H1⟩
     ·have hD:Hid ((D || decide (ri≤idx))=true):=Lib.hid (by revert hC;cases D<;>simp)
      have q0:=H1.cell 3 0 rfl rfl;have q1:=H1.cell 3 1 rfl rfl
      have f0:=H1.cell 1 0 rfl rfl;have f1:=H1.cell 1 1 rfl rfl;have f2:=H1.cell 1 2 rfl rfl;have f3:=H1.cell 1 3 rfl rfl;have f4:=H1.cell 1 4 rfl rfl;have f5:=H1.cell 1 5 rfl rfl;have f6:=H1.cell 1 6 rfl rfl;have f7:=H1.cell 1 7 rfl rfl;have f8:=H1.cell 1 8 rfl rfl;have f9:=H1.cell 1 9 rfl rfl;have f10:=H1.cell 1 10 rfl rfl
      have HN:=H1.new wa.heap.size rfl 114 [.int .i64 ri,.int .i64 rg,.int .i64 rh,.int .i64 b0,.int .i64 b1,.int .i64 b2,.int .i64 b3,.int .i64 b4,.int .i64 b5,.int .i64 b6,.int .i64 b7]
      go_wp2_with (at_builtin;refine wpList_append_own_at _ rfl _ _ 62 rfl w.heap.size 114 i0' (.agg #[.int .i64 0,.int .i64 0,.int .i64 0,.int .i64 0,.int .i64 0,.int .i64 0,.int .i64 0,.int .i64 0,.int .i64 0,.int .i64 0,.int .i64 0]) 11 88 Tryz.underlying62 hi0 hz0a hz0b hz0c rfl (by decide) _ _ _ rfl (HN.owns 4 rfl) ⟨wa.heap.size,0,none⟩ 1 1 [.int .i64 ri,.int .i64 rg,.int .i64 rh,.int .i64 b0,.int .i64 b1,.int .i64 b2,.int .i64 b3,.int .i64 b4,.int .i64 b5,.int .i64 b6,.int .i64 b7] rfl rfl ?c1 ?c2 ?c3 ?c4 ?c5 ?_;rotate_left 5;intro v' w7 hown7 hgrow7 _ hat7;have H8:=HN.app 4 rfl hgrow7 hown7 (hat7.imp id (fun e g hg=>by rw [e] at hg;injection hg with hg;omega));have z0:=H8.cell 3 0 rfl rfl;have z1:=H8.cell 3 1 rfl rfl;have z2:=H8.frozen 3 1 rfl;have z3:=H8.frozen 3 0 rfl;obtain ⟨A3,c3,rfl,hs1,hs2⟩:=own_shape hown7)
      case c1=>exact news_blk (HN.blk 6 rfl)
      case c2=>simp [Value.oneCell']
      case c3=>unfold maxLen;omega
      case c4=>omega
      case c5=>exact HN.bel.size
      go_meet
      have hl:(cur++[ro]).length=cur.length+1:=by simp
      refine ⟨by rw [hD.out],A3,c3,cur++[ro],by rw [hC];simp,?_⟩
      rw [hl,hsn.out,hrov.out]
      exact (H8.set 3 0 (.slice A3 (cur.length+1) c3) rfl).drop1 6
    case rest=>
     obtain ⟨rfl,A4,c4,cur1,hcur1,H2⟩:=hcut
     have hE2:Hid (E=cur1++((if idx != ri then [xo] else [])++withFrom ro (D || decide (ri≤idx)) (rows.drop (k+1)))):=Lib.hid (by rw [hE1.out,hcur1])
     have hl1:cur1.length≤2*k+1:=by
      rw [hcur1,List.length_append]
      split<;>simp<;>omega
     generalize (D || decide (ri≤idx))=D' at *
     clear hE1 hcur1 H1 e0 H
     have e0:=H2.cell 1 0 rfl rfl;have e1:=H2.cell 5 0 rfl rfl
     go_upto_if 42 with fail
     cases hC:(idx != ri)
     ·have hE3:Hid (E=cur1++withFrom ro D' (rows.drop (k+1))):=Lib.hid (by rw [hE2.out,hC];simp)
      clear hE2
      go_wp2_with fail
      go_roundw
      case rel=>exact ⟨k+1,by omega,by go_num,D',A4,c4,cur1,rfl,by omega,hE3,H2.drop1 5⟩
      case measure=>simp [intOf];omega
     ·have hE3:Hid (E=(cur1++[xo])++withFrom ro D' (rows.drop (k+1))):=Lib.hid (by rw [hE2.out,hC];simp)
      obtain ⟨wb,hwb,H2⟩:=H2.name
      rw [hwb] at e0 e1 ⊢
      clear hwb hE2
      have q0:=H2.cell 3 0 rfl rfl;have q1:=H2.cell 3 1 rfl rfl
      have f1:=H2.cell 5 1 rfl rfl;have f2:=H2.cell 5 2 rfl rfl;have f3:=H2.cell 5 3 rfl rfl;have f4:=H2.cell 5 4 rfl rfl;have f5:=H2.cell 5 5 rfl rfl;have f6:=H2.cell 5 6 rfl rfl;have f7:=H2.cell 5 7 rfl rfl;have f8:=H2.cell 5 8 rfl rfl;have f9:=H2.cell 5 9 rfl rfl;have f10:=H2.cell 5 10 rfl rfl
      have HN:=H2.new wb.heap.size rfl 114 [.int .i64 idx,.int .i64 gen,.int .i64 has,.int .i64 a0,.int .i64 a1,.int .i64 a2,.int .i64 a3,.int .i64 a4,.int .i64 a5,.int .i64 a6,.int .i64 a7]
      go_wp2_with (at_builtin;refine wpList_append_own_at _ rfl _ _ 62 rfl w.heap.size 114 i0' (.agg #[.int .i64 0,.int .i64 0,.int .i64 0,.int .i64 0,.int .i64 0,.int .i64 0,.int .i64 0,.int .i64 0,.int .i64 0,.int .i64 0,.int .i64 0]) 11 88 Tryz.underlying62 hi0 hz0a hz0b hz0c rfl (by decide) _ _ _ rfl (HN.owns 4 rfl) ⟨wb.heap.size,0,none⟩ 1 1 [.int .i64 idx,.int .i64 gen,.int .i64 has,.int .i64 a0,.int .i64 a1,.int .i64 a2,.int .i64 a3,.int .i64 a4,.int .i64 a5,.int .i64 a6,.int .i64 a7] rfl rfl ?c1 ?c2 ?c3 ?c4 ?c5 ?_;rotate_left 5;intro v' w7 hown7 hgrow7 _ hat7;have H8:=HN.app 4 rfl hgrow7 hown7 (hat7.imp id (fun e g hg=>by rw [e] at hg;injection hg with hg;omega));have z0:=H8.cell 3 0 rfl rfl;have z1:=H8.cell 3 1 rfl rfl;have z2:=H8.frozen 3 1 rfl;have z3:=H8.frozen 3 0 rfl;obtain ⟨A3,c3,rfl,hs1,hs2⟩:=own_shape hown7)
      case c1=>exact news_blk (HN.blk 6 rfl)
      case c2=>simp [Value.oneCell']
      case c3=>unfold maxLen;omega
      case c4=>omega
      case c5=>exact HN.bel.size
      go_roundw
      have hl:(cur1++[xo]).length=cur1.length+1:=by simp
      case rel=>
       refine ⟨k+1,by omega,by go_num,D',A3,c3,cur1++[xo],rfl,by omega,hE3,?_⟩
       rw [hl,hxv.out,hxc.out]
       exact ((H8.set 3 0 (.slice A3 (cur1.length+1) c3) rfl).drop1 6).drop1 5
      case measure=>simp [intOf];omega
  ·obtain rfl:k=rows.length:=by omega
   have hE1:Hid (E=cur++if D then [] else [ro]):=Lib.hid (by rw [hE.out,List.drop_length,hrnil.out])
   clear hE
   go_upto_if 51 with fail
   go_cut [] (fun wx=>∃ A c,Hp w wx [.box w.heap.size 64 [.slice Ar rows.length cr,.slice Ag gens.length cg],.box (w.heap.size+1) 114 [.int .i64 ri,.int .i64 rg,.int .i64 rh,.int .i64 b0,.int .i64 b1,.int .i64 b2,.int .i64 b3,.int .i64 b4,.int .i64 b5,.int .i64 b6,.int .i64 b7],.box (w.heap.size+1+1) 64 [.slice none 0 0,.slice none 0 0],.box (w.heap.size+1+1+1) 64 [.slice A E.length c,.slice Ag gens.length cg],.own (.slice A E.length c) 114 11 E.length (E.flatMap rowCells)])
   case first=>
    cases D
    ·have q0:=H.cell 3 0 rfl rfl;have q1:=H.cell 3 1 rfl rfl
     have f0:=H.cell 1 0 rfl rfl;have f1:=H.cell 1 1 rfl rfl;have f2:=H.cell 1 2 rfl rfl;have f3:=H.cell 1 3 rfl rfl;have f4:=H.cell 1 4 rfl rfl;have f5:=H.cell 1 5 rfl rfl;have f6:=H.cell 1 6 rfl rfl;have f7:=H.cell 1 7 rfl rfl;have f8:=H.cell 1 8 rfl rfl;have f9:=H.cell 1 9 rfl rfl;have f10:=H.cell 1 10 rfl rfl
     have HN:=H.new wr.heap.size rfl 114 [.int .i64 ri,.int .i64 rg,.int .i64 rh,.int .i64 b0,.int .i64 b1,.int .i64 b2,.int .i64 b3,.int .i64 b4,.int .i64 b5,.int .i64 b6,.int .i64 b7]
     go_wp2_with (at_builtin;refine wpList_append_own_at _ rfl _ _ 62 rfl w.heap.size 114 i0' (.agg #[.int .i64 0,.int .i64 0,.int .i64 0,.int .i64 0,.int .i64 0,.int .i64 0,.int .i64 0,.int .i64 0,.int .i64 0,.int .i64 0,.int .i64 0]) 11 88 Tryz.underlying62 hi0 hz0a hz0b hz0c rfl (by decide) _ _ _ rfl (HN.owns 4 rfl) ⟨wr.heap.size,0,none⟩ 1 1 [.int .i64 ri,.int .i64 rg,.int .i64 rh,.int .i64 b0,.int .i64 b1,.int .i64 b2,.int .i64 b3,.int .i64 b4,.int .i64 b5,.int .i64 b6,.int .i64 b7] rfl rfl ?c1 ?c2 ?c3 ?c4 ?c5 ?_;rotate_left 5;intro v' w7 hown7 hgrow7 _ hat7;have H8:=HN.app 4 rfl hgrow7 hown7 (hat7.imp id (fun e g hg=>by rw [e] at hg;injection hg with hg;omega));have z0:=H8.cell 3 0 rfl rfl;have z1:=H8.cell 3 1 rfl rfl;have z2:=H8.frozen 3 1 rfl;have z3:=H8.frozen 3 0 rfl;obtain ⟨A3,c3,rfl,hs1,hs2⟩:=own_shape hown7)
     case c1=>exact news_blk (HN.blk 5 rfl)
     case c2=>simp [Value.oneCell']
     case c3=>unfold maxLen;omega
     case c4=>omega
     case c5=>exact HN.bel.size
     go_meet
     have hl:E.length=cur.length+1:=by rw [hE1.out];simp
     have hf:E.flatMap rowCells=cur.flatMap rowCells++[.int .i64 ri,.int .i64 rg,.int .i64 rh,.int .i64 b0,.int .i64 b1,.int .i64 b2,.int .i64 b3,.int .i64 b4,.int .i64 b5,.int .i64 b6,.int .i64 b7]:=by rw [hE1.out,if_neg (by simp),hsn.out,hrov.out]
     refine ⟨A3,c3,?_⟩
     rw [hl,hf]
     exact (H8.set 3 0 (.slice A3 (cur.length+1) c3) rfl).drop1 5
    ·have hEc:E=cur:=by rw [hE1.out];simp
     go_wp2_with fail
     go_meet
     rw [hEc]
     exact ⟨A,c,H⟩
   case rest=>
    obtain ⟨A5,c5,H3⟩:=hcut
    clear H hE1
    have q0:=H3.cell 3 0 rfl rfl;have q1:=H3.cell 3 1 rfl rfl;have y0:=H3.frozen 2 0 rfl;have y1:=H3.frozen 2 1 rfl;have y2:=H3.cell 2 0 rfl rfl;have y3:=H3.cell 2 1 rfl rfl
    have H9:=(H3.set 2 0 (.slice A5 E.length c5) rfl).set 2 1 (.slice Ag gens.length cg) rfl
    have p0:=H9.cell 2 0 rfl rfl;have p1:=H9.cell 2 1 rfl rfl
    go_wp2_with fail
    refine bodyPost_ret (v:=.agg #[.slice A5 E.length c5,.slice Ag gens.length cg]) (by simp [results,Tryz.results148,go_sem,p0,p1]) rfl ⟨⟨_,_,rfl,H9.owns 4 rfl⟩,H9.bel⟩
open Go.RowKit
open Brood
theorem rbad_any (e i:Int) (b:Nat) (w:World) (h:Blk w b 3 #[.int .i64 i]) :
  Calls Tryz.prog 144 #[.int .i64 e,.pointer (some ⟨b,0,none⟩)] w fun e' w'=>e'=.returned (.agg #[.int .i64 e,.int .i64 i])∧Below w.heap.size w w':=by
 have c0:=h.cell 0
 have hlt:=h.lt
 simp at c0
 have H0:=(Hp.start w).new w.heap.size rfl 48 [.int .i64 0,.int .i64 0]
 have H1:=(H0.set 0 0 (.int .i64 e) rfl).set 0 1 (.int .i64 i) rfl
 have p0:=H1.cell 0 0 rfl rfl;have p1:=H1.cell 0 1 rfl rfl
 go_enter Tryz.func144,Tryz.ntmps144
 go_wp2_with fail
 refine bodyPost_ret (v:=.agg #[.int .i64 e,.int .i64 i]) (by simp [results,Tryz.results144,go_sem]) rfl ⟨rfl,(Below.refl _ _).alloc (Nat.le_refl _) _⟩
theorem rwrong2_any (rows:List BRow) (gens:List Int) (Ar:Option Addr) (cr:Nat) (Ag:Option Addr) (cg:Nat) (hlenr:rows.length≤9223372036854775807) (w:World) (hr:RdR w w.heap.size Ar rows) (hg:RdG w w.heap.size Ag gens) :
  Calls Tryz.prog 105 #[.agg #[.slice Ar rows.length cr,.slice Ag gens.length cg]] w fun e w'=>e=.returned (.agg #[.int .i64 (worldErr ⟨rows,gens⟩).1,.int .i64 (worldErr ⟨rows,gens⟩).2])∧Below w.heap.size w w':=by
 have hmf:∀ (fn:Fn) (first cap:Array Value) (w:World),(Instr.makeFunc fn first cap).run Tryz.prog w=.ok (.func fn first cap) w:=fun _ _ _ _=>rfl
 have H0:=((Hp.start w).new w.heap.size rfl 64 [.slice Ar rows.length cr,.slice Ag gens.length cg]).new (w.heap.size+1) (by simp) 48 [.int .i64 0,.int .i64 0]
 have hwe:Hid (worldErr ⟨rows,gens⟩=if (gensErr gens).1≠0 then gensErr gens else rowsFrom gens 0 none rows):=Lib.hid rfl
 generalize worldErr ⟨rows,gens⟩=E at *
 by_cases hlen:60<gens.length
 ·have hE:Hid (E=(4,0)):=Lib.hid (by rw [hwe.out];simp [gensErr,hlen])
  clear hwe
  go_enter Tryz.func105,Tryz.ntmps105
  go_wp2_with fail
  refine bodyPost_ret (v:=.agg #[.int .i64 4,.int .i64 0]) (by simp [results,Tryz.results105,go_sem]) rfl ⟨by rw [hE.out],?_⟩
  exact ((Below.refl _ _).alloc (Nat.le_refl _) _).alloc (by simp) _
 have hgf:Hid (gensErr gens=gensFrom 0 (gens.drop 0)):=Lib.hid (by simp [gensErr,hlen])
 go_enter Tryz.func105,Tryz.ntmps105
 go_wp2_with fail
 go_loopw [19] (fun q wr=>∃ k:Nat,k≤gens.length∧q=.int .i64 k∧Hid (gensErr gens=gensFrom k (gens.drop k))∧Hp w wr [.box w.heap.size 64 [.slice Ar rows.length cr,.slice Ag gens.length cg],.box (w.heap.size+1) 48 [.int .i64 0,.int .i64 0]]) (fun q _=>gens.length-(intOf q).toNat)
 case atStart=>exact ⟨0,by omega,rfl,hgf,H0⟩
 case round=>
  clear H0 hgf
  obtain ⟨k,hk,rfl,hgf,H⟩:=hrel
  have f0:=H.cell 1 0 rfl rfl;have f1:=H.cell 1 1 rfl rfl;have z0:=H.frozen 1 0 rfl;have z1:=H.frozen 1 1 rfl
  by_cases hlt:k<gens.length
  ·have hR1:RdG wr w.heap.size Ag gens:=Rd.under hg H.bel (Nat.le_refl _)
   obtain ⟨b1,off,rfl,hb1,c0⟩:=hR1.at_ hlt
   have hst:=Lib.hid (drop_cons hlt)
   clear hR1
   generalize gens[k]=n at *
   have i0:(0:Int)≤(k:Int):=by omega
   have i1:(k:Int)<(gens.length:Int):=by omega
   have H2:=(H.set 1 0 (.int .i64 3) rfl).set 1 1 (.int .i64 (k:Int)) rfl
   have p0:=H2.cell 1 0 rfl rfl;have p1:=H2.cell 1 1 rfl rfl
   by_cases h1:n<1
   ·have hE:Hid (E=(3,(k:Int))):=Lib.hid (by
     have hgn:gensFrom k (n::gens.drop (k+1))=(3,(k:Int)):=by rw [gensFrom,if_pos (.inl h1)]
     rw [hwe.out,hgf.out,hst.out,hgn];simp)
    go_wp2_with fail
    refine bodyPost_ret (v:=.agg #[.int .i64 3,.int .i64 (k:Int)]) (by simp [results,Tryz.results105,go_sem,p0,p1]) rfl ⟨by rw [hE.out],H2.bel⟩
   by_cases h2:1000<n
   ·have hE:Hid (E=(3,(k:Int))):=Lib.hid (by
     have hgn:gensFrom k (n::gens.drop (k+1))=(3,(k:Int)):=by rw [gensFrom,if_pos (.inr h2)]
     rw [hwe.out,hgf.out,hst.out,hgn];simp)
    go_wp2_with fail
    refine bodyPost_ret (v:=.agg #[.int .i64 3,.int .i64 (k:Int)]) (by simp [results,Tryz.results105,go_sem,p0,p1]) rfl ⟨by rw [hE.out],H2.bel⟩
   have hnext:Hid (gensErr gens=gensFrom (k+1) (gens.drop (k+1))):=Lib.hid (by rw [hgf.out,hst.out,gensFrom,if_neg (by omega)])
   clear H2 p0 p1
   go_wp2_with fail
   go_roundw
   case rel=>exact ⟨k+1,by omega,by go_num,hnext,H⟩
   case measure=>simp [intOf];omega
  ·obtain rfl:k=gens.length:=by omega
   have hE:Hid (E=rowsFrom gens 0 (prevOf rows 0) (rows.drop 0)):=Lib.hid (by rw [hwe.out,hgf.out,List.drop_length];simp [gensFrom,prevOf])
   clear hwe hgf
   have e0:=H.cell 0 0 rfl rfl;have e1:=H.cell 0 1 rfl rfl
   go_wp2_with fail
   go_loopw [36] (fun q wx=>∃ k:Nat,k≤rows.length∧q=.int .i64 k∧Hid (E=rowsFrom gens k (prevOf rows k) (rows.drop k))∧Hp w wx [.box w.heap.size 64 [.slice Ar rows.length cr,.slice Ag gens.length cg],.box (w.heap.size+1) 48 [.int .i64 0,.int .i64 0]]) (fun q _=>rows.length-(intOf q).toNat)
   case atStart=>exact ⟨0,by omega,rfl,hE,H⟩
   case round=>
    clear H hE e0 e1 f0 f1 z0 z1
    obtain ⟨k,hk,rfl,hE,H⟩:=hrel
    have f0:=H.cell 1 0 rfl rfl;have f1:=H.cell 1 1 rfl rfl;have z0:=H.frozen 1 0 rfl;have z1:=H.frozen 1 1 rfl
    have e0:=H.cell 0 0 rfl rfl;have e1:=H.cell 0 1 rfl rfl
    by_cases hlt:k<rows.length
    ·have hR1:RdR wr w.heap.size Ar rows:=Rd.under hr H.bel (Nat.le_refl _)
     have hG1:RdG wr w.heap.size Ag gens:=Rd.under hg H.bel (Nat.le_refl _)
     obtain ⟨b,off,rfl,hb,hrow⟩:=hR1.at_ hlt
     have hst:=Lib.hid (drop_cons hlt)
     have hpn:Hid (prevOf rows (k+1)=some rows[k].idx):=Lib.hid (by simp [prevOf,List.getElem?_eq_getElem hlt])
     have hprev:∀ k',k=k'+1→∃ z:Int,prevOf rows k=some z∧wr.cell? ⟨b,off+k'*11,none⟩=some (.int .i64 z):=by
      rintro k' rfl
      have hk':k' < rows.length:=by omega
      obtain ⟨b',off',hbo,_,hrow'⟩:=hR1.at_ hk'
      injection hbo with hbo
      injection hbo with hbo1 hbo2
      subst hbo1 hbo2
      exact ⟨rows[k'].idx,by simp [prevOf,List.getElem?_eq_getElem hk'],hrow'.head.1⟩
     have hgat:∀ ix:Nat,ix<gens.length→∃ bg og z,Ag=some ⟨bg,og,none⟩∧bg<w.heap.size∧gens.getD ix 0=z∧wr.cell? ⟨bg,og+ix,none⟩=some (.int .i64 z):=by
      intro ix hlx
      obtain ⟨bg,og,he,hbg,hcg⟩:=hG1.at_ hlx
      exact ⟨bg,og,gens[ix],he,hbg,by simp [List.getD_eq_getElem?_getD,hlx],hcg⟩
     have hrf:=Lib.hid (show rowsFrom gens k (prevOf rows k) (rows[k]::rows.drop (k+1))=(if rowErr rows[k]≠0 then (rowErr rows[k],(k:Int)) else if rows[k].idx<0∨(gens.length:Int)≤rows[k].idx then (3,(k:Int)) else if prevGe (prevOf rows k) rows[k].idx=true then (2,(k:Int)) else if rows[k].gen≠gens.getD rows[k].idx.toNat 0 then (7,(k:Int)) else rowsFrom gens (k+1) (some rows[k].idx) (rows.drop (k+1))) from by rw [rowsFrom])
     rw [← hst.out,← hE.out] at hrf
     have hre:Hid (rowErr rows[k]=if isSet rows[k].has && !valsBad rows[k].has 0 rows[k].vals then 0 else 3):=Lib.hid rfl
     replace hprev:=Lib.hid hprev
     replace hgat:=Lib.hid hgat
     clear hR1 hG1 hst hE
     generalize rows[k]=r at *
     have i0:(0:Int)≤(k:Int):=by omega
     have i1:(k:Int)<(rows.length:Int):=by omega
     obtain ⟨c0,c1,c2⟩:=hrow.head
     generalize rowErr r=re at *
     obtain ⟨idx,gen,has,vals,h8⟩:=r
     obtain ⟨a0,a1,a2,a3,a4,a5,a6,a7,rfl⟩:=vals_eight h8
     simp only at c0 c1 c2 hrf hre hpn
     have v0:=hrow 3 (.int .i64 a0) rfl;have v1:=hrow 4 (.int .i64 a1) rfl;have v2:=hrow 5 (.int .i64 a2) rfl;have v3:=hrow 6 (.int .i64 a3) rfl;have v4:=hrow 7 (.int .i64 a4) rfl;have v5:=hrow 8 (.int .i64 a5) rfl;have v6:=hrow 9 (.int .i64 a6) rfl;have v7:=hrow 10 (.int .i64 a7) rfl
     clear hrow
     have H3:=(H.new wr.heap.size rfl 3 [.int .i64 (k:Int)]).new (wr.heap.size+1) (by simp) 114 [.int .i64 idx,.int .i64 gen,.int .i64 has,.int .i64 a0,.int .i64 a1,.int .i64 a2,.int .i64 a3,.int .i64 a4,.int .i64 a5,.int .i64 a6,.int .i64 a7]
     obtain ⟨wo,rfl⟩:∃ wo:World,wo=wr:=⟨_,rfl⟩
     have hbw3:Below wo.heap.size wo ((wo.alloc (.cells #[.int .i64 (k:Int)] 3)).alloc (.cells #[.int .i64 idx,.int .i64 gen,.int .i64 has,.int .i64 a0,.int .i64 a1,.int .i64 a2,.int .i64 a3,.int .i64 a4,.int .i64 a5,.int .i64 a6,.int .i64 a7] 114)):=((Below.refl _ _).alloc (Nat.le_refl _) _).alloc (by simp) _
     go_wp2_with fail
     clear c0 c1 c2 v0 v1 v2 v3 v4 v5 v6 v7 f0 f1 z0 z1 e0 e1
     refine (rset_any has _).mono ?_
     rintro e w3 ⟨rfl,hw3⟩
     rw [hw3] at H3 hbw3
     clear hw3
     cases hs:isSet has
     case false=>
      have y0:=H3.frozen 1 0 rfl;have y1:=H3.frozen 1 1 rfl
      have hE2:Hid (E=(3,(k:Int))):=Lib.hid (by rw [hrf.out,hre.out,hs];rfl)
      go_wp2_with fail
      refine (rbad_any 3 (k:Int) wo.heap.size _ (H3.blk 2 rfl)).mono ?_
      rintro e w9 ⟨rfl,hb9⟩
      replace H3:=H3.grow hb9
      have y0:=H3.frozen 1 0 rfl;have y1:=H3.frozen 1 1 rfl;have y2:=H3.cell 1 0 rfl rfl;have y3:=H3.cell 1 1 rfl rfl
      have H9:=(H3.set 1 0 (.int .i64 3) rfl).set 1 1 (.int .i64 (k:Int)) rfl
      have p0:=H9.cell 1 0 rfl rfl;have p1:=H9.cell 1 1 rfl rfl
      go_wp2_with fail
      refine bodyPost_ret (v:=.agg #[.int .i64 3,.int .i64 (k:Int)]) (by simp [results,Tryz.results105,go_sem,p0,p1]) rfl ⟨by rw [hE2.out],H9.bel⟩
     case true=>
      have x0:=H3.cell 3 0 rfl rfl;have x1:=H3.cell 3 1 rfl rfl;have x2:=H3.cell 3 2 rfl rfl;have x3:=H3.cell 3 3 rfl rfl;have x4:=H3.cell 3 4 rfl rfl;have x5:=H3.cell 3 5 rfl rfl;have x6:=H3.cell 3 6 rfl rfl;have x7:=H3.cell 3 7 rfl rfl;have x8:=H3.cell 3 8 rfl rfl;have x9:=H3.cell 3 9 rfl rfl;have x10:=H3.cell 3 10 rfl rfl
      go_wp2_with fail
      clear x0 x1 x2 x3 x4 x5 x6 x7 x8 x9 x10
      have hre2:Hid (re=if valsBad has 0 [a0,a1,a2,a3,a4,a5,a6,a7] then 3 else 0):=Lib.hid (by
       rw [hre.out,hs,Bool.true_and]
       cases valsBad has 0 [a0,a1,a2,a3,a4,a5,a6,a7]<;>rfl)
      clear hre
      have hL:([a0,a1,a2,a3,a4,a5,a6,a7]:List Int).length=8:=rfl
      have hst:=Lib.hid (fun k hk=>@valsBad_drop has [a0,a1,a2,a3,a4,a5,a6,a7] k hk)
      have hvv2:Hid (∀ (q:Nat) (hq:q<([a0,a1,a2,a3,a4,a5,a6,a7]:List Int).length) (W:World),(Instr.index 112 (.agg #[.int .i64 a0,.int .i64 a1,.int .i64 a2,.int .i64 a3,.int .i64 a4,.int .i64 a5,.int .i64 a6,.int .i64 a7]) (.int .i64 (q:Int))).run Tryz.prog W=.ok (.int .i64 (([a0,a1,a2,a3,a4,a5,a6,a7]:List Int)[q]'hq)) W):=Lib.hid (fun q hq W=>vals_at (vs:=[a0,a1,a2,a3,a4,a5,a6,a7]) rfl (by simpa using hq) W)
      obtain ⟨L,hLe⟩:∃ L:List Int,L=[a0,a1,a2,a3,a4,a5,a6,a7]:=⟨_,rfl⟩
      have hvv:Hid (∀ (q:Nat) (hq:q<L.length) (W:World),(Instr.index 112 (.agg #[.int .i64 a0,.int .i64 a1,.int .i64 a2,.int .i64 a3,.int .i64 a4,.int .i64 a5,.int .i64 a6,.int .i64 a7]) (.int .i64 (q:Int))).run Tryz.prog W=.ok (.int .i64 (L[q]'hq)) W):=by subst hLe;exact hvv2
      rw [← hLe] at hre2 hst hL
      clear hvv2 hLe
      go_loopw [50] (fun q wx=>∃ j:Nat,j≤8∧q=.int .i64 j∧Hid (valsBad has 0 L=valsBad has j (L.drop j))∧Below wo.heap.size wo wx∧Hp w wx [.box w.heap.size 64 [.slice (some ⟨b,off,none⟩) rows.length cr,.slice Ag gens.length cg],.box (w.heap.size+1) 48 [.int .i64 0,.int .i64 0],.box wo.heap.size 3 [.int .i64 (k:Int)],.box (wo.heap.size+1) 114 [.int .i64 idx,.int .i64 gen,.int .i64 has,.int .i64 a0,.int .i64 a1,.int .i64 a2,.int .i64 a3,.int .i64 a4,.int .i64 a5,.int .i64 a6,.int .i64 a7]]) (fun q _=>8-(intOf q).toNat)
      case atStart=>exact ⟨0,by omega,rfl,Lib.hid (by simp),hbw3,H3⟩
      case round=>
       clear H3 hbw3
       obtain ⟨j,hj,rfl,heq,hbw,H3⟩:=hrel
       by_cases hlt8:j<8
       ·have hjL:j<L.length:=by omega
        have hix:=hvv.out j hjL
        have hst3:=Lib.hid (hst.out j hjL)
        generalize L[j]=z at *
        have hvb:Hid (valBad has j z=(!isVal z || (decide (z≠0) && !hasB has (j:Int)))):=Lib.hid rfl
        have x2:=H3.cell 3 2 rfl rfl
        have j0:(0:Int)≤(j:Int):=by omega
        have j8:(j:Int)<8:=by omega
        go_wp2_with fail
        refine (rvalue_any z _).mono ?_
        rintro e w4 ⟨rfl,rfl⟩
        cases q1:isVal z
        case false=>
         have hf:Hid (valsBad has 0 L=true):=Lib.hid (by rw [heq.out,hst3.out,hvb.out,q1];rfl)
         have hE2:Hid (E=(3,(k:Int))):=Lib.hid (by rw [hrf.out,hre2.out,hf.out];rfl)
         go_wp2_with fail
         refine (rbad_any 3 (k:Int) wo.heap.size _ (H3.blk 2 rfl)).mono ?_
         rintro e w9 ⟨rfl,hb9⟩
         replace H3:=H3.grow hb9
         have y0:=H3.frozen 1 0 rfl;have y1:=H3.frozen 1 1 rfl;have y2:=H3.cell 1 0 rfl rfl;have y3:=H3.cell 1 1 rfl rfl
         have H9:=(H3.set 1 0 (.int .i64 3) rfl).set 1 1 (.int .i64 (k:Int)) rfl
         have p0:=H9.cell 1 0 rfl rfl;have p1:=H9.cell 1 1 rfl rfl
         go_wp2_with fail
         refine bodyPost_ret (v:=.agg #[.int .i64 3,.int .i64 (k:Int)]) (by simp [results,Tryz.results105,go_sem,p0,p1]) rfl ⟨by rw [hE2.out],H9.bel⟩
        case true=>
         by_cases q2:z=0
         ·subst q2
          have hf:Hid (valsBad has 0 L=valsBad has (j+1) (L.drop (j+1))):=Lib.hid (by rw [heq.out,hst3.out,hvb.out,q1];rfl)
          go_wp2_with fail
          go_roundw
          case rel=>exact ⟨j+1,by omega,by go_num,hf,hbw,H3⟩
          case measure=>simp [intOf];omega
         ·have q2':(z != 0)=true:=by simpa using q2
          go_wp2_with fail
          refine (rhas_any has (j:Int) hs _).mono ?_
          rintro e w4 ⟨rfl,hb4⟩
          replace hbw:=grow_below hbw hb4
          replace H3:=H3.grow hb4
          clear x2
          cases q3:hasB has (j:Int)
          case false=>
           have hf:Hid (valsBad has 0 L=true):=Lib.hid (by rw [heq.out,hst3.out,hvb.out,q1,q3];simp [q2])
           have hE2:Hid (E=(3,(k:Int))):=Lib.hid (by rw [hrf.out,hre2.out,hf.out];rfl)
           go_wp2_with fail
           refine (rbad_any 3 (k:Int) wo.heap.size _ (H3.blk 2 rfl)).mono ?_
           rintro e w9 ⟨rfl,hb9⟩
           replace H3:=H3.grow hb9
           have y0:=H3.frozen 1 0 rfl;have y1:=H3.frozen 1 1 rfl;have y2:=H3.cell 1 0 rfl rfl;have y3:=H3.cell 1 1 rfl rfl
           have H9:=(H3.set 1 0 (.int .i64 3) rfl).set 1 1 (.int .i64 (k:Int)) rfl
           have p0:=H9.cell 1 0 rfl rfl;have p1:=H9.cell 1 1 rfl rfl
           go_wp2_with fail
           refine bodyPost_ret (v:=.agg #[.int .i64 3,.int .i64 (k:Int)]) (by simp [results,Tryz.results105,go_sem,p0,p1]) rfl ⟨by rw [hE2.out],H9.bel⟩
          case true=>
           have hf:Hid (valsBad has 0 L=valsBad has (j+1) (L.drop (j+1))):=Lib.hid (by rw [heq.out,hst3.out,hvb.out,q1,q3];simp)
           go_wp2_with fail
           go_roundw
           case rel=>exact ⟨j+1,by omega,by go_num,hf,hbw,H3⟩
           case measure=>simp [intOf];omega
       ·obtain rfl:j=8:=by omega
        have hf:Hid (valsBad has 0 L=false):=Lib.hid (by rw [heq.out,← hL,List.drop_length];rfl)
        have hrf2:Hid (E=if idx<0∨(gens.length:Int)≤idx then (3,(k:Int)) else if prevGe (prevOf rows k) idx=true then (2,(k:Int)) else if gen≠gens.getD idx.toNat 0 then (7,(k:Int)) else rowsFrom gens (k+1) (some idx) (rows.drop (k+1))):=Lib.hid (by rw [hrf.out,hre2.out,hf.out];rfl)
        clear hrf hre2 hf hvv heq hst
        have x0:=H3.cell 3 0 rfl rfl;have x1:=H3.cell 3 1 rfl rfl
        have e0:=H3.cell 0 0 rfl rfl;have e1:=H3.cell 0 1 rfl rfl;have e2:=H3.cell 2 0 rfl rfl
        by_cases h1:idx<0
        ·have hE2:Hid (E=(3,(k:Int))):=Lib.hid (by rw [hrf2.out,if_pos (.inl h1)])
         go_wp2_with fail
         refine (rbad_any 3 (k:Int) wo.heap.size _ (H3.blk 2 rfl)).mono ?_
         rintro e w9 ⟨rfl,hb9⟩
         replace H3:=H3.grow hb9
         have y0:=H3.frozen 1 0 rfl;have y1:=H3.frozen 1 1 rfl;have y2:=H3.cell 1 0 rfl rfl;have y3:=H3.cell 1 1 rfl rfl
         have H9:=(H3.set 1 0 (.int .i64 3) rfl).set 1 1 (.int .i64 (k:Int)) rfl
         have p0:=H9.cell 1 0 rfl rfl;have p1:=H9.cell 1 1 rfl rfl
         go_wp2_with fail
         refine bodyPost_ret (v:=.agg #[.int .i64 3,.int .i64 (k:Int)]) (by simp [results,Tryz.results105,go_sem,p0,p1]) rfl ⟨by rw [hE2.out],H9.bel⟩
        by_cases h2:(gens.length:Int)≤idx
        ·have hE2:Hid (E=(3,(k:Int))):=Lib.hid (by rw [hrf2.out,if_pos (.inr h2)])
         go_wp2_with fail
         refine (rbad_any 3 (k:Int) wo.heap.size _ (H3.blk 2 rfl)).mono ?_
         rintro e w9 ⟨rfl,hb9⟩
         replace H3:=H3.grow hb9
         have y0:=H3.frozen 1 0 rfl;have y1:=H3.frozen 1 1 rfl;have y2:=H3.cell 1 0 rfl rfl;have y3:=H3.cell 1 1 rfl rfl
         have H9:=(H3.set 1 0 (.int .i64 3) rfl).set 1 1 (.int .i64 (k:Int)) rfl
         have p0:=H9.cell 1 0 rfl rfl;have p1:=H9.cell 1 1 rfl rfl
         go_wp2_with fail
         refine bodyPost_ret (v:=.agg #[.int .i64 3,.int .i64 (k:Int)]) (by simp [results,Tryz.results105,go_sem,p0,p1]) rfl ⟨by rw [hE2.out],H9.bel⟩
        obtain ⟨ix,rfl⟩:=nat_of (n:=idx) (by omega)
        have hixl:ix<gens.length:=by omega
        obtain ⟨bg,og,z,rfl,hbg,hz,hcz⟩:=hgat.out ix hixl
        have hrf3:Hid (E=if prevGe (prevOf rows k) (ix:Int)=true then (2,(k:Int)) else if gen≠z then (7,(k:Int)) else rowsFrom gens (k+1) (some (ix:Int)) (rows.drop (k+1))):=Lib.hid (by
         rw [hrf2.out,if_neg (by omega),Int.toNat_natCast,hz])
        have hwl:=H.bel.size
        replace hcz:=(hbw.cell (p:=⟨bg,og+ix,none⟩) (by simp only;omega)).trans hcz
        have ix0:(0:Int)≤(ix:Int):=by omega
        have ix1:(ix:Int)<(gens.length:Int):=by omega
        clear hrf2 hgat hz
        go_upto_region 24 with fail
        go_cut [98] (fun s98 wx=>s98=.bool (prevGe (prevOf rows k) (ix:Int))∧wx=wr)
        case first=>
         clear hrf3
         cases k with
         | zero=>
          go_wp2_with fail
          go_meet
          exact ⟨by simp [prevOf,prevGe],rfl⟩
         | succ k'=>
          obtain ⟨q,hq,hcq⟩:=hprev.out k' rfl
          have hqv:Hid (prevGe (prevOf rows (k'+1)) (ix:Int)=decide ((ix:Int)≤q)):=Lib.hid (by rw [hq];rfl)
          have hwrap:IntKind.i64.wrap (((k'+1:Nat):Int)-1)=(k':Int):=by rw [IntKind.wrap_i64];omega
          have hkp:(0:Int)<((k'+1:Nat):Int):=by omega
          have k0:(0:Int)≤(k':Int):=by omega
          have k1:(k':Int)<(rows.length:Int):=by omega
          replace hcq:=(hbw.cell (p:=⟨b,off+k'*11,none⟩) (by simp only;omega)).trans hcq
          clear hq
          go_wp2_with fail
          go_meet
          exact ⟨by rw [hqv.out],rfl⟩
        case rest=>
         obtain ⟨rfl,rfl⟩:=hcut
         cases hpg:prevGe (prevOf rows k) (ix:Int)
         case true=>
          have hE2:Hid (E=(2,(k:Int))):=Lib.hid (by rw [hrf3.out,if_pos hpg])
          go_wp2_with fail
          refine (rbad_any 2 (k:Int) wo.heap.size _ (H3.blk 2 rfl)).mono ?_
          rintro e w9 ⟨rfl,hb9⟩
          replace H3:=H3.grow hb9
          have y0:=H3.frozen 1 0 rfl;have y1:=H3.frozen 1 1 rfl;have y2:=H3.cell 1 0 rfl rfl;have y3:=H3.cell 1 1 rfl rfl
          have H9:=(H3.set 1 0 (.int .i64 2) rfl).set 1 1 (.int .i64 (k:Int)) rfl
          have p0:=H9.cell 1 0 rfl rfl;have p1:=H9.cell 1 1 rfl rfl
          go_wp2_with fail
          refine bodyPost_ret (v:=.agg #[.int .i64 2,.int .i64 (k:Int)]) (by simp [results,Tryz.results105,go_sem,p0,p1]) rfl ⟨by rw [hE2.out],H9.bel⟩
         case false=>
          have hrf4:Hid (E=if gen≠z then (7,(k:Int)) else rowsFrom gens (k+1) (some (ix:Int)) (rows.drop (k+1))):=Lib.hid (by rw [hrf3.out,if_neg (by rw [hpg];decide)])
          clear hrf3
          go_upto_region 26 with fail
          go_cut [109] (fun s109 wx=>s109=.bool (z != gen)∧∃ m,wx=wc.drewN m)
          case first=>
           go_quiet (fail)
           go_wp2_with fail
           go_meet
           exact ⟨rfl,_,rfl⟩
          case rest=>
           obtain ⟨rfl,m,rfl⟩:=hcut
           replace H3:=H3.drewN m
           clear x0 x1 e0 e1 e2 hcz
           by_cases hgz:gen=z
           ·subst hgz
            have hnext:Hid (E=rowsFrom gens (k+1) (prevOf rows (k+1)) (rows.drop (k+1))):=Lib.hid (by rw [hrf4.out,if_neg (by simp),hpn.out])
            go_wp2_with fail
            go_roundw
            case rel=>exact ⟨k+1,by omega,by go_num,hnext,H3.sub (by simp)⟩
            case measure=>simp [intOf];omega
           ·have hgz':(z != gen)=true:=by simpa using Ne.symm hgz
            have hE2:Hid (E=(7,(k:Int))):=Lib.hid (by rw [hrf4.out,if_pos hgz])
            go_wp2_with fail
            refine (rbad_any 7 (k:Int) wo.heap.size _ (H3.blk 2 rfl)).mono ?_
            rintro e w9 ⟨rfl,hb9⟩
            replace H3:=H3.grow hb9
            have y0:=H3.frozen 1 0 rfl;have y1:=H3.frozen 1 1 rfl;have y2:=H3.cell 1 0 rfl rfl;have y3:=H3.cell 1 1 rfl rfl
            have H9:=(H3.set 1 0 (.int .i64 7) rfl).set 1 1 (.int .i64 (k:Int)) rfl
            have p0:=H9.cell 1 0 rfl rfl;have p1:=H9.cell 1 1 rfl rfl
            go_wp2_with fail
            refine bodyPost_ret (v:=.agg #[.int .i64 7,.int .i64 (k:Int)]) (by simp [results,Tryz.results105,go_sem,p0,p1]) rfl ⟨by rw [hE2.out],H9.bel⟩
    ·obtain rfl:k=rows.length:=by omega
     have hE2:Hid (E=(0,0)):=Lib.hid (by rw [hE.out,List.drop_length];rfl)
     have H2:=(H.set 1 0 (.int .i64 0) rfl).set 1 1 (.int .i64 0) rfl
     have p0:=H2.cell 1 0 rfl rfl;have p1:=H2.cell 1 1 rfl rfl
     go_wp2_with fail
     refine bodyPost_ret (v:=.agg #[.int .i64 0,.int .i64 0]) (by simp [results,Tryz.results105,go_sem,p0,p1]) rfl ⟨by rw [hE2.out],H2.bel⟩
open Go.RowKit
open Brood
def putB (a:Nat) (k:Int) (v:Bool):Nat→Bool:=fun j=>if (j:Int)=k then v else tb a j
theorem num_bits:∀ a,a<256→numB (tb a)=a:=by decide +kernel
theorem num_with:∀ a,a<256→∀ k:Nat,k<8→(numB (putB a (k:Int) true):Int)=withS (a:Int) (k:Int):=by decide +kernel
theorem num_without:∀ a,a<256→∀ k:Nat,k<8→(numB (putB a (k:Int) false):Int)=withoutS (a:Int) (k:Int):=by decide +kernel
theorem num_put_w {a:Nat} (ha:a<256) (k:Int):(numB (putB a k true):Int)=withS (a:Int) k:=by
 by_cases hk:isPart k=true
 ·have:=isPart_iff.1 hk
  obtain ⟨k,rfl⟩:=nat_of this.1
  exact num_with a ha k (by omega)
 ·have hk':isPart k=false:=by simpa using hk
  have e:numB (putB a k true)=numB (tb a):=by
   have h:=isPart_false.1 hk'
   have:∀ j:Nat,j<8→putB a k true j=tb a j:=by
    intro j hj
    unfold putB
    rw [if_neg (by omega)]
   simp [numB,numUp,this]
  rw [e,num_bits a ha]
  simp [withS,hk']
theorem num_put_wo {a:Nat} (ha:a<256) (k:Int):(numB (putB a k false):Int)=withoutS (a:Int) k:=by
 by_cases hk:isPart k=true
 ·have:=isPart_iff.1 hk
  obtain ⟨k,rfl⟩:=nat_of this.1
  exact num_without a ha k (by omega)
 ·have hk':isPart k=false:=by simpa using hk
  have e:numB (putB a k false)=numB (tb a):=by
   have h:=isPart_false.1 hk'
   have:∀ j:Nat,j<8→putB a k false j=tb a j:=by
    intro j hj
    unfold putB
    rw [if_neg (by omega)]
   simp [numB,numUp,this]
  rw [e,num_bits a ha]
  simp [withoutS,hasB,hk']
theorem num_true {a:Nat} (ha:a<256) (k:Int) (w:World) :
  Calls Tryz.prog 149 #[.agg #[.bool (putB a k true 0),.bool (putB a k true 1),.bool (putB a k true 2),.bool (putB a k true 3),.bool (putB a k true 4),.bool (putB a k true 5),.bool (putB a k true 6),.bool (putB a k true 7)]] w fun e w'=>e=.returned (.int .i64 (withS (a:Int) k))∧Below w.heap.size w w':=by
 have:=rnum_any (putB a k true) w
 rw [num_put_w ha] at this
 exact this
theorem num_false {a:Nat} (ha:a<256) (k:Int) (w:World) :
  Calls Tryz.prog 149 #[.agg #[.bool (putB a k false 0),.bool (putB a k false 1),.bool (putB a k false 2),.bool (putB a k false 3),.bool (putB a k false 4),.bool (putB a k false 5),.bool (putB a k false 6),.bool (putB a k false 7)]] w fun e w'=>e=.returned (.int .i64 (withoutS (a:Int) k))∧Below w.heap.size w w':=by
 have:=rnum_any (putB a k false) w
 rw [num_put_wo ha] at this
 exact this
end Go.Proofs.YtefdblaolmckmabGreat
