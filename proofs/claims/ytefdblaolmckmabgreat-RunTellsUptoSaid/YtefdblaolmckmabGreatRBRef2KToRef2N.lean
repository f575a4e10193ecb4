/- Lemmas of the proof. -/
import Derived.Deep.RegionHeld3
import Derived.Test.YtefdblaolmckmabGreatRBSpecSToSpecU
import Derived.Test.YtefdblaolmckmabGreatRBRef2MRToNumB
import Derived.Test.YtefdblaolmckmabGreatRBSpecOToSpecR
set_option linter.unusedVariables false
set_option linter.unusedSimpArgs false
set_option maxRecDepth 100000
set_option maxHeartbeats 12800000
namespace Go.Proofs.YtefdblaolmckmabGreat
open Go.RowKit
open Brood
def Far (B S:Nat) (A:Option Addr) (n:Nat):Prop:=0<n→∃ a,A=some a∧(a.block<B∨S≤a.block)
def GotR (B S:Nat) (w:World) (v:Value) (rows:List BRow) (gens:List Int):Prop:=∃ A c A' c',v=.agg #[.slice A rows.length c,.slice A' gens.length c']∧RdR w w.heap.size A rows∧RdG w w.heap.size A' gens∧Far B S A rows.length∧Far B S A' gens.length
theorem GotR.zero (B S:Nat) (w:World):GotR B S w (.agg #[.slice none 0 0,.slice none 0 0]) [] []:=⟨none,0,none,0,rfl,Rd.nil_,Rd.nil_,fun h=>absurd h (by simp),fun h=>absurd h (by simp)⟩
def GotN (N:Prop) (B S:Nat) (w:World) (v:Value) (rows:List BRow) (gens:List Int):Prop:=∃ A c A' c',v=.agg #[.slice A rows.length c,.slice A' gens.length c']∧RdR w w.heap.size A rows∧RdG w w.heap.size A' gens∧Far B S A rows.length∧Far B S A' gens.length∧(N→A'=none→c'=0)
theorem GotN.zero (N:Prop) (B S:Nat) (w:World):GotN N B S w (.agg #[.slice none 0 0,.slice none 0 0]) [] []:=⟨none,0,none,0,rfl,Rd.nil_,Rd.nil_,fun h=>absurd h (by simp),fun h=>absurd h (by simp),fun _ _=>rfl⟩
theorem GotN.got {N:Prop} {B S:Nat} {w:World} {v:Value} {rows:List BRow} {gens:List Int} (h:GotN N B S w v rows gens):GotR B S w v rows gens:=by
 obtain ⟨A,c,A',c',h0,h1,h2,h3,h4,_⟩:=h
 exact ⟨A,c,A',c',h0,h1,h2,h3,h4⟩
def On (Q:Nat→Prop) (A:Option Addr) (n:Nat):Prop:=0<n→∃ a,A=some a∧Q a.block
def GotQ (N:Prop) (Q:Nat→Prop) (w:World) (v:Value) (rows:List BRow) (gens:List Int):Prop:=∃ A c A' c',v=.agg #[.slice A rows.length c,.slice A' gens.length c']∧RdR w w.heap.size A rows∧RdG w w.heap.size A' gens∧On Q A rows.length∧On Q A' gens.length∧(N→A'=none→c'=0)
theorem GotQ.zero (N:Prop) (Q:Nat→Prop) (w:World):GotQ N Q w (.agg #[.slice none 0 0,.slice none 0 0]) [] []:=⟨none,0,none,0,rfl,Rd.nil_,Rd.nil_,fun h=>absurd h (by simp),fun h=>absurd h (by simp),fun _ _=>rfl⟩
theorem On.mono {Q Q':Nat→Prop} {A:Option Addr} {n:Nat} (h:On Q A n) (hq:∀ b,Q b→Q' b):On Q' A n:=fun hn=>by
 obtain ⟨a,e,h1⟩:=h hn
 exact ⟨a,e,hq _ h1⟩
theorem own_on {w:World} {base:Nat} {e:TypeId} {sz n c:Nat} {A:Option Addr} {xs:List Value} (h:w.ownsRow base e sz (.slice A n c) n xs) {Q:Nat→Prop} (hq:∀ b,base≤b→Q b):On Q A n:=by
 intro hn
 obtain ⟨g,rfl⟩:=own_some h hn
 exact ⟨_,rfl,hq _ (h.lt g rfl).1⟩
theorem rd_on {w:World} {B sz n:Nat} {A:Option Addr} {xs:List Value} (h:Rd w B sz A n xs) {Q:Nat→Prop} (hq:∀ b,b<B→Q b):On Q A n:=by
 intro hn
 obtain ⟨b,off,e,hb,_⟩:=h.2 hn
 exact ⟨_,e,hq _ hb⟩
theorem rd_setQ {w:World} {C sz n:Nat} {A:Option Addr} {xs:List Value} (h:Rd w C sz A n xs) {Q:Nat→Prop} (hf:On Q A n) {p:Addr} (h1:¬ Q p.block) (u:Value):Rd (w.setCell p u) C sz A n xs:=by
 refine ⟨h.1,fun hn=>?_⟩
 obtain ⟨b,off,e,hb,hc⟩:=h.2 hn
 refine ⟨b,off,e,hb,fun j u' hu=>?_⟩
 obtain ⟨a,e2,h3⟩:=hf hn
 rw [e] at e2
 injection e2 with e2
 subst e2
 rw [World.cell?_setCell_other w p ⟨b,off+j,none⟩ u (fun e3=>by subst e3;exact h1 h3)]
 exact hc j u' hu
theorem Far.low {B S S' n:Nat} {A:Option Addr} (h:Far B S A n) (hs:S'≤S):Far B S' A n:=fun hn=>by
 obtain ⟨a,e,h1⟩:=h hn
 exact ⟨a,e,h1.imp id (fun h2=>Nat.le_trans hs h2)⟩
theorem GotR.low {B S S':Nat} {w:World} {v:Value} {rows:List BRow} {gens:List Int} (h:GotR B S w v rows gens) (hs:S'≤S):GotR B S' w v rows gens:=by
 obtain ⟨A,c,A',c',h0,h1,h2,h3,h4⟩:=h
 exact ⟨A,c,A',c',h0,h1,h2,h3.low hs,h4.low hs⟩
theorem GotN.low {N:Prop} {B S S':Nat} {w:World} {v:Value} {rows:List BRow} {gens:List Int} (h:GotN N B S w v rows gens) (hs:S'≤S):GotN N B S' w v rows gens:=by
 obtain ⟨A,c,A',c',h0,h1,h2,h3,h4,h5⟩:=h
 exact ⟨A,c,A',c',h0,h1,h2,h3.low hs,h4.low hs,h5⟩
theorem RightW.lens2 {rows:List BRow} {gens:List Int} (h:RightW rows gens):rows.length≤60∧gens.length≤60:=by
 have:=h.rows_le;have:=h.len;omega
theorem set_bits (m:Nat) {q:Nat} (hq:q<8) (v:Bool):([.bool (tb m 0),.bool (tb m 1),.bool (tb m 2),.bool (tb m 3),.bool (tb m 4),.bool (tb m 5),.bool (tb m 6),.bool (tb m 7)]:List Value).set q (.bool v) =
  [.bool (putB m (q:Int) v 0),.bool (putB m (q:Int) v 1),.bool (putB m (q:Int) v 2),.bool (putB m (q:Int) v 3),.bool (putB m (q:Int) v 4),.bool (putB m (q:Int) v 5),.bool (putB m (q:Int) v 6),.bool (putB m (q:Int) v 7)]:=by
 have e:q=0∨q=1∨q=2∨q=3∨q=4∨q=5∨q=6∨q=7:=by omega
 rcases e with rfl | rfl | rfl | rfl | rfl | rfl | rfl | rfl<;>simp [putB]
theorem rkill_on (rows:List BRow) (gens:List Int) (Ar:Option Addr) (cr:Nat) (Ag:Option Addr) (cg:Nat) (i g:Int) (hlr:rows.length≤9223372036854775807) (Q:Nat→Prop)
  (w:World) (hr:RdR w w.heap.size Ar rows) (hg:RdG w w.heap.size Ag gens) (hQ:∀ b,w.heap.size≤b→Q b) (hgB:On Q Ag gens.length) :
  Calls Tryz.prog 113 #[.agg #[.slice Ar rows.length cr,.slice Ag gens.length cg],.agg #[.int .i64 i,.int .i64 g]] w fun e w'=>
   ∃ v,e=.returned (.tuple #[v,.int .i64 (killV rows gens i g).err])∧GotQ (Ag=none→cg=0) Q w' v (killV rows gens i g).rows (killV rows gens i g).gens∧Below w.heap.size w w':=by
 have H0:=(((Hp.start w).new w.heap.size rfl 64 [.slice Ar rows.length cr,.slice Ag gens.length cg]).new (w.heap.size+1) (by simp) 24 [.int .i64 i,.int .i64 g]).new (w.heap.size+1+1) (by simp) 64 [.slice none 0 0,.slice none 0 0]
 go_enter Tryz.func113,Tryz.ntmps113
 go_wp2_with fail
 obtain ⟨w0,hw0,H0⟩:=H0.name
 rw [hw0];clear hw0
 refine (rwrong2_any rows gens Ar cr Ag cg hlr w0 (H0.old hr) (H0.old hg)).mono ?_
 rintro e w1 ⟨rfl,hb1⟩
 replace H0:=H0.grow hb1
 clear hb1
 by_cases hf:(worldErr ⟨rows,gens⟩).1=0
 case neg=>
  have hf':((worldErr ⟨rows,gens⟩).1 != 0)=true:=by simpa using hf
  have hE:Hid (killV rows gens i g=⟨[],[],(worldErr ⟨rows,gens⟩).1⟩):=Lib.hid (kill_wrong i g hf)
  generalize worldErr ⟨rows,gens⟩=F' at *
  obtain ⟨f1,f2⟩:=F'
  dsimp only at hf hf' hE ⊢
  have H2:=H0.new w1.heap.size rfl 48 [.int .i64 f1,.int .i64 f2]
  clear H0
  go_upto_region 3 with fail
  obtain ⟨w2,hw2,H2⟩:=H2.name
  rw [hw2];clear hw2
  have n13:=H2.ne 2 3 rfl rfl (by omega);have n31:=n13.symm
  have q0:=H2.cell 2 0 rfl rfl;have q1:=H2.cell 2 1 rfl rfl
  have y0:=H2.frozen 2 0 rfl;have y1:=H2.frozen 2 1 rfl
  have c0:=H2.cell 3 0 rfl rfl
  go_region_held3 (fun w'=>w'.cell? ⟨w1.heap.size,0,none⟩=some (.int .i64 f1)) (go_keep) (fail)
  have H4:=((H2.set 2 0 (.slice none 0 0) rfl).set 2 1 (.slice none 0 0) rfl).drew
  have p0:=H4.cell 2 0 rfl rfl;have p1:=H4.cell 2 1 rfl rfl
  go_wp2_with fail
  refine bodyPost_ret (v:=.tuple #[.agg #[.slice none 0 0,.slice none 0 0],.int .i64 f1]) (by simp [results,Tryz.results113,go_sem,p0,p1]) rfl ⟨_,by rw [hE.out],by rw [hE.out];exact GotQ.zero _ _ _,H4.bel⟩
 case pos=>
  have hrw:=(right_iff rows gens).1 hf
  have hl60:=hrw.lens2
  rw [hf]
  generalize (worldErr ⟨rows,gens⟩).2=f2 at *
  have H2:=H0.new w1.heap.size rfl 48 [.int .i64 0,.int .i64 f2]
  have x0:=H0.cell 0 0 rfl rfl;have x1:=H0.cell 0 1 rfl rfl;have b0:=H0.cell 1 0 rfl rfl;have b1:=H0.cell 1 1 rfl rfl
  have l0:=H0.lt 0 rfl;have l1:=H0.lt 1 rfl
  clear H0 hf
  go_wp2_with fail
  obtain ⟨w2,hw2,H2⟩:=H2.name
  rw [hw2];clear hw2
  refine (rrow_any rows gens Ar cr Ag cg i g hlr w2 (H2.old hr)).mono ?_
  rintro e w3 ⟨⟨v,rfl,hv⟩,hb3⟩
  replace H2:=H2.grow hb3
  clear x0 x1 b0 b1 l0 l1
  cases hro:rowOf i g rows with
  | none=>
   rw [hro] at hv
   obtain rfl:v=.pointer none:=hv
   have hE:Hid (killV rows gens i g=⟨[],[],5⟩):=Lib.hid (kill_none hrw hro)
   have q0:=H2.cell 2 0 rfl rfl;have q1:=H2.cell 2 1 rfl rfl;have y0:=H2.frozen 2 0 rfl;have y1:=H2.frozen 2 1 rfl
   have H4:=(H2.set 2 0 (.slice none 0 0) rfl).set 2 1 (.slice none 0 0) rfl
   have p0:=H4.cell 2 0 rfl rfl;have p1:=H4.cell 2 1 rfl rfl
   go_wp2_with fail
   refine bodyPost_ret (v:=.tuple #[.agg #[.slice none 0 0,.slice none 0 0],.int .i64 5]) (by simp [results,Tryz.results113,go_sem,p0,p1]) rfl ⟨_,by rw [hE.out],by rw [hE.out];exact GotQ.zero _ _ _,H4.bel⟩
  | some r=>
   rw [hro] at hv
   obtain ⟨pb,po,rfl,hpb,hrow⟩:=hv
   have hE:Hid (killV rows gens i g=⟨keepR (isB i g) rows,gens,0⟩):=Lib.hid (kill_some hrw hro)
   obtain ⟨i0',hi0,hz0a,hz0b,hz0c⟩:=info_parts infoRow
   clear hrow hro hpb hrw
   have x0:=H2.cell 0 0 rfl rfl;have x1:=H2.cell 0 1 rfl rfl
   have hsz:w.heap.size<w3.heap.size:=H2.lt 0 rfl
   have H3:=(H2.new w3.heap.size rfl 64 [.slice none 0 0,.slice Ag gens.length cg]).nil_ 114 11
   go_wp2_with fail
   clear x0 x1
   go_loopw [29] (fun q wx=>∃ k:Nat,k≤rows.length∧q=.int .i64 k∧∃ (A:Option Addr) (c:Nat) (cur:List BRow),cur.length≤k∧Hid (cur=keepR (isB i g) (rows.take k)) ∧
    Hp w wx [.box w.heap.size 64 [.slice Ar rows.length cr,.slice Ag gens.length cg],.box (w.heap.size+1) 24 [.int .i64 i,.int .i64 g],.box (w.heap.size+1+1) 64 [.slice none 0 0,.slice none 0 0],.box w1.heap.size 48 [.int .i64 0,.int .i64 f2],.box w3.heap.size 64 [.slice A cur.length c,.slice Ag gens.length cg],.own (.slice A cur.length c) 114 11 cur.length (cur.flatMap rowCells)]) (fun q _=>rows.length-(intOf q).toNat)
   case atStart=>exact ⟨0,by omega,rfl,none,0,[],by simp,Lib.hid (by simp [keepR]),H3⟩
   case round=>
    clear H2 H3
    obtain ⟨k,hk,rfl,A,c,cur,hcl,hcur,H⟩:=hrel
    by_cases hlt:k<rows.length
    ·have hR1:RdR wr w.heap.size Ar rows:=Rd.under hr H.bel (Nat.le_refl _)
     obtain ⟨b1',off,rfl,hb1,hrow⟩:=hR1.at_ hlt
     have hkt:=Lib.hid (@keepR_take (isB i g) rows k hlt)
     clear hR1
     have hxv:=Lib.hid (fun l=>flat_snoc l rows[k])
     obtain ⟨xo,hxo⟩:∃ xo,xo=rows[k]:=⟨_,rfl⟩
     rw [← hxo] at hkt hxv
     have hxi:isB i g xo=isB i g rows[k]:=by rw [hxo]
     have hxc:rowCells xo=rowCells rows[k]:=by rw [hxo]
     generalize rows[k]=x at *
     have i0:(0:Int)≤(k:Int):=by omega
     have i1:(k:Int)<(rows.length:Int):=by omega
     obtain ⟨c0,c1,c2⟩:=hrow.head
     obtain ⟨idx,gen,has,vals,h8'⟩:=x
     obtain ⟨a0,a1,a2,a3,a4,a5,a6,a7,rfl⟩:=vals_eight h8'
     have v0:=hrow 3 (.int .i64 a0) rfl;have v1:=hrow 4 (.int .i64 a1) rfl;have v2:=hrow 5 (.int .i64 a2) rfl;have v3:=hrow 6 (.int .i64 a3) rfl;have v4:=hrow 7 (.int .i64 a4) rfl;have v5:=hrow 8 (.int .i64 a5) rfl;have v6:=hrow 9 (.int .i64 a6) rfl;have v7:=hrow 10 (.int .i64 a7) rfl
     simp only at c0 c1 c2
     have hxr:rowCells ⟨idx,gen,has,[a0,a1,a2,a3,a4,a5,a6,a7],h8'⟩=[.int .i64 idx,.int .i64 gen,.int .i64 has,.int .i64 a0,.int .i64 a1,.int .i64 a2,.int .i64 a3,.int .i64 a4,.int .i64 a5,.int .i64 a6,.int .i64 a7]:=rfl
     rw [hxr] at hxc
     have hneq:∀ W,(binOp .neq 24 (.agg #[.int .i64 idx,.int .i64 gen]) (.agg #[.int .i64 i,.int .i64 g])).run Tryz.prog W=.ok (.bool (!isB i g xo)) W:=fun W=>by rw [hxi];exact neBeing _ _ _ _ W
     replace hxc:=Lib.hid hxc
     clear hrow hxr hxi hxo
     have H1:=H.new wr.heap.size rfl 114 [.int .i64 idx,.int .i64 gen,.int .i64 has,.int .i64 a0,.int .i64 a1,.int .i64 a2,.int .i64 a3,.int .i64 a4,.int .i64 a5,.int .i64 a6,.int .i64 a7]
     have e0:=H.cell 1 0 rfl rfl;have e1:=H.cell 1 1 rfl rfl;have le:=H.lt 1 rfl
     go_upto_if 36 with fail
     obtain ⟨wa,hwa,H1⟩:=H1.name
     rw [hwa]
     have hga:wr.heap.size<wa.heap.size:=H1.lt 6 rfl
     have hgw:w.heap.size≤wr.heap.size:=H.bel.size
     generalize wr.heap.size=gx at *
     clear hwa c0 c1 c2 v0 v1 v2 v3 v4 v5 v6 v7 e0 e1 H hneq
     cases hB:isB i g xo
     ·have hcur2:Hid (cur++[xo]=keepR (isB i g) (rows.take (k+1))):=Lib.hid (by rw [hkt.out,hB,← hcur.out];simp)
      have q0:=H1.cell 4 0 rfl rfl;have q1:=H1.cell 4 1 rfl rfl
      have f0:=H1.cell 6 0 rfl rfl;have f1:=H1.cell 6 1 rfl rfl;have f2:=H1.cell 6 2 rfl rfl;have f3:=H1.cell 6 3 rfl rfl;have f4:=H1.cell 6 4 rfl rfl;have f5:=H1.cell 6 5 rfl rfl;have f6:=H1.cell 6 6 rfl rfl;have f7:=H1.cell 6 7 rfl rfl;have f8:=H1.cell 6 8 rfl rfl;have f9:=H1.cell 6 9 rfl rfl;have f10:=H1.cell 6 10 rfl rfl
      have HN:=H1.new wa.heap.size rfl 114 [.int .i64 idx,.int .i64 gen,.int .i64 has,.int .i64 a0,.int .i64 a1,.int .i64 a2,.int .i64 a3,.int .i64 a4,.int .i64 a5,.int .i64 a6,.int .i64 a7]
      go_wp2_with (at_builtin;refine wpList_append_own_at _ rfl _ _ 62 rfl w.heap.size 114 i0' (.agg #[.int .i64 0,.int .i64 0,.int .i64 0,.int .i64 0,.int .i64 0,.int .i64 0,.int .i64 0,.int .i64 0,.int .i64 0,.int .i64 0,.int .i64 0]) 11 88 Tryz.underlying62 hi0 hz0a hz0b hz0c rfl (by decide) _ _ _ rfl (HN.owns 5 rfl) ⟨wa.heap.size,0,none⟩ 1 1 [.int .i64 idx,.int .i64 gen,.int .i64 has,.int .i64 a0,.int .i64 a1,.int .i64 a2,.int .i64 a3,.int .i64 a4,.int .i64 a5,.int .i64 a6,.int .i64 a7] rfl rfl ?c1 ?c2 ?c3 ?c4 ?c5 ?_;rotate_left 5;intro v' w7 hown7 hgrow7 _ hat7;have H8:=HN.app 5 rfl hgrow7 hown7 (hat7.imp id (fun e g hg=>by rw [e] at hg;injection hg with hg;omega));have z0:=H8.cell 4 0 rfl rfl;have z1:=H8.cell 4 1 rfl rfl;have z2:=H8.frozen 4 1 rfl;have z3:=H8.frozen 4 0 rfl;obtain ⟨A3,c3,rfl,hs1,hs2⟩:=own_shape hown7)
      case c1=>exact news_blk (HN.blk 7 rfl)
      case c2=>simp [Value.oneCell']
      case c3=>unfold maxLen;omega
      case c4=>omega
      case c5=>exact HN.bel.size
      go_roundw
      have hl:(cur++[xo]).length=cur.length+1:=by simp
      case rel=>
       refine ⟨k+1,by omega,by go_num,A3,c3,cur++[xo],by omega,hcur2,?_⟩
       rw [hl,hxv.out,hxc.out]
       exact ((H8.set 4 0 (.slice A3 (cur.length+1) c3) rfl).drop1 7).drop1 6
      case measure=>simp [intOf];omega
     ·have hcur2:Hid (cur=keepR (isB i g) (rows.take (k+1))):=Lib.hid (by rw [hkt.out,hB,← hcur.out];simp)
      go_wp2_with fail
      go_roundw
      case rel=>exact ⟨k+1,by omega,by go_num,A,c,cur,by omega,hcur2,H1.drop1 6⟩
      case measure=>simp [intOf];omega
    ·obtain rfl:k=rows.length:=by omega
     rw [List.take_length] at hcur
     have q0:=H.cell 4 0 rfl rfl;have q1:=H.cell 4 1 rfl rfl;have y0:=H.frozen 2 0 rfl;have y1:=H.frozen 2 1 rfl;have y2:=H.cell 2 0 rfl rfl;have y3:=H.cell 2 1 rfl rfl
     have H9:=(H.set 2 0 (.slice A cur.length c) rfl).set 2 1 (.slice Ag gens.length cg) rfl
     have p0:=H9.cell 2 0 rfl rfl;have p1:=H9.cell 2 1 rfl rfl
     go_wp2_with fail
     refine bodyPost_ret (v:=.tuple #[.agg #[.slice A cur.length c,.slice Ag gens.length cg],.int .i64 0]) (by simp [results,Tryz.results113,go_sem,p0,p1]) rfl ⟨_,by rw [hE.out],by rw [hE.out];dsimp only;rw [← hcur.out];exact ⟨_,_,_,_,rfl,H9.rd 5 rfl,H9.old hg,own_on (H9.owns 5 rfl) hQ,hgB,id⟩,H9.bel⟩
theorem rput_on (rows:List BRow) (gens:List Int) (Ar:Option Addr) (cr:Nat) (Ag:Option Addr) (cg:Nat) (i g part n:Int) (hlr:rows.length≤9223372036854775807) (Q:Nat→Prop)
  (w:World) (hr:RdR w w.heap.size Ar rows) (hg:RdG w w.heap.size Ag gens) (hQ:∀ b,w.heap.size≤b→Q b) (hgB:On Q Ag gens.length) :
  Calls Tryz.prog 118 #[.agg #[.slice Ar rows.length cr,.slice Ag gens.length cg],.agg #[.int .i64 i,.int .i64 g],.int .i64 part,.int .i64 n] w fun e w'=>
   ∃ v,e=.returned (.tuple #[v,.int .i64 (putV rows gens i g part n).err])∧GotQ (Ag=none→cg=0) Q w' v (putV rows gens i g part n).rows (putV rows gens i g part n).gens∧Below w.heap.size w w':=by
 have H0:=(((Hp.start w).new w.heap.size rfl 64 [.slice Ar rows.length cr,.slice Ag gens.length cg]).new (w.heap.size+1) (by simp) 24 [.int .i64 i,.int .i64 g]).new (w.heap.size+1+1) (by simp) 64 [.slice none 0 0,.slice none 0 0]
 go_enter Tryz.func118,Tryz.ntmps118
 go_wp2_with fail
 obtain ⟨w0,hw0,H0⟩:=H0.name
 rw [hw0];clear hw0
 refine (rwrong2_any rows gens Ar cr Ag cg hlr w0 (H0.old hr) (H0.old hg)).mono ?_
 rintro e w1 ⟨rfl,hb1⟩
 replace H0:=H0.grow hb1
 clear hb1
 by_cases hf:(worldErr ⟨rows,gens⟩).1=0
 case neg=>
  have hf':((worldErr ⟨rows,gens⟩).1 != 0)=true:=by simpa using hf
  have hE:Hid (putV rows gens i g part n=⟨[],[],(worldErr ⟨rows,gens⟩).1⟩):=Lib.hid (change_wrong i g (putF part n) hf)
  generalize worldErr ⟨rows,gens⟩=F' at *
  obtain ⟨f1,f2⟩:=F'
  dsimp only at hf hf' hE ⊢
  have H2:=H0.new w1.heap.size rfl 48 [.int .i64 f1,.int .i64 f2]
  clear H0
  go_upto_region 3 with fail
  obtain ⟨w2,hw2,H2⟩:=H2.name
  rw [hw2];clear hw2
  have n13:=H2.ne 2 3 rfl rfl (by omega);have n31:=n13.symm
  have q0:=H2.cell 2 0 rfl rfl;have q1:=H2.cell 2 1 rfl rfl
  have y0:=H2.frozen 2 0 rfl;have y1:=H2.frozen 2 1 rfl
  have c0:=H2.cell 3 0 rfl rfl
  go_region_held3 (fun w'=>w'.cell? ⟨w1.heap.size,0,none⟩=some (.int .i64 f1)) (go_keep) (fail)
  have H4:=((H2.set 2 0 (.slice none 0 0) rfl).set 2 1 (.slice none 0 0) rfl).drew
  have p0:=H4.cell 2 0 rfl rfl;have p1:=H4.cell 2 1 rfl rfl
  go_wp2_with fail
  refine bodyPost_ret (v:=.tuple #[.agg #[.slice none 0 0,.slice none 0 0],.int .i64 f1]) (by simp [results,Tryz.results118,go_sem,p0,p1]) rfl ⟨_,by rw [hE.out],by rw [hE.out];exact GotQ.zero _ _ _,H4.bel⟩
 case pos=>
  have hrw:=(right_iff rows gens).1 hf
  have hl60:=hrw.lens2
  rw [hf]
  generalize (worldErr ⟨rows,gens⟩).2=f2 at *
  have H2:=H0.new w1.heap.size rfl 48 [.int .i64 0,.int .i64 f2]
  have x0:=H0.cell 0 0 rfl rfl;have x1:=H0.cell 0 1 rfl rfl;have b0:=H0.cell 1 0 rfl rfl;have b1:=H0.cell 1 1 rfl rfl
  have l0:=H0.lt 0 rfl;have l1:=H0.lt 1 rfl
  clear H0 hf
  go_wp2_with fail
  obtain ⟨w2,hw2,H2⟩:=H2.name
  rw [hw2];clear hw2
  refine (rrow_any rows gens Ar cr Ag cg i g hlr w2 (H2.old hr)).mono ?_
  rintro e w3 ⟨⟨v,rfl,hv⟩,hb3⟩
  replace H2:=H2.grow hb3
  clear x0 x1 b0 b1 l0 l1
  cases hro:rowOf i g rows with
  | none=>
   rw [hro] at hv
   obtain rfl:v=.pointer none:=hv
   have hE:Hid (putV rows gens i g part n=⟨[],[],5⟩):=Lib.hid (change_none (putF part n) hrw hro)
   have q0:=H2.cell 2 0 rfl rfl;have q1:=H2.cell 2 1 rfl rfl;have y0:=H2.frozen 2 0 rfl;have y1:=H2.frozen 2 1 rfl
   have H4:=(H2.set 2 0 (.slice none 0 0) rfl).set 2 1 (.slice none 0 0) rfl
   have p0:=H4.cell 2 0 rfl rfl;have p1:=H4.cell 2 1 rfl rfl
   go_wp2_with fail
   refine bodyPost_ret (v:=.tuple #[.agg #[.slice none 0 0,.slice none 0 0],.int .i64 5]) (by simp [results,Tryz.results118,go_sem,p0,p1]) rfl ⟨_,by rw [hE.out],by rw [hE.out];exact GotQ.zero _ _ _,H4.bel⟩
  | some r=>
   rw [hro] at hv
   obtain ⟨pb,po,rfl,hpb,hrow⟩:=hv
   have hsp:=Lib.hid (change_some (putF part n) hrw hro (putF_ok part n))
   have hset:=hrw.set_ r ((rowOf_some_iff hrw.rise).1 hro).1
   replace hrow:=hrow.below hb3 hpb
   have hb3':=hb3
   clear hb3 hro hrw
   obtain ⟨c0,c1,c2⟩:=hrow.head
   obtain ⟨idx,gen,has,vals,h8⟩:=r
   obtain ⟨a0,a1,a2,a3,a4,a5,a6,a7,rfl⟩:=vals_eight h8
   have v0:=hrow 3 (.int .i64 a0) rfl;have v1:=hrow 4 (.int .i64 a1) rfl;have v2:=hrow 5 (.int .i64 a2) rfl;have v3:=hrow 6 (.int .i64 a3) rfl;have v4:=hrow 7 (.int .i64 a4) rfl;have v5:=hrow 8 (.int .i64 a5) rfl;have v6:=hrow 9 (.int .i64 a6) rfl;have v7:=hrow 10 (.int .i64 a7) rfl
   simp only at c0 c1 c2 hset
   clear hrow
   have hp3:Hid (isPart part=false∨isVal n=false→putV rows gens i g part n=⟨[],[],3⟩):=Lib.hid (fun h=>by
    have hc:¬ (isPart part && isVal n)=true:=by
     rw [Bool.and_eq_true]
     rintro ⟨h1,h2⟩
     rcases h with h | h<;>simp_all
    have:=hsp.out
    unfold putV
    unfold putF at this ⊢
    rw [if_neg hc] at this
    exact this)
   by_cases h1:part<0
   ·have hE:Hid (putV rows gens i g part n=⟨[],[],3⟩):=Lib.hid (hp3.out (.inl (isPart_false.2 (.inl h1))))
    have q0:=H2.cell 2 0 rfl rfl;have q1:=H2.cell 2 1 rfl rfl;have y0:=H2.frozen 2 0 rfl;have y1:=H2.frozen 2 1 rfl
    have H4:=(H2.set 2 0 (.slice none 0 0) rfl).set 2 1 (.slice none 0 0) rfl
    have p0:=H4.cell 2 0 rfl rfl;have p1:=H4.cell 2 1 rfl rfl
    go_wp2_with fail
    refine bodyPost_ret (v:=.tuple #[.agg #[.slice none 0 0,.slice none 0 0],.int .i64 3]) (by simp [results,Tryz.results118,go_sem,p0,p1]) rfl ⟨_,by rw [hE.out],by rw [hE.out];exact GotQ.zero _ _ _,H4.bel⟩
   by_cases h2:7<part
   ·have hE:Hid (putV rows gens i g part n=⟨[],[],3⟩):=Lib.hid (hp3.out (.inl (isPart_false.2 (.inr (by omega)))))
    have q0:=H2.cell 2 0 rfl rfl;have q1:=H2.cell 2 1 rfl rfl;have y0:=H2.frozen 2 0 rfl;have y1:=H2.frozen 2 1 rfl
    have H4:=(H2.set 2 0 (.slice none 0 0) rfl).set 2 1 (.slice none 0 0) rfl
    have p0:=H4.cell 2 0 rfl rfl;have p1:=H4.cell 2 1 rfl rfl
    go_wp2_with fail
    refine bodyPost_ret (v:=.tuple #[.agg #[.slice none 0 0,.slice none 0 0],.int .i64 3]) (by simp [results,Tryz.results118,go_sem,p0,p1]) rfl ⟨_,by rw [hE.out],by rw [hE.out];exact GotQ.zero _ _ _,H4.bel⟩
   obtain ⟨q,rfl⟩:=nat_of (n:=part) (by omega)
   have hq8:q<8:=by omega
   have q0':(0:Int)≤(q:Int):=by omega
   have q8':(q:Int)<8:=by omega
   go_wp2_with fail
   refine (rvalue_any n w3).mono ?_
   rintro e w4 ⟨rfl,rfl⟩
   cases hv2:isVal n
   ·have hE:Hid (putV rows gens i g (q:Int) n=⟨[],[],3⟩):=Lib.hid (hp3.out (.inr hv2))
    have q0:=H2.cell 2 0 rfl rfl;have q1:=H2.cell 2 1 rfl rfl;have y0:=H2.frozen 2 0 rfl;have y1:=H2.frozen 2 1 rfl
    have H4:=(H2.set 2 0 (.slice none 0 0) rfl).set 2 1 (.slice none 0 0) rfl
    have p0:=H4.cell 2 0 rfl rfl;have p1:=H4.cell 2 1 rfl rfl
    go_wp2_with fail
    refine bodyPost_ret (v:=.tuple #[.agg #[.slice none 0 0,.slice none 0 0],.int .i64 3]) (by simp [results,Tryz.results118,go_sem,p0,p1]) rfl ⟨_,by rw [hE.out],by rw [hE.out];exact GotQ.zero _ _ _,H4.bel⟩
   clear hp3
   have hms:=isSet_iff.1 hset
   obtain ⟨m,rfl⟩:=nat_of (n:=has) hms.1
   have hm:m<256:=by omega
   have hspec:∀ (hs':Int) (vs:List Int),hs'=withS (m:Int) (q:Int)→∀ (e:[a0,a1,a2,a3,a4,a5,a6,a7].set q n=vs),putV rows gens i g (q:Int) n=⟨withV ⟨idx,gen,hs',vs,by rw [← e];simp⟩ rows,gens,0⟩:=by
    rintro hs' vs rfl rfl
    have hc:(isPart (q:Int) && isVal n)=true:=by rw [isPart_iff.2 ⟨by omega,by omega⟩,hv2];rfl
    have:=hsp.out
    unfold putV
    unfold putF at this ⊢
    rw [if_pos hc] at this
    exact this
   replace hspec:=Lib.hid hspec
   clear hsp hset hms
   have H3:=H2.new w3.heap.size rfl 114 [.int .i64 idx,.int .i64 gen,.int .i64 (m:Int),.int .i64 a0,.int .i64 a1,.int .i64 a2,.int .i64 a3,.int .i64 a4,.int .i64 a5,.int .i64 a6,.int .i64 a7]
   go_wp2_with fail
   obtain ⟨w4,hw4,H3⟩:=H3.name
   rw [hw4];clear hw4
   refine (rbits_any m hm w4).mono ?_
   rintro e w5 ⟨rfl,hb5⟩
   replace H3:=H3.grow hb5
   have hbv:bitsV m=.agg #[.bool (tb m 0),.bool (tb m 1),.bool (tb m 2),.bool (tb m 3),.bool (tb m 4),.bool (tb m 5),.bool (tb m 6),.bool (tb m 7)]:=rfl
   rw [hbv]
   clear hb5 hbv c0 c1 c2 v0 v1 v2 v3 v4 v5 v6 v7
   have H4:=H3.new w5.heap.size rfl 174 [.bool (tb m 0),.bool (tb m 1),.bool (tb m 2),.bool (tb m 3),.bool (tb m 4),.bool (tb m 5),.bool (tb m 6),.bool (tb m 7)]
   clear H3
   go_upto_region 11 with fail
   obtain ⟨w6,hw6,H4⟩:=H4.name
   rw [hw6];clear hw6
   have z0:=H4.frozen 5 q rfl
   obtain ⟨u4,hu4⟩:∃ u,([.bool (tb m 0),.bool (tb m 1),.bool (tb m 2),.bool (tb m 3),.bool (tb m 4),.bool (tb m 5),.bool (tb m 6),.bool (tb m 7)]:List Value)[q]?=some u:=⟨_,List.getElem?_eq_getElem (by simp;omega)⟩
   have z1:=H4.cell 5 q rfl hu4
   clear hu4
   have H5:Hp w (w6.setCell ⟨w5.heap.size,q,none⟩ (.bool true)) ([.box w.heap.size 64 [.slice Ar rows.length cr,.slice Ag gens.length cg],.box (w.heap.size+1) 24 [.int .i64 i,.int .i64 g],.box (w.heap.size+1+1) 64 [.slice none 0 0,.slice none 0 0],.box w1.heap.size 48 [.int .i64 0,.int .i64 f2],.box w3.heap.size 114 [.int .i64 idx,.int .i64 gen,.int .i64 (m:Int),.int .i64 a0,.int .i64 a1,.int .i64 a2,.int .i64 a3,.int .i64 a4,.int .i64 a5,.int .i64 a6,.int .i64 a7],.box w5.heap.size 174 [.bool (putB m (q:Int) true 0),.bool (putB m (q:Int) true 1),.bool (putB m (q:Int) true 2),.bool (putB m (q:Int) true 3),.bool (putB m (q:Int) true 4),.bool (putB m (q:Int) true 5),.bool (putB m (q:Int) true 6),.bool (putB m (q:Int) true 7)]]):=by
    have:=H4.set 5 q (.bool true) rfl
    rw [set_bits m hq8] at this
    exact this
   have g0:=H5.cell 5 0 rfl rfl;have g1:=H5.cell 5 1 rfl rfl;have g2:=H5.cell 5 2 rfl rfl;have g3:=H5.cell 5 3 rfl rfl;have g4:=H5.cell 5 4 rfl rfl;have g5:=H5.cell 5 5 rfl rfl;have g6:=H5.cell 5 6 rfl rfl;have g7:=H5.cell 5 7 rfl rfl
   go_upto_region 12 with fail
   obtain ⟨w7,hw7,H5⟩:=H5.name
   rw [hw7] at g0 g1 g2 g3 g4 g5 g6 g7 ⊢
   clear hw7 z0 z1
   go_wp2_with fail
   refine (num_true hm (q:Int) w7).mono ?_
   rintro e w8 ⟨rfl,hb8⟩
   replace H5:=H5.grow hb8
   clear hb8 g0 g1 g2 g3 g4 g5 g6 g7
   obtain ⟨hs',hhs⟩:∃ hs',hs'=withS (m:Int) (q:Int):=⟨_,rfl⟩
   rw [← hhs]
   replace hhs:=Lib.hid hhs
   obtain ⟨b0,b1,b2,b3,b4,b5,b6,b7,hvb⟩:=vals_eight (vs:=[a0,a1,a2,a3,a4,a5,a6,a7].set q n) (by simp)
   have H6:Hp w ((w8.setCell ⟨w3.heap.size,2,none⟩ (.int .i64 hs')).setCell ⟨w3.heap.size,3+q,none⟩ (.int .i64 n)) ([.box w.heap.size 64 [.slice Ar rows.length cr,.slice Ag gens.length cg],.box (w.heap.size+1) 24 [.int .i64 i,.int .i64 g],.box (w.heap.size+1+1) 64 [.slice none 0 0,.slice none 0 0],.box w1.heap.size 48 [.int .i64 0,.int .i64 f2],.box w3.heap.size 114 [.int .i64 idx,.int .i64 gen,.int .i64 hs',.int .i64 b0,.int .i64 b1,.int .i64 b2,.int .i64 b3,.int .i64 b4,.int .i64 b5,.int .i64 b6,.int .i64 b7],.box w5.heap.size 174 [.bool (putB m (q:Int) true 0),.bool (putB m (q:Int) true 1),.bool (putB m (q:Int) true 2),.bool (putB m (q:Int) true 3),.bool (putB m (q:Int) true 4),.bool (putB m (q:Int) true 5),.bool (putB m (q:Int) true 6),.bool (putB m (q:Int) true 7)]]):=by
    have h:=(H5.set 4 2 (.int .i64 hs') rfl).set 4 (3+q) (.int .i64 n) rfl
    have e:(([.int .i64 idx,.int .i64 gen,.int .i64 (m:Int),.int .i64 a0,.int .i64 a1,.int .i64 a2,.int .i64 a3,.int .i64 a4,.int .i64 a5,.int .i64 a6,.int .i64 a7]:List Value).set 2 (.int .i64 hs')).set (3+q) (.int .i64 n)=[.int .i64 idx,.int .i64 gen,.int .i64 hs',.int .i64 b0,.int .i64 b1,.int .i64 b2,.int .i64 b3,.int .i64 b4,.int .i64 b5,.int .i64 b6,.int .i64 b7]:=by
     have:=rowL_set idx gen hs' [a0,a1,a2,a3,a4,a5,a6,a7] q n
     rw [hvb] at this
     exact this
    rw [e] at h
    exact h
   have y0:=H5.frozen 4 2 rfl;have y1:=H5.frozen 4 (3+q) rfl;have y2:=H5.cell 4 2 rfl rfl
   obtain ⟨u3,hu3⟩:∃ u,([.int .i64 idx,.int .i64 gen,.int .i64 (m:Int),.int .i64 a0,.int .i64 a1,.int .i64 a2,.int .i64 a3,.int .i64 a4,.int .i64 a5,.int .i64 a6,.int .i64 a7]:List Value)[3+q]?=some u:=⟨_,List.getElem?_eq_getElem (by simp;omega)⟩
   have y3:=H5.cell 4 (3+q) rfl hu3
   clear hu3
   replace hvb:=Lib.hid hvb
   go_upto_region 13 with fail
   obtain ⟨w9,hw9,H6⟩:=H6.name
   rw [hw9]
   clear hw9 y0 y1 y2 y3 H4 H5
   have f0:=H6.cell 4 0 rfl rfl;have f1:=H6.cell 4 1 rfl rfl;have f2':=H6.cell 4 2 rfl rfl;have f3:=H6.cell 4 3 rfl rfl;have f4:=H6.cell 4 4 rfl rfl;have f5:=H6.cell 4 5 rfl rfl;have f6:=H6.cell 4 6 rfl rfl;have f7:=H6.cell 4 7 rfl rfl;have f8:=H6.cell 4 8 rfl rfl;have f9:=H6.cell 4 9 rfl rfl;have f10:=H6.cell 4 10 rfl rfl
   have x0:=H6.cell 0 0 rfl rfl;have x1:=H6.cell 0 1 rfl rfl
   go_wp2_with fail
   have hcall:=rwith_any rows gens ⟨idx,gen,hs',[b0,b1,b2,b3,b4,b5,b6,b7],rfl⟩ Ar cr Ag cg (by omega) w9 (H6.old hr)
   have hrv:rowV ⟨idx,gen,hs',[b0,b1,b2,b3,b4,b5,b6,b7],rfl⟩=.agg #[.int .i64 idx,.int .i64 gen,.int .i64 hs',.int .i64 b0,.int .i64 b1,.int .i64 b2,.int .i64 b3,.int .i64 b4,.int .i64 b5,.int .i64 b6,.int .i64 b7]:=rfl
   rw [hrv] at hcall
   refine hcall.mono ?_
   rintro e w10 ⟨⟨A,c,rfl,hown⟩,hb10⟩
   have hwv:Hid (putV rows gens i g (q:Int) n=⟨withV ⟨idx,gen,hs',[b0,b1,b2,b3,b4,b5,b6,b7],rfl⟩ rows,gens,0⟩):=Lib.hid (hspec.out hs' _ hhs.out (by rw [hvb.out]))
   clear hcall hrv
   generalize withV ⟨idx,gen,hs',[b0,b1,b2,b3,b4,b5,b6,b7],rfl⟩ rows=R2 at *
   have H7:=H6.got hb10 hown
   clear H6 hb10 hown f0 f1 f2' f3 f4 f5 f6 f7 f8 f9 f10 x0 x1
   have y0:=H7.frozen 2 0 rfl;have y1:=H7.frozen 2 1 rfl;have y2:=H7.cell 2 0 rfl rfl;have y3:=H7.cell 2 1 rfl rfl
   have H9:=(H7.set 2 0 (.slice A R2.length c) rfl).set 2 1 (.slice Ag gens.length cg) rfl
   have p0:=H9.cell 2 0 rfl rfl;have p1:=H9.cell 2 1 rfl rfl
   go_wp2_with fail
   refine bodyPost_ret (v:=.tuple #[.agg #[.slice A R2.length c,.slice Ag gens.length cg],.int .i64 0]) (by simp [results,Tryz.results118,go_sem,p0,p1]) rfl ⟨_,by rw [hwv.out],by rw [hwv.out];exact ⟨_,_,_,_,rfl,H9.rd 6 rfl,H9.old hg,own_on (H9.owns 6 rfl) hQ,hgB,id⟩,H9.bel⟩
theorem rdrop_on (rows:List BRow) (gens:List Int) (Ar:Option Addr) (cr:Nat) (Ag:Option Addr) (cg:Nat) (i g part:Int) (hlr:rows.length≤9223372036854775807) (Q:Nat→Prop)
  (w:World) (hr:RdR w w.heap.size Ar rows) (hg:RdG w w.heap.size Ag gens) (hQ:∀ b,w.heap.size≤b→Q b) (hgB:On Q Ag gens.length) :
  Calls Tryz.prog 117 #[.agg #[.slice Ar rows.length cr,.slice Ag gens.length cg],.agg #[.int .i64 i,.int .i64 g],.int .i64 part] w fun e w'=>
   ∃ v,e=.returned (.tuple #[v,.int .i64 (dropV rows gens i g part).err])∧GotQ (Ag=none→cg=0) Q w' v (dropV rows gens i g part).rows (dropV rows gens i g part).gens∧Below w.heap.size w w':=by
 have H0:=(((Hp.start w).new w.heap.size rfl 64 [.slice Ar rows.length cr,.slice Ag gens.length cg]).new (w.heap.size+1) (by simp) 24 [.int .i64 i,.int .i64 g]).new (w.heap.size+1+1) (by simp) 64 [.slice none 0 0,.slice none 0 0]
 go_enter Tryz.func117,Tryz.ntmps117
 go_wp2_with fail
 obtain ⟨w0,hw0,H0⟩:=H0.name
 rw [hw0];clear hw0
 refine (rwrong2_any rows gens Ar cr Ag cg hlr w0 (H0.old hr) (H0.old hg)).mono ?_
 rintro e w1 ⟨rfl,hb1⟩
 replace H0:=H0.grow hb1
 clear hb1
 by_cases hf:(worldErr ⟨rows,gens⟩).1=0
 case neg=>
  have hf':((worldErr ⟨rows,gens⟩).1 != 0)=true:=by simpa using hf
  have hE:Hid (dropV rows gens i g part=⟨[],[],(worldErr ⟨rows,gens⟩).1⟩):=Lib.hid (change_wrong i g (dropF part) hf)
  generalize worldErr ⟨rows,gens⟩=F' at *
  obtain ⟨f1,f2⟩:=F'
  dsimp only at hf hf' hE ⊢
  have H2:=H0.new w1.heap.size rfl 48 [.int .i64 f1,.int .i64 f2]
  clear H0
  go_upto_region 3 with fail
  obtain ⟨w2,hw2,H2⟩:=H2.name
  rw [hw2];clear hw2
  have n13:=H2.ne 2 3 rfl rfl (by omega);have n31:=n13.symm
  have q0:=H2.cell 2 0 rfl rfl;have q1:=H2.cell 2 1 rfl rfl
  have y0:=H2.frozen 2 0 rfl;have y1:=H2.frozen 2 1 rfl
  have c0:=H2.cell 3 0 rfl rfl
  go_region_held3 (fun w'=>w'.cell? ⟨w1.heap.size,0,none⟩=some (.int .i64 f1)) (go_keep) (fail)
  have H4:=((H2.set 2 0 (.slice none 0 0) rfl).set 2 1 (.slice none 0 0) rfl).drew
  have p0:=H4.cell 2 0 rfl rfl;have p1:=H4.cell 2 1 rfl rfl
  go_wp2_with fail
  refine bodyPost_ret (v:=.tuple #[.agg #[.slice none 0 0,.slice none 0 0],.int .i64 f1]) (by simp [results,Tryz.results117,go_sem,p0,p1]) rfl ⟨_,by rw [hE.out],by rw [hE.out];exact GotQ.zero _ _ _,H4.bel⟩
 case pos=>
  have hrw:=(right_iff rows gens).1 hf
  have hl60:=hrw.lens2
  rw [hf]
  generalize (worldErr ⟨rows,gens⟩).2=f2 at *
  have H2:=H0.new w1.heap.size rfl 48 [.int .i64 0,.int .i64 f2]
  have x0:=H0.cell 0 0 rfl rfl;have x1:=H0.cell 0 1 rfl rfl;have b0:=H0.cell 1 0 rfl rfl;have b1:=H0.cell 1 1 rfl rfl
  have l0:=H0.lt 0 rfl;have l1:=H0.lt 1 rfl
  clear H0 hf
  go_wp2_with fail
  obtain ⟨w2,hw2,H2⟩:=H2.name
  rw [hw2];clear hw2
  refine (rrow_any rows gens Ar cr Ag cg i g hlr w2 (H2.old hr)).mono ?_
  rintro e w3 ⟨⟨v,rfl,hv⟩,hb3⟩
  replace H2:=H2.grow hb3
  clear x0 x1 b0 b1 l0 l1
  cases hro:rowOf i g rows with
  | none=>
   rw [hro] at hv
   obtain rfl:v=.pointer none:=hv
   have hE:Hid (dropV rows gens i g part=⟨[],[],5⟩):=Lib.hid (change_none (dropF part) hrw hro)
   have q0:=H2.cell 2 0 rfl rfl;have q1:=H2.cell 2 1 rfl rfl;have y0:=H2.frozen 2 0 rfl;have y1:=H2.frozen 2 1 rfl
   have H4:=(H2.set 2 0 (.slice none 0 0) rfl).set 2 1 (.slice none 0 0) rfl
   have p0:=H4.cell 2 0 rfl rfl;have p1:=H4.cell 2 1 rfl rfl
   go_wp2_with fail
   refine bodyPost_ret (v:=.tuple #[.agg #[.slice none 0 0,.slice none 0 0],.int .i64 5]) (by simp [results,Tryz.results117,go_sem,p0,p1]) rfl ⟨_,by rw [hE.out],by rw [hE.out];exact GotQ.zero _ _ _,H4.bel⟩
  | some r=>
   rw [hro] at hv
   obtain ⟨pb,po,rfl,hpb,hrow⟩:=hv
   have hsp:=Lib.hid (change_some (dropF part) hrw hro (dropF_ok part))
   have hset:=hrw.set_ r ((rowOf_some_iff hrw.rise).1 hro).1
   replace hrow:=hrow.below hb3 hpb
   have hb3':=hb3
   clear hb3 hro hrw
   obtain ⟨c0,c1,c2⟩:=hrow.head
   obtain ⟨idx,gen,has,vals,h8⟩:=r
   obtain ⟨a0,a1,a2,a3,a4,a5,a6,a7,rfl⟩:=vals_eight h8
   have v0:=hrow 3 (.int .i64 a0) rfl;have v1:=hrow 4 (.int .i64 a1) rfl;have v2:=hrow 5 (.int .i64 a2) rfl;have v3:=hrow 6 (.int .i64 a3) rfl;have v4:=hrow 7 (.int .i64 a4) rfl;have v5:=hrow 8 (.int .i64 a5) rfl;have v6:=hrow 9 (.int .i64 a6) rfl;have v7:=hrow 10 (.int .i64 a7) rfl
   simp only at c0 c1 c2 hset
   clear hrow
   go_wp2_with fail
   refine (rhas_any has part hset w3).mono ?_
   rintro e w4 ⟨rfl,hb4⟩
   replace H2:=H2.grow hb4
   have hpb3:pb<w3.heap.size:=by have:=hb3'.size;omega
   have d0:=(hb4.cell (p:=⟨pb,po,none⟩) hpb3).trans c0;have d1:=(hb4.cell (p:=⟨pb,po+1,none⟩) hpb3).trans c1;have d2:=(hb4.cell (p:=⟨pb,po+2,none⟩) hpb3).trans c2
   have u0:=(hb4.cell (p:=⟨pb,po+3,none⟩) hpb3).trans v0;have u1:=(hb4.cell (p:=⟨pb,po+4,none⟩) hpb3).trans v1;have u2:=(hb4.cell (p:=⟨pb,po+5,none⟩) hpb3).trans v2;have u3:=(hb4.cell (p:=⟨pb,po+6,none⟩) hpb3).trans v3;have u4:=(hb4.cell (p:=⟨pb,po+7,none⟩) hpb3).trans v4;have u5:=(hb4.cell (p:=⟨pb,po+8,none⟩) hpb3).trans v5;have u6:=(hb4.cell (p:=⟨pb,po+9,none⟩) hpb3).trans v6;have u7:=(hb4.cell (p:=⟨pb,po+10,none⟩) hpb3).trans v7
   clear c0 c1 c2 v0 v1 v2 v3 v4 v5 v6 v7 hb4
   have c0:=d0;have c1:=d1;have c2:=d2;have v0:=u0;have v1:=u1;have v2:=u2;have v3:=u3;have v4:=u4;have v5:=u5;have v6:=u6;have v7:=u7
   clear d0 d1 d2 u0 u1 u2 u3 u4 u5 u6 u7
   clear hpb hb3'
   obtain ⟨w3',hw3'⟩:∃ w3':World,w3'=w4:=⟨_,rfl⟩
   cases hB:hasB has part
   ·have hE:Hid (dropV rows gens i g part=⟨[],[],5⟩):=Lib.hid (by
     have hd:(dropF part ⟨idx,gen,has,[a0,a1,a2,a3,a4,a5,a6,a7],h8⟩)=(⟨idx,gen,has,[a0,a1,a2,a3,a4,a5,a6,a7],h8⟩,5):=by
      unfold dropF
      rw [if_neg (by dsimp only;rw [hB];simp)]
     have h:=hsp.out
     rw [hd,if_pos (show (5:Int)≠0 by decide)] at h
     exact h)
    have q0:=H2.cell 2 0 rfl rfl;have q1:=H2.cell 2 1 rfl rfl;have y0:=H2.frozen 2 0 rfl;have y1:=H2.frozen 2 1 rfl
    have H4:=(H2.set 2 0 (.slice none 0 0) rfl).set 2 1 (.slice none 0 0) rfl
    have p0:=H4.cell 2 0 rfl rfl;have p1:=H4.cell 2 1 rfl rfl
    go_wp2_with fail
    refine bodyPost_ret (v:=.tuple #[.agg #[.slice none 0 0,.slice none 0 0],.int .i64 5]) (by simp [results,Tryz.results117,go_sem,p0,p1]) rfl ⟨_,by rw [hE.out],by rw [hE.out];exact GotQ.zero _ _ _,H4.bel⟩
   have hp:isPart part=true:=by have h:=hB;unfold hasB at h;rw [Bool.and_eq_true] at h;exact h.1
   have hpi:=isPart_iff.1 hp
   obtain ⟨q,rfl⟩:=nat_of (n:=part) hpi.1
   have hq8:q<8:=by omega
   have q0':(0:Int)≤(q:Int):=by omega
   have q8':(q:Int)<8:=by omega
   have hms:=isSet_iff.1 hset
   obtain ⟨m,rfl⟩:=nat_of (n:=has) hms.1
   have hm:m<256:=by omega
   have hspec:∀ (hs':Int) (vs:List Int),hs'=withoutS (m:Int) (q:Int)→∀ (e:[a0,a1,a2,a3,a4,a5,a6,a7].set q 0=vs),dropV rows gens i g (q:Int)=⟨withV ⟨idx,gen,hs',vs,by rw [← e];simp⟩ rows,gens,0⟩:=by
    rintro hs' vs rfl rfl
    have h:=hsp.out
    unfold dropV
    unfold dropF at h ⊢
    rw [if_pos (show hasB (m:Int) (q:Int)=true from hB)] at h
    exact h
   replace hspec:=Lib.hid hspec
   clear hsp hset hms hp hpi hpb3 w3' hw3'
   obtain ⟨w3',rfl⟩:∃ w3':World,w3'=w4:=⟨_,rfl⟩
   have H3:=H2.new w3'.heap.size rfl 114 [.int .i64 idx,.int .i64 gen,.int .i64 (m:Int),.int .i64 a0,.int .i64 a1,.int .i64 a2,.int .i64 a3,.int .i64 a4,.int .i64 a5,.int .i64 a6,.int .i64 a7]
   go_wp2_with fail
   obtain ⟨w4,hw4,H3⟩:=H3.name
   rw [hw4];clear hw4
   refine (rbits_any m hm w4).mono ?_
   rintro e w5 ⟨rfl,hb5⟩
   replace H3:=H3.grow hb5
   have hbv:bitsV m=.agg #[.bool (tb m 0),.bool (tb m 1),.bool (tb m 2),.bool (tb m 3),.bool (tb m 4),.bool (tb m 5),.bool (tb m 6),.bool (tb m 7)]:=rfl
   rw [hbv]
   clear hb5 hbv c0 c1 c2 v0 v1 v2 v3 v4 v5 v6 v7
   have H4:=H3.new w5.heap.size rfl 174 [.bool (tb m 0),.bool (tb m 1),.bool (tb m 2),.bool (tb m 3),.bool (tb m 4),.bool (tb m 5),.bool (tb m 6),.bool (tb m 7)]
   clear H3
   go_upto_region 9 with fail
   obtain ⟨w6,hw6,H4⟩:=H4.name
   rw [hw6];clear hw6
   have z0:=H4.frozen 5 q rfl
   obtain ⟨u4,hu4⟩:∃ u,([.bool (tb m 0),.bool (tb m 1),.bool (tb m 2),.bool (tb m 3),.bool (tb m 4),.bool (tb m 5),.bool (tb m 6),.bool (tb m 7)]:List Value)[q]?=some u:=⟨_,List.getElem?_eq_getElem (by simp;omega)⟩
   have z1:=H4.cell 5 q rfl hu4
   clear hu4
   have H5:Hp w (w6.setCell ⟨w5.heap.size,q,none⟩ (.bool false)) ([.box w.heap.size 64 [.slice Ar rows.length cr,.slice Ag gens.length cg],.box (w.heap.size+1) 24 [.int .i64 i,.int .i64 g],.box (w.heap.size+1+1) 64 [.slice none 0 0,.slice none 0 0],.box w1.heap.size 48 [.int .i64 0,.int .i64 f2],.box w3'.heap.size 114 [.int .i64 idx,.int .i64 gen,.int .i64 (m:Int),.int .i64 a0,.int .i64 a1,.int .i64 a2,.int .i64 a3,.int .i64 a4,.int .i64 a5,.int .i64 a6,.int .i64 a7],.box w5.heap.size 174 [.bool (putB m (q:Int) false 0),.bool (putB m (q:Int) false 1),.bool (putB m (q:Int) false 2),.bool (putB m (q:Int) false 3),.bool (putB m (q:Int) false 4),.bool (putB m (q:Int) false 5),.bool (putB m (q:Int) false 6),.bool (putB m (q:Int) false 7)]]):=by
    have:=H4.set 5 q (.bool false) rfl
    rw [set_bits m hq8] at this
    exact this
   have g0:=H5.cell 5 0 rfl rfl;have g1:=H5.cell 5 1 rfl rfl;have g2:=H5.cell 5 2 rfl rfl;have g3:=H5.cell 5 3 rfl rfl;have g4:=H5.cell 5 4 rfl rfl;have g5:=H5.cell 5 5 rfl rfl;have g6:=H5.cell 5 6 rfl rfl;have g7:=H5.cell 5 7 rfl rfl
   go_upto_region 10 with fail
   obtain ⟨w7,hw7,H5⟩:=H5.name
   rw [hw7] at g0 g1 g2 g3 g4 g5 g6 g7 ⊢
   clear hw7 z0 z1
   go_wp2_with fail
   refine (num_false hm (q:Int) w7).mono ?_
   rintro e w8 ⟨rfl,hb8⟩
   replace H5:=H5.grow hb8
   clear hb8 g0 g1 g2 g3 g4 g5 g6 g7
   obtain ⟨hs',hhs⟩:∃ hs',hs'=withoutS (m:Int) (q:Int):=⟨_,rfl⟩
   rw [← hhs]
   replace hhs:=Lib.hid hhs
   obtain ⟨b0,b1,b2,b3,b4,b5,b6,b7,hvb⟩:=vals_eight (vs:=[a0,a1,a2,a3,a4,a5,a6,a7].set q 0) (by simp)
   have H6:Hp w ((w8.setCell ⟨w3'.heap.size,2,none⟩ (.int .i64 hs')).setCell ⟨w3'.heap.size,3+q,none⟩ (.int .i64 0)) ([.box w.heap.size 64 [.slice Ar rows.length cr,.slice Ag gens.length cg],.box (w.heap.size+1) 24 [.int .i64 i,.int .i64 g],.box (w.heap.size+1+1) 64 [.slice none 0 0,.slice none 0 0],.box w1.heap.size 48 [.int .i64 0,.int .i64 f2],.box w3'.heap.size 114 [.int .i64 idx,.int .i64 gen,.int .i64 hs',.int .i64 b0,.int .i64 b1,.int .i64 b2,.int .i64 b3,.int .i64 b4,.int .i64 b5,.int .i64 b6,.int .i64 b7],.box w5.heap.size 174 [.bool (putB m (q:Int) false 0),.bool (putB m (q:Int) false 1),.bool (putB m (q:Int) false 2),.bool (putB m (q:Int) false 3),.bool (putB m (q:Int) false 4),.bool (putB m (q:Int) false 5),.bool (putB m (q:Int) false 6),.bool (putB m (q:Int) false 7)]]):=by
    have h:=(H5.set 4 2 (.int .i64 hs') rfl).set 4 (3+q) (.int .i64 0) rfl
    have e:(([.int .i64 idx,.int .i64 gen,.int .i64 (m:Int),.int .i64 a0,.int .i64 a1,.int .i64 a2,.int .i64 a3,.int .i64 a4,.int .i64 a5,.int .i64 a6,.int .i64 a7]:List Value).set 2 (.int .i64 hs')).set (3+q) (.int .i64 0)=[.int .i64 idx,.int .i64 gen,.int .i64 hs',.int .i64 b0,.int .i64 b1,.int .i64 b2,.int .i64 b3,.int .i64 b4,.int .i64 b5,.int .i64 b6,.int .i64 b7]:=by
     have:=rowL_set idx gen hs' [a0,a1,a2,a3,a4,a5,a6,a7] q 0
     rw [hvb] at this
     exact this
    rw [e] at h
    exact h
   have y0:=H5.frozen 4 2 rfl;have y1:=H5.frozen 4 (3+q) rfl;have y2:=H5.cell 4 2 rfl rfl
   obtain ⟨u3,hu3⟩:∃ u,([.int .i64 idx,.int .i64 gen,.int .i64 (m:Int),.int .i64 a0,.int .i64 a1,.int .i64 a2,.int .i64 a3,.int .i64 a4,.int .i64 a5,.int .i64 a6,.int .i64 a7]:List Value)[3+q]?=some u:=⟨_,List.getElem?_eq_getElem (by simp;omega)⟩
   have y3:=H5.cell 4 (3+q) rfl hu3
   clear hu3
   replace hvb:=Lib.hid hvb
   go_upto_region 11 with fail
   obtain ⟨w9,hw9,H6⟩:=H6.name
   rw [hw9]
   clear hw9 y0 y1 y2 y3 H4 H5
   have f0:=H6.cell 4 0 rfl rfl;have f1:=H6.cell 4 1 rfl rfl;have f2':=H6.cell 4 2 rfl rfl;have f3:=H6.cell 4 3 rfl rfl;have f4:=H6.cell 4 4 rfl rfl;have f5:=H6.cell 4 5 rfl rfl;have f6:=H6.cell 4 6 rfl rfl;have f7:=H6.cell 4 7 rfl rfl;have f8:=H6.cell 4 8 rfl rfl;have f9:=H6.cell 4 9 rfl rfl;have f10:=H6.cell 4 10 rfl rfl
   have x0:=H6.cell 0 0 rfl rfl;have x1:=H6.cell 0 1 rfl rfl
   go_wp2_with fail
   have hcall:=rwith_any rows gens ⟨idx,gen,hs',[b0,b1,b2,b3,b4,b5,b6,b7],rfl⟩ Ar cr Ag cg (by omega) w9 (H6.old hr)
   have hrv:rowV ⟨idx,gen,hs',[b0,b1,b2,b3,b4,b5,b6,b7],rfl⟩=.agg #[.int .i64 idx,.int .i64 gen,.int .i64 hs',.int .i64 b0,.int .i64 b1,.int .i64 b2,.int .i64 b3,.int .i64 b4,.int .i64 b5,.int .i64 b6,.int .i64 b7]:=rfl
   rw [hrv] at hcall
   refine hcall.mono ?_
   rintro e w10 ⟨⟨A,c,rfl,hown⟩,hb10⟩
   have hwv:Hid (dropV rows gens i g (q:Int)=⟨withV ⟨idx,gen,hs',[b0,b1,b2,b3,b4,b5,b6,b7],rfl⟩ rows,gens,0⟩):=Lib.hid (hspec.out hs' _ hhs.out (by rw [hvb.out]))
   clear hcall hrv
   generalize withV ⟨idx,gen,hs',[b0,b1,b2,b3,b4,b5,b6,b7],rfl⟩ rows=R2 at *
   have H7:=H6.got hb10 hown
   clear H6 hb10 hown f0 f1 f2' f3 f4 f5 f6 f7 f8 f9 f10 x0 x1
   have y0:=H7.frozen 2 0 rfl;have y1:=H7.frozen 2 1 rfl;have y2:=H7.cell 2 0 rfl rfl;have y3:=H7.cell 2 1 rfl rfl
   have H9:=(H7.set 2 0 (.slice A R2.length c) rfl).set 2 1 (.slice Ag gens.length cg) rfl
   have p0:=H9.cell 2 0 rfl rfl;have p1:=H9.cell 2 1 rfl rfl
   go_wp2_with fail
   refine bodyPost_ret (v:=.tuple #[.agg #[.slice A R2.length c,.slice Ag gens.length cg],.int .i64 0]) (by simp [results,Tryz.results117,go_sem,p0,p1]) rfl ⟨_,by rw [hwv.out],by rw [hwv.out];exact ⟨_,_,_,_,rfl,H9.rd 6 rfl,H9.old hg,own_on (H9.owns 6 rfl) hQ,hgB,id⟩,H9.bel⟩
open Go.RowKit
open Brood
theorem all_idx (rows:List BRow) (i:Int):(rows.all fun r=>r.idx != i) = !(rows.map (·.idx)).contains i:=by
 induction rows with
 | nil=>rfl
 | cons r l ih=>
  rw [List.all_cons,ih,List.map_cons,List.contains_cons,Bool.not_or]
  congr 1
  rw [bne,BEq.comm]
theorem all_take {rows:List BRow} {j:Nat} (hj:j<rows.length) (f:BRow→Bool):((rows.take (j+1)).all f)=((rows.take j).all f && f rows[j]):=by
 rw [List.take_add_one,List.getElem?_eq_getElem hj,List.all_append]
 simp
theorem rnext_any (rows:List BRow) (gens:List Int) (Ar:Option Addr) (cr:Nat) (Ag:Option Addr) (cg:Nat) (hlr:rows.length≤9223372036854775807) (hlg:gens.length≤9223372036854775807) (hwg:∀ n∈gens,-9223372036854775808≤n) (w:World) (hr:RdR w w.heap.size Ar rows) (hg:RdG w w.heap.size Ag gens) :
  Calls Tryz.prog 146 #[.agg #[.slice Ar rows.length cr,.slice Ag gens.length cg]] w fun e w'=>e=.returned (.tuple #[.agg #[.int .i64 (nextV rows gens).1,.int .i64 (nextV rows gens).2.1],.int .i64 (nextV rows gens).2.2])∧Below w.heap.size w w':=by
 have H0:=((Hp.start w).new w.heap.size rfl 64 [.slice Ar rows.length cr,.slice Ag gens.length cg]).new (w.heap.size+1) (by simp) 24 [.int .i64 0,.int .i64 0]
 have hE:Hid (nextV rows gens=match nextFrom (rows.map (·.idx)) 0 (gens.drop 0) with
   | some p=>(p.1,p.2,0)
   | none=>if 60≤gens.length then (0,0,4) else ((gens.length:Int),1,0)):=Lib.hid rfl
 generalize nextV rows gens=E at *
 go_enter Tryz.func146,Tryz.ntmps146
 go_wp2_with fail
 go_loopw [12] (fun q wr=>∃ k:Nat,k≤gens.length∧q=.int .i64 k∧Hid (E=match nextFrom (rows.map (·.idx)) k (gens.drop k) with
   | some p=>(p.1,p.2,0)
   | none=>if 60≤gens.length then (0,0,4) else ((gens.length:Int),1,0))∧Hp w wr [.box w.heap.size 64 [.slice Ar rows.length cr,.slice Ag gens.length cg],.box (w.heap.size+1) 24 [.int .i64 0,.int .i64 0]]) (fun q _=>gens.length-(intOf q).toNat)
 case atStart=>exact ⟨0,by omega,rfl,hE,H0⟩
 case round=>
  clear H0 hE
  obtain ⟨k,hk,rfl,hE,H⟩:=hrel
  have e0:=H.cell 0 0 rfl rfl;have e1:=H.cell 0 1 rfl rfl
  by_cases hlt:k<gens.length
  ·have hR1:RdG wr w.heap.size Ag gens:=Rd.under hg H.bel (Nat.le_refl _)
   obtain ⟨b1,off,rfl,hb1,c0⟩:=hR1.at_ hlt
   have hst:=Lib.hid (drop_cons hlt)
   have hn0:=hwg _ (List.getElem_mem hlt)
   clear hR1
   generalize gens[k]=n at *
   have i0:(0:Int)≤(k:Int):=by omega
   have i1:(k:Int)<(gens.length:Int):=by omega
   go_wp2_with fail
   go_loopw [6,22] (fun s6 q wx=>∃ j:Nat,j≤rows.length∧q=.int .i64 j∧s6=.bool (decide (n<1000) && ((rows.take j).all fun r=>r.idx != (k:Int)))∧Hp w wx [.box w.heap.size 64 [.slice Ar rows.length cr,.slice (some ⟨b1,off,none⟩) gens.length cg],.box (w.heap.size+1) 24 [.int .i64 0,.int .i64 0]]) (fun _ q _=>rows.length-(intOf q).toNat)
   case atStart=>exact ⟨0,by omega,rfl,by simp,H⟩
   case round=>
    clear H e0 e1 c0
    obtain ⟨j,hj,rfl,rfl,H⟩:=hrel
    by_cases hltj:j<rows.length
    ·have hR1:RdR wr w.heap.size Ar rows:=Rd.under hr H.bel (Nat.le_refl _)
     obtain ⟨b2,off2,rfl,hb2,hrow⟩:=hR1.at_ hltj
     have hat:=Lib.hid (all_take hltj (fun r=>r.idx != (k:Int)))
     clear hR1
     generalize rows[j]=r at *
     have j0:(0:Int)≤(j:Int):=by omega
     have j1:(j:Int)<(rows.length:Int):=by omega
     obtain ⟨c0,c1,c2⟩:=hrow.head
     obtain ⟨idx,gen,has,vals,h8⟩:=r
     obtain ⟨a0,a1,a2,a3,a4,a5,a6,a7,rfl⟩:=vals_eight h8
     have v0:=hrow 3 (.int .i64 a0) rfl;have v1:=hrow 4 (.int .i64 a1) rfl;have v2:=hrow 5 (.int .i64 a2) rfl;have v3:=hrow 6 (.int .i64 a3) rfl;have v4:=hrow 7 (.int .i64 a4) rfl;have v5:=hrow 8 (.int .i64 a5) rfl;have v6:=hrow 9 (.int .i64 a6) rfl;have v7:=hrow 10 (.int .i64 a7) rfl
     simp only at c0 c1 c2 hat
     clear hrow
     have H2:=H.new wr.heap.size rfl 114 [.int .i64 idx,.int .i64 gen,.int .i64 has,.int .i64 a0,.int .i64 a1,.int .i64 a2,.int .i64 a3,.int .i64 a4,.int .i64 a5,.int .i64 a6,.int .i64 a7]
     cases hB:(decide (n<1000) && ((rows.take j).all fun r=>r.idx != (k:Int)))
     ·have hB2:Hid ((decide (n<1000) && ((rows.take (j+1)).all fun r=>r.idx != (k:Int)))=false):=Lib.hid (by rw [hat.out,← Bool.and_assoc,hB];rfl)
      go_wp2_with fail
      go_roundw
      case rel=>exact ⟨j+1,by omega,by go_num,by rw [hB2.out],H2.sub (by simp)⟩
      case measure=>simp [intOf];omega
     ·have hB2:Hid ((decide (n<1000) && ((rows.take (j+1)).all fun r=>r.idx != (k:Int)))=(idx != (k:Int))):=Lib.hid (by rw [hat.out,← Bool.and_assoc,hB];rfl)
      go_wp2_with fail
      go_roundw
      case rel=>exact ⟨j+1,by omega,by go_num,by rw [hB2.out],H2.sub (by simp)⟩
      case measure=>simp [intOf];omega
    ·obtain rfl:j=rows.length:=by omega
     have hfr:Hid ((decide (n<1000) && ((rows.take rows.length).all fun r=>r.idx != (k:Int)))=(!(rows.map (·.idx)).contains (k:Int) && decide (n<1000))):=Lib.hid (by rw [List.take_length,all_idx,Bool.and_comm])
     have hnf:Hid (nextFrom (rows.map (·.idx)) k (n::gens.drop (k+1))=if !(rows.map (·.idx)).contains (k:Int) && decide (n<1000) then some ((k:Int),n+1) else nextFrom (rows.map (·.idx)) (k+1) (gens.drop (k+1))):=Lib.hid rfl
     rw [hfr.out] at *
     rw [← hst.out] at hnf
     clear hfr
     cases hB:(!(rows.map (·.idx)).contains (k:Int) && decide (n<1000))
     ·have hE2:Hid (E=match nextFrom (rows.map (·.idx)) (k+1) (gens.drop (k+1)) with
        | some p=>(p.1,p.2,0)
        | none=>if 60≤gens.length then (0,0,4) else ((gens.length:Int),1,0)):=Lib.hid (by rw [hE.out,hnf.out,hB];rfl)
      go_wp2_with fail
      go_roundw
      case rel=>exact ⟨k+1,by omega,by go_num,hE2,H⟩
      case measure=>simp [intOf];omega
     ·have hn1:n<1000:=by
       rw [Bool.and_eq_true] at hB
       exact of_decide_eq_true hB.2
      have hE2:Hid (E=((k:Int),n+1,0)):=Lib.hid (by rw [hE.out,hnf.out,hB];rfl)
      have hwrap:IntKind.i64.wrap (n+1)=n+1:=by rw [IntKind.wrap_i64];omega
      have y0:=H.frozen 1 0 rfl;have y1:=H.frozen 1 1 rfl;have y2:=H.cell 1 0 rfl rfl;have y3:=H.cell 1 1 rfl rfl
      have H9:=(H.set 1 0 (.int .i64 (k:Int)) rfl).set 1 1 (.int .i64 (n+1)) rfl
      have p0:=H9.cell 1 0 rfl rfl;have p1:=H9.cell 1 1 rfl rfl
      clear hn1 hB
      go_wp2_with fail
      refine bodyPost_ret (v:=.tuple #[.agg #[.int .i64 (k:Int),.int .i64 (n+1)],.int .i64 0]) (by simp [results,Tryz.results146,go_sem,p0,p1]) rfl ⟨by rw [hE2.out],H9.bel⟩
  ·obtain rfl:k=gens.length:=by omega
   have y0:=H.frozen 1 0 rfl;have y1:=H.frozen 1 1 rfl;have y2:=H.cell 1 0 rfl rfl;have y3:=H.cell 1 1 rfl rfl
   have hE2:Hid (E=if 60≤gens.length then (0,0,4) else ((gens.length:Int),1,0)):=Lib.hid (by rw [hE.out,List.drop_length];rfl)
   by_cases h60:60≤gens.length
   ·have hE3:Hid (E=(0,0,4)):=Lib.hid (by rw [hE2.out,if_pos h60])
    have H9:=(H.set 1 0 (.int .i64 0) rfl).set 1 1 (.int .i64 0) rfl
    have p0:=H9.cell 1 0 rfl rfl;have p1:=H9.cell 1 1 rfl rfl
    go_wp2_with fail
    refine bodyPost_ret (v:=.tuple #[.agg #[.int .i64 0,.int .i64 0],.int .i64 4]) (by simp [results,Tryz.results146,go_sem,p0,p1]) rfl ⟨by rw [hE3.out],H9.bel⟩
   ·have hE3:Hid (E=((gens.length:Int),1,0)):=Lib.hid (by rw [hE2.out,if_neg h60])
    have H9:=(H.set 1 0 (.int .i64 (gens.length:Int)) rfl).set 1 1 (.int .i64 1) rfl
    have p0:=H9.cell 1 0 rfl rfl;have p1:=H9.cell 1 1 rfl rfl
    go_wp2_with fail
    refine bodyPost_ret (v:=.tuple #[.agg #[.int .i64 (gens.length:Int),.int .i64 1],.int .i64 0]) (by simp [results,Tryz.results146,go_sem,p0,p1]) rfl ⟨by rw [hE3.out],H9.bel⟩
end Go.Proofs.YtefdblaolmckmabGreat
