/- Lemmas of the proof. -/
import Derived.Laws.AppendOwnNone
import Derived.Test.YtefdblaolmckmabGreatRBSortTRToStoO
import Derived.Test.YtefdblaolmckmabGreatRInsK
import Derived.Test.YtefdblaolmckmabGreatRBSortTBToRefW
import Derived.Test.YtefdblaolmckmabGreatRBInsIToMx
import Derived.Test.YtefdblaolmckmabGreatRBRef2AToAppOp
set_option linter.unusedVariables false
set_option linter.unusedSimpArgs false
set_option maxRecDepth 100000
set_option maxHeartbeats 12800000
namespace Go.Proofs.YtefdblaolmckmabGreat
open Go.RowKit
open Brood
def rlE (b:Nat) (A:Option Addr) (n c:Nat) (Ag:Option Addr) (m cg:Nat) (Ar:Option Addr) (cr:Nat) (rows:List BRow):List Ent:=
 [.box b 40 [.slice A n c,.slice Ag m cg],.box (b+1) 64 [.slice none 0 0,.slice none 0 0],.box (b+1+1) 64 [.slice Ar rows.length cr,.slice Ag m cg],.own (.slice Ar rows.length cr) 114 11 rows.length (rows.flatMap rowCells)]
theorem oper_append_or {P:Program} {o:Oper} {a:Act} {w:World} {K:Act→World→Prop} {Q:Exit→Act→World→Prop} (s x:Operand) (t:TypeId)
  (ho:o.op=.call { callee:=.builtin .append,args:=#[s,x],argTypes:=#[t,t] })
  (base:Nat) (e:TypeId) (i:TypeInfo) (z:Value) (size bytes:Nat) (ht:P.underlying t=some (.slice e)) (hi:P.info? e=some i) (hz:i.zero=some z)
  (hsize:i.size=size) (hby:i.bytes=bytes) (hzs:z.cells.size=size) (hsz:0<size)
  (v:Value) (n:Nat) (xs:List Value) (hs:a.eval s=v) (hown:w.ownsRow base e size v n xs)
  (A:Option Addr) (m c:Nat) (news:List Value) (hx:a.eval x=.slice A m c) (hnil:A=none→m=0∧c=0) (hl:news.length=m*size) (hnews:∀ ad,A=some ad→∀ j u,news[j]?=some u→w.cell? (ad.add j)=some u) (h1:∀ u∈news,u.oneCell'=true)
  (h63:n+m≤maxLen) (hbytes:(n+m)*bytes≤140737488355328) (hbase:base≤w.heap.size)
  (h:∀ v' w',w'.ownsRow base e size v' (n+m) (xs++news)→w.grownBy w' v.ownBlock→(v'.ownBlock=v.ownBlock∨v'.ownBlock=some w.heap.size)→K (a.put o.dst v') w') :
  o.wp P a w K Q:=by
 cases A with
 | none=>
  obtain ⟨rfl,rfl⟩:=hnil rfl
  obtain rfl:news=[]:=List.eq_nil_of_length_eq_zero (by rw [hl];simp)
  have hr:=run_append_owned_none (P:=P) (w:=w) base t o.type e i size ht hi v n xs hown
  unfold Oper.wp execOp
  simp only [ho,resolve,invoke,builtin,Sem.run_bind,Sem.run_pure,Result.andThen_ok,List.map_toArray,List.map_cons,List.map_nil,hs,hx,hr]
  exact h v w (by simpa using hown) ⟨rfl,rfl,rfl,Nat.le_refl _,fun _ _ _=>rfl⟩ (.inl rfl)
 | some ad=>exact oper_append_own s x t ho base e i z size bytes ht hi hz hsize hby hzs hsz v n xs hs hown ad m c news hx hl (hnews ad rfl) h1 h63 hbytes hbase h
def pkR (v:Value) (L:List BRow):Ent:=.own v 114 11 L.length (L.flatMap rowCells)
def ins1 (b0 b5 b8 b13:Bool) (v0 v5 v8 v13:Value) (L1 L2:List BRow) (r:BRow):List Ent:=
 if b13 then [pkR v13 (L1++[r]++L2)] else if b8 then [pkR v8 (L1++[r])] else if b5 then [pkR v5 L1] else if b0 then [pkR v0 []] else []
def bx7 (b7:Bool) (g:Nat) (r:BRow):List Ent:=if b7 then [.box g 114 (rowCells r)] else []
def InsJ (w0:World) (B:List Ent) (L1 L2:List BRow) (r:BRow) (b0 b5 b7 b8 b13:Bool) (v0 v5 v7 v8 v13:Value) (w':World):Prop:=
 ∃ g,(b7=true→v7=.slice (some ⟨g,0,none⟩) 1 1)∧Hp w0 w' (ins1 b0 b5 b8 b13 v0 v5 v8 v13 L1 L2 r++(bx7 b7 g r++B))
theorem rows_oneW (L:List BRow):∀ u∈L.flatMap rowCells,u.oneCell'=true:=by
 intro u hu
 obtain ⟨x,_,hx⟩:=List.mem_flatMap.1 hu
 exact rowCells_one x u hx
section
variable {w0 w' w4:World} {B:List Ent} {L1 L2:List BRow} {r:BRow} {b0 b5 b7 b8 b13:Bool} {v0 v5 v7 v8 v13:Value}
theorem InsJ.start (h:Hp w0 w' B):InsJ w0 B L1 L2 r false false false false false v0 v5 v7 v8 v13 w':=⟨0,(fun h=>by cases h),h⟩
theorem InsJ.base (h:InsJ w0 B L1 L2 r b0 b5 b7 b8 b13 v0 v5 v7 v8 v13 w'):Hp w0 w' B:=by
 obtain ⟨g,_,h⟩:=h
 exact h.sub ((List.sublist_append_right _ _).trans (List.sublist_append_right _ _))
theorem InsJ.lit (h:InsJ w0 B L1 L2 r false false b7 false false v0 v5 v7 v8 v13 w'):InsJ w0 B L1 L2 r true false b7 false false (.slice (some ⟨w'.heap.size,0,none⟩) 0 0) v5 v7 v8 v13 (w'.alloc (.cells #[] 114)):=by
 obtain ⟨g,h7,h⟩:=h
 refine ⟨g,h7,?_⟩
 exact h.more (World.grownBy_alloc w' _ _) (own_lower (World.ownsRow_lit w' #[] 0 (Nat.le_refl _) (by unfold maxLen;omega) (by simp)) h.bel.size) (fun g hg=>by
  have:w'.heap.size=g:=by simpa [pkR,Ent.blk,Value.ownBlock] using hg
  omega)
theorem InsJ.one (h:InsJ w0 B L1 L2 r b0 b5 false b8 b13 v0 v5 v7 v8 v13 w'):InsJ w0 B L1 L2 r b0 b5 true b8 b13 v0 v5 (.slice (some ⟨w'.heap.size,0,none⟩) 1 1) v8 v13 (w'.alloc (.cells (rowCells r).toArray 114)):=by
 obtain ⟨g,h7,h⟩:=h
 refine ⟨w'.heap.size,fun _=>rfl,?_⟩
 refine (h.newL w'.heap.size rfl 114 (rowCells r)).perm ?_
 exact List.perm_middle.symm
theorem InsJ.own0 (h:InsJ w0 B L1 L2 r true false b7 false false v0 v5 v7 v8 v13 w'):w'.ownsRow w0.heap.size 114 11 v0 0 []:=by
 obtain ⟨g,_,h⟩:=h
 exact h.owns 0 rfl
theorem InsJ.own5 (h:InsJ w0 B L1 L2 r b0 true b7 false false v0 v5 v7 v8 v13 w'):w'.ownsRow w0.heap.size 114 11 v5 L1.length (L1.flatMap rowCells):=by
 obtain ⟨g,_,h⟩:=h
 exact h.owns 0 rfl
theorem InsJ.own8 (h:InsJ w0 B L1 L2 r b0 b5 b7 true false v0 v5 v7 v8 v13 w'):w'.ownsRow w0.heap.size 114 11 v8 (L1++[r]).length ((L1++[r]).flatMap rowCells):=by
 obtain ⟨g,_,h⟩:=h
 exact h.owns 0 rfl
theorem InsJ.box7 (h:InsJ w0 B L1 L2 r b0 b5 true b8 b13 v0 v5 v7 v8 v13 w'):∃ g,v7=.slice (some ⟨g,0,none⟩) 1 1∧Blk w' g 114 (rowCells r).toArray:=by
 obtain ⟨g,h7,h⟩:=h
 refine ⟨g,h7 rfl,?_⟩
 have:=h.all (.box g 114 (rowCells r)) (List.mem_append_right _ (List.mem_append_left _ (List.mem_cons_self ..)))
 exact this.2
theorem flat_one (L:List BRow) (r:BRow):(L++[r]).flatMap rowCells=L.flatMap rowCells++rowCells r:=by simp
theorem InsJ.app5 (h:InsJ w0 B L1 L2 r true false b7 false false v0 v5 v7 v8 v13 w') {v:Value} (ho:w4.ownsRow w0.heap.size 114 11 v (0+L1.length) ([]++L1.flatMap rowCells)) (hg:w'.grownBy w4 v0.ownBlock) (hat:v.ownBlock=v0.ownBlock∨v.ownBlock=some w'.heap.size):InsJ w0 B L1 L2 r true true b7 false false v0 v v7 v8 v13 w4:=by
 obtain ⟨g,h7,h⟩:=h
 rw [Nat.zero_add,List.nil_append] at ho
 exact ⟨g,h7,h.app 0 rfl hg ho (hat.imp id (fun e g hg=>by rw [e] at hg;injection hg with hg;exact Nat.le_of_eq hg))⟩
theorem InsJ.app8 (h:InsJ w0 B L1 L2 r b0 true b7 false false v0 v5 v7 v8 v13 w') {v:Value} (ho:w4.ownsRow w0.heap.size 114 11 v (L1.length+1) (L1.flatMap rowCells++rowCells r)) (hg:w'.grownBy w4 v5.ownBlock) (hat:v.ownBlock=v5.ownBlock∨v.ownBlock=some w'.heap.size):InsJ w0 B L1 L2 r b0 true b7 true false v0 v5 v7 v v13 w4:=by
 obtain ⟨g,h7,h⟩:=h
 have e:(L1++[r]).length=L1.length+1:=by simp
 rw [← flat_one,← e] at ho
 exact ⟨g,h7,h.app 0 rfl hg ho (hat.imp id (fun e g hg=>by rw [e] at hg;injection hg with hg;exact Nat.le_of_eq hg))⟩
theorem InsJ.app13 (h:InsJ w0 B L1 L2 r b0 b5 b7 true false v0 v5 v7 v8 v13 w') {v:Value} (ho:w4.ownsRow w0.heap.size 114 11 v ((L1++[r]).length+L2.length) ((L1++[r]).flatMap rowCells++L2.flatMap rowCells)) (hg:w'.grownBy w4 v8.ownBlock) (hat:v.ownBlock=v8.ownBlock∨v.ownBlock=some w'.heap.size):InsJ w0 B L1 L2 r b0 b5 b7 true true v0 v5 v7 v8 v w4:=by
 obtain ⟨g,h7,h⟩:=h
 rw [← List.flatMap_append,← List.length_append] at ho
 exact ⟨g,h7,h.app 0 rfl hg ho (hat.imp id (fun e g hg=>by rw [e] at hg;injection hg with hg;exact Nat.le_of_eq hg))⟩
theorem InsJ.last (h:InsJ w0 B L1 L2 r b0 b5 true b8 true v0 v5 v7 v8 v13 w'):∃ g,v7=.slice (some ⟨g,0,none⟩) 1 1∧Hp w0 w' (pkR v13 (L1++[r]++L2)::.box g 114 (rowCells r)::B):=by
 obtain ⟨g,h7,h⟩:=h
 exact ⟨g,h7 rfl,h⟩
theorem InsJ.own13 (h:InsJ w0 B L1 L2 r b0 b5 b7 b8 true v0 v5 v7 v8 v13 w'):w'.ownsRow w0.heap.size 114 11 v13 (L1++[r]++L2).length ((L1++[r]++L2).flatMap rowCells):=by
 obtain ⟨g,_,h⟩:=h
 exact h.owns 0 rfl
end
theorem rows_takeW {w0 w:World} {E:List Ent} (H:Hp w0 w E) {g:Nat} {c:Nat} {R:List BRow} (hm:pkR (.slice (some ⟨g,0,none⟩) R.length c) R∈E) (n:Nat):∀ j u,((R.take n).flatMap rowCells)[j]?=some u→w.cell? ((⟨g,0,none⟩:Addr).add j)=some u:=by
 intro j u hu
 obtain ⟨k,hk⟩:=List.getElem?_of_mem hm
 have h1:(R.flatMap rowCells)[j]?=some u:=by
  have e:R.flatMap rowCells=(R.take n).flatMap rowCells++(R.drop n).flatMap rowCells:=by rw [← List.flatMap_append,List.take_append_drop]
  rw [e,List.getElem?_append_left (List.getElem?_eq_some_iff.1 hu).1]
  exact hu
 have:=H.ownCell k j hk h1
 rw [add_mk,Nat.zero_add]
 exact this
theorem rows_dropW {w0 w:World} {E:List Ent} (H:Hp w0 w E) {g:Nat} {c:Nat} {R:List BRow} (hm:pkR (.slice (some ⟨g,0,none⟩) R.length c) R∈E) {n:Nat} (hn:n≤R.length):∀ j u,((R.drop n).flatMap rowCells)[j]?=some u→w.cell? ((⟨g,n*11,none⟩:Addr).add j)=some u:=by
 intro j u hu
 obtain ⟨k,hk⟩:=List.getElem?_of_mem hm
 have hl:((R.take n).flatMap rowCells).length=n*11:=by rw [flat_length (f:=rowCells) rowCells_length,List.length_take];congr 1;omega
 have h1:(R.flatMap rowCells)[n*11+j]?=some u:=by
  have e:R.flatMap rowCells=(R.take n).flatMap rowCells++(R.drop n).flatMap rowCells:=by rw [← List.flatMap_append,List.take_append_drop]
  rw [e,List.getElem?_append_right (by omega),hl]
  rw [show n*11+j-n*11=j by omega]
  exact hu
 have:=H.ownCell k (n*11+j) hk h1
 rw [add_mk]
 exact this
theorem rows_after {w0 w:World} {E:List Ent} (H:Hp w0 w E) {g:Nat} {c:Nat} {R:List BRow} (hm:pkR (.slice (some ⟨g,0,none⟩) R.length c) R∈E) {n:Nat} (hn:n≤R.length) (hc:R.length≤c) {ad:Addr} (e:(if c=n then some (⟨g,0,none⟩:Addr) else some ⟨g,n*11,none⟩)=some ad):∀ j u,((R.drop n).flatMap rowCells)[j]?=some u→w.cell? (ad.add j)=some u:=by
 intro j u hu
 split at e
 ·rename_i h
  rw [List.drop_eq_nil_of_le (by omega)] at hu
  cases hu
 ·cases e
  exact rows_dropW H hm hn j u hu
theorem rworld_any (l:List TabIn) (A:Option Addr) (c:Nat) (gens:List Int) (Ag:Option Addr) (cg:Nat) (G:List Grp) (hfit:l.map tabOf=G.map tabG) (hcl:∀ g∈G,Clean g) (hl:l.length≤1048576) (hn:(flatG G).length≤1048576) (hlg:gens.length≤1048576)
  (w:World) (hT:RdT w w.heap.size A l) :
  Calls Tryz.prog 74 #[.agg #[.slice A l.length c,.slice Ag gens.length cg]] w fun e w'=>∃ (Ar:Option Addr) (cr:Nat),e=.returned (.agg #[.slice Ar (sortK BRow.idx (flatG G)).length cr,.slice Ag gens.length cg])∧Hp w w' [pkR (.slice Ar (sortK BRow.idx (flatG G)).length cr) (sortK BRow.idx (flatG G))]:=by
 have hfith:=Lib.hid hfit;have hclh:=Lib.hid hcl
 have hlG:=Lib.hid (fit_len hfit)
 clear hfit hcl
 have H:=((Hp.start w).new w.heap.size rfl 40 [.slice A l.length c,.slice Ag gens.length cg]).new (w.heap.size+1) (by simp) 64 [.slice none 0 0,.slice none 0 0]
 have H1:=(H.new (w.heap.size+1+1) (by simp) 64 [.slice none 0 0,.slice Ag gens.length cg]).nil_ 114 11
 replace H1:Hp w _ (rlE w.heap.size A l.length c Ag gens.length cg none 0 []):=H1
 have hHH:=Lib.hid H1
 clear H H1
 go_enter Tryz.func74,Tryz.ntmps74
 go_upto_region 2 with fail
 obtain ⟨w1,hw1,H⟩:=hHH.out.name
 rw [hw1]
 clear hw1 hHH
 obtain ⟨bb,hbb⟩:∃ bb,bb=w.heap.size:=⟨_,rfl⟩
 rw [← hbb] at H ⊢
 clear hbb
 have a0:=H.cell 0 0 rfl rfl
 have hHH:=Lib.hid H
 clear H
 go_wp2_with fail
 clear a0
 go_loopw [18] (fun q wr=>∃ k:Nat,k≤l.length∧q=.int .i64 k∧∃ Ar cr,Hp w wr (rlE bb A l.length c Ag gens.length cg Ar cr (sortK BRow.idx (flatG (G.take k))))) (fun q _=>l.length-(intOf q).toNat)
 case atStart=>exact ⟨0,by omega,rfl,none,0,hHH.out⟩
 case round=>
  clear hHH
  obtain ⟨k,hk,rfl,Ar,cr,H⟩:=hrel
  obtain ⟨wo,rfl⟩:∃ wo:World,wo=wr:=⟨_,rfl⟩
  by_cases hlt:k<l.length
  ·have hkG:k<G.length:=by have:=hlG.out;omega
   have hF:=fit_at hfith.out hlt hkG
   have hfl:=flatG_le hkG
   have hft:=Lib.hid (flatG_take hkG)
   have hC:=Lib.hid (hclh.out _ (List.getElem_mem hkG))
   obtain ⟨b1,off,eA,hb1,e0,e1,e2⟩:=(hT.under H.bel (Nat.le_refl _)).at_ hlt
   have hrb:=hT.bs _ (List.getElem_mem hlt);have hrc:=hT.cs _ (List.getElem_mem hlt);have hrz:=Lib.hid (hT.zs _ (List.getElem_mem hlt))
   generalize G[k]=g at *
   generalize l[k]=t at *
   generalize hrows:flatG (G.take k)=rows at *
   have hrowsh:=Lib.hid hrows
   clear hrows
   have hlen:=Lib.hid hF.len
   have hcln:=Lib.hid hF.clen
   obtain ⟨has,bA,bc,bs,cA,cc,cols⟩:=t
   obtain ⟨gh,rs⟩:=g
   obtain rfl:has=gh:=hF.has
   have hFh:=Lib.hid hF
   dsimp only at e0 e1 e2 hrb hrc hrz hfl
   clear hF
   have i0:(0:Int)≤(k:Int):=by omega
   have i1:(k:Int)<(l.length:Int):=by omega
   have H4:=H.new wo.heap.size rfl 100 [.int .i64 has,.slice bA bs.length bc,.slice cA cols.length cc]
   have a0:=H4.cell 4 1 rfl rfl
   have hH4:=Lib.hid H4
   rw [eA]
   clear H H4
   go_wp2_with fail
   clear a0 e0 e1 e2
   go_loopw [25] (fun q wr=>∃ i:Nat,i≤bs.length∧q=.int .i64 i∧∃ Ar cr,Hp w wr (rlE bb A l.length c Ag gens.length cg Ar cr (sortK BRow.idx (rows++rs.take i))++[.box wo.heap.size 100 [.int .i64 has,.slice bA bs.length bc,.slice cA cols.length cc]])) (fun q _=>bs.length-(intOf q).toNat)
   case atStart=>exact ⟨0,by omega,rfl,Ar,cr,by simpa using hH4.out⟩
   case round=>
    clear hH4
    obtain ⟨i,hi,rfl,Ar,cr,H⟩:=hrel
    obtain ⟨wp,rfl⟩:∃ wp:World,wp=wr:=⟨_,rfl⟩
    by_cases hil:i<bs.length
    ·have hirs:i<rs.length:=by have:=hlen.out;omega
     obtain ⟨b2,off2,eB,hb2,f0,f1⟩:=rdBe_at (Rd.under hrb H.bel (Nat.le_refl _)) hil
     rw [hFh.out.be hil hirs] at f0 f1
     have hrz2:=Lib.hid (hC.out.zero _ (List.getElem_mem hirs))
     have hrh:=Lib.hid (hC.out.has _ (List.getElem_mem hirs))
     have htk:=Lib.hid (List.take_append_getElem hirs)
     have hcol:Hid (∀ j (h1:j<cols.length) (h2:j<(listS has).length) (h3:i<cols[j].zs.length),cols[j].zs[i]=rs[i].vals.getD (listS has)[j].toNat 0):=Lib.hid (fun j h1 h2 h3=>by
      have e:=hFh.out.col h1 h2
      have h4:i<(colOf rs (listS has)[j]).length:=by rw [colOf_len];exact hirs
      have:cols[j].zs[i]=(colOf rs (listS has)[j])[i]:=by simp only [e]
      rw [this,colOf_get _ _ hirs])
     have hzl:Hid (∀ j (h1:j<cols.length),cols[j].zs.length=rs.length):=Lib.hid (fun j h1=>by rw [hFh.out.col h1 (by have h5:cols.length=(listS has).length:=hcln.out;show j<(listS has).length;omega),colOf_len])
     generalize rs[i]=r at *
     simp only [beOf] at f0 f1
     have i2:(0:Int)≤(i:Int):=by omega
     have i3:(i:Int)<(bs.length:Int):=by omega
     have H5:=(H.new wp.heap.size rfl 24 [.int .i64 r.idx,.int .i64 r.gen]).new (wp.heap.size+1) (by simp) 114 [.int .i64 r.idx,.int .i64 r.gen,.int .i64 has,.int .i64 0,.int .i64 0,.int .i64 0,.int .i64 0,.int .i64 0,.int .i64 0,.int .i64 0,.int .i64 0]
     have a0:=H.cell 4 0 rfl rfl;have a1:=H.cell 4 1 rfl rfl
     have l5:=H.lt 4 rfl
     have hset:isSet has=true:=hC.out.set_
     have hsi:=isSet_iff.1 hset
     obtain ⟨hm,hhm⟩:∃ m:Nat,has=(m:Int):=⟨has.toNat,by omega⟩
     have hhmh:=Lib.hid hhm
     have hm8:hm<256:=by omega
     have hlist:=Lib.hid (fun W=>rlist_any hm hm8 W)
     rw [← hhm] at hlist
     clear hhm
     have hH5:=Lib.hid H5
     rw [eB]
     clear H H5
     go_upto_region 9 with fail
     obtain ⟨w3,hw3,H5⟩:=hH5.out.name
     rw [hw3]
     clear hw3 a0 a1 l5 f0 f1 hH5
     obtain ⟨b7,hb7⟩:∃ b7,b7=wp.heap.size+1:=⟨_,rfl⟩
     rw [← hb7] at H5 ⊢
     clear hb7
     have a0:=H5.cell 4 0 rfl rfl
     have hH5:=Lib.hid H5
     clear H5
     go_wp2_with fail
     refine (hlist.out w3).mono ?_
     rintro e w4 ⟨vl,rfl,hol,hb9⟩
     obtain ⟨Al,cl,rfl,hlc,hlm⟩:=own_shape hol
     have H6:=hH5.out.got hb9 hol
     clear hH5 hol hb9 hlist a0
     have hl8:=listS_len has
     have hH6:=Lib.hid H6
     clear H6
     go_wp2_with fail
     go_loopw [38] (fun q wr=>∃ j:Nat,j≤(listS has).length∧q=.int .i64 j∧Hp w wr (rlE bb A l.length c Ag gens.length cg Ar cr (sortK BRow.idx (rows++rs.take i))++[.box wo.heap.size 100 [.int .i64 has,.slice bA bs.length bc,.slice cA cols.length cc],.box wp.heap.size 24 [.int .i64 r.idx,.int .i64 r.gen],.box b7 114 (rowL r.idx r.gen has (valsUp r has j)),.own (.slice Al (listS has).length cl) 3 1 (listS has).length (ints (listS has))])) (fun q _=>(listS has).length-(intOf q).toNat)
     case atStart=>exact ⟨0,by omega,rfl,hH6.out⟩
     case round=>
      clear hH6
      obtain ⟨j,hj,rfl,H6⟩:=hrel
      by_cases hjl:j<(listS has).length
      ·obtain ⟨gl,eL⟩:=own_some (H6.owns 7 rfl) (by omega)
       subst eL
       have z0:=H6.ownCell 7 j rfl (ints_get hjl)
       obtain ⟨k0,k8⟩:=listS_range (listS has)[j] (List.getElem_mem hjl)
       have hvs:=Lib.hid (valsUp_succ r hjl)
       have hjc:j<cols.length:=by have h5:cols.length=(listS has).length:=hcln.out;omega
       obtain ⟨b4,off4,eC,hb4,g0⟩:=rdC_at (Rd.under hrc H6.bel (Nat.le_refl _)) hjc
       have hzj:=hzl.out j hjc
       have hiz:i<cols[j].zs.length:=by omega
       obtain ⟨b5,off5,hA5,hb5,g1⟩:=rdZ_at (Rd.under (hrz.out _ (List.getElem_mem hjc)) H6.bel (Nat.le_refl _)) hiz
       rw [hcol.out j hjc hjl hiz] at g1
       rw [hA5] at g0
       generalize cols[j].zs.length=zl at *
       generalize cols[j].c=zc at *
       clear hA5 hzj
       obtain ⟨q,hq⟩:=nat_of k0
       rw [hq] at z0 hvs k0 k8 g1
       clear hq
       have hv8:=Lib.hid (valsUp_len r has j)
       rw [Int.toNat_natCast] at hvs g1
       generalize r.vals.getD q 0=z at *
       have hrs:=Lib.hid (rowL_set r.idx r.gen has (valsUp r has j) q z)
       have i4:(0:Int)≤(j:Int):=by omega
       have i5:(j:Int)<((listS has).length:Int):=by omega
       have i6:(j:Int)<(cols.length:Int):=by omega
       have i7:(i:Int)<(zl:Int):=by omega
       have c2:=H6.cell 4 2 rfl rfl
       rw [eC] at c2
       obtain ⟨u,hu⟩:∃ u,wr.cell? ⟨b7,3+q,none⟩=some u:=by
        obtain ⟨u,hu⟩:∃ u,(rowL r.idx r.gen has (valsUp r has j))[3+q]?=some u:=⟨_,List.getElem?_eq_getElem (by simp [rowL,ints,hv8.out];omega)⟩
        exact ⟨u,H6.cell 6 (3+q) rfl hu⟩
       have z6:=H6.frozen 6 (3+q) rfl
       have H7:=H6.set 6 (3+q) (.int .i64 z) rfl
       rw [hrs.out,← hvs.out] at H7
       have H8:=Lib.hid H7
       clear H6 H7 hrs hvs hv8
       go_wp2_with fail
       go_roundw
       case rel=>exact ⟨j+1,by omega,by go_num,H8.out⟩
       case measure=>simp [intOf];omega
      ·obtain rfl:j=(listS has).length:=by omega
       replace H6:=H6.drop1 7
       rw [valsUp_all hC.out.set_ hrz2.out] at H6
       obtain ⟨ri,rg,rh,rv,r8⟩:=r
       obtain rfl:rh=has:=hrh.out
       obtain ⟨a0,a1,a2,a3,a4,a5,a6,a7,rfl⟩:=vals_eight r8
       obtain ⟨r0,hr0⟩:∃ r0:BRow,r0=⟨ri,rg,rh,[a0,a1,a2,a3,a4,a5,a6,a7],r8⟩:=⟨_,rfl⟩
       have hr0h:=Lib.hid hr0
       have hsnoc:Hid (sortK BRow.idx (rows++rs.take (i+1))=insK BRow.idx r0 (sortK BRow.idx (rows++rs.take i))):=Lib.hid (by rw [← htk.out,← List.append_assoc,← hr0,sortK_snoc])
       have hsrt:=Lib.hid (sortK_stb (key:=BRow.idx) (rows++rs.take i)).1
       have hRl:(sortK BRow.idx (rows++rs.take i)).length≤1048576:=by rw [(sortK_stb (key:=BRow.idx) (rows++rs.take i)).2.1];simp;omega
       generalize sortK BRow.idx (rows++rs.take i)=R at *
       clear hcol hzl htk hrz2 hrz hrh hr0
       have d0:=H6.cell 2 0 rfl rfl
       have hH6:=Lib.hid H6
       clear H6
       go_wp2_with fail
       clear d0
       go_loopw [11] (fun q wr=>∃ n:Nat,n≤R.length∧q=.int .i64 n∧Hid (∀ j (hj:j<R.length),n≤j→ri<R[j].idx)∧Hp w wr (rlE bb A l.length c Ag gens.length cg Ar cr R++[.box wo.heap.size 100 [.int .i64 rh,.slice bA bs.length bc,.slice cA cols.length cc],.box wp.heap.size 24 [.int .i64 ri,.int .i64 rg],.box b7 114 [.int .i64 ri,.int .i64 rg,.int .i64 rh,.int .i64 a0,.int .i64 a1,.int .i64 a2,.int .i64 a3,.int .i64 a4,.int .i64 a5,.int .i64 a6,.int .i64 a7]])) (fun q _=>(intOf q).toNat)
       case atStart=>exact ⟨R.length,by omega,rfl,Lib.hid (fun j hj h=>by omega),hH6.out⟩
       case round=>
        clear hH6
        obtain ⟨n,hn2,rfl,habv,H⟩:=hrel
        have hb:∃ b:Bool,(b=true→0<n∧∃ h:n-1<R.length,ri<R[n-1].idx)∧(b=false→n=0∨∃ h:n-1<R.length,R[n-1].idx≤ri)∧(n=0→b=false)∧(∀ h:n-1<R.length,0<n→b=decide (ri<R[n-1].idx)):=by
         rcases Nat.eq_zero_or_pos n with h0 | h0
         ·exact ⟨false,(fun h=>by cases h),fun _=>.inl h0,fun _=>rfl,fun _ h=>by omega⟩
         ·have hlt:n-1<R.length:=by omega
          refine ⟨decide (ri<R[n-1].idx),fun h=>⟨h0,hlt,by simpa using h⟩,fun h=>.inr ⟨hlt,by simpa using h⟩,fun h=>by omega,fun _ _=>rfl⟩
        obtain ⟨b,hbt,hbf,hb0,hb1⟩:=hb
        have hbth:=Lib.hid hbt;have hbfh:=Lib.hid hbf
        clear hbt hbf
        have d0:=H.cell 2 0 rfl rfl
        have d5:=H.cell 5 0 rfl rfl
        have hHn:=Lib.hid (fun nd=>H.drewN nd)
        have hRr:RdR wr wr.heap.size Ar R:=H.rd 3 rfl
        have hHo:=Lib.hid H
        clear H
        go_upto_region 16 with fail
        go_cut [87] (fun s wq=>s=.bool b∧∃ nd,wq=wr.drewN nd)
        case first=>
         rcases Nat.eq_zero_or_pos n with h0 | h0
         ·have hbb0:=hb0 h0
          have j0:¬ (0:Int)<(n:Int):=by omega
          have hd0:decide ((0:Int)<(n:Int))=false:=decide_eq_false j0
          have hd1:decide (0<n)=false:=decide_eq_false (by omega)
          clear hRr hb0 hb1 h0 j0
          go_quiet (fail)
          go_wp2_with fail
          go_meet
          exact ⟨by rw [hbb0],_,rfl⟩
         ·have hlt2:n-1<R.length:=by omega
          have hbb0:=Lib.hid (hb1 hlt2 h0)
          obtain ⟨gb,go_,eR,hgb,hrow⟩:=hRr.at_ hlt2
          obtain ⟨c0,_,_⟩:=hrow.head
          generalize R[n-1]=y at *
          have j0:(0:Int)<(n:Int):=by omega
          have hd0:decide ((0:Int)<(n:Int))=true:=decide_eq_true j0
          have hw1:IntKind.i64.wrap ((n:Int)-1)=((n-1:Nat):Int):=by rw [IntKind.wrap_i64];omega
          obtain ⟨n1,hn1⟩:∃ n1,n1=n-1:=⟨_,rfl⟩
          rw [← hn1] at c0 hw1
          have j1:(0:Int)≤(n1:Int):=by omega
          have j2:(n1:Int)<(R.length:Int):=by omega
          rw [eR] at d0
          clear hRr hb0 hb1 hrow hn1 hlt2
          go_quiet (fail)
          go_wp2_with fail
          go_meet
          exact ⟨by rw [hbb0.out],_,rfl⟩
        case rest=>
        obtain ⟨rfl,nd,rfl⟩:=hcut
        have H:=hHn.out nd
        clear d0 d5 hHn hRr hHo hb0 hb1
        obtain ⟨w5,hw5⟩:∃ w5,w5=wr.drewN nd:=⟨_,rfl⟩
        rw [← hw5] at H ⊢
        clear hw5
        cases b with
        | true=>
         obtain ⟨h0,hlt2,hgt⟩:=hbth.out rfl
         have hw1:IntKind.i64.wrap ((n:Int)-1)=((n-1:Nat):Int):=by rw [IntKind.wrap_i64];omega
         have hab2:Hid (∀ j (hj:j<R.length),n-1≤j→ri<R[j].idx):=Lib.hid (fun j hj h=>by
          rcases Nat.lt_or_ge j n with h3 | h3
          ·have e:j=n-1:=by omega
           subst e
           exact hgt
          ·exact habv.out j hj h3)
         have Hh:=Lib.hid H
         clear H
         go_wp2_with fail
         go_roundw
         case rel=>exact ⟨n-1,by omega,by first | rfl | go_num,hab2,Hh.out⟩
         case measure=>simp [intOf]<;>omega
        | false=>
         have hins:Hid (sortK BRow.idx (rows++rs.take (i+1))=R.take n++[r0]++R.drop n):=Lib.hid (by
          rw [hsnoc.out]
          refine insK_cut hsrt.out hn2 (fun j hj h=>?_) ?_
          ·rw [hr0h.out];exact habv.out j hj h
          ·rw [hr0h.out];exact hbfh.out rfl)
         clear hbth hbfh habv hsnoc hsrt
         obtain ⟨i0',hi0,hz0a,hz0b,hz0c⟩:=info_parts infoRow
         have hi0h:=Lib.hid hi0;have hz0ah:=Lib.hid hz0a;have hz0bh:=Lib.hid hz0b;have hz0ch:=Lib.hid hz0c
         clear hi0 hz0a hz0b hz0c
         have Hh:=Lib.hid H
         obtain ⟨R',hR'⟩:∃ R':Unit,R'=():=⟨_,rfl⟩
         clear H hR' R'
         go_upto_region 18 with fail
         obtain ⟨L1,hL1e⟩:∃ L1,L1=R.take n:=⟨_,rfl⟩
         obtain ⟨L2,hL2e⟩:∃ L2,L2=R.drop n:=⟨_,rfl⟩
         have hl1:Hid (L1.length=n):=Lib.hid (by rw [hL1e,List.length_take];omega)
         have hl2:Hid (L2.length=R.length-n):=Lib.hid (by rw [hL2e,List.length_drop])
         have hL1:=Lib.hid hL1e;have hL2:=Lib.hid hL2e
         clear hL1e hL2e
         rcases (Hh.out.owns 3 rfl).2 with ⟨hv0,hxs⟩ | ⟨gr,cap,cur,hv0,hcp⟩
         ·injection hv0 with e1 e2 e3
          obtain rfl:R=[]:=List.eq_nil_of_length_eq_zero e2
          obtain rfl:n=0:=by simpa using hn2
          subst e1 e3
          have hl2:Hid (L2.length=0):=Lib.hid (by rw [hl2.out];rfl)
          have hB18:=Lib.hid Hh.out
          clear hxs Hh e2
          refine wp_region_mx mixed (by kernel_rfl) (by kernel_rfl) (fun q=>!(q==0) && !(q==5) && !(q==7) && !(q==8) && !(q==13) && !(q==15)) (tab [undef,.pointer (some ⟨bb+1+1,0,none⟩),.slice none 0 0,.int .i64 ((0:Nat):Int),.slice none 0 0,undef,.agg #[.int .i64 ri,.int .i64 rg,.int .i64 rh,.int .i64 a0,.int .i64 a1,.int .i64 a2,.int .i64 a3,.int .i64 a4,.int .i64 a5,.int .i64 a6,.int .i64 a7],undef,undef,.pointer (some ⟨bb+1+1,0,none⟩),.slice none 0 0,.int .i64 ((0:Nat):Int),.slice none 0 0,undef,.pointer (some ⟨bb+1+1,0,none⟩),undef]) (fun u vs w'=>InsJ w [.box bb 40 [.slice A l.length c,.slice Ag gens.length cg],.box (bb+1) 64 [.slice none 0 0,.slice none 0 0],.box (bb+1+1) 64 [(if u 15 then vs 13 else .slice none 0 0),.slice Ag gens.length cg],pkR (.slice none 0 0) ([]:List BRow),.box wo.heap.size 100 [.int .i64 rh,.slice bA bs.length bc,.slice cA cols.length cc],.box wp.heap.size 24 [.int .i64 ri,.int .i64 rg],.box b7 114 [.int .i64 ri,.int .i64 rg,.int .i64 rh,.int .i64 a0,.int .i64 a1,.int .i64 a2,.int .i64 a3,.int .i64 a4,.int .i64 a5,.int .i64 a6,.int .i64 a7]] L1 L2 r0 (u 0) (u 5) (u 7) (u 8) (u 13) (vs 0) (vs 5) (vs 7) (vs 8) (vs 13) w') ?_ ?_ ?_
          ·exact InsJ.start hB18.out.drew
          ·intro vs w' l9 hJ hl
           rw [putAll_tab _ _ _ _ [(some 90,vs 0),(some 91,.pointer (some ⟨bb+1+1,0,none⟩)),(some 92,.slice none 0 0),(some 93,.int .i64 ((0:Nat):Int)),(some 94,.slice none 0 0),(some 95,vs 5),(some 96,.agg #[.int .i64 ri,.int .i64 rg,.int .i64 rh,.int .i64 a0,.int .i64 a1,.int .i64 a2,.int .i64 a3,.int .i64 a4,.int .i64 a5,.int .i64 a6,.int .i64 a7]),(some 97,vs 7),(some 98,vs 8),(some 99,.pointer (some ⟨bb+1+1,0,none⟩)),(some 100,.slice none 0 0),(some 101,.int .i64 ((0:Nat):Int)),(some 102,.slice none 0 0),(some 103,vs 13),(some 104,.pointer (some ⟨bb+1+1,0,none⟩)),(none,vs 15)] rfl]
           simp only [putL_eq,putT,List.set_cons_succ,List.set_cons_zero]
           have l0:=hl 0 (by decide);have l5:=hl 5 (by decide);have l7:=hl 7 (by decide);have l8:=hl 8 (by decide);have l13:=hl 13 (by decide);have l15:=hl 15 (by decide)
           rw [l7,l13,l15] at hJ
           obtain ⟨A9,c9,e9,_,_⟩:=own_shape hJ.own13
           obtain ⟨g9,_,HL⟩:=hJ.last
           rw [e9] at HL
           rw [if_pos rfl] at HL
           have H9:Hp w w' (rlE bb A l.length c Ag gens.length cg A9 c9 (L1++[r0]++L2)++[.box wo.heap.size 100 [.int .i64 rh,.slice bA bs.length bc,.slice cA cols.length cc]]):=by
            have h1:=((((HL.drop1 8).drop1 7).drop1 5).drop1 1)
            exact h1.perm (by
             unfold rlE
             exact (List.perm_middle (l₁:=[_,_,_])).symm)
           have hH9:=Lib.hid H9
           clear hJ HL H9 hl
           go_wp2_with fail
           go_roundw
           case rel=>exact ⟨i+1,by omega,by go_num,A9,c9,by rw [hins.out,← hL1.out,← hL2.out,← eB];exact hH9.out⟩
           case measure=>simp [intOf];omega
          ·intro qq op ho u vs act w' hJ hsh hli hd hv hwas K hK
           have hiq:qq<16:=lt_of_some ho
           have s3_:=hwas 3 rfl
           have s8_:=hwas 8 rfl
           have s11_:=hwas 11 rfl
           simp at s3_ s8_ s11_
           match qq,hiq,ho,hli,hK with
           | 0,_,ho,hli,hK=>
            obtain rfl:=sj ho
            have n5:=hsh.not (i:=5) (j:=0) (by rfl) hli
            have n8:=hsh.not (i:=8) (j:=5) (by rfl) n5
            have n13:=hsh.not (i:=13) (j:=8) (by rfl) n8
            have n15:=hsh.not (i:=15) (j:=13) (by rfl) n13
            rw [hli,n5,n8,n13,n15] at hJ
            have hQ:=hJ.lit
            clear hv hwas
            go_simp
            refine hK _ _ (fun h=>by cases h) ?_
            show InsJ _ _ _ _ _ _ (u 5) _ (u 8) (u 13) _ _ _ _ _ _
            rw [n5,n8,n13]
            show InsJ _ [_,_,.box _ _ [if u 15 then _ else _,_],_,_,_,_] _ _ _ _ _ _ _ _ _ _ _ _ _ _
            rw [n15]
            exact hQ
           | 1,_,ho,hli,hK=>
            obtain rfl:=sj ho
            clear hv hwas
            go_simp
            exact hK _ _ (fun _=>rfl) hJ
           | 2,_,ho,hli,hK=>
            obtain rfl:=sj ho
            have x91:act.tmps[91]?.getD undef=.pointer (some ⟨bb+1+1,0,none⟩):=hv 1 91 rfl (rb hd rfl)
            have n15:=hsh.not (i:=15) (j:=13) (by rfl) (hsh.not (i:=13) (j:=8) (by rfl) (hsh.not (i:=8) (j:=5) (by rfl) (hsh.not (i:=5) (j:=4) (by rfl) (hsh.not (i:=4) (j:=2) (by rfl) hli))))
            have hBs:=hJ.base
            rw [n15] at hBs
            have q0:=hBs.cell 2 0 rfl rfl
            clear hv hwas hBs
            go_simp
            exact hK _ _ (fun _=>rfl) hJ
           | 3,_,ho,hli,hK=>
            obtain rfl:=sj ho
            clear hv hwas
            go_simp
            exact hK _ _ (fun _=>rfl) hJ
           | 4,_,ho,hli,hK=>
            obtain rfl:=sj ho
            have x92:act.tmps[92]?.getD undef=.slice none 0 0:=hv 2 92 rfl (rb hd rfl)
            have x93:act.tmps[93]?.getD undef=.int .i64 ((0:Nat):Int):=hv 3 93 rfl (rb hd rfl)
            clear hv hwas
            go_simp
            exact hK _ _ (fun _=>rfl) hJ
           | 5,_,ho,hli,hK=>
            obtain rfl:=sj ho
            have x90:act.tmps[90]?.getD undef=vs 0:=hv 0 90 rfl (rb hd rfl)
            have x94:act.tmps[94]?.getD undef=.slice none 0 0:=hv 4 94 rfl (rb hd rfl)
            have l0:u 0=true:=by simp [Region.binds] at hd;simp [hd]
            have n8:=hsh.not (i:=8) (j:=5) (by rfl) hli
            have n13:=hsh.not (i:=13) (j:=8) (by rfl) n8
            have n15:=hsh.not (i:=15) (j:=13) (by rfl) n13
            rw [hli,l0,n8,n13,n15] at hJ
            have hBs:=hJ.base
            have hown:=hJ.own0
            have hJh:=Lib.hid hJ
            obtain ⟨hi0,hz0a,hz0b,hz0c⟩:_∧_∧_∧_:=⟨hi0h.out,hz0ah.out,hz0bh.out,hz0ch.out⟩
            clear hv hwas hJ
            refine oper_append_or (.tmp 90) (.tmp 94) 62 rfl w.heap.size 114 i0' (.agg #[.int .i64 0,.int .i64 0,.int .i64 0,.int .i64 0,.int .i64 0,.int .i64 0,.int .i64 0,.int .i64 0,.int .i64 0,.int .i64 0,.int .i64 0]) 11 88 Tryz.underlying62 hi0 hz0a hz0b hz0c rfl (by decide) _ 0 [] (eval_tmp x90) hown none L1.length 0 (L1.flatMap rowCells) ((eval_tmp x94).trans (by rw [hl1.out])) (fun _=>⟨hl1.out,rfl⟩) (flat_length (f:=rowCells) rowCells_length L1) (fun ad e=>by cases e) (rows_oneW L1) (by rw [hl1.out];unfold maxLen;omega) (by rw [hl1.out];omega) hBs.bel.size ?_
            intro v' w9 ho hg hat
            refine hK _ _ (fun h=>by cases h) ?_
            show InsJ _ _ _ _ _ (u 0) _ _ (u 8) (u 13) _ _ _ _ _ _
            rw [l0,n8,n13]
            show InsJ _ [_,_,.box _ _ [if u 15 then _ else _,_],_,_,_,_] _ _ _ _ _ _ _ _ _ _ _ _ _ _
            rw [n15]
            exact hJh.out.app5 ho hg hat
           | 6,_,ho,hli,hK=>
            obtain rfl:=sj ho
            have hBs:=hJ.base
            have q0:=hBs.cell 6 0 rfl rfl;have q1:=hBs.cell 6 1 rfl rfl;have q2:=hBs.cell 6 2 rfl rfl;have q3:=hBs.cell 6 3 rfl rfl;have q4:=hBs.cell 6 4 rfl rfl;have q5:=hBs.cell 6 5 rfl rfl;have q6:=hBs.cell 6 6 rfl rfl;have q7:=hBs.cell 6 7 rfl rfl;have q8:=hBs.cell 6 8 rfl rfl;have q9:=hBs.cell 6 9 rfl rfl;have q10:=hBs.cell 6 10 rfl rfl
            clear hv hwas hBs
            go_simp
            exact hK _ _ (fun _=>rfl) hJ
           | 7,_,ho,hli,hK=>
            obtain rfl:=sj ho
            have x96:act.tmps[96]?.getD undef=.agg #[.int .i64 ri,.int .i64 rg,.int .i64 rh,.int .i64 a0,.int .i64 a1,.int .i64 a2,.int .i64 a3,.int .i64 a4,.int .i64 a5,.int .i64 a6,.int .i64 a7]:=hv 6 96 rfl (rb hd rfl)
            rw [hli] at hJ
            have hQ:=hJ.one
            rw [hr0h.out] at hQ
            clear hv hwas
            go_simp
            refine hK _ _ (fun h=>by cases h) ?_
            rw [hr0h.out]
            exact hQ
           | 8,_,ho,hli,hK=>
            obtain rfl:=sj ho
            have x95:act.tmps[95]?.getD undef=vs 5:=hv 5 95 rfl (rb hd rfl)
            have x97:act.tmps[97]?.getD undef=vs 7:=hv 7 97 rfl (rb hd rfl)
            have l5:u 5=true:=by simp [Region.binds] at hd;simp [hd]
            have l7:u 7=true:=by simp [Region.binds] at hd;simp [hd]
            have n13:=hsh.not (i:=13) (j:=8) (by rfl) hli
            have n15:=hsh.not (i:=15) (j:=13) (by rfl) n13
            rw [hli,l5,l7,n13,n15] at hJ
            have hBs:=hJ.base
            have hown:=hJ.own5
            obtain ⟨g7',e7,hblk⟩:=hJ.box7
            rw [e7] at x97
            have hJh:=Lib.hid hJ
            obtain ⟨hi0,hz0a,hz0b,hz0c⟩:_∧_∧_∧_:=⟨hi0h.out,hz0ah.out,hz0bh.out,hz0ch.out⟩
            clear hv hwas hJ
            refine oper_append_own (.tmp 95) (.tmp 97) 62 rfl w.heap.size 114 i0' (.agg #[.int .i64 0,.int .i64 0,.int .i64 0,.int .i64 0,.int .i64 0,.int .i64 0,.int .i64 0,.int .i64 0,.int .i64 0,.int .i64 0,.int .i64 0]) 11 88 Tryz.underlying62 hi0 hz0a hz0b hz0c rfl (by decide) _ _ _ (eval_tmp x95) hown ⟨g7',0,none⟩ 1 1 (rowCells r0) (eval_tmp x97) (by rw [rowCells_length]) (news_blk hblk) (rowCells_one r0) (by rw [hl1.out];unfold maxLen;omega) (by rw [hl1.out];omega) hBs.bel.size ?_
            intro v' w9 ho hg hat
            refine hK _ _ (fun h=>by cases h) ?_
            show InsJ _ _ _ _ _ _ (u 5) (u 7) _ (u 13) _ _ _ _ _ _
            rw [l5,l7,n13]
            show InsJ _ [_,_,.box _ _ [if u 15 then _ else _,_],_,_,_,_] _ _ _ _ _ _ _ _ _ _ _ _ _ _
            rw [n15]
            exact hJh.out.app8 ho hg hat
           | 9,_,ho,hli,hK=>
            obtain rfl:=sj ho
            clear hv hwas
            go_simp
            exact hK _ _ (fun _=>rfl) hJ
           | 10,_,ho,hli,hK=>
            obtain rfl:=sj ho
            have x99:act.tmps[99]?.getD undef=.pointer (some ⟨bb+1+1,0,none⟩):=hv 9 99 rfl (rb hd rfl)
            have n15:=hsh.not (i:=15) (j:=13) (by rfl) (hsh.not (i:=13) (j:=12) (by rfl) (hsh.not (i:=12) (j:=10) (by rfl) hli))
            have hBs:=hJ.base
            rw [n15] at hBs
            have q0:=hBs.cell 2 0 rfl rfl
            clear hv hwas hBs
            go_simp
            exact hK _ _ (fun _=>rfl) hJ
           | 11,_,ho,hli,hK=>
            obtain rfl:=sj ho
            clear hv hwas
            go_simp
            exact hK _ _ (fun _=>rfl) hJ
           | 12,_,ho,hli,hK=>
            obtain rfl:=sj ho
            have x100:act.tmps[100]?.getD undef=.slice none 0 0:=hv 10 100 rfl (rb hd rfl)
            have x101:act.tmps[101]?.getD undef=.int .i64 ((0:Nat):Int):=hv 11 101 rfl (rb hd rfl)
            clear hv hwas
            go_simp
            exact hK _ _ (fun _=>rfl) hJ
           | 13,_,ho,hli,hK=>
            obtain rfl:=sj ho
            have x98:act.tmps[98]?.getD undef=vs 8:=hv 8 98 rfl (rb hd rfl)
            have x102:act.tmps[102]?.getD undef=.slice none 0 0:=hv 12 102 rfl (rb hd rfl)
            have l8:u 8=true:=by simp [Region.binds] at hd;simp [hd]
            have n15:=hsh.not (i:=15) (j:=13) (by rfl) hli
            rw [hli,l8,n15] at hJ
            have hBs:=hJ.base
            have hown:=hJ.own8
            have hJh:=Lib.hid hJ
            obtain ⟨hi0,hz0a,hz0b,hz0c⟩:_∧_∧_∧_:=⟨hi0h.out,hz0ah.out,hz0bh.out,hz0ch.out⟩
            clear hv hwas hJ
            have hll:(L1++[r0]).length=0+1:=by rw [List.length_append,hl1.out];rfl
            refine oper_append_or (.tmp 98) (.tmp 102) 62 rfl w.heap.size 114 i0' (.agg #[.int .i64 0,.int .i64 0,.int .i64 0,.int .i64 0,.int .i64 0,.int .i64 0,.int .i64 0,.int .i64 0,.int .i64 0,.int .i64 0,.int .i64 0]) 11 88 Tryz.underlying62 hi0 hz0a hz0b hz0c rfl (by decide) _ _ _ (eval_tmp x98) hown none L2.length 0 (L2.flatMap rowCells) ((eval_tmp x102).trans (by rw [hl2.out])) (fun _=>⟨hl2.out,rfl⟩) (flat_length (f:=rowCells) rowCells_length L2) (fun ad e=>by cases e) (rows_oneW L2) (by rw [hll,hl2.out];unfold maxLen;omega) (by rw [hll,hl2.out];omega) hBs.bel.size ?_
            intro v' w9 ho hg hat
            refine hK _ _ (fun h=>by cases h) ?_
            show InsJ _ _ _ _ _ _ _ _ (u 8) _ _ _ _ _ _ _
            rw [l8]
            show InsJ _ [_,_,.box _ _ [if u 15 then _ else _,_],_,_,_,_] _ _ _ _ _ _ _ _ _ _ _ _ _ _
            rw [n15]
            exact hJh.out.app13 ho hg hat
           | 14,_,ho,hli,hK=>
            obtain rfl:=sj ho
            clear hv hwas
            go_simp
            exact hK _ _ (fun _=>rfl) hJ
           | 15,_,ho,hli,hK=>
            obtain rfl:=sj ho
            have x103:act.tmps[103]?.getD undef=vs 13:=hv 13 103 rfl (rb hd rfl)
            have x104:act.tmps[104]?.getD undef=.pointer (some ⟨bb+1+1,0,none⟩):=hv 14 104 rfl (rb hd rfl)
            have l13:u 13=true:=by simp [Region.binds] at hd;simp [hd]
            have l8:u 8=true:=hsh 13 8 (by rfl) l13
            have l7:u 7=true:=hsh 8 7 (by rfl) l8
            rw [hli,l13,l7] at hJ
            obtain ⟨g9,e7,HL⟩:=hJ.last
            have q0:=HL.cell 4 0 rfl rfl
            have y0:=HL.frozen 4 0 rfl
            obtain ⟨A9,c9,e9,_,_⟩:=own_shape hJ.own13
            have hQ:=HL.set 4 0 (vs 13) rfl
            obtain ⟨n9,hn9⟩:∃ n9,n9=(L1++[r0]++L2).length:=⟨_,rfl⟩
            rw [← hn9] at e9
            rw [e9] at x103
            clear hv hwas hJ HL hn9
            go_simp
            refine hK undef _ (fun _=>rfl) ?_
            show InsJ _ _ _ _ _ _ _ (u 7) _ (u 13) _ _ _ _ _ _
            rw [l13,l7]
            refine ⟨g9,fun _=>e7,?_⟩
            rw [← e9]
            exact hQ
         ·injection hv0 with e1 e2 e3
          subst e1
          have hcap:R.length≤cr:=by
           obtain ⟨A9,c9,e9,h1,h2⟩:=own_shape (Hh.out.owns 3 rfl)
           injection e9 with _ _ e9
           omega
          have hcaph:=Lib.hid hcap
          have k0:(0:Int)≤(n:Int):=by omega
          have k1:(n:Int)≤(R.length:Int):=by omega
          have k2:(n:Int)≤(cr:Int):=by omega
          have k3:(R.length:Int)≤(cr:Int):=by omega
          have hB18:=Lib.hid Hh.out
          clear hcp e3 Hh
          refine wp_region_mx mixed (by kernel_rfl) (by kernel_rfl) (fun q=>!(q==0) && !(q==5) && !(q==7) && !(q==8) && !(q==13) && !(q==15)) (tab [undef,.pointer (some ⟨bb+1+1,0,none⟩),.slice (some ⟨gr,0,none⟩) R.length cr,.int .i64 (n:Int),.slice (some ⟨gr,0,none⟩) n cr,undef,.agg #[.int .i64 ri,.int .i64 rg,.int .i64 rh,.int .i64 a0,.int .i64 a1,.int .i64 a2,.int .i64 a3,.int .i64 a4,.int .i64 a5,.int .i64 a6,.int .i64 a7],undef,undef,.pointer (some ⟨bb+1+1,0,none⟩),.slice (some ⟨gr,0,none⟩) R.length cr,.int .i64 (n:Int),.slice (if cr=n then some ⟨gr,0,none⟩ else some ⟨gr,n*11,none⟩) (R.length-n) (cr-n),undef,.pointer (some ⟨bb+1+1,0,none⟩),undef]) (fun u vs w'=>InsJ w [.box bb 40 [.slice A l.length c,.slice Ag gens.length cg],.box (bb+1) 64 [.slice none 0 0,.slice none 0 0],.box (bb+1+1) 64 [(if u 15 then vs 13 else .slice (some ⟨gr,0,none⟩) R.length cr),.slice Ag gens.length cg],pkR (.slice (some ⟨gr,0,none⟩) R.length cr) R,.box wo.heap.size 100 [.int .i64 rh,.slice bA bs.length bc,.slice cA cols.length cc],.box wp.heap.size 24 [.int .i64 ri,.int .i64 rg],.box b7 114 [.int .i64 ri,.int .i64 rg,.int .i64 rh,.int .i64 a0,.int .i64 a1,.int .i64 a2,.int .i64 a3,.int .i64 a4,.int .i64 a5,.int .i64 a6,.int .i64 a7]] L1 L2 r0 (u 0) (u 5) (u 7) (u 8) (u 13) (vs 0) (vs 5) (vs 7) (vs 8) (vs 13) w') ?_ ?_ ?_
          ·exact InsJ.start hB18.out.drew
          ·intro vs w' l9 hJ hl
           rw [putAll_tab _ _ _ _ [(some 90,vs 0),(some 91,.pointer (some ⟨bb+1+1,0,none⟩)),(some 92,.slice (some ⟨gr,0,none⟩) R.length cr),(some 93,.int .i64 (n:Int)),(some 94,.slice (some ⟨gr,0,none⟩) n cr),(some 95,vs 5),(some 96,.agg #[.int .i64 ri,.int .i64 rg,.int .i64 rh,.int .i64 a0,.int .i64 a1,.int .i64 a2,.int .i64 a3,.int .i64 a4,.int .i64 a5,.int .i64 a6,.int .i64 a7]),(some 97,vs 7),(some 98,vs 8),(some 99,.pointer (some ⟨bb+1+1,0,none⟩)),(some 100,.slice (some ⟨gr,0,none⟩) R.length cr),(some 101,.int .i64 (n:Int)),(some 102,.slice (if cr=n then some ⟨gr,0,none⟩ else some ⟨gr,n*11,none⟩) (R.length-n) (cr-n)),(some 103,vs 13),(some 104,.pointer (some ⟨bb+1+1,0,none⟩)),(none,vs 15)] rfl]
           simp only [putL_eq,putT,List.set_cons_succ,List.set_cons_zero]
           have l0:=hl 0 (by decide);have l5:=hl 5 (by decide);have l7:=hl 7 (by decide);have l8:=hl 8 (by decide);have l13:=hl 13 (by decide);have l15:=hl 15 (by decide)
           rw [l7,l13,l15] at hJ
           obtain ⟨A9,c9,e9,_,_⟩:=own_shape hJ.own13
           obtain ⟨g9,_,HL⟩:=hJ.last
           rw [e9] at HL
           rw [if_pos rfl] at HL
           have H9:Hp w w' (rlE bb A l.length c Ag gens.length cg A9 c9 (L1++[r0]++L2)++[.box wo.heap.size 100 [.int .i64 rh,.slice bA bs.length bc,.slice cA cols.length cc]]):=by
            have h1:=((((HL.drop1 8).drop1 7).drop1 5).drop1 1)
            exact h1.perm (by
             unfold rlE
             exact (List.perm_middle (l₁:=[_,_,_])).symm)
           have hH9:=Lib.hid H9
           clear hJ HL H9 hl
           go_wp2_with fail
           go_roundw
           case rel=>exact ⟨i+1,by omega,by go_num,A9,c9,by rw [hins.out,← hL1.out,← hL2.out,← eB];exact hH9.out⟩
           case measure=>simp [intOf];omega
          ·intro qq op ho u vs act w' hJ hsh hli hd hv hwas K hK
           have hiq:qq<16:=lt_of_some ho
           have s3_:=hwas 3 rfl
           have s8_:=hwas 8 rfl
           have s11_:=hwas 11 rfl
           simp at s3_ s8_ s11_
           match qq,hiq,ho,hli,hK with
           | 0,_,ho,hli,hK=>
            obtain rfl:=sj ho
            have n5:=hsh.not (i:=5) (j:=0) (by rfl) hli
            have n8:=hsh.not (i:=8) (j:=5) (by rfl) n5
            have n13:=hsh.not (i:=13) (j:=8) (by rfl) n8
            have n15:=hsh.not (i:=15) (j:=13) (by rfl) n13
            rw [hli,n5,n8,n13,n15] at hJ
            have hQ:=hJ.lit
            clear hv hwas
            go_simp
            refine hK _ _ (fun h=>by cases h) ?_
            show InsJ _ _ _ _ _ _ (u 5) _ (u 8) (u 13) _ _ _ _ _ _
            rw [n5,n8,n13]
            show InsJ _ [_,_,.box _ _ [if u 15 then _ else _,_],_,_,_,_] _ _ _ _ _ _ _ _ _ _ _ _ _ _
            rw [n15]
            exact hQ
           | 1,_,ho,hli,hK=>
            obtain rfl:=sj ho
            clear hv hwas
            go_simp
            exact hK _ _ (fun _=>rfl) hJ
           | 2,_,ho,hli,hK=>
            obtain rfl:=sj ho
            have x91:act.tmps[91]?.getD undef=.pointer (some ⟨bb+1+1,0,none⟩):=hv 1 91 rfl (rb hd rfl)
            have n15:=hsh.not (i:=15) (j:=13) (by rfl) (hsh.not (i:=13) (j:=8) (by rfl) (hsh.not (i:=8) (j:=5) (by rfl) (hsh.not (i:=5) (j:=4) (by rfl) (hsh.not (i:=4) (j:=2) (by rfl) hli))))
            have hBs:=hJ.base
            rw [n15] at hBs
            have q0:=hBs.cell 2 0 rfl rfl
            clear hv hwas hBs
            go_simp
            exact hK _ _ (fun _=>rfl) hJ
           | 3,_,ho,hli,hK=>
            obtain rfl:=sj ho
            clear hv hwas
            go_simp
            exact hK _ _ (fun _=>rfl) hJ
           | 4,_,ho,hli,hK=>
            obtain rfl:=sj ho
            have x92:act.tmps[92]?.getD undef=.slice (some ⟨gr,0,none⟩) R.length cr:=hv 2 92 rfl (rb hd rfl)
            have x93:act.tmps[93]?.getD undef=.int .i64 (n:Int):=hv 3 93 rfl (rb hd rfl)
            clear hv hwas
            go_simp
            exact hK _ _ (fun _=>rfl) hJ
           | 5,_,ho,hli,hK=>
            obtain rfl:=sj ho
            have x90:act.tmps[90]?.getD undef=vs 0:=hv 0 90 rfl (rb hd rfl)
            have x94:act.tmps[94]?.getD undef=.slice (some ⟨gr,0,none⟩) n cr:=hv 4 94 rfl (rb hd rfl)
            have l0:u 0=true:=by simp [Region.binds] at hd;simp [hd]
            have n8:=hsh.not (i:=8) (j:=5) (by rfl) hli
            have n13:=hsh.not (i:=13) (j:=8) (by rfl) n8
            have n15:=hsh.not (i:=15) (j:=13) (by rfl) n13
            rw [hli,l0,n8,n13,n15] at hJ
            have hBs:=hJ.base
            have hown:=hJ.own0
            have hJh:=Lib.hid hJ
            obtain ⟨hi0,hz0a,hz0b,hz0c⟩:_∧_∧_∧_:=⟨hi0h.out,hz0ah.out,hz0bh.out,hz0ch.out⟩
            clear hv hwas hJ
            refine oper_append_or (.tmp 90) (.tmp 94) 62 rfl w.heap.size 114 i0' (.agg #[.int .i64 0,.int .i64 0,.int .i64 0,.int .i64 0,.int .i64 0,.int .i64 0,.int .i64 0,.int .i64 0,.int .i64 0,.int .i64 0,.int .i64 0]) 11 88 Tryz.underlying62 hi0 hz0a hz0b hz0c rfl (by decide) _ 0 [] (eval_tmp x90) hown (some ⟨gr,0,none⟩) L1.length cr (L1.flatMap rowCells) ((eval_tmp x94).trans (by rw [hl1.out])) (fun h=>by cases h) (flat_length (f:=rowCells) rowCells_length L1) (fun ad e=>by cases e;rw [hL1.out];exact rows_takeW hBs (c:=cr) (by simp) n) (rows_oneW L1) (by rw [hl1.out];unfold maxLen;omega) (by rw [hl1.out];omega) hBs.bel.size ?_
            intro v' w9 ho hg hat
            refine hK _ _ (fun h=>by cases h) ?_
            show InsJ _ _ _ _ _ (u 0) _ _ (u 8) (u 13) _ _ _ _ _ _
            rw [l0,n8,n13]
            show InsJ _ [_,_,.box _ _ [if u 15 then _ else _,_],_,_,_,_] _ _ _ _ _ _ _ _ _ _ _ _ _ _
            rw [n15]
            exact hJh.out.app5 ho hg hat
           | 6,_,ho,hli,hK=>
            obtain rfl:=sj ho
            have hBs:=hJ.base
            have q0:=hBs.cell 6 0 rfl rfl;have q1:=hBs.cell 6 1 rfl rfl;have q2:=hBs.cell 6 2 rfl rfl;have q3:=hBs.cell 6 3 rfl rfl;have q4:=hBs.cell 6 4 rfl rfl;have q5:=hBs.cell 6 5 rfl rfl;have q6:=hBs.cell 6 6 rfl rfl;have q7:=hBs.cell 6 7 rfl rfl;have q8:=hBs.cell 6 8 rfl rfl;have q9:=hBs.cell 6 9 rfl rfl;have q10:=hBs.cell 6 10 rfl rfl
            clear hv hwas hBs
            go_simp
            exact hK _ _ (fun _=>rfl) hJ
           | 7,_,ho,hli,hK=>
            obtain rfl:=sj ho
            have x96:act.tmps[96]?.getD undef=.agg #[.int .i64 ri,.int .i64 rg,.int .i64 rh,.int .i64 a0,.int .i64 a1,.int .i64 a2,.int .i64 a3,.int .i64 a4,.int .i64 a5,.int .i64 a6,.int .i64 a7]:=hv 6 96 rfl (rb hd rfl)
            rw [hli] at hJ
            have hQ:=hJ.one
            rw [hr0h.out] at hQ
            clear hv hwas
            go_simp
            refine hK _ _ (fun h=>by cases h) ?_
            rw [hr0h.out]
            exact hQ
           | 8,_,ho,hli,hK=>
            obtain rfl:=sj ho
            have x95:act.tmps[95]?.getD undef=vs 5:=hv 5 95 rfl (rb hd rfl)
            have x97:act.tmps[97]?.getD undef=vs 7:=hv 7 97 rfl (rb hd rfl)
            have l5:u 5=true:=by simp [Region.binds] at hd;simp [hd]
            have l7:u 7=true:=by simp [Region.binds] at hd;simp [hd]
            have n13:=hsh.not (i:=13) (j:=8) (by rfl) hli
            have n15:=hsh.not (i:=15) (j:=13) (by rfl) n13
            rw [hli,l5,l7,n13,n15] at hJ
            have hBs:=hJ.base
            have hown:=hJ.own5
            obtain ⟨g7',e7,hblk⟩:=hJ.box7
            rw [e7] at x97
            have hJh:=Lib.hid hJ
            obtain ⟨hi0,hz0a,hz0b,hz0c⟩:_∧_∧_∧_:=⟨hi0h.out,hz0ah.out,hz0bh.out,hz0ch.out⟩
            clear hv hwas hJ
            refine oper_append_own (.tmp 95) (.tmp 97) 62 rfl w.heap.size 114 i0' (.agg #[.int .i64 0,.int .i64 0,.int .i64 0,.int .i64 0,.int .i64 0,.int .i64 0,.int .i64 0,.int .i64 0,.int .i64 0,.int .i64 0,.int .i64 0]) 11 88 Tryz.underlying62 hi0 hz0a hz0b hz0c rfl (by decide) _ _ _ (eval_tmp x95) hown ⟨g7',0,none⟩ 1 1 (rowCells r0) (eval_tmp x97) (by rw [rowCells_length]) (news_blk hblk) (rowCells_one r0) (by rw [hl1.out];unfold maxLen;omega) (by rw [hl1.out];omega) hBs.bel.size ?_
            intro v' w9 ho hg hat
            refine hK _ _ (fun h=>by cases h) ?_
            show InsJ _ _ _ _ _ _ (u 5) (u 7) _ (u 13) _ _ _ _ _ _
            rw [l5,l7,n13]
            show InsJ _ [_,_,.box _ _ [if u 15 then _ else _,_],_,_,_,_] _ _ _ _ _ _ _ _ _ _ _ _ _ _
            rw [n15]
            exact hJh.out.app8 ho hg hat
           | 9,_,ho,hli,hK=>
            obtain rfl:=sj ho
            clear hv hwas
            go_simp
            exact hK _ _ (fun _=>rfl) hJ
           | 10,_,ho,hli,hK=>
            obtain rfl:=sj ho
            have x99:act.tmps[99]?.getD undef=.pointer (some ⟨bb+1+1,0,none⟩):=hv 9 99 rfl (rb hd rfl)
            have n15:=hsh.not (i:=15) (j:=13) (by rfl) (hsh.not (i:=13) (j:=12) (by rfl) (hsh.not (i:=12) (j:=10) (by rfl) hli))
            have hBs:=hJ.base
            rw [n15] at hBs
            have q0:=hBs.cell 2 0 rfl rfl
            clear hv hwas hBs
            go_simp
            exact hK _ _ (fun _=>rfl) hJ
           | 11,_,ho,hli,hK=>
            obtain rfl:=sj ho
            clear hv hwas
            go_simp
            exact hK _ _ (fun _=>rfl) hJ
           | 12,_,ho,hli,hK=>
            obtain rfl:=sj ho
            have x100:act.tmps[100]?.getD undef=.slice (some ⟨gr,0,none⟩) R.length cr:=hv 10 100 rfl (rb hd rfl)
            have x101:act.tmps[101]?.getD undef=.int .i64 (n:Int):=hv 11 101 rfl (rb hd rfl)
            clear hv hwas
            go_simp
            exact hK _ _ (fun _=>rfl) hJ
           | 13,_,ho,hli,hK=>
            obtain rfl:=sj ho
            have x98:act.tmps[98]?.getD undef=vs 8:=hv 8 98 rfl (rb hd rfl)
            have x102:act.tmps[102]?.getD undef=.slice (if cr=n then some ⟨gr,0,none⟩ else some ⟨gr,n*11,none⟩) (R.length-n) (cr-n):=hv 12 102 rfl (rb hd rfl)
            have l8:u 8=true:=by simp [Region.binds] at hd;simp [hd]
            have n15:=hsh.not (i:=15) (j:=13) (by rfl) hli
            rw [hli,l8,n15] at hJ
            have hBs:=hJ.base
            have hown:=hJ.own8
            have hJh:=Lib.hid hJ
            obtain ⟨hi0,hz0a,hz0b,hz0c⟩:_∧_∧_∧_:=⟨hi0h.out,hz0ah.out,hz0bh.out,hz0ch.out⟩
            clear hv hwas hJ
            have hll:(L1++[r0]).length=n+1:=by rw [List.length_append,hl1.out];rfl
            refine oper_append_or (.tmp 98) (.tmp 102) 62 rfl w.heap.size 114 i0' (.agg #[.int .i64 0,.int .i64 0,.int .i64 0,.int .i64 0,.int .i64 0,.int .i64 0,.int .i64 0,.int .i64 0,.int .i64 0,.int .i64 0,.int .i64 0]) 11 88 Tryz.underlying62 hi0 hz0a hz0b hz0c rfl (by decide) _ _ _ (eval_tmp x98) hown (if cr=n then some ⟨gr,0,none⟩ else some ⟨gr,n*11,none⟩) L2.length (cr-n) (L2.flatMap rowCells) ((eval_tmp x102).trans (by rw [hl2.out])) (fun h=>by split at h<;>cases h) (flat_length (f:=rowCells) rowCells_length L2) (fun ad e j u hu=>rows_after hBs (c:=cr) (by simp) hn2 hcaph.out e j u (by rw [← hL2.out];exact hu)) (rows_oneW L2) (by rw [hll,hl2.out];unfold maxLen;omega) (by rw [hll,hl2.out];omega) hBs.bel.size ?_
            intro v' w9 ho hg hat
            refine hK _ _ (fun h=>by cases h) ?_
            show InsJ _ _ _ _ _ _ _ _ (u 8) _ _ _ _ _ _ _
            rw [l8]
            show InsJ _ [_,_,.box _ _ [if u 15 then _ else _,_],_,_,_,_] _ _ _ _ _ _ _ _ _ _ _ _ _ _
            rw [n15]
            exact hJh.out.app13 ho hg hat
           | 14,_,ho,hli,hK=>
            obtain rfl:=sj ho
            clear hv hwas
            go_simp
            exact hK _ _ (fun _=>rfl) hJ
           | 15,_,ho,hli,hK=>
            obtain rfl:=sj ho
            have x103:act.tmps[103]?.getD undef=vs 13:=hv 13 103 rfl (rb hd rfl)
            have x104:act.tmps[104]?.getD undef=.pointer (some ⟨bb+1+1,0,none⟩):=hv 14 104 rfl (rb hd rfl)
            have l13:u 13=true:=by simp [Region.binds] at hd;simp [hd]
            have l8:u 8=true:=hsh 13 8 (by rfl) l13
            have l7:u 7=true:=hsh 8 7 (by rfl) l8
            rw [hli,l13,l7] at hJ
            obtain ⟨g9,e7,HL⟩:=hJ.last
            have q0:=HL.cell 4 0 rfl rfl
            have y0:=HL.frozen 4 0 rfl
            obtain ⟨A9,c9,e9,_,_⟩:=own_shape hJ.own13
            have hQ:=HL.set 4 0 (vs 13) rfl
            obtain ⟨n9,hn9⟩:∃ n9,n9=(L1++[r0]++L2).length:=⟨_,rfl⟩
            rw [← hn9] at e9
            rw [e9] at x103
            clear hv hwas hJ HL hn9
            go_simp
            refine hK undef _ (fun _=>rfl) ?_
            show InsJ _ _ _ _ _ _ _ (u 7) _ (u 13) _ _ _ _ _ _
            rw [l13,l7]
            refine ⟨g9,fun _=>e7,?_⟩
            rw [← e9]
            exact hQ
    ·obtain rfl:i=bs.length:=by omega
     have hk2:Hid (flatG (G.take (k+1))=rows++rs.take bs.length):=Lib.hid (by rw [hft.out,List.take_of_length_le (by have h5:bs.length=rs.length:=hlen.out;omega)])
     have H9:=Lib.hid (H.drop1 4)
     clear H
     go_wp2_with fail
     go_roundw
     case rel=>exact ⟨k+1,by omega,by go_num,Ar,cr,by rw [hk2.out,← eA];exact H9.out⟩
     case measure=>simp [intOf];omega
  ·obtain rfl:k=l.length:=by omega
   have hall:Hid (flatG (G.take l.length)=flatG G):=Lib.hid (by rw [List.take_of_length_le (by have:=hlG.out;omega)])
   rw [hall.out] at H
   obtain ⟨R,hR⟩:∃ R,Hid (R=sortK BRow.idx (flatG G)):=⟨_,Lib.hid rfl⟩
   rw [← hR.out] at H
   clear hall
   have x0:=H.cell 2 0 rfl rfl;have x1:=H.cell 2 1 rfl rfl;have x2:=H.cell 1 0 rfl rfl;have x3:=H.cell 1 1 rfl rfl
   have y2:=H.frozen 1 0 rfl;have y3:=H.frozen 1 1 rfl
   have H3:=(H.set 1 0 (.slice Ar R.length cr) rfl).set 1 1 (.slice Ag gens.length cg) rfl
   have p0:=H3.cell 1 0 rfl rfl;have p1:=H3.cell 1 1 rfl rfl
   have H4:=Lib.hid (((H3.drop1 2).drop1 1).drop1 0)
   clear H H3
   go_wp2_with fail
   refine bodyPost_ret (v:=.agg #[.slice Ar R.length cr,.slice Ag gens.length cg]) (by simp [results,Tryz.results74,go_sem,p0,p1]) rfl ⟨Ar,cr,by rw [← hR.out],by rw [← hR.out];exact H4.out⟩
end Go.Proofs.YtefdblaolmckmabGreat
