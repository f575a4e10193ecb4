/- Lemmas of the proof. -/
import Derived.BigQuiet
import Derived.Deep.QuietTactic
import Derived.Test.YtefdblaolmckmabGreatRBStoBToKg
set_option linter.unusedVariables false
set_option linter.unusedSimpArgs false
set_option maxRecDepth 100000
set_option maxHeartbeats 12800000
namespace Go.Proofs.YtefdblaolmckmabGreat
open Go.RowKit
open Brood
theorem szR:(Tryz.prog.info? 114).map (·.size)=some 11:=by kernel_rfl
theorem swapRangeR_any {α:Type} (f:α→List Value) (hf:Els f 11) (xs:List α) (a b n N:Nat) (ha:a+n≤N) (hb:b+n≤N) (hN:xs.length=N) (hl:N≤1000000000) (base g c:Nat) (cv:Value) (w:World) (hS:St f 11 114 base g c w w xs) :
  Calls Tryz.prog 169 #[.slice (some ⟨g,0,none⟩) N c,.int .i64 (a:Int),.int .i64 (b:Int),.int .i64 (n:Int),cv] w fun e w'=>e=.returned (.tuple #[])∧St f 11 114 base g c w w' (swR xs a b n):=by
 go_enter Tryz.func169,Tryz.ntmps169
 go_wp2_with fail
 go_loopw [10] (fun s wr=>∃ (i:Nat) (cur:List α),i≤n∧s=.int .i64 i∧cur.length=N∧Hid (swR cur (a+i) (b+i) (n-i)=swR xs a b n)∧St f 11 114 base g c w wr cur) (fun s _=>n-(intOf s).toNat)
 case atStart=>exact ⟨0,xs,Nat.zero_le _,rfl,hN,Lib.hid rfl,hS⟩
 case round=>
  obtain ⟨i,cur,hi,rfl,hcl,heq,hS1⟩:=hrel
  by_cases hlt:i<n
  ·obtain ⟨x,hx⟩:∃ x,cur[a+i]?=some x:=⟨_,List.getElem?_eq_getElem (by omega)⟩
   obtain ⟨y,hy⟩:∃ y,cur[b+i]?=some y:=⟨_,List.getElem?_eq_getElem (by omega)⟩
   have i0:(0:Int)≤(a:Int)+(i:Int):=by omega
   have i1:(a:Int)+(i:Int)<(N:Int):=by omega
   have i2:(0:Int)≤(b:Int)+(i:Int):=by omega
   have i3:(b:Int)+(i:Int)<(N:Int):=by omega
   have z1:IntKind.i64.wrap ((a:Int)+(i:Int))=(a:Int)+(i:Int):=by rw [IntKind.wrap_i64];omega
   have z2:IntKind.i64.wrap ((b:Int)+(i:Int))=(b:Int)+(i:Int):=by rw [IntKind.wrap_i64];omega
   go_wp2_with fail
   refine wp_region_kg mixed (by kernel_rfl) (by kernel_rfl) (fun _=>true) (tab [.slice (some ⟨g,0,none⟩) N c,.int .i64 (a:Int),.int .i64 (i:Int),.int .i64 ((a:Int)+(i:Int)),.slice (some ⟨g,0,none⟩) N c,.int .i64 (b:Int),.int .i64 (i:Int),.int .i64 ((b:Int)+(i:Int)),.slice (some ⟨g,0,none⟩) N c,.int .i64 (b:Int),.int .i64 (i:Int),.int .i64 ((b:Int)+(i:Int)),.pointer (some ⟨g,(b+i)*11,none⟩),.agg (f y).toArray,.slice (some ⟨g,0,none⟩) N c,.int .i64 (a:Int),.int .i64 (i:Int),.int .i64 ((a:Int)+(i:Int)),.pointer (some ⟨g,(a+i)*11,none⟩),.agg (f x).toArray,.pointer (some ⟨g,(a+i)*11,none⟩),undef,.pointer (some ⟨g,(b+i)*11,none⟩),undef]) (fun l w'=>St f 11 114 base g c w w' (if l 23 then (cur.set (a+i) y).set (b+i) x else if l 21 then cur.set (a+i) y else cur)∧(l 21=true→l 13=true∧l 19=true)∧(l 23=true→l 21=true)) ?_ ?_ ?_ ?_ ?_
   ·intro qq op ho
    have hiq:qq<24:=lt_of_some ho
    match qq,hiq,ho with
    | 0,_,ho | 1,_,ho | 2,_,ho | 3,_,ho | 4,_,ho | 5,_,ho | 6,_,ho | 7,_,ho | 8,_,ho | 9,_,ho | 10,_,ho | 11,_,ho | 12,_,ho | 13,_,ho | 14,_,ho | 15,_,ho | 16,_,ho | 17,_,ho | 18,_,ho | 19,_,ho | 20,_,ho | 21,_,ho | 22,_,ho | 23,_,ho=>
     obtain rfl:=sj ho
     rfl
   ·exact ⟨by simpa using hS1.drew,by simp,by simp⟩
   ·intro qq _ h;cases h
   ·intro w' l hJ hl
    have hC:=hJ.1
    simp only [hl 23 (by decide),if_true] at hC
    rw [swp_some hx hy] at hC
    rw [putAll_tab _ _ _ _ [(some 16,.slice (some ⟨g,0,none⟩) N c),(some 17,.int .i64 (a:Int)),(some 18,.int .i64 (i:Int)),(some 19,.int .i64 ((a:Int)+(i:Int))),(some 20,.slice (some ⟨g,0,none⟩) N c),(some 21,.int .i64 (b:Int)),(some 22,.int .i64 (i:Int)),(some 23,.int .i64 ((b:Int)+(i:Int))),(some 24,.slice (some ⟨g,0,none⟩) N c),(some 25,.int .i64 (b:Int)),(some 26,.int .i64 (i:Int)),(some 27,.int .i64 ((b:Int)+(i:Int))),(some 28,.pointer (some ⟨g,(b+i)*11,none⟩)),(some 29,.agg (f y).toArray),(some 30,.slice (some ⟨g,0,none⟩) N c),(some 31,.int .i64 (a:Int)),(some 32,.int .i64 (i:Int)),(some 33,.int .i64 ((a:Int)+(i:Int))),(some 34,.pointer (some ⟨g,(a+i)*11,none⟩)),(some 35,.agg (f x).toArray),(some 36,.pointer (some ⟨g,(a+i)*11,none⟩)),(none,undef),(some 37,.pointer (some ⟨g,(b+i)*11,none⟩)),(none,undef)] rfl]
    simp only [putL_eq,putT,List.set_cons_succ,List.set_cons_zero]
    go_wp2_with fail
    go_roundw
    case rel=>exact ⟨i+1,swp cur (a+i) (b+i),by omega,by go_num,by rw [swp_length];exact hcl,Lib.hid (by rw [← heq.out,show n-i=(n-(i+1))+1 by omega];rfl),hC⟩
    case measure=>simp [intOf];omega
   ·intro qq op ho hG l act w' hJ hli hd hv hwas K hK
    have e0:=hwas 0 rfl
    have e1:=hwas 1 rfl
    have e2:=hwas 2 rfl
    have e10:=hwas 10 rfl
    simp at e0 e1 e2 e10
    have hiq:qq<24:=lt_of_some ho
    match qq,hiq,ho,hG,hli,hK with
    | 0,_,ho,hG,hli,hK=>
     obtain rfl:=sj ho
     clear hv hwas
     go_simp
     exact hK _ hJ
    | 1,_,ho,hG,hli,hK=>
     obtain rfl:=sj ho
     clear hv hwas
     go_simp
     exact hK _ hJ
    | 2,_,ho,hG,hli,hK=>
     obtain rfl:=sj ho
     clear hv hwas
     go_simp
     exact hK _ hJ
    | 3,_,ho,hG,hli,hK=>
     obtain rfl:=sj ho
     have x17:act.tmps[17]?.getD undef=.int .i64 (a:Int):=hv 1 17 rfl (rb hd rfl)
     have x18:act.tmps[18]?.getD undef=.int .i64 (i:Int):=hv 2 18 rfl (rb hd rfl)
     clear hv hwas
     go_simp
     exact hK _ hJ
    | 4,_,ho,hG,hli,hK=>
     obtain rfl:=sj ho
     clear hv hwas
     go_simp
     exact hK _ hJ
    | 5,_,ho,hG,hli,hK=>
     obtain rfl:=sj ho
     clear hv hwas
     go_simp
     exact hK _ hJ
    | 6,_,ho,hG,hli,hK=>
     obtain rfl:=sj ho
     clear hv hwas
     go_simp
     exact hK _ hJ
    | 7,_,ho,hG,hli,hK=>
     obtain rfl:=sj ho
     have x21:act.tmps[21]?.getD undef=.int .i64 (b:Int):=hv 5 21 rfl (rb hd rfl)
     have x22:act.tmps[22]?.getD undef=.int .i64 (i:Int):=hv 6 22 rfl (rb hd rfl)
     clear hv hwas
     go_simp
     exact hK _ hJ
    | 8,_,ho,hG,hli,hK=>
     obtain rfl:=sj ho
     clear hv hwas
     go_simp
     exact hK _ hJ
    | 9,_,ho,hG,hli,hK=>
     obtain rfl:=sj ho
     clear hv hwas
     go_simp
     exact hK _ hJ
    | 10,_,ho,hG,hli,hK=>
     obtain rfl:=sj ho
     clear hv hwas
     go_simp
     exact hK _ hJ
    | 11,_,ho,hG,hli,hK=>
     obtain rfl:=sj ho
     have x25:act.tmps[25]?.getD undef=.int .i64 (b:Int):=hv 9 25 rfl (rb hd rfl)
     have x26:act.tmps[26]?.getD undef=.int .i64 (i:Int):=hv 10 26 rfl (rb hd rfl)
     clear hv hwas
     go_simp
     exact hK _ hJ
    | 12,_,ho,hG,hli,hK=>
     obtain rfl:=sj ho
     have x24:act.tmps[24]?.getD undef=.slice (some ⟨g,0,none⟩) N c:=hv 8 24 rfl (rb hd rfl)
     have x27:act.tmps[27]?.getD undef=.int .i64 ((b:Int)+(i:Int)):=hv 11 27 rfl (rb hd rfl)
     clear hv hwas
     go_simp
     exact hK _ hJ
    | 13,_,ho,hG,hli,hK=>
     obtain rfl:=sj ho
     have x28:act.tmps[28]?.getD undef=.pointer (some ⟨g,(b+i)*11,none⟩):=hv 12 28 rfl (rb hd rfl)
     have lS1:l 21=false:=by
      cases h:l 21 with
      | false=>rfl
      | true=>exact absurd (hJ.2.1 h) (by simp [hli])
     have lS2:l 23=false:=by
      cases h:l 23 with
      | false=>rfl
      | true=>rw [hJ.2.2 h] at lS1;cases lS1
     have hC:=hJ.1
     simp only [lS1,lS2,Bool.false_eq_true,if_false] at hC
     refine wp_load_mid _ _ rfl g ((b+i)*11) (by simpa [Act.eval] using x28) (f y) _ (hC.range hf hy) Tryz.underlying114 rfl (by rw [hf.len];exact szR) ?_
     exact hK _ ⟨by simpa [upd] using hJ.1,by intro h;have h2:=hJ.2.1 (by simpa [upd] using h);simp [upd,h2],by simpa [upd] using hJ.2.2⟩
    | 14,_,ho,hG,hli,hK=>
     obtain rfl:=sj ho
     clear hv hwas
     go_simp
     exact hK _ hJ
    | 15,_,ho,hG,hli,hK=>
     obtain rfl:=sj ho
     clear hv hwas
     go_simp
     exact hK _ hJ
    | 16,_,ho,hG,hli,hK=>
     obtain rfl:=sj ho
     clear hv hwas
     go_simp
     exact hK _ hJ
    | 17,_,ho,hG,hli,hK=>
     obtain rfl:=sj ho
     have x31:act.tmps[31]?.getD undef=.int .i64 (a:Int):=hv 15 31 rfl (rb hd rfl)
     have x32:act.tmps[32]?.getD undef=.int .i64 (i:Int):=hv 16 32 rfl (rb hd rfl)
     clear hv hwas
     go_simp
     exact hK _ hJ
    | 18,_,ho,hG,hli,hK=>
     obtain rfl:=sj ho
     have x30:act.tmps[30]?.getD undef=.slice (some ⟨g,0,none⟩) N c:=hv 14 30 rfl (rb hd rfl)
     have x33:act.tmps[33]?.getD undef=.int .i64 ((a:Int)+(i:Int)):=hv 17 33 rfl (rb hd rfl)
     clear hv hwas
     go_simp
     exact hK _ hJ
    | 19,_,ho,hG,hli,hK=>
     obtain rfl:=sj ho
     have x34:act.tmps[34]?.getD undef=.pointer (some ⟨g,(a+i)*11,none⟩):=hv 18 34 rfl (rb hd rfl)
     have lS1:l 21=false:=by
      cases h:l 21 with
      | false=>rfl
      | true=>exact absurd (hJ.2.1 h) (by simp [hli])
     have lS2:l 23=false:=by
      cases h:l 23 with
      | false=>rfl
      | true=>rw [hJ.2.2 h] at lS1;cases lS1
     have hC:=hJ.1
     simp only [lS1,lS2,Bool.false_eq_true,if_false] at hC
     refine wp_load_mid _ _ rfl g ((a+i)*11) (by simpa [Act.eval] using x34) (f x) _ (hC.range hf hx) Tryz.underlying114 rfl (by rw [hf.len];exact szR) ?_
     exact hK _ ⟨by simpa [upd] using hJ.1,by intro h;have h2:=hJ.2.1 (by simpa [upd] using h);simp [upd,h2],by simpa [upd] using hJ.2.2⟩
    | 20,_,ho,hG,hli,hK=>
     obtain rfl:=sj ho
     have x16:act.tmps[16]?.getD undef=.slice (some ⟨g,0,none⟩) N c:=hv 0 16 rfl (rb hd rfl)
     have x19:act.tmps[19]?.getD undef=.int .i64 ((a:Int)+(i:Int)):=hv 3 19 rfl (rb hd rfl)
     clear hv hwas
     go_simp
     exact hK _ hJ
    | 21,_,ho,hG,hli,hK=>
     obtain rfl:=sj ho
     have x29:act.tmps[29]?.getD undef=.agg (f y).toArray:=hv 13 29 rfl (rb hd rfl)
     have x36:act.tmps[36]?.getD undef=.pointer (some ⟨g,(a+i)*11,none⟩):=hv 20 36 rfl (rb hd rfl)
     have hd2:l 13=true∧l 19=true:=by simp [Region.binds] at hd;simp [hd]
     have lS2:l 23=false:=by
      cases h:l 23 with
      | false=>rfl
      | true=>rw [hJ.2.2 h] at hli;cases hli
     have hC:=hJ.1
     simp only [hli,lS2,Bool.false_eq_true,if_false] at hC
     refine wp_store_mid _ _ _ rfl g ((a+i)*11) (f y).toArray (by simpa [Act.eval] using x36) (by simpa [Act.eval] using x29) (by simpa [hf.len] using hC.there hf (show a+i<cur.length by omega)) (by simp only [List.size_toArray];rw [hf.len];exact szR) (all_oneCell_toArray (hf.one y)) ?_
     refine hK _ ⟨?_,by intro _;simp [upd,hd2],by simp [upd,lS2]⟩
     have:=hC.set hf (show a+i<cur.length by omega) y
     simpa [upd,lS2] using this
    | 22,_,ho,hG,hli,hK=>
     obtain rfl:=sj ho
     have x20:act.tmps[20]?.getD undef=.slice (some ⟨g,0,none⟩) N c:=hv 4 20 rfl (rb hd rfl)
     have x23:act.tmps[23]?.getD undef=.int .i64 ((b:Int)+(i:Int)):=hv 7 23 rfl (rb hd rfl)
     clear hv hwas
     go_simp
     exact hK _ hJ
    | 23,_,ho,hG,hli,hK=>
     obtain rfl:=sj ho
     have x35:act.tmps[35]?.getD undef=.agg (f x).toArray:=hv 19 35 rfl (rb hd rfl)
     have x37:act.tmps[37]?.getD undef=.pointer (some ⟨g,(b+i)*11,none⟩):=hv 22 37 rfl (rb hd rfl)
     have hd2:l 21=true:=by simp [Region.binds] at hd;simp [hd]
     have hC:=hJ.1
     simp only [hli,hd2,Bool.false_eq_true,if_false,if_true] at hC
     refine wp_store_mid _ _ _ rfl g ((b+i)*11) (f x).toArray (by simpa [Act.eval] using x37) (by simpa [Act.eval] using x35) (by simpa [hf.len] using hC.there hf (show b+i<(cur.set (a+i) y).length by rw [List.length_set];omega)) (by simp only [List.size_toArray];rw [hf.len];exact szR) (all_oneCell_toArray (hf.one x)) ?_
     refine hK _ ⟨?_,by intro _;simp [upd,hJ.2.1 hd2],by intro _;simp [upd,hd2]⟩
     have:=hC.set hf (show b+i<(cur.set (a+i) y).length by rw [List.length_set];omega) x
     simpa [upd] using this
  ·obtain rfl:i=n:=by omega
   go_wp2_with fail
   go_end0
   refine ⟨rfl,?_⟩
   have:=heq.out
   rw [Nat.sub_self] at this
   rw [← this]
   exact hS1
theorem rotateR_any {α:Type} (f:α→List Value) (hf:Els f 11) (P U V Q xs:List α) (hx:xs=P++U++V++Q) (a m b N:Nat) (ha:a=P.length) (hm:m=a+U.length) (hb:b=m+V.length) (h1:a<m) (h2:m<b) (hN:xs.length=N) (hl:N≤1000000000) (base g c:Nat) (cv:Value) (w:World) (hS:St f 11 114 base g c w w xs) :
  Calls Tryz.prog 163 #[.slice (some ⟨g,0,none⟩) N c,.int .i64 (a:Int),.int .i64 (m:Int),.int .i64 (b:Int),cv] w fun e w'=>e=.returned (.tuple #[])∧St f 11 114 base g c w w' (P++V++U++Q):=by
 have hR:Hid (RotI (P++V++U++Q) m (m-a) (b-m) xs):=Lib.hid (by rw [hx];exact RotI.start ha hm hb h1 h2)
 have hbl:b≤N:=by rw [← hN,hx];simp;omega
 clear ha hm hb hx
 go_enter Tryz.func163,Tryz.ntmps163
 go_wp2_with fail
 go_loopw [10,11] (fun s t wr=>∃ (i j:Nat) (cur:List α),s=.int .i64 i∧t=.int .i64 j∧cur.length=N∧Hid (RotI (P++V++U++Q) m i j cur)∧St f 11 114 base g c w wr cur) (fun s t _=>(intOf s).toNat+(intOf t).toNat)
 case atStart=>exact ⟨m-a,b-m,xs,by congr 1;omega,by congr 1;omega,hN,hR,hS⟩
 case round=>
  obtain ⟨i,j,cur,rfl,rfl,hcl,hI,hS1⟩:=hrel
  obtain ⟨l1,l2,l3,l4⟩:=hI.out.low
  have hmi:(m:Int)-(i:Int)=((m-i:Nat):Int):=by omega
  have hmj:(m:Int)+(j:Int)-(i:Int)=((m+j-i:Nat):Int):=by omega
  rcases Nat.lt_trichotomy i j with hij | hij | hij
  ·go_wp2_with fail
   refine (swapRangeR_any f hf cur (m-i) (m+j-i) i N (by omega) (by omega) hcl hl base g c cv wr hS1.self).mono ?_
   rintro e w1 ⟨rfl,hS2⟩
   go_wp2_with fail
   go_roundw
   case rel=>exact ⟨i,j-i,_,rfl,by congr 1;omega,by rw [swR_length];exact hcl,Lib.hid (hI.out.right hij),hS1.trans hS2⟩
   case measure=>simp [intOf];omega
  ·subst hij
   go_wp2_with fail
   refine (swapRangeR_any f hf cur (m-i) m i N (by omega) (by omega) hcl hl base g c cv wr hS1.self).mono ?_
   rintro e w1 ⟨rfl,hS2⟩
   go_wp2_with fail
   go_end0
   refine ⟨rfl,?_⟩
   rw [← hI.out.last]
   exact hS1.trans hS2
  ·go_wp2_with fail
   refine (swapRangeR_any f hf cur (m-i) m j N (by omega) (by omega) hcl hl base g c cv wr hS1.self).mono ?_
   rintro e w1 ⟨rfl,hS2⟩
   go_wp2_with fail
   go_roundw
   case rel=>exact ⟨i-j,j,_,by congr 1;omega,rfl,by rw [swR_length];exact hcl,Lib.hid (hI.out.left hij),hS1.trans hS2⟩
   case measure=>simp [intOf];omega
open Go.RowKit
open Brood
theorem insertionR_any {α:Type} (f:α→List Value) (hf:Els f 11) (key:α→Int) (F:FuncId) (hF:CmpF f key F) (xs:List α) (a b N:Nat) (hab:a≤b) (hb:b≤N) (hN:xs.length=N) (hl:N≤1000000000) (base g c:Nat) (w:World) (hS:St f 11 114 base g c w w xs) :
  Calls Tryz.prog 141 #[.slice (some ⟨g,0,none⟩) N c,.int .i64 (a:Int),.int .i64 (b:Int),.func (.func F) #[] #[]] w fun e w'=>e=.returned (.tuple #[])∧∃ ys,PartI key a b xs ys∧St f 11 114 base g c w w' ys:=by
 go_enter Tryz.func141,Tryz.ntmps141
 go_wp2_with fail
 go_loopw [8] (fun s wr=>∃ (i:Nat) (cur:List α),a<i∧(i≤b∨i=a+1)∧s=.int .i64 i∧Hid (PartI key a (min i b) xs cur)∧St f 11 114 base g c w wr cur) (fun s _=>b-(intOf s).toNat)
 case atStart=>exact ⟨a+1,xs,by omega,.inr rfl,by go_num,Lib.hid (PartI.first hab (by omega)),hS⟩
 case round=>
  obtain ⟨i,cur0,hai,hib,rfl,hp,hS1⟩:=hrel
  by_cases hlt:i<b
  ·obtain ⟨P,L,x,Q,hcur0,hP,hL,hsrt,hnext⟩:=PartI.opens (by have:=hp.out;rwa [Nat.min_eq_left (Nat.le_of_lt hlt)] at this) (show i<xs.length by omega) (show a≤i by omega)
   have hnexth:=Lib.hid hnext
   have hsrth:=Lib.hid hsrt
   have hlen:P.length+L.length+1+Q.length=N:=by have:=hp.out.len;rw [hcur0] at this;simp at this;omega
   have hS1':St f 11 114 base g c w wr (atJ P L Q x i):=by rw [← hL,atJ_end,← hcur0];exact hS1
   clear hnext hsrt hS1 hcur0 hp
   go_wp2_with fail
   go_loopw [9] (fun s wr2=>∃ j:Nat,a≤j∧j≤i∧s=.int .i64 j∧Hid (∀ t y,j-a≤t→L[t]?=some y→key x<key y)∧St f 11 114 base g c w wr2 (atJ P L Q x j)) (fun s _=>(intOf s).toNat)
   case atStart=>exact ⟨i,by omega,Nat.le_refl _,rfl,Lib.hid (fun t y ht hy=>by have:=(List.getElem?_eq_some_iff.1 hy).1;omega),hS1'⟩
   case round=>
   clear hS1'
   obtain ⟨j,hj1,hj2,rfl,hup,hS2⟩:=hrel
   by_cases hj:a<j
   ·obtain ⟨q,rfl⟩:∃ q,j=q+1:=⟨j-1,by omega⟩
    obtain ⟨y,hy⟩:∃ y,L[q-a]?=some y:=⟨_,List.getElem?_eq_getElem (by omega)⟩
    have hx1:(atJ P L Q x (q+1))[q+1]?=some x:=atJ_at (by omega) (by omega)
    have hy1:(atJ P L Q x (q+1))[q]?=some y:=by
     have:=atJ_ahead (P:=P) (L:=L) (S:=Q) (x:=x) (j:=q+1) (by omega) (by omega)
     rw [Nat.add_sub_cancel] at this
     rw [this,hP];exact hy
    have hnextq:Hid (¬ key x<key y→PartI key a (i+1) xs (atJ P L Q x (q+1))):=Lib.hid (fun hk=>by
     rw [show q+1=P.length+(q+1-a) by omega,atJ_eq]
     refine hnexth.out (q+1-a) (fun t z ht hz=>?_) (fun t z ht hz=>hup.out t z ht hz)
     have:=hsrth.out.at_ hz hy (by omega)
     omega)
    obtain ⟨cur,hcur⟩:∃ cur,cur=atJ P L Q x (q+1):=⟨_,rfl⟩
    have hcl:cur.length=N:=by rw [hcur,atJ_length];omega
    rw [← hcur] at hx1 hy1 hnextq hS2
    rw [show (((q+1:Nat)):Int)=(q:Int)+1 from rfl]
    have i0:(0:Int)≤(q:Int)+1:=by omega
    have i1:(q:Int)+1<(N:Int):=by omega
    have i2:(a:Int)<(q:Int)+1:=by omega
    have i3:(q:Int)<(N:Int):=by omega
    have z1:IntKind.i64.wrap ((q:Int)+1)=(q:Int)+1:=by rw [IntKind.wrap_i64];omega
    have z2:IntKind.i64.wrap (q:Int)=(q:Int):=by rw [IntKind.wrap_i64];omega
    have z3:(q:Int)+1-1=(q:Int):=by omega
    go_wp2_with fail
    refine wp_region_kg mixed (by kernel_rfl) (by kernel_rfl) (fun _=>true) (tab [.int .i64 ((q:Int)+1),.int .i64 (a:Int),.bool true,.bool true,.func (.func F) #[] #[],.slice (some ⟨g,0,none⟩) N c,.int .i64 ((q:Int)+1),.pointer (some ⟨g,(q+1)*11,none⟩),.agg (f x).toArray,.slice (some ⟨g,0,none⟩) N c,.int .i64 ((q:Int)+1),.int .i64 (q:Int),.pointer (some ⟨g,q*11,none⟩),.agg (f y).toArray,.int .i64 (cmpI (key x) (key y)),.bool (decide (cmpI (key x) (key y)<0)),.bool (decide (cmpI (key x) (key y)<0))]) (fun l w'=>St f 11 114 base g c w w' cur) ?_ ?_ ?_ ?_ ?_
    ·intro qq op ho
     have hiq:qq<17:=lt_of_some ho
     match qq,hiq,ho with
     | 0,_,ho | 1,_,ho | 2,_,ho | 3,_,ho | 4,_,ho | 5,_,ho | 6,_,ho | 7,_,ho | 8,_,ho | 9,_,ho | 10,_,ho | 11,_,ho | 12,_,ho | 13,_,ho | 14,_,ho | 15,_,ho | 16,_,ho=>
      obtain rfl:=sj ho
      rfl
    ·exact hS2.drew
    ·intro qq _ h;cases h
    ·intro w' l hJ hl
     rw [putAll_tab _ _ _ _ [(some 18,.int .i64 ((q:Int)+1)),(some 19,.int .i64 (a:Int)),(some 20,.bool true),(some 21,.bool true),(some 22,.func (.func F) #[] #[]),(some 23,.slice (some ⟨g,0,none⟩) N c),(some 24,.int .i64 ((q:Int)+1)),(some 25,.pointer (some ⟨g,(q+1)*11,none⟩)),(some 26,.agg (f x).toArray),(some 27,.slice (some ⟨g,0,none⟩) N c),(some 28,.int .i64 ((q:Int)+1)),(some 29,.int .i64 (q:Int)),(some 30,.pointer (some ⟨g,q*11,none⟩)),(some 31,.agg (f y).toArray),(some 32,.int .i64 (cmpI (key x) (key y))),(some 33,.bool (decide (cmpI (key x) (key y)<0))),(some 34,.bool (decide (cmpI (key x) (key y)<0)))] rfl]
     simp only [putL_eq,putT,List.set_cons_succ,List.set_cons_zero]
     have hS9:=hJ
     clear hl
     by_cases hk:key x<key y
     ·have hCn:cmpI (key x) (key y)<0:=cmpI_neg.2 hk
      clear hJ
      go_wp2_with fail
      refine wp_region_kg mixed (by kernel_rfl) (by kernel_rfl) (fun _=>true) (tab [.slice (some ⟨g,0,none⟩) N c,.int .i64 ((q:Int)+1),.slice (some ⟨g,0,none⟩) N c,.int .i64 ((q:Int)+1),.int .i64 (q:Int),.slice (some ⟨g,0,none⟩) N c,.int .i64 ((q:Int)+1),.int .i64 (q:Int),.pointer (some ⟨g,q*11,none⟩),.agg (f y).toArray,.slice (some ⟨g,0,none⟩) N c,.int .i64 ((q:Int)+1),.pointer (some ⟨g,(q+1)*11,none⟩),.agg (f x).toArray,.pointer (some ⟨g,(q+1)*11,none⟩),undef,.pointer (some ⟨g,q*11,none⟩),undef]) (fun l w'=>St f 11 114 base g c w w' (if l 17 then (cur.set (q+1) y).set (q) x else if l 15 then cur.set (q+1) y else cur)∧(l 15=true→l 9=true∧l 13=true)∧(l 17=true→l 15=true)) ?_ ?_ ?_ ?_ ?_
      ·intro qq op ho
       have hiq:qq<18:=lt_of_some ho
       match qq,hiq,ho with
       | 0,_,ho | 1,_,ho | 2,_,ho | 3,_,ho | 4,_,ho | 5,_,ho | 6,_,ho | 7,_,ho | 8,_,ho | 9,_,ho | 10,_,ho | 11,_,ho | 12,_,ho | 13,_,ho | 14,_,ho | 15,_,ho | 16,_,ho | 17,_,ho=>
        obtain rfl:=sj ho
        rfl
      ·exact ⟨by simpa using hS9.drew,by simp,by simp⟩
      ·intro qq _ h;cases h
      ·intro w' l hJ hl
       have hC:=hJ.1
       simp only [hl 17 (by decide),if_true] at hC
       rw [swp_some hx1 hy1] at hC
       rw [putAll_tab _ _ _ _ [(some 37,.slice (some ⟨g,0,none⟩) N c),(some 38,.int .i64 ((q:Int)+1)),(some 39,.slice (some ⟨g,0,none⟩) N c),(some 40,.int .i64 ((q:Int)+1)),(some 41,.int .i64 (q:Int)),(some 42,.slice (some ⟨g,0,none⟩) N c),(some 43,.int .i64 ((q:Int)+1)),(some 44,.int .i64 (q:Int)),(some 45,.pointer (some ⟨g,q*11,none⟩)),(some 46,.agg (f y).toArray),(some 47,.slice (some ⟨g,0,none⟩) N c),(some 48,.int .i64 ((q:Int)+1)),(some 49,.pointer (some ⟨g,(q+1)*11,none⟩)),(some 50,.agg (f x).toArray),(some 51,.pointer (some ⟨g,(q+1)*11,none⟩)),(none,undef),(some 52,.pointer (some ⟨g,q*11,none⟩)),(none,undef)] rfl]
       simp only [putL_eq,putT,List.set_cons_succ,List.set_cons_zero]
       go_wp2_with fail
       go_roundw
       case rel=>exact ⟨q,by omega,by omega,rfl,Lib.hid (by
        intro t z ht hz
        rcases Nat.lt_or_ge (q-a) t with h' | h'
        ·exact hup.out t z (by omega) hz
        ·obtain rfl:t=q-a:=by omega
         rw [hy] at hz
         injection hz with hz
         subst hz
         exact hk),by rw [hcur] at hC;rw [show q=q+1-1 by omega,← atJ_down (by omega) (by omega)];exact hC⟩
       case measure=>simp [intOf]
      ·intro qq op ho hG l act w' hJ hli hd hv hwas K hK
       have e0:=hwas 0 rfl
       have e9:=hwas 9 rfl
       simp at e0 e9
       have hiq:qq<18:=lt_of_some ho
       match qq,hiq,ho,hG,hli,hK with
       | 0,_,ho,hG,hli,hK=>
        obtain rfl:=sj ho
        clear hv hwas
        go_simp
        exact hK _ hJ
       | 1,_,ho,hG,hli,hK=>
        obtain rfl:=sj ho
        clear hv hwas
        go_simp
        exact hK _ hJ
       | 2,_,ho,hG,hli,hK=>
        obtain rfl:=sj ho
        clear hv hwas
        go_simp
        exact hK _ hJ
       | 3,_,ho,hG,hli,hK=>
        obtain rfl:=sj ho
        clear hv hwas
        go_simp
        exact hK _ hJ
       | 4,_,ho,hG,hli,hK=>
        obtain rfl:=sj ho
        have x40:act.tmps[40]?.getD undef=.int .i64 ((q:Int)+1):=hv 3 40 rfl (rb hd rfl)
        clear hv hwas
        go_simp
        exact hK _ hJ
       | 5,_,ho,hG,hli,hK=>
        obtain rfl:=sj ho
        clear hv hwas
        go_simp
        exact hK _ hJ
       | 6,_,ho,hG,hli,hK=>
        obtain rfl:=sj ho
        clear hv hwas
        go_simp
        exact hK _ hJ
       | 7,_,ho,hG,hli,hK=>
        obtain rfl:=sj ho
        have x43:act.tmps[43]?.getD undef=.int .i64 ((q:Int)+1):=hv 6 43 rfl (rb hd rfl)
        clear hv hwas
        go_simp
        exact hK _ hJ
       | 8,_,ho,hG,hli,hK=>
        obtain rfl:=sj ho
        have x42:act.tmps[42]?.getD undef=.slice (some ⟨g,0,none⟩) N c:=hv 5 42 rfl (rb hd rfl)
        have x44:act.tmps[44]?.getD undef=.int .i64 (q:Int):=hv 7 44 rfl (rb hd rfl)
        clear hv hwas
        go_simp
        exact hK _ hJ
       | 9,_,ho,hG,hli,hK=>
        obtain rfl:=sj ho
        have x45:act.tmps[45]?.getD undef=.pointer (some ⟨g,q*11,none⟩):=hv 8 45 rfl (rb hd rfl)
        have lS1:l 15=false:=by
         cases h:l 15 with
         | false=>rfl
         | true=>exact absurd (hJ.2.1 h) (by simp [hli])
        have lS2:l 17=false:=by
         cases h:l 17 with
         | false=>rfl
         | true=>rw [hJ.2.2 h] at lS1;cases lS1
        have hC:=hJ.1
        simp only [lS1,lS2,Bool.false_eq_true,if_false] at hC
        refine wp_load_mid _ _ rfl g (q*11) (by simpa [Act.eval] using x45) (f y) _ (hC.range hf hy1) Tryz.underlying114 rfl (by rw [hf.len];exact szR) ?_
        exact hK _ ⟨by simpa [upd] using hJ.1,by intro h;have h2:=hJ.2.1 (by simpa [upd] using h);simp [upd,h2],by simpa [upd] using hJ.2.2⟩
       | 10,_,ho,hG,hli,hK=>
        obtain rfl:=sj ho
        clear hv hwas
        go_simp
        exact hK _ hJ
       | 11,_,ho,hG,hli,hK=>
        obtain rfl:=sj ho
        clear hv hwas
        go_simp
        exact hK _ hJ
       | 12,_,ho,hG,hli,hK=>
        obtain rfl:=sj ho
        have x47:act.tmps[47]?.getD undef=.slice (some ⟨g,0,none⟩) N c:=hv 10 47 rfl (rb hd rfl)
        have x48:act.tmps[48]?.getD undef=.int .i64 ((q:Int)+1):=hv 11 48 rfl (rb hd rfl)
        clear hv hwas
        go_simp
        exact hK _ hJ
       | 13,_,ho,hG,hli,hK=>
        obtain rfl:=sj ho
        have x49:act.tmps[49]?.getD undef=.pointer (some ⟨g,(q+1)*11,none⟩):=hv 12 49 rfl (rb hd rfl)
        have lS1:l 15=false:=by
         cases h:l 15 with
         | false=>rfl
         | true=>exact absurd (hJ.2.1 h) (by simp [hli])
        have lS2:l 17=false:=by
         cases h:l 17 with
         | false=>rfl
         | true=>rw [hJ.2.2 h] at lS1;cases lS1
        have hC:=hJ.1
        simp only [lS1,lS2,Bool.false_eq_true,if_false] at hC
        refine wp_load_mid _ _ rfl g ((q+1)*11) (by simpa [Act.eval] using x49) (f x) _ (hC.range hf hx1) Tryz.underlying114 rfl (by rw [hf.len];exact szR) ?_
        exact hK _ ⟨by simpa [upd] using hJ.1,by intro h;have h2:=hJ.2.1 (by simpa [upd] using h);simp [upd,h2],by simpa [upd] using hJ.2.2⟩
       | 14,_,ho,hG,hli,hK=>
        obtain rfl:=sj ho
        have x37:act.tmps[37]?.getD undef=.slice (some ⟨g,0,none⟩) N c:=hv 0 37 rfl (rb hd rfl)
        have x38:act.tmps[38]?.getD undef=.int .i64 ((q:Int)+1):=hv 1 38 rfl (rb hd rfl)
        clear hv hwas
        go_simp
        exact hK _ hJ
       | 15,_,ho,hG,hli,hK=>
        obtain rfl:=sj ho
        have x46:act.tmps[46]?.getD undef=.agg (f y).toArray:=hv 9 46 rfl (rb hd rfl)
        have x51:act.tmps[51]?.getD undef=.pointer (some ⟨g,(q+1)*11,none⟩):=hv 14 51 rfl (rb hd rfl)
        have hd2:l 9=true∧l 13=true:=by simp [Region.binds] at hd;simp [hd]
        have lS2:l 17=false:=by
         cases h:l 17 with
         | false=>rfl
         | true=>rw [hJ.2.2 h] at hli;cases hli
        have hC:=hJ.1
        simp only [hli,lS2,Bool.false_eq_true,if_false] at hC
        refine wp_store_mid _ _ _ rfl g ((q+1)*11) (f y).toArray (by simpa [Act.eval] using x51) (by simpa [Act.eval] using x46) (by simpa [hf.len] using hC.there hf (show q+1<cur.length by omega)) (by simp only [List.size_toArray];rw [hf.len];exact szR) (all_oneCell_toArray (hf.one y)) ?_
        refine hK _ ⟨?_,by intro _;simp [upd,hd2],by simp [upd,lS2]⟩
        have:=hC.set hf (show q+1<cur.length by omega) y
        simpa [upd,lS2] using this
       | 16,_,ho,hG,hli,hK=>
        obtain rfl:=sj ho
        have x39:act.tmps[39]?.getD undef=.slice (some ⟨g,0,none⟩) N c:=hv 2 39 rfl (rb hd rfl)
        have x41:act.tmps[41]?.getD undef=.int .i64 (q:Int):=hv 4 41 rfl (rb hd rfl)
        clear hv hwas
        go_simp
        exact hK _ hJ
       | 17,_,ho,hG,hli,hK=>
        obtain rfl:=sj ho
        have x50:act.tmps[50]?.getD undef=.agg (f x).toArray:=hv 13 50 rfl (rb hd rfl)
        have x52:act.tmps[52]?.getD undef=.pointer (some ⟨g,q*11,none⟩):=hv 16 52 rfl (rb hd rfl)
        have hd2:l 15=true:=by simp [Region.binds] at hd;simp [hd]
        have hC:=hJ.1
        simp only [hli,hd2,Bool.false_eq_true,if_false,if_true] at hC
        refine wp_store_mid _ _ _ rfl g (q*11) (f x).toArray (by simpa [Act.eval] using x52) (by simpa [Act.eval] using x50) (by simpa [hf.len] using hC.there hf (show q<(cur.set (q+1) y).length by rw [List.length_set];omega)) (by simp only [List.size_toArray];rw [hf.len];exact szR) (all_oneCell_toArray (hf.one x)) ?_
        refine hK _ ⟨?_,by intro _;simp [upd,hJ.2.1 hd2],by intro _;simp [upd,hd2]⟩
        have:=hC.set hf (show q<(cur.set (q+1) y).length by rw [List.length_set];omega) x
        simpa [upd] using this
     ·have hCn:¬ cmpI (key x) (key y)<0:=fun h=>hk (cmpI_neg.1 h)
      clear hJ
      go_wp2_with fail
      go_roundw
      case rel=>exact ⟨i+1,cur,by omega,by omega,by go_num,Lib.hid (by rw [Nat.min_eq_left (show i+1≤b by omega)];exact hnextq.out (by omega)),hS9⟩
      case measure=>simp [intOf];omega
    ·intro qq op ho hG l act w' hJ hli hd hv hwas K hK
     have e0:=hwas 0 rfl
     have e1:=hwas 1 rfl
     have e3:=hwas 3 rfl
     have e9:=hwas 9 rfl
     simp at e0 e1 e3 e9
     have hiq:qq<17:=lt_of_some ho
     match qq,hiq,ho,hG,hli,hK with
     | 0,_,ho,hG,hli,hK=>
      obtain rfl:=sj ho
      clear hv hwas
      go_simp
      exact hK _ hJ
     | 1,_,ho,hG,hli,hK=>
      obtain rfl:=sj ho
      clear hv hwas
      go_simp
      exact hK _ hJ
     | 2,_,ho,hG,hli,hK=>
      obtain rfl:=sj ho
      have x18:act.tmps[18]?.getD undef=.int .i64 ((q:Int)+1):=hv 0 18 rfl (rb hd rfl)
      have x19:act.tmps[19]?.getD undef=.int .i64 (a:Int):=hv 1 19 rfl (rb hd rfl)
      clear hv hwas
      go_simp
      exact hK _ hJ
     | 3,_,ho,hG,hli,hK=>
      obtain rfl:=sj ho
      have x20:act.tmps[20]?.getD undef=.bool true:=hv 2 20 rfl (rb hd rfl)
      clear hv hwas
      go_simp
      exact hK _ hJ
     | 4,_,ho,hG,hli,hK=>
      obtain rfl:=sj ho
      clear hv hwas
      go_simp
      exact hK _ hJ
     | 5,_,ho,hG,hli,hK=>
      obtain rfl:=sj ho
      clear hv hwas
      go_simp
      exact hK _ hJ
     | 6,_,ho,hG,hli,hK=>
      obtain rfl:=sj ho
      clear hv hwas
      go_simp
      exact hK _ hJ
     | 7,_,ho,hG,hli,hK=>
      obtain rfl:=sj ho
      have x23:act.tmps[23]?.getD undef=.slice (some ⟨g,0,none⟩) N c:=hv 5 23 rfl (rb hd rfl)
      have x24:act.tmps[24]?.getD undef=.int .i64 ((q:Int)+1):=hv 6 24 rfl (rb hd rfl)
      clear hv hwas
      go_simp
      exact hK _ hJ
     | 8,_,ho,hG,hli,hK=>
      obtain rfl:=sj ho
      have x25:act.tmps[25]?.getD undef=.pointer (some ⟨g,(q+1)*11,none⟩):=hv 7 25 rfl (rb hd rfl)
      refine wp_load_mid _ _ rfl g ((q+1)*11) (by simpa [Act.eval] using x25) (f x) _ (hJ.range hf hx1) Tryz.underlying114 rfl (by rw [hf.len];exact szR) ?_
      exact hK _ hJ
     | 9,_,ho,hG,hli,hK=>
      obtain rfl:=sj ho
      clear hv hwas
      go_simp
      exact hK _ hJ
     | 10,_,ho,hG,hli,hK=>
      obtain rfl:=sj ho
      clear hv hwas
      go_simp
      exact hK _ hJ
     | 11,_,ho,hG,hli,hK=>
      obtain rfl:=sj ho
      have x28:act.tmps[28]?.getD undef=.int .i64 ((q:Int)+1):=hv 10 28 rfl (rb hd rfl)
      clear hv hwas
      go_simp
      exact hK _ hJ
     | 12,_,ho,hG,hli,hK=>
      obtain rfl:=sj ho
      have x27:act.tmps[27]?.getD undef=.slice (some ⟨g,0,none⟩) N c:=hv 9 27 rfl (rb hd rfl)
      have x29:act.tmps[29]?.getD undef=.int .i64 (q:Int):=hv 11 29 rfl (rb hd rfl)
      clear hv hwas
      go_simp
      exact hK _ hJ
     | 13,_,ho,hG,hli,hK=>
      obtain rfl:=sj ho
      have x30:act.tmps[30]?.getD undef=.pointer (some ⟨g,q*11,none⟩):=hv 12 30 rfl (rb hd rfl)
      refine wp_load_mid _ _ rfl g (q*11) (by simpa [Act.eval] using x30) (f y) _ (hJ.range hf hy1) Tryz.underlying114 rfl (by rw [hf.len];exact szR) ?_
      exact hK _ hJ
     | 14,_,ho,hG,hli,hK=>
      obtain rfl:=sj ho
      have x22:act.tmps[22]?.getD undef=.func (.func F) #[] #[]:=hv 4 22 rfl (rb hd rfl)
      have x26:act.tmps[26]?.getD undef=.agg (f x).toArray:=hv 8 26 rfl (rb hd rfl)
      have x31:act.tmps[31]?.getD undef=.agg (f y).toArray:=hv 13 31 rfl (rb hd rfl)
      clear hv hwas
      have hen:=hF.2
      go_simp
      refine (hF.1 w' x y).mono ?_
      rintro e w'' ⟨rfl,hb''⟩
      exact hK _ (hJ.below hb'')
     | 15,_,ho,hG,hli,hK=>
      obtain rfl:=sj ho
      have x32:act.tmps[32]?.getD undef=.int .i64 (cmpI (key x) (key y)):=hv 14 32 rfl (rb hd rfl)
      clear hv hwas
      go_simp
      exact hK _ hJ
     | 16,_,ho,hG,hli,hK=>
      obtain rfl:=sj ho
      have x21:act.tmps[21]?.getD undef=.bool true:=hv 3 21 rfl (rb hd rfl)
      have x33:act.tmps[33]?.getD undef=.bool (decide (cmpI (key x) (key y)<0)):=hv 15 33 rfl (rb hd rfl)
      clear hv hwas
      go_simp
      exact hK _ hJ
   ·obtain rfl:j=a:=by omega
    have hnextq:Hid (PartI key j (i+1) xs (atJ P L Q x j)):=Lib.hid (by
     rw [show j=P.length+0 by omega,atJ_eq]
     rw [show P.length+0=j by omega]
     exact hnexth.out 0 (fun t z ht hz=>by omega) (fun t z ht hz=>hup.out t z (by omega) hz))
    go_upto_region 4 with fail
    go_quiet (fail)
    go_wp2_with fail
    go_roundw
    case rel=>exact ⟨i+1,atJ P L Q x j,by omega,by omega,by go_num,Lib.hid (by rw [Nat.min_eq_left (show i+1≤b by omega)];exact hnextq.out),hS2.drewN _⟩
    case measure=>simp [intOf];omega
  ·go_wp2_with fail
   go_end0
   exact ⟨rfl,cur0,by have:=hp.out;rwa [Nat.min_eq_right (by omega)] at this,hS1⟩
end Go.Proofs.YtefdblaolmckmabGreat
