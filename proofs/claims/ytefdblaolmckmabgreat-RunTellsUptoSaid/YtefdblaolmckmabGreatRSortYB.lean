/- Lemmas of the proof. -/
import Derived.Test.YtefdblaolmckmabGreatRBSortABToSortIB
set_option linter.unusedVariables false
set_option linter.unusedSimpArgs false
set_option maxRecDepth 100000
set_option maxHeartbeats 12800000
namespace Go.Proofs.YtefdblaolmckmabGreat
open Go.RowKit
open Brood
theorem symMergeB_A {α:Type} (f:α→List Value) (hf:Els f 2) (key:α→Int) (F:FuncId) (hF:CmpF f key F) (base g c N:Nat) (hl:N≤1000000000) (P L R Q xs:List α) (a m b:Nat) (hx:Hid (xs=P++L++R++Q)) (ha:Hid (a=P.length)) (hm:Hid (m=a+L.length)) (hb:Hid (b=m+R.length)) (h1:a<m) (h2:m<b) (hLs:Hid (Srt key L)) (hRs:Hid (Srt key R)) (hN:xs.length=N) (hA:m=a+1) (w:World) (hS:St f 2 24 base g c w w xs) :
  Calls Tryz.prog 156 #[.slice (some ⟨g,0,none⟩) N c,.int .i64 (a:Int),.int .i64 (m:Int),.int .i64 (b:Int),.func (.func F) #[] #[]] w fun e w'=>e=.returned (.tuple #[])∧∃ Y,Stb key (L++R) Y∧St f 2 24 base g c w w' (P++Y++Q):=by
   have hbN:b≤N:=by rw [← hN,hx.out,hb.out,hm.out,ha.out];simp;omega
   have hP:P.length=a:=ha.out.symm
   have hL:L.length=m-a:=by have:=hm.out;omega
   have hR:R.length=b-m:=by have:=hb.out;omega
   have hatL:Hid (∀ k y,L[k-a]?=some y→a≤k→k<m→xs[k]?=some y):=Lib.hid (fun k y hy h3 h4=>by
    rw [hx.out,List.append_assoc,List.append_assoc,List.getElem?_append_right (by omega),List.getElem?_append_left (by omega),hP];exact hy)
   have hatR:Hid (∀ k y,R[k-m]?=some y→m≤k→k<b→xs[k]?=some y):=Lib.hid (fun k y hy h3 h4=>by
    rw [hx.out,List.append_assoc,List.getElem?_append_right (by simp;omega),List.getElem?_append_left (by simp;omega),List.length_append,hP,hL,show k-(a+(m-a))=k-m by omega];exact hy)
   obtain ⟨x,hx1⟩:∃ x,L=[x]:=by
    match L,hL with
    | [x],_=>exact ⟨x,rfl⟩
    | [],h=>simp at h;omega
    | _::_::_,h=>simp at h;omega
   have hxx:xs[a]?=some x:=hatL.out a x (by rw [hx1,Nat.sub_self];rfl) (Nat.le_refl _) h1
   have hLx:=Lib.hid hx1
   have hma:(m:Int)-(a:Int)=1:=by omega
   have hm3:m≤a+1:=by omega
   have haN:a<N:=by omega
   clear hx1 hL hA
   go_enter Tryz.func156,Tryz.ntmps156
   go_wp2_with fail
   go_loopw [10,11] (fun s t wr=>∃ lo hi:Nat,s=.int .i64 lo∧t=.int .i64 hi∧m≤lo∧lo≤hi∧hi≤b∧Hid ((∀ t y,t<lo-m→R[t]?=some y→key y<key x)∧(∀ t y,hi-m≤t→R[t]?=some y→key x≤key y))∧St f 2 24 base g c w wr xs) (fun s t _=>(intOf t).toNat-(intOf s).toNat)
   case atStart=>exact ⟨m,b,rfl,rfl,Nat.le_refl _,by omega,Nat.le_refl _,Lib.hid ⟨fun t y ht _=>by omega,fun t y ht hy=>by have:=(List.getElem?_eq_some_iff.1 hy).1;omega⟩,hS⟩
   case round=>as_aux_lemma=>
    obtain ⟨lo,hi,rfl,rfl,hr2,hr3,hr4,hinv,hS1⟩:=hrel
    by_cases hlt:lo<hi
    ·obtain ⟨h,hhd⟩:∃ h:Nat,h=(lo+hi) / 2:=⟨_,rfl⟩
     have hh2:((lo:Int)+(hi:Int)) / 2=(h:Int):=by omega
     have hh3:lo≤h:=by omega
     have hh4:h<hi:=by omega
     clear hhd
     obtain ⟨y,hy⟩:∃ y,R[h-m]?=some y:=⟨_,List.getElem?_eq_getElem (by omega)⟩
     have hyx:xs[h]?=some y:=hatR.out h y hy (by omega) (by omega)
     have hhN:h<N:=by omega
     go_wp2_with fail
     refine wp_region_kg mixed (by kernel_rfl) (by kernel_rfl) (fun _=>true) (tab [.func (.func F) #[] #[],.slice (some ⟨g,0,none⟩) N c,.int .i64 (h:Int),.pointer (some ⟨g,h*2,none⟩),.agg (f y).toArray,.slice (some ⟨g,0,none⟩) N c,.int .i64 (a:Int),.pointer (some ⟨g,a*2,none⟩),.agg (f x).toArray,.int .i64 (cmpI (key y) (key x)),.bool (decide (cmpI (key y) (key x)<0))]) (fun l w'=>St f 2 24 base g c w w' xs) ?_ ?_ ?_ ?_ ?_
     ·intro qq op ho
      have hiq:qq<11:=lt_of_some ho
      match qq,hiq,ho with
      | 0,_,ho | 1,_,ho | 2,_,ho | 3,_,ho | 4,_,ho | 5,_,ho | 6,_,ho | 7,_,ho | 8,_,ho | 9,_,ho | 10,_,ho=>
       obtain rfl:=sj ho
       rfl
     ·exact hS1.drew
     ·intro qq _ h;cases h
     ·intro w' l hJ hl
      rw [putAll_tab _ _ _ _ [(some 40,.func (.func F) #[] #[]),(some 41,.slice (some ⟨g,0,none⟩) N c),(some 42,.int .i64 (h:Int)),(some 43,.pointer (some ⟨g,h*2,none⟩)),(some 44,.agg (f y).toArray),(some 45,.slice (some ⟨g,0,none⟩) N c),(some 46,.int .i64 (a:Int)),(some 47,.pointer (some ⟨g,a*2,none⟩)),(some 48,.agg (f x).toArray),(some 49,.int .i64 (cmpI (key y) (key x))),(some 50,.bool (decide (cmpI (key y) (key x)<0)))] rfl]
      simp only [putL_eq,putT,List.set_cons_succ,List.set_cons_zero]
      have hS9:=hJ
      clear hl
      by_cases hk:key y<key x
      ·have hCn:cmpI (key y) (key x)<0:=cmpI_neg.2 hk
       clear hJ
       go_wp2_with fail
       go_roundw
       case rel=>exact ⟨h+1,hi,by go_num,rfl,by omega,by omega,hr4,Lib.hid ⟨fun t z ht hz=>by have:=hRs.out.at_ hz hy (by omega);omega,hinv.out.2⟩,hS9⟩
       case measure=>simp [intOf];omega
      ·have hCn:¬ cmpI (key y) (key x)<0:=fun h=>hk (cmpI_neg.1 h)
       clear hJ
       go_wp2_with fail
       go_roundw
       case rel=>exact ⟨lo,h,rfl,rfl,hr2,by omega,by omega,Lib.hid ⟨hinv.out.1,fun t z ht hz=>by have:=hRs.out.at_ hy hz (by omega);omega⟩,hS9⟩
       case measure=>simp [intOf];omega
     ·intro qq op ho hG l act w' hJ hli hd hv hwas K hK
      have e0:=hwas 0 rfl
      have e1:=hwas 1 rfl
      have e4:=hwas 4 rfl
      have e12:=hwas 12 rfl
      simp at e0 e1 e4 e12
      have hiq:qq<11:=lt_of_some ho
      match qq,hiq,ho,hG,hli,hK with
      | 0,_,ho,hG,hli,hK=>
       obtain rfl:=sj ho
       clear hv hwas
       go_simp
       exact hK _ hJ
      | 1,_,ho,hG,hli,hK=>
       obtain rfl:=sj ho
       clear hv hwas
       go_simp
       exact hK _ hJ
      | 2,_,ho,hG,hli,hK=>
       obtain rfl:=sj ho
       clear hv hwas
       go_simp
       exact hK _ hJ
      | 3,_,ho,hG,hli,hK=>
       obtain rfl:=sj ho
       have x41:act.tmps[41]?.getD undef=.slice (some ⟨g,0,none⟩) N c:=hv 1 41 rfl (rb hd rfl)
       have x42:act.tmps[42]?.getD undef=.int .i64 (h:Int):=hv 2 42 rfl (rb hd rfl)
       clear hv hwas
       go_simp
       exact hK _ hJ
      | 4,_,ho,hG,hli,hK=>
       obtain rfl:=sj ho
       have x43:act.tmps[43]?.getD undef=.pointer (some ⟨g,h*2,none⟩):=hv 3 43 rfl (rb hd rfl)
       refine wp_load_mid _ _ rfl g (h*2) (by simpa [Act.eval] using x43) (f y) _ (hJ.range hf hyx) Tryz.underlying24 rfl (by rw [hf.len];exact szB) ?_
       exact hK _ hJ
      | 5,_,ho,hG,hli,hK=>
       obtain rfl:=sj ho
       clear hv hwas
       go_simp
       exact hK _ hJ
      | 6,_,ho,hG,hli,hK=>
       obtain rfl:=sj ho
       clear hv hwas
       go_simp
       exact hK _ hJ
      | 7,_,ho,hG,hli,hK=>
       obtain rfl:=sj ho
       have x45:act.tmps[45]?.getD undef=.slice (some ⟨g,0,none⟩) N c:=hv 5 45 rfl (rb hd rfl)
       have x46:act.tmps[46]?.getD undef=.int .i64 (a:Int):=hv 6 46 rfl (rb hd rfl)
       clear hv hwas
       go_simp
       exact hK _ hJ
      | 8,_,ho,hG,hli,hK=>
       obtain rfl:=sj ho
       have x47:act.tmps[47]?.getD undef=.pointer (some ⟨g,a*2,none⟩):=hv 7 47 rfl (rb hd rfl)
       refine wp_load_mid _ _ rfl g (a*2) (by simpa [Act.eval] using x47) (f x) _ (hJ.range hf hxx) Tryz.underlying24 rfl (by rw [hf.len];exact szB) ?_
       exact hK _ hJ
      | 9,_,ho,hG,hli,hK=>
       obtain rfl:=sj ho
       have x40:act.tmps[40]?.getD undef=.func (.func F) #[] #[]:=hv 0 40 rfl (rb hd rfl)
       have x44:act.tmps[44]?.getD undef=.agg (f y).toArray:=hv 4 44 rfl (rb hd rfl)
       have x48:act.tmps[48]?.getD undef=.agg (f x).toArray:=hv 8 48 rfl (rb hd rfl)
       clear hv hwas
       have hen:=hF.2
       go_simp
       refine (hF.1 w' y x).mono ?_
       rintro e w'' ⟨rfl,hb''⟩
       exact hK _ (hJ.below hb'')
      | 10,_,ho,hG,hli,hK=>
       obtain rfl:=sj ho
       have x49:act.tmps[49]?.getD undef=.int .i64 (cmpI (key y) (key x)):=hv 9 49 rfl (rb hd rfl)
       clear hv hwas
       go_simp
       exact hK _ hJ
    ·obtain rfl:hi=lo:=by omega
     have hS2:St f 2 24 base g c w wr (atJ P R Q x a):=by
      rw [← hP,atJ_start]
      have:xs=P++x::R++Q:=by rw [hx.out,hLx.out];simp
      rw [← this];exact hS1
     clear hS1 hS
     go_wp2_with fail
     go_loopw [13] (fun s wr2=>∃ k:Nat,a≤k∧k+1≤hi∧s=.int .i64 k∧St f 2 24 base g c w wr2 (atJ P R Q x k)) (fun s _=>hi-(intOf s).toNat)
     case atStart=>exact ⟨a,Nat.le_refl _,by omega,rfl,hS2⟩
     case round=>as_aux_lemma=>
     clear hS2
     obtain ⟨k,hk1,hk2,rfl,hS3⟩:=hrel
     by_cases hlt2:k+1<hi
     ·obtain ⟨y,hy⟩:∃ y,R[k-a]?=some y:=⟨_,List.getElem?_eq_getElem (by omega)⟩
      have hx1:(atJ P R Q x k)[k]?=some x:=atJ_at (by omega) (by omega)
      have hy1:(atJ P R Q x k)[k+1]?=some y:=by rw [atJ_behind (by omega) (by omega),hP];exact hy
      obtain ⟨cur,hcur⟩:∃ cur,cur=atJ P R Q x k:=⟨_,rfl⟩
      have hcl:cur.length=N:=by rw [hcur,atJ_length,← hN,hx.out,hLx.out];simp;omega
      rw [← hcur] at hx1 hy1 hS3
      have i0:(0:Int)≤(k:Int)+1:=by omega
      have i1:(k:Int)+1<(N:Int):=by omega
      have i2:(k:Int)<(hi:Int)-1:=by omega
      have i3:(k:Int)<(N:Int):=by omega
      have i4:k<N:=by omega
      have z1:IntKind.i64.wrap ((k:Int)+1)=(k:Int)+1:=by rw [IntKind.wrap_i64];omega
      go_wp2_with fail
      refine wp_region_kg mixed (by kernel_rfl) (by kernel_rfl) (fun _=>true) (tab [.slice (some ⟨g,0,none⟩) N c,.int .i64 (k:Int),.slice (some ⟨g,0,none⟩) N c,.int .i64 (k:Int),.int .i64 ((k:Int)+1),.slice (some ⟨g,0,none⟩) N c,.int .i64 (k:Int),.int .i64 ((k:Int)+1),.pointer (some ⟨g,(k+1)*2,none⟩),.agg (f y).toArray,.slice (some ⟨g,0,none⟩) N c,.int .i64 (k:Int),.pointer (some ⟨g,k*2,none⟩),.agg (f x).toArray,.pointer (some ⟨g,k*2,none⟩),undef,.pointer (some ⟨g,(k+1)*2,none⟩),undef]) (fun l w'=>St f 2 24 base g c w w' (if l 17 then (cur.set (k) y).set (k+1) x else if l 15 then cur.set (k) y else cur)∧(l 15=true→l 9=true∧l 13=true)∧(l 17=true→l 15=true)) ?_ ?_ ?_ ?_ ?_
      ·intro qq op ho
       have hiq:qq<18:=lt_of_some ho
       match qq,hiq,ho with
       | 0,_,ho | 1,_,ho | 2,_,ho | 3,_,ho | 4,_,ho | 5,_,ho | 6,_,ho | 7,_,ho | 8,_,ho | 9,_,ho | 10,_,ho | 11,_,ho | 12,_,ho | 13,_,ho | 14,_,ho | 15,_,ho | 16,_,ho | 17,_,ho=>
        obtain rfl:=sj ho
        rfl
      ·exact ⟨by simpa using hS3.drew,by simp,by simp⟩
      ·intro qq _ h;cases h
      ·intro w' l hJ hl
       have hC:=hJ.1
       simp only [hl 17 (by decide),if_true] at hC
       rw [swp_some hx1 hy1] at hC
       rw [putAll_tab _ _ _ _ [(some 61,.slice (some ⟨g,0,none⟩) N c),(some 62,.int .i64 (k:Int)),(some 63,.slice (some ⟨g,0,none⟩) N c),(some 64,.int .i64 (k:Int)),(some 65,.int .i64 ((k:Int)+1)),(some 66,.slice (some ⟨g,0,none⟩) N c),(some 67,.int .i64 (k:Int)),(some 68,.int .i64 ((k:Int)+1)),(some 69,.pointer (some ⟨g,(k+1)*2,none⟩)),(some 70,.agg (f y).toArray),(some 71,.slice (some ⟨g,0,none⟩) N c),(some 72,.int .i64 (k:Int)),(some 73,.pointer (some ⟨g,k*2,none⟩)),(some 74,.agg (f x).toArray),(some 75,.pointer (some ⟨g,k*2,none⟩)),(none,undef),(some 76,.pointer (some ⟨g,(k+1)*2,none⟩)),(none,undef)] rfl]
       simp only [putL_eq,putT,List.set_cons_succ,List.set_cons_zero]
       go_wp2_with fail
       go_roundw
       case rel=>exact ⟨k+1,by omega,by omega,by go_num,by rw [hcur,atJ_up (by omega) (by omega)] at hC;exact hC⟩
       case measure=>simp [intOf];omega
      ·intro qq op ho hG l act w' hJ hli hd hv hwas K hK
       have e0:=hwas 0 rfl
       have e13:=hwas 13 rfl
       simp at e0 e13
       have hiq:qq<18:=lt_of_some ho
       match qq,hiq,ho,hG,hli,hK with
       | 0,_,ho,hG,hli,hK=>
        obtain rfl:=sj ho
        clear hv hwas
        go_simp
        exact hK _ hJ
       | 1,_,ho,hG,hli,hK=>
        obtain rfl:=sj ho
        clear hv hwas
        go_simp
        exact hK _ hJ
       | 2,_,ho,hG,hli,hK=>
        obtain rfl:=sj ho
        clear hv hwas
        go_simp
        exact hK _ hJ
       | 3,_,ho,hG,hli,hK=>
        obtain rfl:=sj ho
        clear hv hwas
        go_simp
        exact hK _ hJ
       | 4,_,ho,hG,hli,hK=>
        obtain rfl:=sj ho
        have x64:act.tmps[64]?.getD undef=.int .i64 (k:Int):=hv 3 64 rfl (rb hd rfl)
        clear hv hwas
        go_simp
        exact hK _ hJ
       | 5,_,ho,hG,hli,hK=>
        obtain rfl:=sj ho
        clear hv hwas
        go_simp
        exact hK _ hJ
       | 6,_,ho,hG,hli,hK=>
        obtain rfl:=sj ho
        clear hv hwas
        go_simp
        exact hK _ hJ
       | 7,_,ho,hG,hli,hK=>
        obtain rfl:=sj ho
        have x67:act.tmps[67]?.getD undef=.int .i64 (k:Int):=hv 6 67 rfl (rb hd rfl)
        clear hv hwas
        go_simp
        exact hK _ hJ
       | 8,_,ho,hG,hli,hK=>
        obtain rfl:=sj ho
        have x66:act.tmps[66]?.getD undef=.slice (some ⟨g,0,none⟩) N c:=hv 5 66 rfl (rb hd rfl)
        have x68:act.tmps[68]?.getD undef=.int .i64 ((k:Int)+1):=hv 7 68 rfl (rb hd rfl)
        clear hv hwas
        go_simp
        exact hK _ hJ
       | 9,_,ho,hG,hli,hK=>
        obtain rfl:=sj ho
        have x69:act.tmps[69]?.getD undef=.pointer (some ⟨g,(k+1)*2,none⟩):=hv 8 69 rfl (rb hd rfl)
        have lS1:l 15=false:=by
         cases h:l 15 with
         | false=>rfl
         | true=>exact absurd (hJ.2.1 h) (by simp [hli])
        have lS2:l 17=false:=by
         cases h:l 17 with
         | false=>rfl
         | true=>rw [hJ.2.2 h] at lS1;cases lS1
        have hC:=hJ.1
        simp only [lS1,lS2,Bool.false_eq_true,if_false] at hC
        refine wp_load_mid _ _ rfl g ((k+1)*2) (by simpa [Act.eval] using x69) (f y) _ (hC.range hf hy1) Tryz.underlying24 rfl (by rw [hf.len];exact szB) ?_
        exact hK _ ⟨by simpa [upd] using hJ.1,by intro h;have h2:=hJ.2.1 (by simpa [upd] using h);simp [upd,h2],by simpa [upd] using hJ.2.2⟩
       | 10,_,ho,hG,hli,hK=>
        obtain rfl:=sj ho
        clear hv hwas
        go_simp
        exact hK _ hJ
       | 11,_,ho,hG,hli,hK=>
        obtain rfl:=sj ho
        clear hv hwas
        go_simp
        exact hK _ hJ
       | 12,_,ho,hG,hli,hK=>
        obtain rfl:=sj ho
        have x71:act.tmps[71]?.getD undef=.slice (some ⟨g,0,none⟩) N c:=hv 10 71 rfl (rb hd rfl)
        have x72:act.tmps[72]?.getD undef=.int .i64 (k:Int):=hv 11 72 rfl (rb hd rfl)
        clear hv hwas
        go_simp
        exact hK _ hJ
       | 13,_,ho,hG,hli,hK=>
        obtain rfl:=sj ho
        have x73:act.tmps[73]?.getD undef=.pointer (some ⟨g,k*2,none⟩):=hv 12 73 rfl (rb hd rfl)
        have lS1:l 15=false:=by
         cases h:l 15 with
         | false=>rfl
         | true=>exact absurd (hJ.2.1 h) (by simp [hli])
        have lS2:l 17=false:=by
         cases h:l 17 with
         | false=>rfl
         | true=>rw [hJ.2.2 h] at lS1;cases lS1
        have hC:=hJ.1
        simp only [lS1,lS2,Bool.false_eq_true,if_false] at hC
        refine wp_load_mid _ _ rfl g (k*2) (by simpa [Act.eval] using x73) (f x) _ (hC.range hf hx1) Tryz.underlying24 rfl (by rw [hf.len];exact szB) ?_
        exact hK _ ⟨by simpa [upd] using hJ.1,by intro h;have h2:=hJ.2.1 (by simpa [upd] using h);simp [upd,h2],by simpa [upd] using hJ.2.2⟩
       | 14,_,ho,hG,hli,hK=>
        obtain rfl:=sj ho
        have x61:act.tmps[61]?.getD undef=.slice (some ⟨g,0,none⟩) N c:=hv 0 61 rfl (rb hd rfl)
        have x62:act.tmps[62]?.getD undef=.int .i64 (k:Int):=hv 1 62 rfl (rb hd rfl)
        clear hv hwas
        go_simp
        exact hK _ hJ
       | 15,_,ho,hG,hli,hK=>
        obtain rfl:=sj ho
        have x70:act.tmps[70]?.getD undef=.agg (f y).toArray:=hv 9 70 rfl (rb hd rfl)
        have x75:act.tmps[75]?.getD undef=.pointer (some ⟨g,k*2,none⟩):=hv 14 75 rfl (rb hd rfl)
        have hd2:l 9=true∧l 13=true:=by simp [Region.binds] at hd;simp [hd]
        have lS2:l 17=false:=by
         cases h:l 17 with
         | false=>rfl
         | true=>rw [hJ.2.2 h] at hli;cases hli
        have hC:=hJ.1
        simp only [hli,lS2,Bool.false_eq_true,if_false] at hC
        refine wp_store_mid _ _ _ rfl g (k*2) (f y).toArray (by simpa [Act.eval] using x75) (by simpa [Act.eval] using x70) (by simpa [hf.len] using hC.there hf (show k<cur.length by omega)) (by simp only [List.size_toArray];rw [hf.len];exact szB) (all_oneCell_toArray (hf.one y)) ?_
        refine hK _ ⟨?_,by intro _;simp [upd,hd2],by simp [upd,lS2]⟩
        have:=hC.set hf (show k<cur.length by omega) y
        simpa [upd,lS2] using this
       | 16,_,ho,hG,hli,hK=>
        obtain rfl:=sj ho
        have x63:act.tmps[63]?.getD undef=.slice (some ⟨g,0,none⟩) N c:=hv 2 63 rfl (rb hd rfl)
        have x65:act.tmps[65]?.getD undef=.int .i64 ((k:Int)+1):=hv 4 65 rfl (rb hd rfl)
        clear hv hwas
        go_simp
        exact hK _ hJ
       | 17,_,ho,hG,hli,hK=>
        obtain rfl:=sj ho
        have x74:act.tmps[74]?.getD undef=.agg (f x).toArray:=hv 13 74 rfl (rb hd rfl)
        have x76:act.tmps[76]?.getD undef=.pointer (some ⟨g,(k+1)*2,none⟩):=hv 16 76 rfl (rb hd rfl)
        have hd2:l 15=true:=by simp [Region.binds] at hd;simp [hd]
        have hC:=hJ.1
        simp only [hli,hd2,Bool.false_eq_true,if_false,if_true] at hC
        refine wp_store_mid _ _ _ rfl g ((k+1)*2) (f x).toArray (by simpa [Act.eval] using x76) (by simpa [Act.eval] using x74) (by simpa [hf.len] using hC.there hf (show k+1<(cur.set (k) y).length by rw [List.length_set];omega)) (by simp only [List.size_toArray];rw [hf.len];exact szB) (all_oneCell_toArray (hf.one x)) ?_
        refine hK _ ⟨?_,by intro _;simp [upd,hJ.2.1 hd2],by intro _;simp [upd,hd2]⟩
        have:=hC.set hf (show k+1<(cur.set (k) y).length by rw [List.length_set];omega) x
        simpa [upd] using this
     ·obtain rfl:hi=k+1:=by omega
      have i2:¬ (k:Int)<((k+1:Nat):Int)-1:=by omega
      go_wp2_with fail
      (try simp only [Exit.inBlock,Exit.then])
      refine bodyPost_ret (results_none rfl _ _ _) rfl ?_
      refine ⟨rfl,R.take (k-a)++x::R.drop (k-a),?_,by have e:k=P.length+(k-a):=(by omega);rw [e,atJ_eq] at hS3;simp only [List.append_assoc] at hS3 ⊢;exact hS3⟩
      rw [hLx.out]
      have i5:=hinv.out
      exact stb_up hRs.out (fun t y ht hy=>i5.1 t y (by omega) hy) (fun t y ht hy=>i5.2 t y (by omega) hy)
theorem symMergeB_B {α:Type} (f:α→List Value) (hf:Els f 2) (key:α→Int) (F:FuncId) (hF:CmpF f key F) (base g c N:Nat) (hl:N≤1000000000) (P L R Q xs:List α) (a m b:Nat) (hx:Hid (xs=P++L++R++Q)) (ha:Hid (a=P.length)) (hm:Hid (m=a+L.length)) (hb:Hid (b=m+R.length)) (h1:a<m) (h2:m<b) (hLs:Hid (Srt key L)) (hRs:Hid (Srt key R)) (hN:xs.length=N) (hA:¬ m=a+1) (hB:b=m+1) (w:World) (hS:St f 2 24 base g c w w xs) :
  Calls Tryz.prog 156 #[.slice (some ⟨g,0,none⟩) N c,.int .i64 (a:Int),.int .i64 (m:Int),.int .i64 (b:Int),.func (.func F) #[] #[]] w fun e w'=>e=.returned (.tuple #[])∧∃ Y,Stb key (L++R) Y∧St f 2 24 base g c w w' (P++Y++Q):=by
   have hbN:b≤N:=by rw [← hN,hx.out,hb.out,hm.out,ha.out];simp;omega
   have hP:P.length=a:=ha.out.symm
   have hL:L.length=m-a:=by have:=hm.out;omega
   have hR:R.length=b-m:=by have:=hb.out;omega
   have hatL:Hid (∀ k y,L[k-a]?=some y→a≤k→k<m→xs[k]?=some y):=Lib.hid (fun k y hy h3 h4=>by
    rw [hx.out,List.append_assoc,List.append_assoc,List.getElem?_append_right (by omega),List.getElem?_append_left (by omega),hP];exact hy)
   have hatR:Hid (∀ k y,R[k-m]?=some y→m≤k→k<b→xs[k]?=some y):=Lib.hid (fun k y hy h3 h4=>by
    rw [hx.out,List.append_assoc,List.getElem?_append_right (by simp;omega),List.getElem?_append_left (by simp;omega),List.length_append,hP,hL,show k-(a+(m-a))=k-m by omega];exact hy)
   obtain ⟨x,hx1⟩:∃ x,R=[x]:=by
    match R,hR with
    | [x],_=>exact ⟨x,rfl⟩
    | [],h=>simp at h;omega
    | _::_::_,h=>simp at h;omega
   have hxx:xs[m]?=some x:=hatR.out m x (by rw [hx1,Nat.sub_self];rfl) (Nat.le_refl _) h2
   have hRx:=Lib.hid hx1
   have hma:((m:Int)-(a:Int)==1)=false:=by simp;omega
   have hma2:¬ (m:Int)-(a:Int)=1:=by omega
   have hbm:(b:Int)-(m:Int)=1:=by omega
   have hb3:b≤m+1:=by omega
   have hmN:m<N:=by omega
   clear hx1 hR hB
   go_enter Tryz.func156,Tryz.ntmps156
   go_wp2_with fail
   go_loopw [14,15] (fun s t wr=>∃ lo hi:Nat,s=.int .i64 lo∧t=.int .i64 hi∧a≤lo∧lo≤hi∧hi≤m∧Hid ((∀ t y,t<lo-a→L[t]?=some y→key y≤key x)∧(∀ t y,hi-a≤t→L[t]?=some y→key x<key y))∧St f 2 24 base g c w wr xs) (fun s t _=>(intOf t).toNat-(intOf s).toNat)
   case atStart=>exact ⟨a,m,rfl,rfl,Nat.le_refl _,by omega,Nat.le_refl _,Lib.hid ⟨fun t y ht _=>by omega,fun t y ht hy=>by have:=(List.getElem?_eq_some_iff.1 hy).1;omega⟩,hS⟩
   case round=>as_aux_lemma=>
    obtain ⟨lo,hi,rfl,rfl,hr2,hr3,hr4,hinv,hS1⟩:=hrel
    by_cases hlt:lo<hi
    ·obtain ⟨h,hhd⟩:∃ h:Nat,h=(lo+hi) / 2:=⟨_,rfl⟩
     have hh2:((lo:Int)+(hi:Int)) / 2=(h:Int):=by omega
     have hh3:lo≤h:=by omega
     have hh4:h<hi:=by omega
     clear hhd
     obtain ⟨y,hy⟩:∃ y,L[h-a]?=some y:=⟨_,List.getElem?_eq_getElem (by omega)⟩
     have hyx:xs[h]?=some y:=hatL.out h y hy (by omega) (by omega)
     have hhN:h<N:=by omega
     by_cases hk:key x<key y
     ·have hCn:cmpI (key x) (key y)<0:=cmpI_neg.2 hk
      go_wp2_with fail
      refine wp_region_kg mixed (by kernel_rfl) (by kernel_rfl) (fun _=>true) (tab [.func (.func F) #[] #[],.slice (some ⟨g,0,none⟩) N c,.int .i64 (m:Int),.pointer (some ⟨g,m*2,none⟩),.agg (f x).toArray,.slice (some ⟨g,0,none⟩) N c,.int .i64 (h:Int),.pointer (some ⟨g,h*2,none⟩),.agg (f y).toArray,.int .i64 (cmpI (key x) (key y)),.bool true,.bool false]) (fun l w'=>St f 2 24 base g c w w' xs) ?_ ?_ ?_ ?_ ?_
      ·intro qq op ho
       have hiq:qq<12:=lt_of_some ho
       match qq,hiq,ho with
       | 0,_,ho | 1,_,ho | 2,_,ho | 3,_,ho | 4,_,ho | 5,_,ho | 6,_,ho | 7,_,ho | 8,_,ho | 9,_,ho | 10,_,ho | 11,_,ho=>
        obtain rfl:=sj ho
        rfl
      ·exact hS1.drew
      ·intro qq _ h;cases h
      ·intro w' l hJ hl
       rw [putAll_tab _ _ _ _ [(some 92,.func (.func F) #[] #[]),(some 93,.slice (some ⟨g,0,none⟩) N c),(some 94,.int .i64 (m:Int)),(some 95,.pointer (some ⟨g,m*2,none⟩)),(some 96,.agg (f x).toArray),(some 97,.slice (some ⟨g,0,none⟩) N c),(some 98,.int .i64 (h:Int)),(some 99,.pointer (some ⟨g,h*2,none⟩)),(some 100,.agg (f y).toArray),(some 101,.int .i64 (cmpI (key x) (key y))),(some 102,.bool true),(some 103,.bool false)] rfl]
       simp only [putL_eq,putT,List.set_cons_succ,List.set_cons_zero]
       have hS9:=hJ
       clear hl
       clear hJ
       go_wp2_with fail
       go_roundw
       case rel=>exact ⟨lo,h,rfl,rfl,hr2,by omega,by omega,Lib.hid ⟨hinv.out.1,fun t z ht hz=>by have:=hLs.out.at_ hy hz (by omega);omega⟩,hS9⟩
       case measure=>simp [intOf];omega
      ·intro qq op ho hG l act w' hJ hli hd hv hwas K hK
       have e0:=hwas 0 rfl
       have e2:=hwas 2 rfl
       have e4:=hwas 4 rfl
       have e16:=hwas 16 rfl
       simp at e0 e2 e4 e16
       have hiq:qq<12:=lt_of_some ho
       match qq,hiq,ho,hG,hli,hK with
       | 0,_,ho,hG,hli,hK=>
        obtain rfl:=sj ho
        clear hv hwas
        go_simp
        exact hK _ hJ
       | 1,_,ho,hG,hli,hK=>
        obtain rfl:=sj ho
        clear hv hwas
        go_simp
        exact hK _ hJ
       | 2,_,ho,hG,hli,hK=>
        obtain rfl:=sj ho
        clear hv hwas
        go_simp
        exact hK _ hJ
       | 3,_,ho,hG,hli,hK=>
        obtain rfl:=sj ho
        have x93:act.tmps[93]?.getD undef=.slice (some ⟨g,0,none⟩) N c:=hv 1 93 rfl (rb hd rfl)
        have x94:act.tmps[94]?.getD undef=.int .i64 (m:Int):=hv 2 94 rfl (rb hd rfl)
        clear hv hwas
        go_simp
        exact hK _ hJ
       | 4,_,ho,hG,hli,hK=>
        obtain rfl:=sj ho
        have x95:act.tmps[95]?.getD undef=.pointer (some ⟨g,m*2,none⟩):=hv 3 95 rfl (rb hd rfl)
        refine wp_load_mid _ _ rfl g (m*2) (by simpa [Act.eval] using x95) (f x) _ (hJ.range hf hxx) Tryz.underlying24 rfl (by rw [hf.len];exact szB) ?_
        exact hK _ hJ
       | 5,_,ho,hG,hli,hK=>
        obtain rfl:=sj ho
        clear hv hwas
        go_simp
        exact hK _ hJ
       | 6,_,ho,hG,hli,hK=>
        obtain rfl:=sj ho
        clear hv hwas
        go_simp
        exact hK _ hJ
       | 7,_,ho,hG,hli,hK=>
        obtain rfl:=sj ho
        have x97:act.tmps[97]?.getD undef=.slice (some ⟨g,0,none⟩) N c:=hv 5 97 rfl (rb hd rfl)
        have x98:act.tmps[98]?.getD undef=.int .i64 (h:Int):=hv 6 98 rfl (rb hd rfl)
        clear hv hwas
        go_simp
        exact hK _ hJ
       | 8,_,ho,hG,hli,hK=>
        obtain rfl:=sj ho
        have x99:act.tmps[99]?.getD undef=.pointer (some ⟨g,h*2,none⟩):=hv 7 99 rfl (rb hd rfl)
        refine wp_load_mid _ _ rfl g (h*2) (by simpa [Act.eval] using x99) (f y) _ (hJ.range hf hyx) Tryz.underlying24 rfl (by rw [hf.len];exact szB) ?_
        exact hK _ hJ
       | 9,_,ho,hG,hli,hK=>
        obtain rfl:=sj ho
        have x92:act.tmps[92]?.getD undef=.func (.func F) #[] #[]:=hv 0 92 rfl (rb hd rfl)
        have x96:act.tmps[96]?.getD undef=.agg (f x).toArray:=hv 4 96 rfl (rb hd rfl)
        have x100:act.tmps[100]?.getD undef=.agg (f y).toArray:=hv 8 100 rfl (rb hd rfl)
        clear hv hwas
        have hen:=hF.2
        go_simp
        refine (hF.1 w' x y).mono ?_
        rintro e w'' ⟨rfl,hb''⟩
        exact hK _ (hJ.below hb'')
       | 10,_,ho,hG,hli,hK=>
        obtain rfl:=sj ho
        have x101:act.tmps[101]?.getD undef=.int .i64 (cmpI (key x) (key y)):=hv 9 101 rfl (rb hd rfl)
        clear hv hwas
        go_simp
        exact hK _ hJ
       | 11,_,ho,hG,hli,hK=>
        obtain rfl:=sj ho
        have x102:act.tmps[102]?.getD undef=.bool true:=hv 10 102 rfl (rb hd rfl)
        clear hv hwas
        go_simp
        exact hK _ hJ
     ·have hCn:¬ cmpI (key x) (key y)<0:=fun h=>hk (cmpI_neg.1 h)
      have hCd:decide (cmpI (key x) (key y)<0)=false:=by simp [hCn]
      go_wp2_with fail
      refine wp_region_kg mixed (by kernel_rfl) (by kernel_rfl) (fun _=>true) (tab [.func (.func F) #[] #[],.slice (some ⟨g,0,none⟩) N c,.int .i64 (m:Int),.pointer (some ⟨g,m*2,none⟩),.agg (f x).toArray,.slice (some ⟨g,0,none⟩) N c,.int .i64 (h:Int),.pointer (some ⟨g,h*2,none⟩),.agg (f y).toArray,.int .i64 (cmpI (key x) (key y)),.bool false,.bool true]) (fun l w'=>St f 2 24 base g c w w' xs) ?_ ?_ ?_ ?_ ?_
      ·intro qq op ho
       have hiq:qq<12:=lt_of_some ho
       match qq,hiq,ho with
       | 0,_,ho | 1,_,ho | 2,_,ho | 3,_,ho | 4,_,ho | 5,_,ho | 6,_,ho | 7,_,ho | 8,_,ho | 9,_,ho | 10,_,ho | 11,_,ho=>
        obtain rfl:=sj ho
        rfl
      ·exact hS1.drew
      ·intro qq _ h;cases h
      ·intro w' l hJ hl
       rw [putAll_tab _ _ _ _ [(some 92,.func (.func F) #[] #[]),(some 93,.slice (some ⟨g,0,none⟩) N c),(some 94,.int .i64 (m:Int)),(some 95,.pointer (some ⟨g,m*2,none⟩)),(some 96,.agg (f x).toArray),(some 97,.slice (some ⟨g,0,none⟩) N c),(some 98,.int .i64 (h:Int)),(some 99,.pointer (some ⟨g,h*2,none⟩)),(some 100,.agg (f y).toArray),(some 101,.int .i64 (cmpI (key x) (key y))),(some 102,.bool false),(some 103,.bool true)] rfl]
       simp only [putL_eq,putT,List.set_cons_succ,List.set_cons_zero]
       have hS9:=hJ
       clear hl
       clear hJ
       go_wp2_with fail
       go_roundw
       case rel=>exact ⟨h+1,hi,by go_num,rfl,by omega,by omega,hr4,Lib.hid ⟨fun t z ht hz=>by have:=hLs.out.at_ hz hy (by omega);omega,hinv.out.2⟩,hS9⟩
       case measure=>simp [intOf];omega
      ·intro qq op ho hG l act w' hJ hli hd hv hwas K hK
       have e0:=hwas 0 rfl
       have e2:=hwas 2 rfl
       have e4:=hwas 4 rfl
       have e16:=hwas 16 rfl
       simp at e0 e2 e4 e16
       have hiq:qq<12:=lt_of_some ho
       match qq,hiq,ho,hG,hli,hK with
       | 0,_,ho,hG,hli,hK=>
        obtain rfl:=sj ho
        clear hv hwas
        go_simp
        exact hK _ hJ
       | 1,_,ho,hG,hli,hK=>
        obtain rfl:=sj ho
        clear hv hwas
        go_simp
        exact hK _ hJ
       | 2,_,ho,hG,hli,hK=>
        obtain rfl:=sj ho
        clear hv hwas
        go_simp
        exact hK _ hJ
       | 3,_,ho,hG,hli,hK=>
        obtain rfl:=sj ho
        have x93:act.tmps[93]?.getD undef=.slice (some ⟨g,0,none⟩) N c:=hv 1 93 rfl (rb hd rfl)
        have x94:act.tmps[94]?.getD undef=.int .i64 (m:Int):=hv 2 94 rfl (rb hd rfl)
        clear hv hwas
        go_simp
        exact hK _ hJ
       | 4,_,ho,hG,hli,hK=>
        obtain rfl:=sj ho
        have x95:act.tmps[95]?.getD undef=.pointer (some ⟨g,m*2,none⟩):=hv 3 95 rfl (rb hd rfl)
        refine wp_load_mid _ _ rfl g (m*2) (by simpa [Act.eval] using x95) (f x) _ (hJ.range hf hxx) Tryz.underlying24 rfl (by rw [hf.len];exact szB) ?_
        exact hK _ hJ
       | 5,_,ho,hG,hli,hK=>
        obtain rfl:=sj ho
        clear hv hwas
        go_simp
        exact hK _ hJ
       | 6,_,ho,hG,hli,hK=>
        obtain rfl:=sj ho
        clear hv hwas
        go_simp
        exact hK _ hJ
       | 7,_,ho,hG,hli,hK=>
        obtain rfl:=sj ho
        have x97:act.tmps[97]?.getD undef=.slice (some ⟨g,0,none⟩) N c:=hv 5 97 rfl (rb hd rfl)
        have x98:act.tmps[98]?.getD undef=.int .i64 (h:Int):=hv 6 98 rfl (rb hd rfl)
        clear hv hwas
        go_simp
        exact hK _ hJ
       | 8,_,ho,hG,hli,hK=>
        obtain rfl:=sj ho
        have x99:act.tmps[99]?.getD undef=.pointer (some ⟨g,h*2,none⟩):=hv 7 99 rfl (rb hd rfl)
        refine wp_load_mid _ _ rfl g (h*2) (by simpa [Act.eval] using x99) (f y) _ (hJ.range hf hyx) Tryz.underlying24 rfl (by rw [hf.len];exact szB) ?_
        exact hK _ hJ
       | 9,_,ho,hG,hli,hK=>
        obtain rfl:=sj ho
        have x92:act.tmps[92]?.getD undef=.func (.func F) #[] #[]:=hv 0 92 rfl (rb hd rfl)
        have x96:act.tmps[96]?.getD undef=.agg (f x).toArray:=hv 4 96 rfl (rb hd rfl)
        have x100:act.tmps[100]?.getD undef=.agg (f y).toArray:=hv 8 100 rfl (rb hd rfl)
        clear hv hwas
        have hen:=hF.2
        go_simp
        refine (hF.1 w' x y).mono ?_
        rintro e w'' ⟨rfl,hb''⟩
        exact hK _ (hJ.below hb'')
       | 10,_,ho,hG,hli,hK=>
        obtain rfl:=sj ho
        have x101:act.tmps[101]?.getD undef=.int .i64 (cmpI (key x) (key y)):=hv 9 101 rfl (rb hd rfl)
        clear hv hwas
        go_simp
        exact hK _ hJ
       | 11,_,ho,hG,hli,hK=>
        obtain rfl:=sj ho
        have x102:act.tmps[102]?.getD undef=.bool false:=hv 10 102 rfl (rb hd rfl)
        clear hv hwas
        go_simp
        exact hK _ hJ
    ·obtain rfl:hi=lo:=by omega
     have hS2:St f 2 24 base g c w wr (atJ P L Q x m):=by
      rw [show m=P.length+L.length by omega,atJ_end]
      have:xs=P++L++x::Q:=by rw [hx.out,hRx.out];simp
      rw [← this];exact hS1
     clear hS1 hS
     go_wp2_with fail
     go_loopw [17] (fun s wr2=>∃ k:Nat,hi≤k∧k≤m∧s=.int .i64 k∧St f 2 24 base g c w wr2 (atJ P L Q x k)) (fun s _=>(intOf s).toNat)
     case atStart=>exact ⟨m,by omega,Nat.le_refl _,rfl,hS2⟩
     case round=>as_aux_lemma=>
     clear hS2
     obtain ⟨k,hk1,hk2,rfl,hS3⟩:=hrel
     by_cases hlt2:hi<k
     ·obtain ⟨q,rfl⟩:∃ q,k=q+1:=⟨k-1,by omega⟩
      obtain ⟨y,hy⟩:∃ y,L[q-a]?=some y:=⟨_,List.getElem?_eq_getElem (by omega)⟩
      have hx1:(atJ P L Q x (q+1))[q+1]?=some x:=atJ_at (by omega) (by omega)
      have hy1:(atJ P L Q x (q+1))[q]?=some y:=by
       have:=atJ_ahead (P:=P) (L:=L) (S:=Q) (x:=x) (j:=q+1) (by omega) (by omega)
       rw [Nat.add_sub_cancel] at this
       rw [this,hP];exact hy
      obtain ⟨cur,hcur⟩:∃ cur,cur=atJ P L Q x (q+1):=⟨_,rfl⟩
      have hcl:cur.length=N:=by rw [hcur,atJ_length,← hN,hx.out,hRx.out];simp;omega
      rw [← hcur] at hx1 hy1 hS3
      rw [show (((q+1:Nat)):Int)=(q:Int)+1 from rfl]
      have i0:(0:Int)≤(q:Int)+1:=by omega
      have i1:(q:Int)+1<(N:Int):=by omega
      have i2:(hi:Int)<(q:Int)+1:=by omega
      have i3:(q:Int)<(N:Int):=by omega
      have z1:IntKind.i64.wrap ((q:Int)+1)=(q:Int)+1:=by rw [IntKind.wrap_i64];omega
      have z2:IntKind.i64.wrap (q:Int)=(q:Int):=by rw [IntKind.wrap_i64];omega
      have z3:(q:Int)+1-1=(q:Int):=by omega
      go_wp2_with fail
      refine wp_region_kg mixed (by kernel_rfl) (by kernel_rfl) (fun _=>true) (tab [.slice (some ⟨g,0,none⟩) N c,.int .i64 ((q:Int)+1),.slice (some ⟨g,0,none⟩) N c,.int .i64 ((q:Int)+1),.int .i64 (q:Int),.slice (some ⟨g,0,none⟩) N c,.int .i64 ((q:Int)+1),.int .i64 (q:Int),.pointer (some ⟨g,q*2,none⟩),.agg (f y).toArray,.slice (some ⟨g,0,none⟩) N c,.int .i64 ((q:Int)+1),.pointer (some ⟨g,(q+1)*2,none⟩),.agg (f x).toArray,.pointer (some ⟨g,(q+1)*2,none⟩),undef,.pointer (some ⟨g,q*2,none⟩),undef]) (fun l w'=>St f 2 24 base g c w w' (if l 17 then (cur.set (q+1) y).set (q) x else if l 15 then cur.set (q+1) y else cur)∧(l 15=true→l 9=true∧l 13=true)∧(l 17=true→l 15=true)) ?_ ?_ ?_ ?_ ?_
      ·intro qq op ho
       have hiq:qq<18:=lt_of_some ho
       match qq,hiq,ho with
       | 0,_,ho | 1,_,ho | 2,_,ho | 3,_,ho | 4,_,ho | 5,_,ho | 6,_,ho | 7,_,ho | 8,_,ho | 9,_,ho | 10,_,ho | 11,_,ho | 12,_,ho | 13,_,ho | 14,_,ho | 15,_,ho | 16,_,ho | 17,_,ho=>
        obtain rfl:=sj ho
        rfl
      ·exact ⟨by simpa using hS3.drew,by simp,by simp⟩
      ·intro qq _ h;cases h
      ·intro w' l hJ hl
       have hC:=hJ.1
       simp only [hl 17 (by decide),if_true] at hC
       rw [swp_some hx1 hy1] at hC
       rw [putAll_tab _ _ _ _ [(some 113,.slice (some ⟨g,0,none⟩) N c),(some 114,.int .i64 ((q:Int)+1)),(some 115,.slice (some ⟨g,0,none⟩) N c),(some 116,.int .i64 ((q:Int)+1)),(some 117,.int .i64 (q:Int)),(some 118,.slice (some ⟨g,0,none⟩) N c),(some 119,.int .i64 ((q:Int)+1)),(some 120,.int .i64 (q:Int)),(some 121,.pointer (some ⟨g,q*2,none⟩)),(some 122,.agg (f y).toArray),(some 123,.slice (some ⟨g,0,none⟩) N c),(some 124,.int .i64 ((q:Int)+1)),(some 125,.pointer (some ⟨g,(q+1)*2,none⟩)),(some 126,.agg (f x).toArray),(some 127,.pointer (some ⟨g,(q+1)*2,none⟩)),(none,undef),(some 128,.pointer (some ⟨g,q*2,none⟩)),(none,undef)] rfl]
       simp only [putL_eq,putT,List.set_cons_succ,List.set_cons_zero]
       go_wp2_with fail
       go_roundw
       case rel=>exact ⟨q,by omega,by omega,rfl,by rw [hcur] at hC;rw [show q=q+1-1 by omega,← atJ_down (by omega) (by omega)];exact hC⟩
       case measure=>simp [intOf]
      ·intro qq op ho hG l act w' hJ hli hd hv hwas K hK
       have e0:=hwas 0 rfl
       have e17:=hwas 17 rfl
       simp at e0 e17
       have hiq:qq<18:=lt_of_some ho
       match qq,hiq,ho,hG,hli,hK with
       | 0,_,ho,hG,hli,hK=>
        obtain rfl:=sj ho
        clear hv hwas
        go_simp
        exact hK _ hJ
       | 1,_,ho,hG,hli,hK=>
        obtain rfl:=sj ho
        clear hv hwas
        go_simp
        exact hK _ hJ
       | 2,_,ho,hG,hli,hK=>
        obtain rfl:=sj ho
        clear hv hwas
        go_simp
        exact hK _ hJ
       | 3,_,ho,hG,hli,hK=>
        obtain rfl:=sj ho
        clear hv hwas
        go_simp
        exact hK _ hJ
       | 4,_,ho,hG,hli,hK=>
        obtain rfl:=sj ho
        have x116:act.tmps[116]?.getD undef=.int .i64 ((q:Int)+1):=hv 3 116 rfl (rb hd rfl)
        clear hv hwas
        go_simp
        exact hK _ hJ
       | 5,_,ho,hG,hli,hK=>
        obtain rfl:=sj ho
        clear hv hwas
        go_simp
        exact hK _ hJ
       | 6,_,ho,hG,hli,hK=>
        obtain rfl:=sj ho
        clear hv hwas
        go_simp
        exact hK _ hJ
       | 7,_,ho,hG,hli,hK=>
        obtain rfl:=sj ho
        have x119:act.tmps[119]?.getD undef=.int .i64 ((q:Int)+1):=hv 6 119 rfl (rb hd rfl)
        clear hv hwas
        go_simp
        exact hK _ hJ
       | 8,_,ho,hG,hli,hK=>
        obtain rfl:=sj ho
        have x118:act.tmps[118]?.getD undef=.slice (some ⟨g,0,none⟩) N c:=hv 5 118 rfl (rb hd rfl)
        have x120:act.tmps[120]?.getD undef=.int .i64 (q:Int):=hv 7 120 rfl (rb hd rfl)
        clear hv hwas
        go_simp
        exact hK _ hJ
       | 9,_,ho,hG,hli,hK=>
        obtain rfl:=sj ho
        have x121:act.tmps[121]?.getD undef=.pointer (some ⟨g,q*2,none⟩):=hv 8 121 rfl (rb hd rfl)
        have lS1:l 15=false:=by
         cases h:l 15 with
         | false=>rfl
         | true=>exact absurd (hJ.2.1 h) (by simp [hli])
        have lS2:l 17=false:=by
         cases h:l 17 with
         | false=>rfl
         | true=>rw [hJ.2.2 h] at lS1;cases lS1
        have hC:=hJ.1
        simp only [lS1,lS2,Bool.false_eq_true,if_false] at hC
        refine wp_load_mid _ _ rfl g (q*2) (by simpa [Act.eval] using x121) (f y) _ (hC.range hf hy1) Tryz.underlying24 rfl (by rw [hf.len];exact szB) ?_
        exact hK _ ⟨by simpa [upd] using hJ.1,by intro h;have h2:=hJ.2.1 (by simpa [upd] using h);simp [upd,h2],by simpa [upd] using hJ.2.2⟩
       | 10,_,ho,hG,hli,hK=>
        obtain rfl:=sj ho
        clear hv hwas
        go_simp
        exact hK _ hJ
       | 11,_,ho,hG,hli,hK=>
        obtain rfl:=sj ho
        clear hv hwas
        go_simp
        exact hK _ hJ
       | 12,_,ho,hG,hli,hK=>
        obtain rfl:=sj ho
        have x123:act.tmps[123]?.getD undef=.slice (some ⟨g,0,none⟩) N c:=hv 10 123 rfl (rb hd rfl)
        have x124:act.tmps[124]?.getD undef=.int .i64 ((q:Int)+1):=hv 11 124 rfl (rb hd rfl)
        clear hv hwas
        go_simp
        exact hK _ hJ
       | 13,_,ho,hG,hli,hK=>
        obtain rfl:=sj ho
        have x125:act.tmps[125]?.getD undef=.pointer (some ⟨g,(q+1)*2,none⟩):=hv 12 125 rfl (rb hd rfl)
        have lS1:l 15=false:=by
         cases h:l 15 with
         | false=>rfl
         | true=>exact absurd (hJ.2.1 h) (by simp [hli])
        have lS2:l 17=false:=by
         cases h:l 17 with
         | false=>rfl
         | true=>rw [hJ.2.2 h] at lS1;cases lS1
        have hC:=hJ.1
        simp only [lS1,lS2,Bool.false_eq_true,if_false] at hC
        refine wp_load_mid _ _ rfl g ((q+1)*2) (by simpa [Act.eval] using x125) (f x) _ (hC.range hf hx1) Tryz.underlying24 rfl (by rw [hf.len];exact szB) ?_
        exact hK _ ⟨by simpa [upd] using hJ.1,by intro h;have h2:=hJ.2.1 (by simpa [upd] using h);simp [upd,h2],by simpa [upd] using hJ.2.2⟩
       | 14,_,ho,hG,hli,hK=>
        obtain rfl:=sj ho
        have x113:act.tmps[113]?.getD undef=.slice (some ⟨g,0,none⟩) N c:=hv 0 113 rfl (rb hd rfl)
        have x114:act.tmps[114]?.getD undef=.int .i64 ((q:Int)+1):=hv 1 114 rfl (rb hd rfl)
        clear hv hwas
        go_simp
        exact hK _ hJ
       | 15,_,ho,hG,hli,hK=>
        obtain rfl:=sj ho
        have x122:act.tmps[122]?.getD undef=.agg (f y).toArray:=hv 9 122 rfl (rb hd rfl)
        have x127:act.tmps[127]?.getD undef=.pointer (some ⟨g,(q+1)*2,none⟩):=hv 14 127 rfl (rb hd rfl)
        have hd2:l 9=true∧l 13=true:=by simp [Region.binds] at hd;simp [hd]
        have lS2:l 17=false:=by
         cases h:l 17 with
         | false=>rfl
         | true=>rw [hJ.2.2 h] at hli;cases hli
        have hC:=hJ.1
        simp only [hli,lS2,Bool.false_eq_true,if_false] at hC
        refine wp_store_mid _ _ _ rfl g ((q+1)*2) (f y).toArray (by simpa [Act.eval] using x127) (by simpa [Act.eval] using x122) (by simpa [hf.len] using hC.there hf (show q+1<cur.length by omega)) (by simp only [List.size_toArray];rw [hf.len];exact szB) (all_oneCell_toArray (hf.one y)) ?_
        refine hK _ ⟨?_,by intro _;simp [upd,hd2],by simp [upd,lS2]⟩
        have:=hC.set hf (show q+1<cur.length by omega) y
        simpa [upd,lS2] using this
       | 16,_,ho,hG,hli,hK=>
        obtain rfl:=sj ho
        have x115:act.tmps[115]?.getD undef=.slice (some ⟨g,0,none⟩) N c:=hv 2 115 rfl (rb hd rfl)
        have x117:act.tmps[117]?.getD undef=.int .i64 (q:Int):=hv 4 117 rfl (rb hd rfl)
        clear hv hwas
        go_simp
        exact hK _ hJ
       | 17,_,ho,hG,hli,hK=>
        obtain rfl:=sj ho
        have x126:act.tmps[126]?.getD undef=.agg (f x).toArray:=hv 13 126 rfl (rb hd rfl)
        have x128:act.tmps[128]?.getD undef=.pointer (some ⟨g,q*2,none⟩):=hv 16 128 rfl (rb hd rfl)
        have hd2:l 15=true:=by simp [Region.binds] at hd;simp [hd]
        have hC:=hJ.1
        simp only [hli,hd2,Bool.false_eq_true,if_false,if_true] at hC
        refine wp_store_mid _ _ _ rfl g (q*2) (f x).toArray (by simpa [Act.eval] using x128) (by simpa [Act.eval] using x126) (by simpa [hf.len] using hC.there hf (show q<(cur.set (q+1) y).length by rw [List.length_set];omega)) (by simp only [List.size_toArray];rw [hf.len];exact szB) (all_oneCell_toArray (hf.one x)) ?_
        refine hK _ ⟨?_,by intro _;simp [upd,hJ.2.1 hd2],by intro _;simp [upd,hd2]⟩
        have:=hC.set hf (show q<(cur.set (q+1) y).length by rw [List.length_set];omega) x
        simpa [upd] using this
     ·obtain rfl:hi=k:=by omega
      go_wp2_with fail
      (try simp only [Exit.inBlock,Exit.then])
      refine bodyPost_ret (results_none rfl _ _ _) rfl ?_
      refine ⟨rfl,L.take (hi-a)++x::L.drop (hi-a),?_,by have e:hi=P.length+(hi-a):=(by omega);rw [e,atJ_eq] at hS3;simp only [List.append_assoc] at hS3 ⊢;exact hS3⟩
      rw [hRx.out]
      have i5:=hinv.out
      exact stb_down hLs.out (fun t y ht hy=>i5.1 t y (by omega) hy) (fun t y ht hy=>i5.2 t y (by omega) hy)
theorem symMergeB_C {α:Type} (f:α→List Value) (hf:Els f 2) (key:α→Int) (F:FuncId) (hF:CmpF f key F) (base g c N:Nat) (hl:N≤1000000000) (n:Nat) (ihh:Hid (∀ (P L R Q xs:List α) (a m b:Nat),L.length+R.length≤n→Hid (xs=P++L++R++Q)→Hid (a=P.length)→Hid (m=a+L.length)→Hid (b=m+R.length)→a<m→m<b→Hid (Srt key L)→Hid (Srt key R)→xs.length=N→∀ w,St f 2 24 base g c w w xs →
  Calls Tryz.prog 156 #[.slice (some ⟨g,0,none⟩) N c,.int .i64 (a:Int),.int .i64 (m:Int),.int .i64 (b:Int),.func (.func F) #[] #[]] w fun e w'=>e=.returned (.tuple #[])∧∃ Y,Stb key (L++R) Y∧St f 2 24 base g c w w' (P++Y++Q))) (P L R Q xs:List α) (a m b:Nat) (hx:Hid (xs=P++L++R++Q)) (ha:Hid (a=P.length)) (hm:Hid (m=a+L.length)) (hb:Hid (b=m+R.length)) (h1:a<m) (h2:m<b) (hLs:Hid (Srt key L)) (hRs:Hid (Srt key R)) (hN:xs.length=N) (h0:L.length+R.length≤n+1) (hA:¬ m=a+1) (hB:¬ b=m+1) (w:World) (hS:St f 2 24 base g c w w xs) :
  Calls Tryz.prog 156 #[.slice (some ⟨g,0,none⟩) N c,.int .i64 (a:Int),.int .i64 (m:Int),.int .i64 (b:Int),.func (.func F) #[] #[]] w fun e w'=>e=.returned (.tuple #[])∧∃ Y,Stb key (L++R) Y∧St f 2 24 base g c w w' (P++Y++Q):=by
   have hbN:b≤N:=by rw [← hN,hx.out,hb.out,hm.out,ha.out];simp;omega
   have hP:P.length=a:=ha.out.symm
   have hL:L.length=m-a:=by have:=hm.out;omega
   have hR:R.length=b-m:=by have:=hb.out;omega
   have hatL:Hid (∀ k y,L[k-a]?=some y→a≤k→k<m→xs[k]?=some y):=Lib.hid (fun k y hy h3 h4=>by
    rw [hx.out,List.append_assoc,List.append_assoc,List.getElem?_append_right (by omega),List.getElem?_append_left (by omega),hP];exact hy)
   have hatR:Hid (∀ k y,R[k-m]?=some y→m≤k→k<b→xs[k]?=some y):=Lib.hid (fun k y hy h3 h4=>by
    rw [hx.out,List.append_assoc,List.getElem?_append_right (by simp;omega),List.getElem?_append_left (by simp;omega),List.length_append,hP,hL,show k-(a+(m-a))=k-m by omega];exact hy)
   have hma:((m:Int)-(a:Int)==1)=false:=by simp;omega
   have hma2:¬ (m:Int)-(a:Int)=1:=by omega
   have hbm:((b:Int)-(m:Int)==1)=false:=by simp;omega
   have hbm2:¬ (b:Int)-(m:Int)=1:=by omega
   obtain ⟨mid,hmd⟩:∃ mid:Nat,mid=(a+b) / 2:=⟨_,rfl⟩
   have hmid:((a:Int)+(b:Int)) / 2=(mid:Int):=by omega
   have hmid2:2*mid≤a+b:=by omega
   have hmid3:a+b≤2*mid+1:=by omega
   clear hmd
   obtain ⟨nn,hnnd⟩:∃ nn:Nat,nn=mid+m:=⟨_,rfl⟩
   have hnn:(mid:Int)+(m:Int)=(nn:Int):=by omega
   obtain ⟨p,hpd⟩:∃ p:Nat,nn=p+1:=⟨nn-1,by omega⟩
   have hp:(nn:Int)-1=(p:Int):=by omega
   have hn1:nn≤mid+m:=by omega
   have hn2:mid+m≤nn:=by omega
   have hp1:nn≤p+1:=by omega
   have hp2:p+1≤nn:=by omega
   clear hnnd hpd
   go_enter Tryz.func156,Tryz.ntmps156
   go_upto_if 140 with fail
   go_cut [20,21] (fun s t wx=>w=wx∧∃ lo r0:Nat,s=.int .i64 lo∧t=.int .i64 r0∧a≤lo∧r0≤m∧nn≤b+lo∧(lo=a∨nn=b+lo)∧(r0=m∨nn=m+r0)∧lo≤r0∧m+r0≤nn)
   case first=>as_aux_lemma=>
    by_cases hmm:mid<m
    ·go_wp2_with fail
     go_meet
     exact ⟨rfl,nn-b,mid,by congr 1;omega,rfl,by omega,by omega,by omega,.inr (by omega),.inr (by omega),by omega,by omega⟩
    ·go_wp2_with fail
     go_meet
     exact ⟨rfl,a,m,rfl,rfl,by omega,by omega,by omega,.inl rfl,.inl rfl,by omega,by omega⟩
   case rest=>as_aux_lemma=>
    obtain ⟨rfl,lo,r0,rfl,rfl,hlo,hr0,hnb,hlo2,hr2,hlr,hmr⟩:=hcut
    go_wp2_with fail
    go_loopw [20,21] (fun s t wr=>∃ s' r:Nat,s=.int .i64 s'∧t=.int .i64 r∧Hid (MrgI key L R a m nn lo r0 s' r)∧St f 2 24 base g c w wr xs) (fun s t _=>(intOf t).toNat-(intOf s).toNat)
    case atStart=>exact ⟨lo,r0,rfl,rfl,Lib.hid (MrgI.begin hlr),hS⟩
    case round=>as_aux_lemma=>
     obtain ⟨s,r,rfl,rfl,hM,hS1⟩:=hrel
     have hM1:=hM.out.le1
     have hM2:=hM.out.le2
     have hM3:=hM.out.le3
     clear hS
     by_cases hlt:s<r
     ·obtain ⟨h,hhd⟩:∃ h:Nat,h=(s+r) / 2:=⟨_,rfl⟩
      have hh2:((s:Int)+(r:Int)) / 2=(h:Int):=by omega
      have hh3:s≤h:=by omega
      have hh4:h<r:=by omega
      clear hhd
      obtain ⟨d,hdd⟩:∃ d:Nat,d+h=p:=⟨p-h,by omega⟩
      have hd2:(p:Int)-(h:Int)=(d:Int):=by omega
      have hd3:m≤d:=by omega
      have hd4:d<b:=by omega
      have hd5:d+h≤p:=by omega
      have hd6:p≤d+h:=by omega
      clear hdd
      obtain ⟨x,hx⟩:∃ x,L[h-a]?=some x:=⟨_,List.getElem?_eq_getElem (by omega)⟩
      have hxx:xs[h]?=some x:=hatL.out h x hx (by omega) (by omega)
      obtain ⟨y,hy⟩:∃ y,R[d-m]?=some y:=⟨_,List.getElem?_eq_getElem (by omega)⟩
      have hyx:xs[d]?=some y:=hatR.out d y hy (by omega) (by omega)
      have hhN:h<N:=by omega
      have hdN:d<N:=by omega
      have zd:IntKind.i64.wrap (d:Int)=(d:Int):=by rw [IntKind.wrap_i64];omega
      by_cases hk:key y<key x
      ·have hCn:cmpI (key y) (key x)<0:=cmpI_neg.2 hk
       go_wp2_with fail
       refine wp_region_kg mixed (by kernel_rfl) (by kernel_rfl) (fun _=>true) (tab [.func (.func F) #[] #[],.slice (some ⟨g,0,none⟩) N c,.int .i64 (p:Int),.int .i64 (h:Int),.int .i64 (d:Int),.pointer (some ⟨g,d*2,none⟩),.agg (f y).toArray,.slice (some ⟨g,0,none⟩) N c,.int .i64 (h:Int),.pointer (some ⟨g,h*2,none⟩),.agg (f x).toArray,.int .i64 (cmpI (key y) (key x)),.bool true,.bool false]) (fun l w'=>St f 2 24 base g c w w' xs) ?_ ?_ ?_ ?_ ?_
       ·intro qq op ho
        have hiq:qq<14:=lt_of_some ho
        match qq,hiq,ho with
        | 0,_,ho | 1,_,ho | 2,_,ho | 3,_,ho | 4,_,ho | 5,_,ho | 6,_,ho | 7,_,ho | 8,_,ho | 9,_,ho | 10,_,ho | 11,_,ho | 12,_,ho | 13,_,ho=>
         obtain rfl:=sj ho
         rfl
       ·exact hS1.drew
       ·intro qq _ h;cases h
       ·intro w' l hJ hl
        rw [putAll_tab _ _ _ _ [(some 158,.func (.func F) #[] #[]),(some 159,.slice (some ⟨g,0,none⟩) N c),(some 160,.int .i64 (p:Int)),(some 161,.int .i64 (h:Int)),(some 162,.int .i64 (d:Int)),(some 163,.pointer (some ⟨g,d*2,none⟩)),(some 164,.agg (f y).toArray),(some 165,.slice (some ⟨g,0,none⟩) N c),(some 166,.int .i64 (h:Int)),(some 167,.pointer (some ⟨g,h*2,none⟩)),(some 168,.agg (f x).toArray),(some 169,.int .i64 (cmpI (key y) (key x))),(some 170,.bool true),(some 171,.bool false)] rfl]
        simp only [putL_eq,putT,List.set_cons_succ,List.set_cons_zero]
        have hS9:=hJ
        clear hl
        clear hJ
        go_wp2_with fail
        go_roundw
        case rel=>exact ⟨s,h,rfl,rfl,Lib.hid (hM.out.down hLs.out hRs.out (by omega) (by omega) hx (by rw [show nn-1-h-m=d-m by omega];exact hy) hk),hS9⟩
        case measure=>simp [intOf];omega
       ·intro qq op ho hG l act w' hJ hli hd hv hwas K hK
        have e0:=hwas 0 rfl
        have e4:=hwas 4 rfl
        have e22:=hwas 22 rfl
        have e23:=hwas 23 rfl
        simp at e0 e4 e22 e23
        have hiq:qq<14:=lt_of_some ho
        match qq,hiq,ho,hG,hli,hK with
        | 0,_,ho,hG,hli,hK=>
         obtain rfl:=sj ho
         clear hv hwas
         go_simp
         exact hK _ hJ
        | 1,_,ho,hG,hli,hK=>
         obtain rfl:=sj ho
         clear hv hwas
         go_simp
         exact hK _ hJ
        | 2,_,ho,hG,hli,hK=>
         obtain rfl:=sj ho
         clear hv hwas
         go_simp
         exact hK _ hJ
        | 3,_,ho,hG,hli,hK=>
         obtain rfl:=sj ho
         clear hv hwas
         go_simp
         exact hK _ hJ
        | 4,_,ho,hG,hli,hK=>
         obtain rfl:=sj ho
         have x160:act.tmps[160]?.getD undef=.int .i64 (p:Int):=hv 2 160 rfl (rb hd rfl)
         have x161:act.tmps[161]?.getD undef=.int .i64 (h:Int):=hv 3 161 rfl (rb hd rfl)
         clear hv hwas
         go_simp
         exact hK _ hJ
        | 5,_,ho,hG,hli,hK=>
         obtain rfl:=sj ho
         have x159:act.tmps[159]?.getD undef=.slice (some ⟨g,0,none⟩) N c:=hv 1 159 rfl (rb hd rfl)
         have x162:act.tmps[162]?.getD undef=.int .i64 (d:Int):=hv 4 162 rfl (rb hd rfl)
         clear hv hwas
         go_simp
         exact hK _ hJ
        | 6,_,ho,hG,hli,hK=>
         obtain rfl:=sj ho
         have x163:act.tmps[163]?.getD undef=.pointer (some ⟨g,d*2,none⟩):=hv 5 163 rfl (rb hd rfl)
         refine wp_load_mid _ _ rfl g (d*2) (by simpa [Act.eval] using x163) (f y) _ (hJ.range hf hyx) Tryz.underlying24 rfl (by rw [hf.len];exact szB) ?_
         exact hK _ hJ
        | 7,_,ho,hG,hli,hK=>
         obtain rfl:=sj ho
         clear hv hwas
         go_simp
         exact hK _ hJ
        | 8,_,ho,hG,hli,hK=>
         obtain rfl:=sj ho
         clear hv hwas
         go_simp
         exact hK _ hJ
        | 9,_,ho,hG,hli,hK=>
         obtain rfl:=sj ho
         have x165:act.tmps[165]?.getD undef=.slice (some ⟨g,0,none⟩) N c:=hv 7 165 rfl (rb hd rfl)
         have x166:act.tmps[166]?.getD undef=.int .i64 (h:Int):=hv 8 166 rfl (rb hd rfl)
         clear hv hwas
         go_simp
         exact hK _ hJ
        | 10,_,ho,hG,hli,hK=>
         obtain rfl:=sj ho
         have x167:act.tmps[167]?.getD undef=.pointer (some ⟨g,h*2,none⟩):=hv 9 167 rfl (rb hd rfl)
         refine wp_load_mid _ _ rfl g (h*2) (by simpa [Act.eval] using x167) (f x) _ (hJ.range hf hxx) Tryz.underlying24 rfl (by rw [hf.len];exact szB) ?_
         exact hK _ hJ
        | 11,_,ho,hG,hli,hK=>
         obtain rfl:=sj ho
         have x158:act.tmps[158]?.getD undef=.func (.func F) #[] #[]:=hv 0 158 rfl (rb hd rfl)
         have x164:act.tmps[164]?.getD undef=.agg (f y).toArray:=hv 6 164 rfl (rb hd rfl)
         have x168:act.tmps[168]?.getD undef=.agg (f x).toArray:=hv 10 168 rfl (rb hd rfl)
         clear hv hwas
         have hen:=hF.2
         go_simp
         refine (hF.1 w' y x).mono ?_
         rintro e w'' ⟨rfl,hb''⟩
         exact hK _ (hJ.below hb'')
        | 12,_,ho,hG,hli,hK=>
         obtain rfl:=sj ho
         have x169:act.tmps[169]?.getD undef=.int .i64 (cmpI (key y) (key x)):=hv 11 169 rfl (rb hd rfl)
         clear hv hwas
         go_simp
         exact hK _ hJ
        | 13,_,ho,hG,hli,hK=>
         obtain rfl:=sj ho
         have x170:act.tmps[170]?.getD undef=.bool true:=hv 12 170 rfl (rb hd rfl)
         clear hv hwas
         go_simp
         exact hK _ hJ
      ·have hCn:¬ cmpI (key y) (key x)<0:=fun h=>hk (cmpI_neg.1 h)
       have hCd:decide (cmpI (key y) (key x)<0)=false:=by simp [hCn]
       go_wp2_with fail
       refine wp_region_kg mixed (by kernel_rfl) (by kernel_rfl) (fun _=>true) (tab [.func (.func F) #[] #[],.slice (some ⟨g,0,none⟩) N c,.int .i64 (p:Int),.int .i64 (h:Int),.int .i64 (d:Int),.pointer (some ⟨g,d*2,none⟩),.agg (f y).toArray,.slice (some ⟨g,0,none⟩) N c,.int .i64 (h:Int),.pointer (some ⟨g,h*2,none⟩),.agg (f x).toArray,.int .i64 (cmpI (key y) (key x)),.bool false,.bool true]) (fun l w'=>St f 2 24 base g c w w' xs) ?_ ?_ ?_ ?_ ?_
       ·intro qq op ho
        have hiq:qq<14:=lt_of_some ho
        match qq,hiq,ho with
        | 0,_,ho | 1,_,ho | 2,_,ho | 3,_,ho | 4,_,ho | 5,_,ho | 6,_,ho | 7,_,ho | 8,_,ho | 9,_,ho | 10,_,ho | 11,_,ho | 12,_,ho | 13,_,ho=>
         obtain rfl:=sj ho
         rfl
       ·exact hS1.drew
       ·intro qq _ h;cases h
       ·intro w' l hJ hl
        rw [putAll_tab _ _ _ _ [(some 158,.func (.func F) #[] #[]),(some 159,.slice (some ⟨g,0,none⟩) N c),(some 160,.int .i64 (p:Int)),(some 161,.int .i64 (h:Int)),(some 162,.int .i64 (d:Int)),(some 163,.pointer (some ⟨g,d*2,none⟩)),(some 164,.agg (f y).toArray),(some 165,.slice (some ⟨g,0,none⟩) N c),(some 166,.int .i64 (h:Int)),(some 167,.pointer (some ⟨g,h*2,none⟩)),(some 168,.agg (f x).toArray),(some 169,.int .i64 (cmpI (key y) (key x))),(some 170,.bool false),(some 171,.bool true)] rfl]
        simp only [putL_eq,putT,List.set_cons_succ,List.set_cons_zero]
        have hS9:=hJ
        clear hl
        clear hJ
        go_wp2_with fail
        go_roundw
        case rel=>exact ⟨h+1,r,by go_num,rfl,Lib.hid (hM.out.up hLs.out hRs.out hlo (by omega) (by omega) hx (by rw [show nn-1-h-m=d-m by omega];exact hy) (show ¬ key y<key x by omega)),hS9⟩
        case measure=>simp [intOf];omega
       ·intro qq op ho hG l act w' hJ hli hd hv hwas K hK
        have e0:=hwas 0 rfl
        have e4:=hwas 4 rfl
        have e22:=hwas 22 rfl
        have e23:=hwas 23 rfl
        simp at e0 e4 e22 e23
        have hiq:qq<14:=lt_of_some ho
        match qq,hiq,ho,hG,hli,hK with
        | 0,_,ho,hG,hli,hK=>
         obtain rfl:=sj ho
         clear hv hwas
         go_simp
         exact hK _ hJ
        | 1,_,ho,hG,hli,hK=>
         obtain rfl:=sj ho
         clear hv hwas
         go_simp
         exact hK _ hJ
        | 2,_,ho,hG,hli,hK=>
         obtain rfl:=sj ho
         clear hv hwas
         go_simp
         exact hK _ hJ
        | 3,_,ho,hG,hli,hK=>
         obtain rfl:=sj ho
         clear hv hwas
         go_simp
         exact hK _ hJ
        | 4,_,ho,hG,hli,hK=>
         obtain rfl:=sj ho
         have x160:act.tmps[160]?.getD undef=.int .i64 (p:Int):=hv 2 160 rfl (rb hd rfl)
         have x161:act.tmps[161]?.getD undef=.int .i64 (h:Int):=hv 3 161 rfl (rb hd rfl)
         clear hv hwas
         go_simp
         exact hK _ hJ
        | 5,_,ho,hG,hli,hK=>
         obtain rfl:=sj ho
         have x159:act.tmps[159]?.getD undef=.slice (some ⟨g,0,none⟩) N c:=hv 1 159 rfl (rb hd rfl)
         have x162:act.tmps[162]?.getD undef=.int .i64 (d:Int):=hv 4 162 rfl (rb hd rfl)
         clear hv hwas
         go_simp
         exact hK _ hJ
        | 6,_,ho,hG,hli,hK=>
         obtain rfl:=sj ho
         have x163:act.tmps[163]?.getD undef=.pointer (some ⟨g,d*2,none⟩):=hv 5 163 rfl (rb hd rfl)
         refine wp_load_mid _ _ rfl g (d*2) (by simpa [Act.eval] using x163) (f y) _ (hJ.range hf hyx) Tryz.underlying24 rfl (by rw [hf.len];exact szB) ?_
         exact hK _ hJ
        | 7,_,ho,hG,hli,hK=>
         obtain rfl:=sj ho
         clear hv hwas
         go_simp
         exact hK _ hJ
        | 8,_,ho,hG,hli,hK=>
         obtain rfl:=sj ho
         clear hv hwas
         go_simp
         exact hK _ hJ
        | 9,_,ho,hG,hli,hK=>
         obtain rfl:=sj ho
         have x165:act.tmps[165]?.getD undef=.slice (some ⟨g,0,none⟩) N c:=hv 7 165 rfl (rb hd rfl)
         have x166:act.tmps[166]?.getD undef=.int .i64 (h:Int):=hv 8 166 rfl (rb hd rfl)
         clear hv hwas
         go_simp
         exact hK _ hJ
        | 10,_,ho,hG,hli,hK=>
         obtain rfl:=sj ho
         have x167:act.tmps[167]?.getD undef=.pointer (some ⟨g,h*2,none⟩):=hv 9 167 rfl (rb hd rfl)
         refine wp_load_mid _ _ rfl g (h*2) (by simpa [Act.eval] using x167) (f x) _ (hJ.range hf hxx) Tryz.underlying24 rfl (by rw [hf.len];exact szB) ?_
         exact hK _ hJ
        | 11,_,ho,hG,hli,hK=>
         obtain rfl:=sj ho
         have x158:act.tmps[158]?.getD undef=.func (.func F) #[] #[]:=hv 0 158 rfl (rb hd rfl)
         have x164:act.tmps[164]?.getD undef=.agg (f y).toArray:=hv 6 164 rfl (rb hd rfl)
         have x168:act.tmps[168]?.getD undef=.agg (f x).toArray:=hv 10 168 rfl (rb hd rfl)
         clear hv hwas
         have hen:=hF.2
         go_simp
         refine (hF.1 w' y x).mono ?_
         rintro e w'' ⟨rfl,hb''⟩
         exact hK _ (hJ.below hb'')
        | 12,_,ho,hG,hli,hK=>
         obtain rfl:=sj ho
         have x169:act.tmps[169]?.getD undef=.int .i64 (cmpI (key y) (key x)):=hv 11 169 rfl (rb hd rfl)
         clear hv hwas
         go_simp
         exact hK _ hJ
        | 13,_,ho,hG,hli,hK=>
         obtain rfl:=sj ho
         have x170:act.tmps[170]?.getD undef=.bool false:=hv 12 170 rfl (rb hd rfl)
         clear hv hwas
         go_simp
         exact hK _ hJ
     ·obtain rfl:r=s:=by omega
      obtain ⟨d1,d2⟩:=hM.out.ends (b:=b) hLs.out hRs.out (by omega) (by omega) hlo hr0 hnb hlo2 hr2
      have d1h:=Lib.hid d1
      have d2h:=Lib.hid d2
      clear d1 d2
      obtain ⟨e,hed⟩:∃ e:Nat,e+r=nn:=⟨nn-r,by omega⟩
      have he:(nn:Int)-(r:Int)=(e:Int):=by omega
      have he1:m≤e:=by omega
      have he2:e≤b:=by omega
      have he3:r+e≤mid+m:=by omega
      have he4:mid+m≤r+e:=by omega
      have he5:e+r≤nn:=by omega
      have he6:nn≤e+r:=by omega
      clear hed
      obtain ⟨L1,hL1⟩:∃ l,l=L.take (r-a):=⟨_,rfl⟩
      obtain ⟨L2,hL2⟩:∃ l,l=L.drop (r-a):=⟨_,rfl⟩
      obtain ⟨R1,hR1⟩:∃ l,l=R.take (e-m):=⟨_,rfl⟩
      obtain ⟨R2,hR2⟩:∃ l,l=R.drop (e-m):=⟨_,rfl⟩
      have lL1:L1.length=r-a:=by rw [hL1];simp;omega
      have lL2:L2.length=m-r:=by rw [hL2];simp;omega
      have lR1:R1.length=e-m:=by rw [hR1];simp;omega
      have lR2:R2.length=b-e:=by rw [hR2];simp;omega
      have hLL:Hid (L=L1++L2):=Lib.hid (by rw [hL1,hL2,List.take_append_drop])
      have hRR:Hid (R=R1++R2):=Lib.hid (by rw [hR1,hR2,List.take_append_drop])
      have hd1:Hid (∀ x∈L1,∀ y∈R2,key x≤key y):=Lib.hid (by rw [hL1,hR2,show e-m=nn-r-m by omega];exact d1h.out)
      have hd2:Hid (∀ y∈R1,∀ x∈L2,key y<key x):=Lib.hid (by rw [hR1,hL2,show e-m=nn-r-m by omega];exact d2h.out)
      clear hL1 hL2 hR1 hR2 d1h d2h hM
      have hsL:Hid (Srt key L1∧Srt key L2):=Lib.hid (by have:=hLs.out;rw [hLL.out] at this;exact ⟨(Srt.app.1 this).1,(Srt.app.1 this).2.1⟩)
      have hsR:Hid (Srt key R1∧Srt key R2):=Lib.hid (by have:=hRs.out;rw [hRR.out] at this;exact ⟨(Srt.app.1 this).1,(Srt.app.1 this).2.1⟩)
      have hre:r≤m:=by omega
      have hxs:xs=P++L1++L2++R1++(R2++Q):=by rw [hx.out,hLL.out,hRR.out];simp
      have hxsh:=Lib.hid hxs
      clear hxs
      obtain ⟨B,hB⟩:∃ B:Bool,Hid (B=decide (r<m∧m<e)):=⟨_,Lib.hid rfl⟩
      go_upto_region 39 with fail
      go_cut [24,185] (fun s t wx=>s=.int .i64 e∧t=.bool B∧wr=wx)
      case first=>as_aux_lemma=>
       by_cases hc1:r<m
       ·by_cases hc2:m<e
        ·have hcb:B=true:=by rw [hB.out];simp [hc1,hc2]
         subst hcb
         go_wp2_with fail
         go_meet
         exact ⟨rfl,rfl,rfl⟩
        ·have hcb:B=false:=by rw [hB.out];simp [hc1,hc2]
         subst hcb
         go_wp2_with fail
         go_meet
         exact ⟨rfl,rfl,rfl⟩
       ·have hcb:B=false:=by rw [hB.out];simp [hc1]
        subst hcb
        go_wp2_with fail
        go_meet
        exact ⟨rfl,rfl,rfl⟩
      case rest=>as_aux_lemma=>
       obtain ⟨rfl,rfl,rfl⟩:=hcut
       go_upto_if 185 with fail
       go_cut [24] (fun s wx=>s=.int .i64 e∧St f 2 24 base g c w wx (P++L1++R1++L2++R2++Q))
       case first=>as_aux_lemma=>
        cases B with
        | true=>
         have hc:=of_decide_eq_true hB.out.symm
         clear hB
         go_wp2_with fail
         refine (rotateB_any f hf (P++L1) L2 R1 (R2++Q) xs hxsh.out r m e N (by simp;omega) (by omega) (by omega) hc.1 hc.2 hN hl base g c _ wr hS1.self).mono ?_
         rintro e' w1 ⟨rfl,hS2⟩
         go_wp2_with fail
         go_meet
         refine ⟨rfl,?_⟩
         have:=hS1.trans hS2
         simp only [List.append_assoc] at this ⊢
         exact this
        | false=>
         have hc:=of_decide_eq_false hB.out.symm
         clear hB
         go_wp2_with fail
         go_meet
         refine ⟨rfl,?_⟩
         have:=hS1
         rw [hxsh.out] at this
         have e1:L2=[]∨R1=[]:=by
          rcases Nat.lt_or_ge r m with h | h
          ·right;exact List.eq_nil_of_length_eq_zero (by omega)
          ·left;exact List.eq_nil_of_length_eq_zero (by omega)
         rcases e1 with e1 | e1
         ·rw [e1] at this ⊢
          simp only [List.append_assoc,List.nil_append] at this ⊢
          exact this
         ·rw [e1] at this ⊢
          simp only [List.append_assoc,List.nil_append] at this ⊢
          exact this
       case rest=>as_aux_lemma=>
        obtain ⟨rfl,hS2⟩:=hcut
        clear hS1 hxsh hB
        have hlen:(P++L1++R1++L2++R2++Q).length=N:=by rw [← hN,hx.out,hLL.out,hRR.out];simp;omega
        clear B
        obtain ⟨B,hB⟩:∃ B:Bool,Hid (B=decide (a<r∧r<mid)):=⟨_,Lib.hid rfl⟩
        go_upto_region 41 with fail
        go_cut [24,199] (fun s t wx=>s=.int .i64 e∧t=.bool B∧wc=wx)
        case first=>as_aux_lemma=>
         by_cases hc1:a<r
         ·by_cases hc2:r<mid
          ·have hcb:B=true:=by rw [hB.out];simp [hc1,hc2]
           subst hcb
           go_wp2_with fail
           go_meet
           exact ⟨rfl,rfl,rfl⟩
          ·have hcb:B=false:=by rw [hB.out];simp [hc1,hc2]
           subst hcb
           go_wp2_with fail
           go_meet
           exact ⟨rfl,rfl,rfl⟩
         ·have hcb:B=false:=by rw [hB.out];simp [hc1]
          subst hcb
          go_wp2_with fail
          go_meet
          exact ⟨rfl,rfl,rfl⟩
        case rest=>as_aux_lemma=>
         obtain ⟨rfl,rfl,rfl⟩:=hcut
         go_upto_if 199 with fail
         go_cut [24] (fun s wx=>s=.int .i64 e∧∃ Y1,Stb key (L1++R1) Y1∧St f 2 24 base g c w wx (P++Y1++L2++R2++Q))
         case first=>as_aux_lemma=>
          cases B with
          | true=>
           have hc:=of_decide_eq_true hB.out.symm
           clear hB
           go_wp2_with fail
           refine (ihh.out P L1 R1 (L2++R2++Q) (P++L1++R1++L2++R2++Q) a r mid (by omega) (Lib.hid (by simp)) (Lib.hid hP.symm) (Lib.hid (by omega)) (Lib.hid (by omega)) hc.1 hc.2 (Lib.hid hsL.out.1) (Lib.hid hsR.out.1) hlen wc hS2.self).mono ?_
           rintro e' w1 ⟨rfl,Y,hY,hS3⟩
           go_wp2_with fail
           go_meet
           refine ⟨rfl,Y,hY,?_⟩
           have:=hS2.trans hS3
           simp only [List.append_assoc] at this ⊢
           exact this
          | false=>
           have hc:=of_decide_eq_false hB.out.symm
           clear hB
           go_wp2_with fail
           go_meet
           refine ⟨rfl,L1++R1,?_,?_⟩
           ·rcases Nat.lt_or_ge a r with h | h
            ·have e1:R1=[]:=List.eq_nil_of_length_eq_zero (by omega)
             rw [e1,List.append_nil];exact hsL.out.1.stb
            ·have e1:L1=[]:=List.eq_nil_of_length_eq_zero (by omega)
             rw [e1,List.nil_append];exact hsR.out.1.stb
           ·have:=hS2
            simp only [List.append_assoc] at this ⊢
            exact this
         case rest=>as_aux_lemma=>
          obtain ⟨rfl,Y1,hY1,hS3⟩:=hcut
          clear hS2 hB
          clear B
          have lY1:Y1.length=(r-a)+(e-m):=by have:=hY1.2.1;simp at this;omega
          have hY1h:=Lib.hid hY1
          clear hY1
          have hlen2:(P++Y1++L2++R2++Q).length=N:=by rw [← hlen];simp;omega
          have hend:∀ Y2,Stb key (L2++R2) Y2→Stb key (L++R) (Y1++Y2):=by
           intro Y2 hY2
           rw [hLL.out,hRR.out]
           exact stb_two hY1h.out hY2 (by have:=hLs.out;rwa [hLL.out] at this) (by have:=hRs.out;rwa [hRR.out] at this) hd1.out hd2.out
          have hendh:=Lib.hid hend
          clear hend
          obtain ⟨B,hB⟩:∃ B:Bool,Hid (B=decide (mid<e∧e<b)):=⟨_,Lib.hid rfl⟩
          go_upto_region 43 with fail
          go_cut [24,213] (fun s t wx=>s=.int .i64 e∧t=.bool B∧wc=wx)
          case first=>as_aux_lemma=>
           by_cases hc1:mid<e
           ·by_cases hc2:e<b
            ·have hcb:B=true:=by rw [hB.out];simp [hc1,hc2]
             subst hcb
             go_wp2_with fail
             go_meet
             exact ⟨rfl,rfl,rfl⟩
            ·have hcb:B=false:=by rw [hB.out];simp [hc1,hc2]
             subst hcb
             go_wp2_with fail
             go_meet
             exact ⟨rfl,rfl,rfl⟩
           ·have hcb:B=false:=by rw [hB.out];simp [hc1]
            subst hcb
            go_wp2_with fail
            go_meet
            exact ⟨rfl,rfl,rfl⟩
          case rest=>as_aux_lemma=>
           obtain ⟨rfl,rfl,rfl⟩:=hcut
           cases B with
           | true=>
            have hc:=of_decide_eq_true hB.out.symm
            clear hB
            go_wp2_with fail
            refine (ihh.out (P++Y1) L2 R2 Q (P++Y1++L2++R2++Q) mid e b (by omega) (Lib.hid rfl) (Lib.hid (by simp;omega)) (Lib.hid (by omega)) (Lib.hid (by omega)) hc.1 hc.2 (Lib.hid hsL.out.2) (Lib.hid hsR.out.2) hlen2 wc hS3.self).mono ?_
            rintro e' w1 ⟨rfl,Y,hY,hS4⟩
            go_wp2_with fail
            go_end0
            refine ⟨rfl,Y1++Y,hendh.out Y hY,?_⟩
            have:=hS3.trans hS4
            simp only [List.append_assoc] at this ⊢
            exact this
           | false=>
            have hc:=of_decide_eq_false hB.out.symm
            clear hB
            go_wp2_with fail
            go_end0
            refine ⟨rfl,Y1++(L2++R2),hendh.out _ ?_,?_⟩
            ·rcases Nat.lt_or_ge mid e with h | h
             ·have e1:R2=[]:=List.eq_nil_of_length_eq_zero (by omega)
              rw [e1,List.append_nil];exact hsL.out.2.stb
             ·have e1:L2=[]:=List.eq_nil_of_length_eq_zero (by omega)
              rw [e1,List.nil_append];exact hsR.out.2.stb
            ·have:=hS3
             simp only [List.append_assoc] at this ⊢
             exact this
theorem symMergeB_any {α:Type} (f:α→List Value) (hf:Els f 2) (key:α→Int) (F:FuncId) (hF:CmpF f key F) (base g c N:Nat) (hl:N≤1000000000):∀ (n:Nat) (P L R Q xs:List α) (a m b:Nat),L.length+R.length≤n→Hid (xs=P++L++R++Q)→Hid (a=P.length)→Hid (m=a+L.length)→Hid (b=m+R.length)→a<m→m<b→Hid (Srt key L)→Hid (Srt key R)→xs.length=N→∀ w,St f 2 24 base g c w w xs →
  Calls Tryz.prog 156 #[.slice (some ⟨g,0,none⟩) N c,.int .i64 (a:Int),.int .i64 (m:Int),.int .i64 (b:Int),.func (.func F) #[] #[]] w fun e w'=>e=.returned (.tuple #[])∧∃ Y,Stb key (L++R) Y∧St f 2 24 base g c w w' (P++Y++Q):=by
 intro n
 induction n with
 | zero=>intro P L R Q xs a m b h0 hx ha hm hb h1 h2;exfalso;have:=hm.out;have:=hb.out;omega
 | succ n ih=>
  intro P L R Q xs a m b h0 hx ha hm hb h1 h2 hLs hRs hN w hS
  by_cases hA:m=a+1
  ·exact symMergeB_A f hf key F hF base g c N hl P L R Q xs a m b hx ha hm hb h1 h2 hLs hRs hN hA w hS
  ·by_cases hB:b=m+1
   ·exact symMergeB_B f hf key F hF base g c N hl P L R Q xs a m b hx ha hm hb h1 h2 hLs hRs hN hA hB w hS
   ·exact symMergeB_C f hf key F hF base g c N hl n (Lib.hid ih) P L R Q xs a m b hx ha hm hb h1 h2 hLs hRs hN h0 hA hB w hS
end Go.Proofs.YtefdblaolmckmabGreat
