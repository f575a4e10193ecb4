/- Lemmas of the proof. -/
import Derived.Test.YtefdblaolmckmabGreatRBStoFToPlainM
import Derived.Test.YtefdblaolmckmabGreatRBSpecOToSpecR
import Derived.Test.YtefdblaolmckmabGreatRBPosKToInsB
import Derived.Test.YtefdblaolmckmabGreatRBStoBToKg
import Derived.Test.YtefdblaolmckmabGreatRBPlainAToHp
import Derived.Test.YtefdblaolmckmabGreatRBSpecVToStoA
import Derived.Test.YtefdblaolmckmabGreatRBSortTRToStoO
import Derived.Test.YtefdblaolmckmabGreatRBRowToInv
set_option linter.unusedVariables false
set_option linter.unusedSimpArgs false
set_option maxRecDepth 100000
set_option maxHeartbeats 12800000
namespace Go.Proofs.YtefdblaolmckmabGreat
open Go.RowKit
open Brood
theorem skeepF_any (p:Value) (w:World) :
  Calls Tryz.prog 53 #[p] w fun e w'=>e=.returned (.tuple #[.bool false,.int .i64 0])∧w=w':=by
 go_enter Tryz.func53,Tryz.ntmps53
 go_wp2_with fail
 refine bodyPost_ret (v:=.tuple #[.bool false,.int .i64 0]) (by simp [results,Tryz.results53,go_sem]) rfl ⟨rfl,rfl⟩
theorem sputF_any (r:BRow) (hs:isSet r.has=true) (part n:Int) (g o:Nat) (b1 b2:Nat) (w:World) (h1:Blk w b1 3 #[.int .i64 part]) (h2:Blk w b2 3 #[.int .i64 n]) (n1:g≠b1) (n2:g≠b2) (cur:Array Value) (HC:Blk w g 114 cur) (hr:RowIn cur o r) :
  Calls Tryz.prog 58 #[.pointer (some ⟨g,o,none⟩),.pointer (some ⟨b1,0,none⟩),.pointer (some ⟨b2,0,none⟩)] w fun e w'=>e=.returned (.tuple #[.bool true,.int .i64 (putF part n r).2])∧w.grownBy w' (some g)∧Blk w' g 114 (patch cur o (rowCells (putF part n r).1)):=by
 have c1:=h1.cell 0;have c2:=h2.cell 0
 simp at c1 c2
 have ch:=hr.has
 have hc2:w.cell? ⟨g,o+2,none⟩=some (.int .i64 r.has):=(HC.cell (o+2)).trans ch
 have m1:=n1.symm;have m2:=n2.symm
 by_cases hpv:isPart part=true∧isVal n=true
 ·obtain ⟨hp,hv⟩:=hpv
  have hF:Hid (putF part n r=(⟨r.idx,r.gen,withS r.has part,r.vals.set part.toNat n,by rw [List.length_set];exact r.h8⟩,0)):=Lib.hid (by simp [putF,hp,hv])
  obtain ⟨p0,p8⟩:=isPart_iff.1 hp
  obtain ⟨q,rfl⟩:=nat_of p0
  have hq8:q<8:=by omega
  have cv:=hr.val hq8
  have hpr:=Lib.hid (patch_row hr (withS r.has q) n hq8 (by rw [List.length_set];exact r.h8))
  have hcp:=part_any q w;have hcn:=value_any n w
  rw [hp] at hcp;rw [hv] at hcn
  have hcph:=Lib.hid hcp;have hcnh:=Lib.hid hcn
  have hwi:=fun W=>with_any r.has q hs W
  have hwih:=Lib.hid hwi
  clear hcp hcn hwi hr hs hp hv
  obtain ⟨ridx,rgen,has,rvals,rh8⟩:=r
  simp only at *
  generalize rvals[q]'(by rw [rh8];omega)=z at cv
  generalize withS has q=hs' at *
  go_enter Tryz.func58,Tryz.ntmps58
  go_wp2_with fail
  refine hcph.out.mono ?_
  rintro e w1 ⟨rfl,rfl⟩
  go_wp2_with fail
  refine hcnh.out.mono ?_
  rintro e w1 ⟨rfl,rfl⟩
  go_wp2_with fail
  refine wp_region_known mixed (by kernel_rfl) (by kernel_rfl) (tab [.pointer (some ⟨g,o,none⟩),.pointer (some ⟨g,o,none⟩),.int .i64 (q:Int),.pointer (some ⟨g,o,none⟩),.pointer (some ⟨g,o,none⟩),.pointer (some ⟨g,o+2,none⟩),.int .i64 has,.int .i64 (q:Int),.int .i64 hs',.int .i64 n,.pointer (some ⟨g,o,none⟩),.pointer (some ⟨g,o+2,none⟩),undef,.pointer (some ⟨g,o,none⟩),.pointer (some ⟨g,o+3,none⟩),.pointer (some ⟨g,o+3+q,none⟩),undef]) (fun l w'=>w.grownBy w' (some g)∧Blk w' g 114 (if l 16 then (cur.setIfInBounds (o+2) (.int .i64 hs')).setIfInBounds (o+3+q) (.int .i64 n) else if l 12 then cur.setIfInBounds (o+2) (.int .i64 hs') else cur)∧(l 12=true→l 6=true)∧(l 16=true→l 12=true)) ⟨⟨rfl,rfl,rfl,Nat.le_refl _,fun _ _ _=>rfl⟩,HC.drew,by simp,by simp⟩ ?_ ?_
  rotate_left
  ·rintro i op ho l act w' ⟨hG,hC,hO1,hO2⟩ hli hd hv hwas K hK
   have hi:i<17:=lt_of_some ho
   have e0:=hwas 0 rfl
   have e1:=hwas 1 rfl
   have e2:=hwas 2 rfl
   simp at e0 e1 e2
   have hB1:=h1.grown hG (by simpa using m1)
   have hB2:=h2.grown hG (by simpa using m2)
   have d1:=hB1.cell 0;have d2:=hB2.cell 0
   simp at d1 d2
   have hz:=hC.frozen (o+2);have hz2:=hC.frozen (o+3+q)
   match i,hi,ho,hli,hK with
   | 0,_,ho,hli,hK=>
    obtain rfl:=sj ho
    clear hv hwas
    go_simp
    exact hK _ ⟨hG,hC,hO1,hO2⟩
   | 1,_,ho,hli,hK=>
    obtain rfl:=sj ho
    clear hv hwas
    go_simp
    exact hK _ ⟨hG,hC,hO1,hO2⟩
   | 2,_,ho,hli,hK=>
    obtain rfl:=sj ho
    clear hv hwas
    go_simp
    exact hK _ ⟨hG,hC,hO1,hO2⟩
   | 3,_,ho,hli,hK=>
    obtain rfl:=sj ho
    clear hv hwas
    go_simp
    exact hK _ ⟨hG,hC,hO1,hO2⟩
   | 4,_,ho,hli,hK=>
    obtain rfl:=sj ho
    have x16:act.tmps[17]?.getD undef=.pointer (some ⟨g,o,none⟩):=hv 3 17 rfl (rb hd rfl)
    clear hv hwas
    go_simp
    exact hK _ ⟨hG,hC,hO1,hO2⟩
   | 5,_,ho,hli,hK=>
    obtain rfl:=sj ho
    have x17:act.tmps[18]?.getD undef=.pointer (some ⟨g,o,none⟩):=hv 4 18 rfl (rb hd rfl)
    clear hv hwas
    go_simp
    exact hK _ ⟨hG,hC,hO1,hO2⟩
   | 6,_,ho,hli,hK=>
    obtain rfl:=sj ho
    have x18:act.tmps[19]?.getD undef=.pointer (some ⟨g,o+2,none⟩):=hv 5 19 rfl (rb hd rfl)
    have l1:l 12=false:=by
     cases h:l 12 with
     | false=>rfl
     | true=>exact absurd (hO1 h) (by simp [hli])
    have l2:l 16=false:=by
     cases h:l 16 with
     | false=>rfl
     | true=>rw [hO2 h] at l1;cases l1
    have hC2:=hC
    simp only [l1,l2] at hC2
    have d3:=hC2.cell (o+2)
    simp [ch] at d3
    clear hC2
    clear hv hwas
    go_simp
    exact hK _ ⟨hG,by simpa [upd] using hC,by simp [upd],by simpa [upd] using hO2⟩
   | 7,_,ho,hli,hK=>
    obtain rfl:=sj ho
    clear hv hwas
    go_simp
    exact hK _ ⟨hG,hC,hO1,hO2⟩
   | 8,_,ho,hli,hK=>
    obtain rfl:=sj ho
    have x19:act.tmps[20]?.getD undef=.int .i64 has:=hv 6 20 rfl (rb hd rfl)
    have x20:act.tmps[21]?.getD undef=.int .i64 (q:Int):=hv 7 21 rfl (rb hd rfl)
    have hwc:=hwih.out w'
    clear hwih
    clear hv hwas
    go_simp
    exact hwc.mono (fun e w2 ⟨he,hw⟩=>by subst he hw;exact hK _ ⟨hG,by simpa [upd] using hC,by simp [upd];intro h;simp [hO1 h],by simpa [upd] using hO2⟩)
   | 9,_,ho,hli,hK=>
    obtain rfl:=sj ho
    clear hv hwas
    go_simp
    exact hK _ ⟨hG,hC,hO1,hO2⟩
   | 10,_,ho,hli,hK=>
    obtain rfl:=sj ho
    have x13:act.tmps[14]?.getD undef=.pointer (some ⟨g,o,none⟩):=hv 0 14 rfl (rb hd rfl)
    clear hv hwas
    go_simp
    exact hK _ ⟨hG,hC,hO1,hO2⟩
   | 11,_,ho,hli,hK=>
    obtain rfl:=sj ho
    have x23:act.tmps[24]?.getD undef=.pointer (some ⟨g,o,none⟩):=hv 10 24 rfl (rb hd rfl)
    clear hv hwas
    go_simp
    exact hK _ ⟨hG,hC,hO1,hO2⟩
   | 12,_,ho,hli,hK=>
    obtain rfl:=sj ho
    have x24:act.tmps[25]?.getD undef=.pointer (some ⟨g,o+2,none⟩):=hv 11 25 rfl (rb hd rfl)
    have x21:act.tmps[22]?.getD undef=.int .i64 hs':=hv 8 22 rfl (rb hd rfl)
    have l2:l 16=false:=by
     cases h:l 16 with
     | false=>rfl
     | true=>exact absurd (hO2 h) (by simp [hli])
    have hC2:=hC
    simp only [hli,l2] at hC2
    have d3:=hC2.cell (o+2)
    simp [ch] at d3
    have l6:l 6=true:=by simp [Region.binds] at hd;simp [hd]
    have hCn:=hC2.set_ (o+2) (.int .i64 hs')
    clear hC2 hC
    clear hv hwas
    go_simp
    exact hK _ ⟨⟨hG.os,hG.tape,hG.output,by simpa [World.setCell] using hG.size,fun k h1 h2=>(Below.heap_setCell _ _ _ _ (fun e=>h2 (by rw [e]))).trans (hG.block k h1 h2)⟩,by simpa [upd,l2] using hCn,by simp [upd,l6],by simp [upd]⟩
   | 13,_,ho,hli,hK=>
    obtain rfl:=sj ho
    have x14:act.tmps[15]?.getD undef=.pointer (some ⟨g,o,none⟩):=hv 1 15 rfl (rb hd rfl)
    clear hv hwas
    go_simp
    exact hK _ ⟨hG,hC,hO1,hO2⟩
   | 14,_,ho,hli,hK=>
    obtain rfl:=sj ho
    have x25:act.tmps[26]?.getD undef=.pointer (some ⟨g,o,none⟩):=hv 13 26 rfl (rb hd rfl)
    clear hv hwas
    go_simp
    exact hK _ ⟨hG,hC,hO1,hO2⟩
   | 15,_,ho,hli,hK=>
    obtain rfl:=sj ho
    have x26:act.tmps[27]?.getD undef=.pointer (some ⟨g,o+3,none⟩):=hv 14 27 rfl (rb hd rfl)
    have x15:act.tmps[16]?.getD undef=.int .i64 (q:Int):=hv 2 16 rfl (rb hd rfl)
    clear hv hwas
    go_simp
    exact hK _ ⟨hG,hC,hO1,hO2⟩
   | 16,_,ho,hli,hK=>
    obtain rfl:=sj ho
    have x27:act.tmps[28]?.getD undef=.pointer (some ⟨g,o+3+q,none⟩):=hv 15 28 rfl (rb hd rfl)
    have x22:act.tmps[23]?.getD undef=.int .i64 n:=hv 9 23 rfl (rb hd rfl)
    have l1:l 12=true:=by simp [Region.binds] at hd;simp [hd]
    have hC2:=hC
    simp only [hli,l1] at hC2
    have d3:=hC2.cell (o+3+q)
    simp only [if_true,Bool.false_eq_true,if_false] at d3
    rw [Array.getElem?_setIfInBounds_ne (by omega),cv] at d3
    have hCn:=hC2.set_ (o+3+q) (.int .i64 n)
    clear hC2 hC
    clear hv hwas
    go_simp
    exact hK _ ⟨⟨hG.os,hG.tape,hG.output,by simpa [World.setCell] using hG.size,fun k h1 h2=>(Below.heap_setCell _ _ _ _ (fun e=>h2 (by rw [e]))).trans (hG.block k h1 h2)⟩,by simpa [upd] using hCn,by simpa [upd] using hO1,by simp [upd,l1]⟩
  rintro w' l ⟨hG,hC,hO1,hO2⟩ hl
  rw [putAll_tab _ _ _ _ [(some 14,.pointer (some ⟨g,o,none⟩)),(some 15,.pointer (some ⟨g,o,none⟩)),(some 16,.int .i64 (q:Int)),(some 17,.pointer (some ⟨g,o,none⟩)),(some 18,.pointer (some ⟨g,o,none⟩)),(some 19,.pointer (some ⟨g,o+2,none⟩)),(some 20,.int .i64 has),(some 21,.int .i64 (q:Int)),(some 22,.int .i64 hs'),(some 23,.int .i64 n),(some 24,.pointer (some ⟨g,o,none⟩)),(some 25,.pointer (some ⟨g,o+2,none⟩)),(none,undef),(some 26,.pointer (some ⟨g,o,none⟩)),(some 27,.pointer (some ⟨g,o+3,none⟩)),(some 28,.pointer (some ⟨g,o+3+q,none⟩)),(none,undef)] rfl]
  simp only [putL_eq,putT,List.set_cons_succ,List.set_cons_zero]
  have hl2:l 16=true:=hl 16 (by decide)
  rw [hl2,if_pos rfl] at hC
  go_wp2_with fail
  refine bodyPost_ret (v:=.tuple #[.bool true,.int .i64 0]) (by simp [results,Tryz.results58,go_sem]) rfl ⟨by rw [hF.out],hG,?_⟩
  rw [hF.out]
  show Blk w' g _ (patch cur o (rowCells ⟨ridx,rgen,hs',rvals.set q n,by rw [List.length_set];exact rh8⟩))
  rw [← hpr.out]
  exact hC
 ·have hF:Hid (putF part n r=(r,3)):=Lib.hid (by unfold putF;rw [if_neg (by simpa using hpv)])
  have hsame:=Lib.hid (patch_same hr)
  clear hr hs ch hc2
  have hcp:=part_any part w;have hcn:=value_any n w
  cases hp:isPart part with
  | false=>
   rw [hp] at hcp
   have hcph:=Lib.hid hcp
   clear hcp hcn hpv
   go_enter Tryz.func58,Tryz.ntmps58
   go_wp2_with fail
   refine hcph.out.mono ?_
   rintro e w1 ⟨rfl,rfl⟩
   go_wp2_with fail
   refine bodyPost_ret (v:=.tuple #[.bool true,.int .i64 3]) (by simp [results,Tryz.results58,go_sem]) rfl ⟨by rw [hF.out],grown_refl _ _,by rw [hF.out,hsame.out];exact HC⟩
  | true=>
   have hv:isVal n=false:=by cases h:isVal n;rfl;exact absurd ⟨hp,h⟩ hpv
   rw [hp] at hcp;rw [hv] at hcn
   have hcph:=Lib.hid hcp;have hcnh:=Lib.hid hcn
   clear hcp hcn hpv
   go_enter Tryz.func58,Tryz.ntmps58
   go_wp2_with fail
   refine hcph.out.mono ?_
   rintro e w1 ⟨rfl,rfl⟩
   go_wp2_with fail
   refine hcnh.out.mono ?_
   rintro e w1 ⟨rfl,rfl⟩
   go_wp2_with fail
   refine bodyPost_ret (v:=.tuple #[.bool true,.int .i64 3]) (by simp [results,Tryz.results58,go_sem]) rfl ⟨by rw [hF.out],grown_refl _ _,by rw [hF.out,hsame.out];exact HC⟩
theorem sdropF_any (r:BRow) (hs:isSet r.has=true) (part:Int) (g o:Nat) (b1:Nat) (w:World) (h1:Blk w b1 3 #[.int .i64 part]) (n1:g≠b1) (cur:Array Value) (HC:Blk w g 114 cur) (hr:RowIn cur o r) :
  Calls Tryz.prog 62 #[.pointer (some ⟨g,o,none⟩),.pointer (some ⟨b1,0,none⟩)] w fun e w'=>e=.returned (.tuple #[.bool true,.int .i64 (dropF part r).2])∧w.grownBy w' (some g)∧Blk w' g 114 (patch cur o (rowCells (dropF part r).1)):=by
 have c1:=h1.cell 0
 simp at c1
 have ch:=hr.has
 have hc2:w.cell? ⟨g,o+2,none⟩=some (.int .i64 r.has):=(HC.cell (o+2)).trans ch
 have m1:=n1.symm
 by_cases hp:hasB r.has part=true
 ·have hF:Hid (dropF part r=(⟨r.idx,r.gen,withoutS r.has part,r.vals.set part.toNat 0,by rw [List.length_set];exact r.h8⟩,0)):=Lib.hid (by simp [dropF,hp])
  have hpp:isPart part=true:=by simp only [hasB,Bool.and_eq_true] at hp;exact hp.1
  obtain ⟨p0,p8⟩:=isPart_iff.1 hpp
  obtain ⟨q,rfl⟩:=nat_of p0
  have hq8:q<8:=by omega
  have cv:=hr.val hq8
  have hpr:=Lib.hid (patch_row hr (withoutS r.has q) 0 hq8 (by rw [List.length_set];exact r.h8))
  have hwi:=fun W=>without_any r.has q hs W
  have hwih:=Lib.hid hwi
  have hha:=fun W=>has_any r.has q hs W
  rw [hp] at hha
  have hhah:=Lib.hid hha
  clear hwi hha hr hs hp hpp
  obtain ⟨ridx,rgen,has,rvals,rh8⟩:=r
  simp only at *
  generalize rvals[q]'(by rw [rh8];omega)=z at cv
  generalize withoutS has q=hs' at *
  go_enter Tryz.func62,Tryz.ntmps62
  go_upto_region 1 with fail
  go_quiet (exact quiet_same (hhah.out _))
  go_wp2_with fail
  refine wp_region_known mixed (by kernel_rfl) (by kernel_rfl) (tab [.pointer (some ⟨g,o,none⟩),.pointer (some ⟨g,o,none⟩),.int .i64 (q:Int),.pointer (some ⟨g,o,none⟩),.pointer (some ⟨g,o,none⟩),.pointer (some ⟨g,o+2,none⟩),.int .i64 has,.int .i64 (q:Int),.int .i64 hs',.pointer (some ⟨g,o,none⟩),.pointer (some ⟨g,o+2,none⟩),undef,.pointer (some ⟨g,o,none⟩),.pointer (some ⟨g,o+3,none⟩),.pointer (some ⟨g,o+3+q,none⟩),undef]) (fun l w'=>w.grownBy w' (some g)∧Blk w' g 114 (if l 15 then (cur.setIfInBounds (o+2) (.int .i64 hs')).setIfInBounds (o+3+q) (.int .i64 0) else if l 11 then cur.setIfInBounds (o+2) (.int .i64 hs') else cur)∧(l 11=true→l 6=true)∧(l 15=true→l 11=true)) ⟨⟨rfl,rfl,rfl,Nat.le_refl _,fun _ _ _=>rfl⟩,HC.drew,by simp,by simp⟩ ?_ ?_
  rotate_left
  ·rintro i op ho l act w' ⟨hG,hC,hO1,hO2⟩ hli hd hv hwas K hK
   have hi:i<16:=lt_of_some ho
   have e0:=hwas 0 rfl
   have e1:=hwas 1 rfl
   simp at e0 e1
   have hB1:=h1.grown hG (by simpa using m1)
   have d1:=hB1.cell 0
   simp at d1
   have hz:=hC.frozen (o+2);have hz2:=hC.frozen (o+3+q)
   match i,hi,ho,hli,hK with
   | 0,_,ho,hli,hK=>
    obtain rfl:=sj ho
    clear hv hwas
    go_simp
    exact hK _ ⟨hG,hC,hO1,hO2⟩
   | 1,_,ho,hli,hK=>
    obtain rfl:=sj ho
    clear hv hwas
    go_simp
    exact hK _ ⟨hG,hC,hO1,hO2⟩
   | 2,_,ho,hli,hK=>
    obtain rfl:=sj ho
    clear hv hwas
    go_simp
    exact hK _ ⟨hG,hC,hO1,hO2⟩
   | 3,_,ho,hli,hK=>
    obtain rfl:=sj ho
    clear hv hwas
    go_simp
    exact hK _ ⟨hG,hC,hO1,hO2⟩
   | 4,_,ho,hli,hK=>
    obtain rfl:=sj ho
    have x14:act.tmps[15]?.getD undef=.pointer (some ⟨g,o,none⟩):=hv 3 15 rfl (rb hd rfl)
    clear hv hwas
    go_simp
    exact hK _ ⟨hG,hC,hO1,hO2⟩
   | 5,_,ho,hli,hK=>
    obtain rfl:=sj ho
    have x15:act.tmps[16]?.getD undef=.pointer (some ⟨g,o,none⟩):=hv 4 16 rfl (rb hd rfl)
    clear hv hwas
    go_simp
    exact hK _ ⟨hG,hC,hO1,hO2⟩
   | 6,_,ho,hli,hK=>
    obtain rfl:=sj ho
    have x16:act.tmps[17]?.getD undef=.pointer (some ⟨g,o+2,none⟩):=hv 5 17 rfl (rb hd rfl)
    have l1:l 11=false:=by
     cases h:l 11 with
     | false=>rfl
     | true=>exact absurd (hO1 h) (by simp [hli])
    have l2:l 15=false:=by
     cases h:l 15 with
     | false=>rfl
     | true=>rw [hO2 h] at l1;cases l1
    have hC2:=hC
    simp only [l1,l2] at hC2
    have d3:=hC2.cell (o+2)
    simp [ch] at d3
    clear hC2
    clear hv hwas
    go_simp
    exact hK _ ⟨hG,by simpa [upd] using hC,by simp [upd],by simpa [upd] using hO2⟩
   | 7,_,ho,hli,hK=>
    obtain rfl:=sj ho
    clear hv hwas
    go_simp
    exact hK _ ⟨hG,hC,hO1,hO2⟩
   | 8,_,ho,hli,hK=>
    obtain rfl:=sj ho
    have x17:act.tmps[18]?.getD undef=.int .i64 has:=hv 6 18 rfl (rb hd rfl)
    have x18:act.tmps[19]?.getD undef=.int .i64 (q:Int):=hv 7 19 rfl (rb hd rfl)
    have hwc:=hwih.out w'
    clear hwih
    clear hv hwas
    go_simp
    exact hwc.mono (fun e w2 ⟨he,hw⟩=>by subst he hw;exact hK _ ⟨hG,by simpa [upd] using hC,by simp [upd];intro h;simp [hO1 h],by simpa [upd] using hO2⟩)
   | 9,_,ho,hli,hK=>
    obtain rfl:=sj ho
    have x11:act.tmps[12]?.getD undef=.pointer (some ⟨g,o,none⟩):=hv 0 12 rfl (rb hd rfl)
    clear hv hwas
    go_simp
    exact hK _ ⟨hG,hC,hO1,hO2⟩
   | 10,_,ho,hli,hK=>
    obtain rfl:=sj ho
    have x20:act.tmps[21]?.getD undef=.pointer (some ⟨g,o,none⟩):=hv 9 21 rfl (rb hd rfl)
    clear hv hwas
    go_simp
    exact hK _ ⟨hG,hC,hO1,hO2⟩
   | 11,_,ho,hli,hK=>
    obtain rfl:=sj ho
    have x21:act.tmps[22]?.getD undef=.pointer (some ⟨g,o+2,none⟩):=hv 10 22 rfl (rb hd rfl)
    have x19:act.tmps[20]?.getD undef=.int .i64 hs':=hv 8 20 rfl (rb hd rfl)
    have l2:l 15=false:=by
     cases h:l 15 with
     | false=>rfl
     | true=>exact absurd (hO2 h) (by simp [hli])
    have hC2:=hC
    simp only [hli,l2] at hC2
    have d3:=hC2.cell (o+2)
    simp [ch] at d3
    have l6:l 6=true:=by simp [Region.binds] at hd;simp [hd]
    have hCn:=hC2.set_ (o+2) (.int .i64 hs')
    clear hC2 hC
    clear hv hwas
    go_simp
    exact hK _ ⟨⟨hG.os,hG.tape,hG.output,by simpa [World.setCell] using hG.size,fun k h1 h2=>(Below.heap_setCell _ _ _ _ (fun e=>h2 (by rw [e]))).trans (hG.block k h1 h2)⟩,by simpa [upd,l2] using hCn,by simp [upd,l6],by simp [upd]⟩
   | 12,_,ho,hli,hK=>
    obtain rfl:=sj ho
    have x12:act.tmps[13]?.getD undef=.pointer (some ⟨g,o,none⟩):=hv 1 13 rfl (rb hd rfl)
    clear hv hwas
    go_simp
    exact hK _ ⟨hG,hC,hO1,hO2⟩
   | 13,_,ho,hli,hK=>
    obtain rfl:=sj ho
    have x22:act.tmps[23]?.getD undef=.pointer (some ⟨g,o,none⟩):=hv 12 23 rfl (rb hd rfl)
    clear hv hwas
    go_simp
    exact hK _ ⟨hG,hC,hO1,hO2⟩
   | 14,_,ho,hli,hK=>
    obtain rfl:=sj ho
    have x23:act.tmps[24]?.getD undef=.pointer (some ⟨g,o+3,none⟩):=hv 13 24 rfl (rb hd rfl)
    have x13:act.tmps[14]?.getD undef=.int .i64 (q:Int):=hv 2 14 rfl (rb hd rfl)
    clear hv hwas
    go_simp
    exact hK _ ⟨hG,hC,hO1,hO2⟩
   | 15,_,ho,hli,hK=>
    obtain rfl:=sj ho
    have x24:act.tmps[25]?.getD undef=.pointer (some ⟨g,o+3+q,none⟩):=hv 14 25 rfl (rb hd rfl)
    have l1:l 11=true:=by simp [Region.binds] at hd;simp [hd]
    have hC2:=hC
    simp only [hli,l1] at hC2
    have d3:=hC2.cell (o+3+q)
    simp only [if_true,Bool.false_eq_true,if_false] at d3
    rw [Array.getElem?_setIfInBounds_ne (by omega),cv] at d3
    have hCn:=hC2.set_ (o+3+q) (.int .i64 0)
    clear hC2 hC
    clear hv hwas
    go_simp
    exact hK _ ⟨⟨hG.os,hG.tape,hG.output,by simpa [World.setCell] using hG.size,fun k h1 h2=>(Below.heap_setCell _ _ _ _ (fun e=>h2 (by rw [e]))).trans (hG.block k h1 h2)⟩,by simpa [upd] using hCn,by simpa [upd] using hO1,by simp [upd,l1]⟩
  rintro w' l ⟨hG,hC,hO1,hO2⟩ hl
  rw [putAll_tab _ _ _ _ [(some 12,.pointer (some ⟨g,o,none⟩)),(some 13,.pointer (some ⟨g,o,none⟩)),(some 14,.int .i64 (q:Int)),(some 15,.pointer (some ⟨g,o,none⟩)),(some 16,.pointer (some ⟨g,o,none⟩)),(some 17,.pointer (some ⟨g,o+2,none⟩)),(some 18,.int .i64 has),(some 19,.int .i64 (q:Int)),(some 20,.int .i64 hs'),(some 21,.pointer (some ⟨g,o,none⟩)),(some 22,.pointer (some ⟨g,o+2,none⟩)),(none,undef),(some 23,.pointer (some ⟨g,o,none⟩)),(some 24,.pointer (some ⟨g,o+3,none⟩)),(some 25,.pointer (some ⟨g,o+3+q,none⟩)),(none,undef)] rfl]
  simp only [putL_eq,putT,List.set_cons_succ,List.set_cons_zero]
  have hl2:l 15=true:=hl 15 (by decide)
  rw [hl2,if_pos rfl] at hC
  go_wp2_with fail
  refine bodyPost_ret (v:=.tuple #[.bool true,.int .i64 0]) (by simp [results,Tryz.results62,go_sem]) rfl ⟨by rw [hF.out],hG,?_⟩
  rw [hF.out]
  show Blk w' g _ (patch cur o (rowCells ⟨ridx,rgen,hs',rvals.set q 0,by rw [List.length_set];exact rh8⟩))
  rw [← hpr.out]
  exact hC
 ·have hp':hasB r.has part=false:=by simpa using hp
  have hF:Hid (dropF part r=(r,5)):=Lib.hid (by simp [dropF,hp'])
  have hha:=fun W=>has_any r.has part hs W
  rw [hp'] at hha
  have hhah:=Lib.hid hha
  have hsame:=Lib.hid (patch_same hr)
  clear hha hr hs hp hp' ch
  generalize r.has=has at hc2 hhah
  go_enter Tryz.func62,Tryz.ntmps62
  go_upto_region 1 with fail
  go_quiet (exact quiet_same (hhah.out _))
  go_wp2_with fail
  refine bodyPost_ret (v:=.tuple #[.bool true,.int .i64 5]) (by simp [results,Tryz.results62,go_sem]) rfl ⟨by rw [hF.out],⟨rfl,rfl,rfl,Nat.le_refl _,fun _ _ _=>rfl⟩,by rw [hF.out,hsame.out];exact HC⟩
theorem patch_whole (r r':BRow):patch (rowCells r).toArray 0 (rowCells r')=(rowCells r').toArray:=by
 apply Array.ext_getElem?
 intro j
 have h1:=rowCells_length r;have h2:=rowCells_length r'
 by_cases hj:j<11
 ·have:=patch_in (rowCells r') (rowCells r).toArray 0 j (by omega) (by simp;omega)
  rw [Nat.zero_add] at this
  rw [this]
  simp
 ·rw [patch_out _ _ _ _ (by omega)]
  simp only [List.getElem?_toArray]
  rw [List.getElem?_eq_none (by omega),List.getElem?_eq_none (by omega)]
theorem rowIn_whole (r:BRow):RowIn (rowCells r).toArray 0 r:=fun j u hu=>by
 rw [Nat.zero_add]
 simpa using hu
def keep3 (r:BRow):BRow×Bool×Int:=(r,false,0)
def put3 (part n:Int) (r:BRow):BRow×Bool×Int:=((putF part n r).1,true,(putF part n r).2)
def drop3 (part:Int) (r:BRow):BRow×Bool×Int:=((dropF part r).1,true,(dropF part r).2)
theorem keep3_ok:FrOk keep3:=fun r h1 h2 h3=>by cases h3
theorem put3_ok (part n:Int):FrOk (put3 part n):=fun r h1 h2 h3=>⟨(putF_ok part n).ok r h1 h2,(putF_ok part n).idx r⟩
theorem drop3_ok (part:Int):FrOk (drop3 part):=fun r h1 h2 h3=>⟨(dropF_ok part).ok r h1 h2,(dropF_ok part).idx r⟩
open Go.RowKit
open Brood
theorem enter_sput (args:Array Value) (W:World):(callFunc 58 args).run Tryz.prog W=.ok (.enter 58 args) W:=by kernel_rfl
theorem enter_sdrop (args:Array Value) (W:World):(callFunc 62 args).run Tryz.prog W=.ok (.enter 62 args) W:=by kernel_rfl
theorem enter_skill (args:Array Value) (W:World):(callFunc 53 args).run Tryz.prog W=.ok (.enter 53 args) W:=by kernel_rfl
theorem skill_any (l:List TabIn) (A:Option Addr) (c:Nat) (gens:List Int) (Ag:Option Addr) (cg:Nat) (i g:Int) (hs:StSmall l gens) (w:World) (h:RdSt w w.heap.size ⟨A,c,l,Ag,cg,gens⟩) :
  Calls Tryz.prog 17 #[.agg #[.slice A l.length c,.slice Ag gens.length cg],.agg #[.int .i64 i,.int .i64 g]] w fun e w'=>
   ∃ v,e=.returned (.tuple #[v,.int .i64 (chgT (l.map tabOf) gens i g keep3).err])∧GotSt w w' v (chgT (l.map tabOf) gens i g keep3).tabs (chgT (l.map tabOf) gens i g keep3).gens:=by
 have H0:=(((Hp.start w).new w.heap.size rfl 40 [.slice A l.length c,.slice Ag gens.length cg]).new (w.heap.size+1) (by simp) 24 [.int .i64 i,.int .i64 g]).new (w.heap.size+1+1) (by simp) 40 [.slice none 0 0,.slice none 0 0]
 have hch:=Lib.hid (fun w0 hR hF=>schange_any l A c gens Ag cg i g hs 53 #[] keep3 w0 hR hF keep3_ok enter_skill)
 generalize chgT (l.map tabOf) gens i g keep3=E at *
 have hmf:∀ (fn:Fn) (first cap:Array Value) (w:World),(Instr.makeFunc fn first cap).run Tryz.prog w=.ok (.func fn first cap) w:=fun _ _ _ _=>rfl
 go_enter Tryz.func17,Tryz.ntmps17
 go_wp2_with fail
 obtain ⟨w0,hw0,H0⟩:=H0.name
 rw [hw0];clear hw0
 refine (hch.out w0 (h.hp H0) ?hF).mono ?_
 case hF=>
  intro W b r hbW hb hblk hrow
  refine (skeepF_any _ W).mono ?_
  rintro e w' ⟨rfl,rfl⟩
  exact ⟨rfl,grown_refl _ _,hblk⟩
 rintro e w1 ⟨v,rfl,hI⟩
 obtain ⟨A2,c2,l2,Ag2,cg2,rfl,hl2,hG⟩:=hI
 have H1:=H0.join hG
 have q0:=H1.cell 2 0 rfl rfl;have q1:=H1.cell 2 1 rfl rfl;have y0:=H1.frozen 2 0 rfl;have y1:=H1.frozen 2 1 rfl
 have H2:=(H1.set 2 0 (.slice A2 l2.length c2) rfl).set 2 1 (.slice Ag2 E.gens.length cg2) rfl
 have p0:=H2.cell 2 0 rfl rfl;have p1:=H2.cell 2 1 rfl rfl
 have H2h:=Lib.hid H2
 clear H0 H1 H2 hG
 go_wp2_with fail
 refine bodyPost_ret (v:=.tuple #[.agg #[.slice A2 l2.length c2,.slice Ag2 E.gens.length cg2],.int .i64 E.err]) (by simp [results,Tryz.results17,go_sem,p0,p1]) rfl ⟨_,rfl,A2,c2,l2,Ag2,cg2,rfl,hl2,H2h.out.last (E:=[_,_,_])⟩
theorem sput_any (l:List TabIn) (A:Option Addr) (c:Nat) (gens:List Int) (Ag:Option Addr) (cg:Nat) (i g part n:Int) (hs:StSmall l gens) (w:World) (h:RdSt w w.heap.size ⟨A,c,l,Ag,cg,gens⟩) :
  Calls Tryz.prog 19 #[.agg #[.slice A l.length c,.slice Ag gens.length cg],.agg #[.int .i64 i,.int .i64 g],.int .i64 part,.int .i64 n] w fun e w'=>
   ∃ v,e=.returned (.tuple #[v,.int .i64 (chgT (l.map tabOf) gens i g (put3 part n)).err])∧GotSt w w' v (chgT (l.map tabOf) gens i g (put3 part n)).tabs (chgT (l.map tabOf) gens i g (put3 part n)).gens:=by
 have H0:=(((((Hp.start w).new w.heap.size rfl 40 [.slice A l.length c,.slice Ag gens.length cg]).new (w.heap.size+1) (by simp) 24 [.int .i64 i,.int .i64 g]).new (w.heap.size+1+1) (by simp) 3 [.int .i64 part]).new (w.heap.size+1+1+1) (by simp) 3 [.int .i64 n]).new (w.heap.size+1+1+1+1) (by simp) 40 [.slice none 0 0,.slice none 0 0]
 have hch:=Lib.hid (fun w0 hR hF=>schange_any l A c gens Ag cg i g hs 58 #[.pointer (some ⟨w.heap.size+1+1,0,none⟩),.pointer (some ⟨w.heap.size+1+1+1,0,none⟩)] (put3 part n) w0 hR hF (put3_ok part n) enter_sput)
 generalize chgT (l.map tabOf) gens i g (put3 part n)=E at *
 have hmf:∀ (fn:Fn) (first cap:Array Value) (w:World),(Instr.makeFunc fn first cap).run Tryz.prog w=.ok (.func fn first cap) w:=fun _ _ _ _=>rfl
 go_enter Tryz.func19,Tryz.ntmps19
 go_wp2_with fail
 obtain ⟨w0,hw0,H0⟩:=H0.name
 rw [hw0];clear hw0
 refine (hch.out w0 (h.hp H0) ?hF).mono ?_
 case hF=>
  intro W b r hbW hb hblk hrow
  have l2:=H0.lt 2 rfl;have l3:=H0.lt 3 rfl
  have:=sputF_any r ((rowErr_iff r).1 hrow).1 part n b 0 (w.heap.size+1+1) (w.heap.size+1+1+1) W ((H0.blk 2 rfl).below hbW l2) ((H0.blk 3 rfl).below hbW l3) (by omega) (by omega) _ hblk (rowIn_whole r)
  rw [patch_whole] at this
  exact this
 rintro e w1 ⟨v,rfl,hI⟩
 obtain ⟨A2,c2,l2,Ag2,cg2,rfl,hl2,hG⟩:=hI
 have H1:=H0.join hG
 have q0:=H1.cell 4 0 rfl rfl;have q1:=H1.cell 4 1 rfl rfl;have y0:=H1.frozen 4 0 rfl;have y1:=H1.frozen 4 1 rfl
 have H2:=(H1.set 4 0 (.slice A2 l2.length c2) rfl).set 4 1 (.slice Ag2 E.gens.length cg2) rfl
 have p0:=H2.cell 4 0 rfl rfl;have p1:=H2.cell 4 1 rfl rfl
 have H2h:=Lib.hid H2
 clear H0 H1 H2 hG
 go_wp2_with fail
 refine bodyPost_ret (v:=.tuple #[.agg #[.slice A2 l2.length c2,.slice Ag2 E.gens.length cg2],.int .i64 E.err]) (by simp [results,Tryz.results19,go_sem,p0,p1]) rfl ⟨_,rfl,A2,c2,l2,Ag2,cg2,rfl,hl2,H2h.out.last (E:=[_,_,_,_,_])⟩
theorem sdrop_any (l:List TabIn) (A:Option Addr) (c:Nat) (gens:List Int) (Ag:Option Addr) (cg:Nat) (i g part:Int) (hs:StSmall l gens) (w:World) (h:RdSt w w.heap.size ⟨A,c,l,Ag,cg,gens⟩) :
  Calls Tryz.prog 21 #[.agg #[.slice A l.length c,.slice Ag gens.length cg],.agg #[.int .i64 i,.int .i64 g],.int .i64 part] w fun e w'=>
   ∃ v,e=.returned (.tuple #[v,.int .i64 (chgT (l.map tabOf) gens i g (drop3 part)).err])∧GotSt w w' v (chgT (l.map tabOf) gens i g (drop3 part)).tabs (chgT (l.map tabOf) gens i g (drop3 part)).gens:=by
 have H0:=((((Hp.start w).new w.heap.size rfl 40 [.slice A l.length c,.slice Ag gens.length cg]).new (w.heap.size+1) (by simp) 24 [.int .i64 i,.int .i64 g]).new (w.heap.size+1+1) (by simp) 3 [.int .i64 part]).new (w.heap.size+1+1+1) (by simp) 40 [.slice none 0 0,.slice none 0 0]
 have hch:=Lib.hid (fun w0 hR hF=>schange_any l A c gens Ag cg i g hs 62 #[.pointer (some ⟨w.heap.size+1+1,0,none⟩)] (drop3 part) w0 hR hF (drop3_ok part) enter_sdrop)
 generalize chgT (l.map tabOf) gens i g (drop3 part)=E at *
 have hmf:∀ (fn:Fn) (first cap:Array Value) (w:World),(Instr.makeFunc fn first cap).run Tryz.prog w=.ok (.func fn first cap) w:=fun _ _ _ _=>rfl
 go_enter Tryz.func21,Tryz.ntmps21
 go_wp2_with fail
 obtain ⟨w0,hw0,H0⟩:=H0.name
 rw [hw0];clear hw0
 refine (hch.out w0 (h.hp H0) ?hF).mono ?_
 case hF=>
  intro W b r hbW hb hblk hrow
  have l2:=H0.lt 2 rfl
  have:=sdropF_any r ((rowErr_iff r).1 hrow).1 part b 0 (w.heap.size+1+1) W ((H0.blk 2 rfl).below hbW l2) (by omega) _ hblk (rowIn_whole r)
  rw [patch_whole] at this
  exact this
 rintro e w1 ⟨v,rfl,hI⟩
 obtain ⟨A2,c2,l2,Ag2,cg2,rfl,hl2,hG⟩:=hI
 have H1:=H0.join hG
 have q0:=H1.cell 3 0 rfl rfl;have q1:=H1.cell 3 1 rfl rfl;have y0:=H1.frozen 3 0 rfl;have y1:=H1.frozen 3 1 rfl
 have H2:=(H1.set 3 0 (.slice A2 l2.length c2) rfl).set 3 1 (.slice Ag2 E.gens.length cg2) rfl
 have p0:=H2.cell 3 0 rfl rfl;have p1:=H2.cell 3 1 rfl rfl
 have H2h:=Lib.hid H2
 clear H0 H1 H2 hG
 go_wp2_with fail
 refine bodyPost_ret (v:=.tuple #[.agg #[.slice A2 l2.length c2,.slice Ag2 E.gens.length cg2],.int .i64 E.err]) (by simp [results,Tryz.results21,go_sem,p0,p1]) rfl ⟨_,rfl,A2,c2,l2,Ag2,cg2,rfl,hl2,H2h.out.last (E:=[_,_,_,_])⟩
end Go.Proofs.YtefdblaolmckmabGreat
