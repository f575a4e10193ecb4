/- Lemmas of the proof. -/
import Derived.Deep.RegionLaw
import Derived.Lib.Overlaps
import Derived.Lib.AppendZerosOnto
import Derived.Laws.IdiomCopy
import Derived.Laws.NewBlocks
import Derived.Laws.Externs
import Derived.Test.YtefdblaolmckmabGreatRBSpecVToStoA
import Derived.Test.YtefdblaolmckmabGreatRBSortTRToStoO
import Derived.Test.YtefdblaolmckmabGreatRBStoBToKg
import Derived.Test.YtefdblaolmckmabGreatRBSpecOToSpecR
set_option linter.unusedVariables false
set_option linter.unusedSimpArgs false
set_option maxRecDepth 100000
set_option maxHeartbeats 12800000
namespace Go.Proofs.YtefdblaolmckmabGreat
open Brood
def posK (x:Int):List Int→Nat
 | []=>0
 | k::l=>if k<x then posK x l+1 else 0
def foundK (x:Int) (ks:List Int):Bool:=match ks[posK x ks]? with | some k=>k==x | none=>false
theorem posK_eq {x:Int}:∀ {ks:List Int} {i:Nat},i≤ks.length→(∀ t (ht:t<ks.length),t<i→ks[t]<x)→(∀ t (ht:t<ks.length),i≤t→¬ ks[t]<x)→posK x ks=i
 | [],i,h,_,_=>by simp at h;subst h;rfl
 | r::l,0,_,_,h2=>by
  have:=h2 0 (by simp) (Nat.le_refl _)
  rw [posK,if_neg (by simpa using this)]
 | r::l,i+1,h,h1,h2=>by
  have h0:=h1 0 (by simp) (by omega)
  rw [posK,if_pos (by simpa using h0),posK_eq (i:=i) (by simpa using h) (fun t ht hti=>h1 (t+1) (by simp;omega) (by omega)) (fun t ht hti=>h2 (t+1) (by simp;omega) (by omega))]
structure SrchI (x:Int) (ks:List Int) (lo hi:Nat):Prop where
 low:∀ t (ht:t<ks.length),t<lo→ks[t]<x
 high:∀ t (ht:t<ks.length),hi≤t→x≤ks[t]
theorem SrchI.start (x:Int) (ks:List Int):SrchI x ks 0 ks.length:=⟨fun t _ h=>absurd h (Nat.not_lt_zero _),fun t h1 h2=>by omega⟩
theorem SrchI.up {x:Int} {ks:List Int} {lo hi m:Nat} (h:SrchI x ks lo hi) (hr:ks.Pairwise (· < ·)) (hm0:lo≤m) (hm:m<ks.length) (hx:ks[m]<x):SrchI x ks (m+1) hi:=
 ⟨fun t ht htm=>by
  rcases Nat.lt_or_ge t m with h' | h'
  ·have:=List.pairwise_iff_getElem.1 hr t m ht hm h';omega
  ·obtain rfl:t=m:=by omega
   exact hx,h.high⟩
theorem SrchI.down {x:Int} {ks:List Int} {lo hi m:Nat} (h:SrchI x ks lo hi) (hr:ks.Pairwise (· < ·)) (hm0:lo≤m) (hm:m<ks.length) (hx:x≤ks[m]):SrchI x ks lo m:=
 ⟨h.low,fun t ht htm=>by
  rcases Nat.lt_or_ge m t with h' | h'
  ·have:=List.pairwise_iff_getElem.1 hr m t hm ht h';omega
  ·obtain rfl:t=m:=by omega
   exact hx⟩
theorem SrchI.pos {x:Int} {ks:List Int} {lo:Nat} (h:SrchI x ks lo lo) (hl:lo≤ks.length):posK x ks=lo:=
 posK_eq hl h.low (fun t ht h'=>by have:=h.high t ht h';omega)
theorem posK_rows (x:Int):∀ rows:List BRow,posK x (rows.map BRow.idx)=posOf x rows
 | []=>rfl
 | r::l=>by rw [List.map_cons,posK,posOf,posK_rows x l]
theorem posK_grps (x:Int):∀ G:List Grp,posK x (G.map Grp.h)=hpos x G
 | []=>rfl
 | r::l=>by rw [List.map_cons,posK,hpos,posK_grps x l]
theorem foundK_grps (x:Int) (G:List Grp):foundK x (G.map Grp.h)=hfound x G:=by
 unfold foundK hfound
 rw [posK_grps,List.getElem?_map]
 cases G[hpos x G]?<;>rfl
open Go.RowKit
open Brood
section
variable {w0 w:World} {E R:List Ent}
theorem Hp.colF {cols:List ColIn} {j:Nat} (h:Hp w0 w (E++(cols.map colE++R))) (hj:j<cols.length):Hp w0 w (E++[colE cols[j]]++((cols.eraseIdx j).map colE++R)):=by
 refine h.perm ?_
 rw [List.append_assoc]
 refine List.Perm.append_left _ ?_
 rw [← List.append_assoc]
 exact List.Perm.append_right _ ((eraseIdx_perm hj).map colE)
theorem Hp.colB {cols:List ColIn} {j:Nat} {x:ColIn} (h:Hp w0 w (E++[colE x]++((cols.eraseIdx j).map colE++R))) (hj:j<cols.length):Hp w0 w (E++((cols.set j x).map colE++R)):=by
 refine h.perm ?_
 rw [List.append_assoc]
 refine List.Perm.append_left _ ?_
 rw [← List.append_assoc]
 exact List.Perm.append_right _ (((set_perm hj x).map colE).symm)
theorem Hp.tabF {l:List TabIn} {k:Nat} (h:Hp w0 w (E++(l.flatMap tabE++R))) (hk:k<l.length):Hp w0 w (E++[bsE l[k],csE l[k]]++(l[k].cols.map colE++((l.eraseIdx k).flatMap tabE++R))):=by
 refine h.perm ?_
 rw [List.append_assoc]
 refine List.Perm.append_left _ ?_
 rw [← List.append_assoc,← List.append_assoc]
 refine List.Perm.append_right _ ?_
 have:=((eraseIdx_perm hk).flatMap_right tabE)
 rw [List.flatMap_cons] at this
 exact this
theorem Hp.tabB {l:List TabIn} {k:Nat} {t:TabIn} (h:Hp w0 w (E++[bsE t,csE t]++(t.cols.map colE++((l.eraseIdx k).flatMap tabE++R)))) (hk:k<l.length):Hp w0 w (E++((l.set k t).flatMap tabE++R)):=by
 refine h.perm ?_
 rw [List.append_assoc]
 refine List.Perm.append_left _ ?_
 rw [← List.append_assoc,← List.append_assoc]
 refine List.Perm.append_right _ ?_
 have:=(((set_perm hk t).flatMap_right tabE).symm)
 rw [List.flatMap_cons] at this
 exact this
theorem Hp.tabD {l:List TabIn} {k:Nat} {t:TabIn} (h:Hp w0 w (E++[bsE t,csE t]++(t.cols.map colE++((l.eraseIdx k).flatMap tabE++R)))):Hp w0 w (E++((l.eraseIdx k).flatMap tabE++R)):=by
 refine h.sub ?_
 rw [List.append_assoc]
 exact List.Sublist.append_left ((List.sublist_append_right _ _).trans (List.sublist_append_right [bsE t,csE t] _)) _
theorem Hp.last (h:Hp w0 w (E++R)):Hp w0 w R:=h.sub (List.sublist_append_right _ _)
end
theorem flat_tabset {l:List TabIn} {k:Nat} (hk:k<l.length) (t:TabIn) (j:Nat) (hj:j<3) (v:Value) (h:tabCells t=(tabCells l[k]).set j v):(l.set k t).flatMap tabCells=(l.flatMap tabCells).set (k*3+j) v:=by
 apply List.ext_getElem?
 intro q
 have hl:∀ l:List TabIn,(l.flatMap tabCells).length=l.length*3:=fun l=>els_length tabCells_len l
 rcases Nat.lt_or_ge q (l.length*3) with hq | hq
 ·have hd:q=q / 3*3+q % 3:=by omega
  have hm:q / 3<l.length:=by omega
  rw [hd,flat_get tabCells_len (l.set k t) (q / 3) (by simpa using hm) (q % 3) (by omega),List.getElem_set]
  by_cases e:k=q / 3
  ·subst e
   rw [if_pos rfl,h]
   by_cases e2:j=q % 3
   ·subst e2
    rw [List.getElem?_set_self (by rw [tabCells_len];omega),List.getElem?_set_self (by rw [hl];omega)]
   ·rw [List.getElem?_set_ne e2,List.getElem?_set_ne (by omega),flat_get tabCells_len l (q / 3) hm (q % 3) (by omega)]
  ·rw [if_neg e,List.getElem?_set_ne (by omega),flat_get tabCells_len l (q / 3) hm (q % 3) (by omega)]
 ·rw [List.getElem?_eq_none (by rw [hl];simpa using hq),List.getElem?_eq_none (by rw [List.length_set,hl];exact hq)]
theorem flat_taberase (l:List TabIn) (k:Nat):(l.eraseIdx k).flatMap tabCells=(l.flatMap tabCells).take (k*3)++(l.flatMap tabCells).drop ((k+1)*3):=by
 rw [(flat_take tabCells_len l k).1,(flat_take tabCells_len l (k+1)).2,List.eraseIdx_eq_take_drop_succ,List.flatMap_append]
theorem flat_beerase (bs:List (Int×Int)) (k:Nat):(bs.eraseIdx k).flatMap beC=(bs.flatMap beC).take (k*2)++(bs.flatMap beC).drop ((k+1)*2):=by
 rw [(flat_take beC_len bs k).1,(flat_take beC_len bs (k+1)).2,List.eraseIdx_eq_take_drop_succ,List.flatMap_append]
theorem ints_erase (zs:List Int) (k:Nat):ints (zs.eraseIdx k)=(ints zs).take k++(ints zs).drop (k+1):=by
 rw [List.eraseIdx_eq_take_drop_succ];simp [ints,List.map_take,List.map_drop]
def colsJ (h:Int) (rs rs':List BRow) (j:Nat):List (List Int):=((listS h).take j).map (colOf rs')++((listS h).drop j).map (colOf rs)
theorem colsJ_len (h:Int) (rs rs':List BRow) (j:Nat):(colsJ h rs rs' j).length=(listS h).length:=by simp [colsJ];omega
theorem colsJ_zero (h:Int) (rs rs':List BRow):colsJ h rs rs' 0=(listS h).map (colOf rs):=by simp [colsJ]
theorem colsJ_all (h:Int) (rs rs':List BRow):colsJ h rs rs' (listS h).length=(listS h).map (colOf rs'):=by simp [colsJ]
theorem colsJ_at {h:Int} (rs rs':List BRow) {j:Nat} (hj:j<(listS h).length):(colsJ h rs rs' j)[j]?=some (colOf rs (listS h)[j]):=by
 unfold colsJ
 rw [List.getElem?_append_right (by simp;omega)]
 simp [Nat.min_eq_left (Nat.le_of_lt hj),hj]
theorem colsJ_succ {h:Int} (rs rs':List BRow) {j:Nat} (hj:j<(listS h).length):(colsJ h rs rs' j).set j (colOf rs' (listS h)[j])=colsJ h rs rs' (j+1):=by
 unfold colsJ
 rw [List.set_append_right _ _ (by simp;omega),List.drop_eq_getElem_cons hj,List.map_cons,List.take_add_one,List.getElem?_eq_getElem hj,Option.toList_some,List.map_append]
 simp [Nat.min_eq_left (Nat.le_of_lt hj)]
theorem colOf_ins (rs:List BRow) (k:Nat) (r:BRow) (p:Int):colOf (insRow rs k r) p=insAt (colOf rs p) k (r.vals.getD p.toNat 0):=by
 simp [colOf,insRow,insAt,List.map_take,List.map_drop]
theorem colOf_erase (rs:List BRow) (k:Nat) (p:Int):colOf (rs.eraseIdx k) p=(colOf rs p).eraseIdx k:=by
 unfold colOf
 rw [List.eraseIdx_eq_take_drop_succ,List.eraseIdx_eq_take_drop_succ]
 simp [List.map_take,List.map_drop]
theorem be_ins (rs:List BRow) (k:Nat) (r:BRow):(insRow rs k r).map beOf=insAt (rs.map beOf) k (beOf r):=by
 simp [insRow,insAt,List.map_take,List.map_drop]
open Go.RowKit
open Brood
theorem cmpT_any (h:Int) (b d:Value) (x:Int) (w:World):Calls Tryz.prog 127 #[.agg #[.int .i64 h,b,d],.int .i64 x] w fun e w'=>e=.returned (.int .i64 (cmpI h x))∧Below w.heap.size w w':=by
 go_enter Tryz.func127,Tryz.ntmps127
 go_wp2_with fail
 refine (cmp_any h x _).mono ?_
 rintro e w' ⟨rfl,rfl⟩
 go_wp2_with fail
 go_ret
 exact ⟨rfl,(Below.refl _ _).alloc (Nat.le_refl _) _⟩
theorem searchT_any (l:List TabIn) (A:Option Addr) (c:Nat) (x:Int) (hlen:l.length≤1000000000) (hrise:(l.map TabIn.has).Pairwise (· < ·)) (w:World) (hR:Rd w w.heap.size 3 A l.length (l.flatMap tabCells)) :
  Calls Tryz.prog 126 #[.slice A l.length c,.int .i64 x,.func (.func 127) #[] #[]] w fun e w'=>e=.returned (.tuple #[.int .i64 (posK x (l.map TabIn.has):Nat),.bool (foundK x (l.map TabIn.has))])∧Below w.heap.size w w':=by
 have hri:=Lib.hid hrise
 clear hrise
 go_enter Tryz.func126,Tryz.ntmps126
 go_wp2_with fail
 go_loopw [9,10] (fun s9 s10 wr=>∃ lo hi:Nat,s9=.int .i64 lo∧s10=.int .i64 hi∧lo≤hi∧hi≤l.length∧Below w.heap.size w wr∧Hid (SrchI x (l.map TabIn.has) lo hi)) (fun s9 s10 _=>(intOf s10).toNat-(intOf s9).toNat)
 case atStart=>exact ⟨0,l.length,rfl,rfl,Nat.zero_le _,Nat.le_refl _,Below.refl _ _,Lib.hid (by have:=SrchI.start x (l.map TabIn.has);simpa using this)⟩
 case round=>
  obtain ⟨lo,hi,rfl,rfl,hlh,hin,hbel,hinv⟩:=hrel
  have hR1:Rd wr w.heap.size 3 A l.length (l.flatMap tabCells):=Rd.under hR hbel (Nat.le_refl _)
  by_cases hlt:lo<hi
  ·have hm:(lo+hi) / 2<l.length:=by omega
   obtain ⟨b1,off,rfl,hb1,hc⟩:=hR1.2 (by omega)
   have hyes:Hid (TabIn.has l[(lo+hi) / 2]<x→SrchI x (l.map TabIn.has) ((lo+hi) / 2+1) hi):=Lib.hid (fun h=>hinv.out.up hri.out (by omega) (by simpa using hm) (by simpa using h))
   have hno:Hid (x≤TabIn.has l[(lo+hi) / 2]→SrchI x (l.map TabIn.has) lo ((lo+hi) / 2)):=Lib.hid (fun h=>hinv.out.down hri.out (by omega) (by simpa using hm) (by simpa using h))
   have c0:=hc ((lo+hi) / 2*3+0) _ (flat_get tabCells_len l ((lo+hi) / 2) hm 0 (by omega))
   have c1:=hc ((lo+hi) / 2*3+1) _ (flat_get tabCells_len l ((lo+hi) / 2) hm 1 (by omega))
   have c2:=hc ((lo+hi) / 2*3+2) _ (flat_get tabCells_len l ((lo+hi) / 2) hm 2 (by omega))
   have hgap1:(hi:Nat)-((lo+hi) / 2+1)<hi-lo:=by omega
   have hgap2:((lo+hi) / 2)-lo<hi-lo:=by omega
   generalize l[(lo+hi) / 2]=r at *
   have i0:(0:Int)≤((lo:Int)+(hi:Int)) / 2:=by omega
   have i1:((lo:Int)+(hi:Int)) / 2<(l.length:Int):=by omega
   obtain ⟨has,bA,bc,bs,cA,cc,cols⟩:=r
   simp only [Nat.add_zero,← Nat.add_assoc,TabIn.has] at c0 c1 c2 hyes hno
   have hcall:=fun w=>cmpT_any has (.slice bA bs.length bc) (.slice cA cols.length cc) x w
   obtain ⟨C,hC⟩:∃ C,C=cmpI has x:=⟨_,rfl⟩
   rw [← hC] at hcall
   have hCh:Hid (C<0↔has<x):=Lib.hid (by rw [hC];unfold cmpI;split<;>(try split)<;>simp<;>omega)
   clear hC
   have hcallh:=Lib.hid hcall
   clear hcall hc
   go_wp2_with fail
   refine (hcallh.out _).mono ?_
   rintro e w1 ⟨rfl,hb2⟩
   by_cases hlt2:has<x
   ·have hCn:C<0:=hCh.out.2 hlt2
    have hinv2:=Lib.hid (hyes.out hlt2)
    clear hyes hno hinv hcallh
    go_wp2_with fail
    go_roundw
    case rel=>exact ⟨(lo+hi) / 2+1,hi,by go_num,rfl,by omega,hin,grow_below hbel hb2,hinv2⟩
    case measure=>simp [intOf];omega
   ·have hCn:¬ C<0:=fun h=>hlt2 (hCh.out.1 h)
    have hinv2:=Lib.hid (hno.out (by omega))
    clear hyes hno hinv hcallh
    go_wp2_with fail
    go_roundw
    case rel=>exact ⟨lo,(lo+hi) / 2,rfl,by go_num,by omega,by omega,grow_below hbel hb2,hinv2⟩
    case measure=>simp [intOf];omega
  ·obtain rfl:hi=lo:=by omega
   have hpos:Hid (posK x (l.map TabIn.has)=hi):=Lib.hid (hinv.out.pos (by simpa using hin))
   clear hinv hri
   by_cases hn:hi<l.length
   ·obtain ⟨b1,off,rfl,hb1,hc⟩:=hR1.2 (by omega)
    have hfk:Hid (foundK x (l.map TabIn.has)=(TabIn.has l[hi]==x)):=Lib.hid (by unfold foundK;rw [hpos.out,List.getElem?_map,List.getElem?_eq_getElem hn];rfl)
    have hm:=hn
    have c0:=hc (hi*3+0) _ (flat_get tabCells_len l (hi) hm 0 (by omega))
    have c1:=hc (hi*3+1) _ (flat_get tabCells_len l (hi) hm 1 (by omega))
    have c2:=hc (hi*3+2) _ (flat_get tabCells_len l (hi) hm 2 (by omega))
    generalize l[hi]=r at *
    have i0:(0:Int)≤(hi:Int):=by omega
    have i1:(hi:Int)<(l.length:Int):=by omega
    obtain ⟨has,bA,bc,bs,cA,cc,cols⟩:=r
    simp only [Nat.add_zero,← Nat.add_assoc,TabIn.has] at c0 c1 c2 hfk
    have hcall:=fun w=>cmpT_any has (.slice bA bs.length bc) (.slice cA cols.length cc) x w
    obtain ⟨C,hC⟩:∃ C,C=cmpI has x:=⟨_,rfl⟩
    rw [← hC] at hcall
    have hCz:Hid ((C==0)=(has==x)):=Lib.hid (by rw [hC];unfold cmpI;split<;>(try split)<;>simp<;>omega)
    clear hC
    have hcallh:=Lib.hid hcall
    clear hcall hc
    go_wp2_with fail
    refine (hcallh.out _).mono ?_
    rintro e w1 ⟨rfl,hb2⟩
    go_wp2_with fail
    refine bodyPost_ret (v:=.tuple #[.int .i64 (hi:Int),.bool (C==0)]) (by simp [results,Tryz.results126,go_sem]) rfl ⟨by rw [hpos.out,hfk.out,hCz.out],grow_below hbel hb2⟩
   ·have hfk:Hid (foundK x (l.map TabIn.has)=false):=Lib.hid (by unfold foundK;rw [hpos.out,List.getElem?_map,List.getElem?_eq_none (by omega)];rfl)
    go_wp2_with fail
    refine bodyPost_ret (v:=.tuple #[.int .i64 (hi:Int),.bool false]) (by simp [results,Tryz.results126,go_sem]) rfl ⟨by rw [hpos.out,hfk.out],hbel⟩
open Go.RowKit
open Brood
theorem cmpB_any (h b:Int) (x:Int) (w:World):Calls Tryz.prog 90 #[.agg #[.int .i64 h,.int .i64 b],.int .i64 x] w fun e w'=>e=.returned (.int .i64 (cmpI h x))∧Below w.heap.size w w':=by
 go_enter Tryz.func90,Tryz.ntmps90
 go_wp2_with fail
 refine (cmp_any h x _).mono ?_
 rintro e w' ⟨rfl,rfl⟩
 go_wp2_with fail
 go_ret
 exact ⟨rfl,(Below.refl _ _).alloc (Nat.le_refl _) _⟩
theorem searchB_any (l:List (Int×Int)) (A:Option Addr) (c:Nat) (x:Int) (hlen:l.length≤1000000000) (hrise:(l.map Prod.fst).Pairwise (· < ·)) (w:World) (hR:Rd w w.heap.size 2 A l.length (l.flatMap beC)) :
  Calls Tryz.prog 89 #[.slice A l.length c,.int .i64 x,.func (.func 90) #[] #[]] w fun e w'=>e=.returned (.tuple #[.int .i64 (posK x (l.map Prod.fst):Nat),.bool (foundK x (l.map Prod.fst))])∧Below w.heap.size w w':=by
 have hri:=Lib.hid hrise
 clear hrise
 go_enter Tryz.func89,Tryz.ntmps89
 go_wp2_with fail
 go_loopw [9,10] (fun s9 s10 wr=>∃ lo hi:Nat,s9=.int .i64 lo∧s10=.int .i64 hi∧lo≤hi∧hi≤l.length∧Below w.heap.size w wr∧Hid (SrchI x (l.map Prod.fst) lo hi)) (fun s9 s10 _=>(intOf s10).toNat-(intOf s9).toNat)
 case atStart=>exact ⟨0,l.length,rfl,rfl,Nat.zero_le _,Nat.le_refl _,Below.refl _ _,Lib.hid (by have:=SrchI.start x (l.map Prod.fst);simpa using this)⟩
 case round=>
  obtain ⟨lo,hi,rfl,rfl,hlh,hin,hbel,hinv⟩:=hrel
  have hR1:Rd wr w.heap.size 2 A l.length (l.flatMap beC):=Rd.under hR hbel (Nat.le_refl _)
  by_cases hlt:lo<hi
  ·have hm:(lo+hi) / 2<l.length:=by omega
   obtain ⟨b1,off,rfl,hb1,hc⟩:=hR1.2 (by omega)
   have hyes:Hid (Prod.fst l[(lo+hi) / 2]<x→SrchI x (l.map Prod.fst) ((lo+hi) / 2+1) hi):=Lib.hid (fun h=>hinv.out.up hri.out (by omega) (by simpa using hm) (by simpa using h))
   have hno:Hid (x≤Prod.fst l[(lo+hi) / 2]→SrchI x (l.map Prod.fst) lo ((lo+hi) / 2)):=Lib.hid (fun h=>hinv.out.down hri.out (by omega) (by simpa using hm) (by simpa using h))
   have c0:=hc ((lo+hi) / 2*2+0) _ (flat_get beC_len l ((lo+hi) / 2) hm 0 (by omega))
   have c1:=hc ((lo+hi) / 2*2+1) _ (flat_get beC_len l ((lo+hi) / 2) hm 1 (by omega))
   have hgap1:(hi:Nat)-((lo+hi) / 2+1)<hi-lo:=by omega
   have hgap2:((lo+hi) / 2)-lo<hi-lo:=by omega
   generalize l[(lo+hi) / 2]=r at *
   have i0:(0:Int)≤((lo:Int)+(hi:Int)) / 2:=by omega
   have i1:((lo:Int)+(hi:Int)) / 2<(l.length:Int):=by omega
   obtain ⟨bi,bg⟩:=r
   simp only [Nat.add_zero,← Nat.add_assoc] at c0 c1 hyes hno
   have hcall:=fun w=>cmpB_any bi bg x w
   obtain ⟨C,hC⟩:∃ C,C=cmpI bi x:=⟨_,rfl⟩
   rw [← hC] at hcall
   have hCh:Hid (C<0↔bi<x):=Lib.hid (by rw [hC];unfold cmpI;split<;>(try split)<;>simp<;>omega)
   clear hC
   have hcallh:=Lib.hid hcall
   clear hcall hc
   go_wp2_with fail
   refine (hcallh.out _).mono ?_
   rintro e w1 ⟨rfl,hb2⟩
   by_cases hlt2:bi<x
   ·have hCn:C<0:=hCh.out.2 hlt2
    have hinv2:=Lib.hid (hyes.out hlt2)
    clear hyes hno hinv hcallh
    go_wp2_with fail
    go_roundw
    case rel=>exact ⟨(lo+hi) / 2+1,hi,by go_num,rfl,by omega,hin,grow_below hbel hb2,hinv2⟩
    case measure=>simp [intOf];omega
   ·have hCn:¬ C<0:=fun h=>hlt2 (hCh.out.1 h)
    have hinv2:=Lib.hid (hno.out (by omega))
    clear hyes hno hinv hcallh
    go_wp2_with fail
    go_roundw
    case rel=>exact ⟨lo,(lo+hi) / 2,rfl,by go_num,by omega,by omega,grow_below hbel hb2,hinv2⟩
    case measure=>simp [intOf];omega
  ·obtain rfl:hi=lo:=by omega
   have hpos:Hid (posK x (l.map Prod.fst)=hi):=Lib.hid (hinv.out.pos (by simpa using hin))
   clear hinv hri
   by_cases hn:hi<l.length
   ·obtain ⟨b1,off,rfl,hb1,hc⟩:=hR1.2 (by omega)
    have hfk:Hid (foundK x (l.map Prod.fst)=(Prod.fst l[hi]==x)):=Lib.hid (by unfold foundK;rw [hpos.out,List.getElem?_map,List.getElem?_eq_getElem hn];rfl)
    have hm:=hn
    have c0:=hc (hi*2+0) _ (flat_get beC_len l (hi) hm 0 (by omega))
    have c1:=hc (hi*2+1) _ (flat_get beC_len l (hi) hm 1 (by omega))
    generalize l[hi]=r at *
    have i0:(0:Int)≤(hi:Int):=by omega
    have i1:(hi:Int)<(l.length:Int):=by omega
    obtain ⟨bi,bg⟩:=r
    simp only [Nat.add_zero,← Nat.add_assoc] at c0 c1 hfk
    have hcall:=fun w=>cmpB_any bi bg x w
    obtain ⟨C,hC⟩:∃ C,C=cmpI bi x:=⟨_,rfl⟩
    rw [← hC] at hcall
    have hCz:Hid ((C==0)=(bi==x)):=Lib.hid (by rw [hC];unfold cmpI;split<;>(try split)<;>simp<;>omega)
    clear hC
    have hcallh:=Lib.hid hcall
    clear hcall hc
    go_wp2_with fail
    refine (hcallh.out _).mono ?_
    rintro e w1 ⟨rfl,hb2⟩
    go_wp2_with fail
    refine bodyPost_ret (v:=.tuple #[.int .i64 (hi:Int),.bool (C==0)]) (by simp [results,Tryz.results89,go_sem]) rfl ⟨by rw [hpos.out,hfk.out,hCz.out],grow_below hbel hb2⟩
   ·have hfk:Hid (foundK x (l.map Prod.fst)=false):=Lib.hid (by unfold foundK;rw [hpos.out,List.getElem?_map,List.getElem?_eq_none (by omega)];rfl)
    go_wp2_with fail
    refine bodyPost_ret (v:=.tuple #[.int .i64 (hi:Int),.bool false]) (by simp [results,Tryz.results89,go_sem]) rfl ⟨by rw [hpos.out,hfk.out],hbel⟩
open Go.RowKit Go.Lib
open Brood
theorem wp_copy_eq {P:Program} (w:World) {o:Oper} {a:Act} {K:Act→World→Prop} {Q:Exit→Act→World→Prop} (d s:Operand) (t t':TypeId)
  (ho:o.op=.call { callee:=.builtin .copy,args:=#[d,s],argTypes:=#[t,t'] }) (v u:Value) (hd:a.eval d=v) (hs:a.eval s=u) {v':Value} {w':World}
  (hr:(Builtin.copy_ #[t,t'] o.type #[v,u]).run P w=.ok v' w') (h:K (a.put o.dst v') w'):o.wp P a w K Q:=by
 unfold Oper.wp execOp
 simp only [ho,resolve,invoke,builtin,Sem.run_bind,Sem.run_pure,Result.andThen_ok,List.map_toArray,List.map_cons,List.map_nil,hd,hs,hr]
 exact h
theorem wpList_copy_eq {P:Program} (w:World) {ops:Array Oper} {rest:List Oper} {o:Oper} {a:Act} {Q:Exit→Act→World→Prop} (hgd:o.guard=none) (d s:Operand) (t t':TypeId)
  (ho:o.op=.call { callee:=.builtin .copy,args:=#[d,s],argTypes:=#[t,t'] }) (v u:Value) (hd:a.eval d=v) (hs:a.eval s=u) {v':Value} {w':World}
  (hr:(Builtin.copy_ #[t,t'] o.type #[v,u]).run P w=.ok v' w') (h:wpList P ops Q rest (a.put o.dst v') w'):wpList P ops Q (o::rest) a w:=
 wpList_plain hgd fun _ hK=>wp_copy_eq w d s t t' ho v u hd hs hr (hK _ _ h)
theorem step_copy_eq {P:Program} {ops:Array Oper} {o:Oper} {a:Act} {w:World} {K:Act→World→Prop} {Q:Exit→Act→World→Prop} {E:Prop}
  (hg:o.guard=none) (d x:Operand) (dT sT:TypeId) (hop:o.op=Op.call { callee:=Callee.builtin Builtin.copy,args:=#[d,x],argTypes:=#[dT,sT] })
  (v u:Value) (hd:a.eval d=v) (hx:a.eval x=u) {v':Value} {w':World} (hr:(Builtin.copy_ #[dT,sT] o.type #[v,u]).run P w=.ok v' w') (hK:K (a.put o.dst v') w') :
  if Region.wanted o (yielded ops a.tmps)=true then Oper.wp P o a w K Q else E:=by
 have hw:Region.wanted o (yielded ops a.tmps)=true:=by simp [Region.wanted,hg]
 rw [if_pos hw]
 unfold Oper.wp
 simp [execOp,hop,resolve,invoke,builtin,hd,hx,hr,Result.andThen]
 exact hK
open Go.RowKit Go.Lib
open Brood
theorem infoB:(Tryz.prog.info? 24).map (fun i=>(i.zero,i.size,i.bytes))=some (some (.agg #[.int .i64 0,.int .i64 0]),2,16):=by kernel_rfl
theorem insB_end (n:Nat) (xs rs:List Value) (hr1:∀ u∈rs,u.oneCell'=true) (hrl:rs.length=2) (hlen:n≤1000000000) (v:Value) (base vb:Nat) (w:World) (hb:base≤w.heap.size)
  (hown:w.ownsRow base 24 2 v n xs) (hv:Blk w vb 24 rs.toArray) :
  Calls Tryz.prog 91 #[v,.int .i64 (n:Int),.slice (some ⟨vb,0,none⟩) 1 1] w fun e w'=>∃ v',e=.returned v'∧w'.ownsRow base 24 2 v' (n+1) (xs++rs)∧w.grownBy w' v.ownBlock∧∀ q,v'.ownBlock=some q→v.ownBlock=some q∨w.heap.size≤q:=by
 obtain ⟨i0',hi0,hz0a,hz0b,hz0c⟩:=info_parts infoB
 obtain ⟨A,c,rfl,hnc,hcm⟩:=own_shape hown
 have hcx:c≤9223372036854775807:=by unfold maxLen at hcm;omega
 have hcells:∀ j u,rs[j]?=some u→w.cell? ((⟨vb,0,none⟩:Addr).add j)=some u:=by
  intro j u hu
  rw [add_mk,Nat.zero_add,hv.cell]
  simpa using hu
 go_enter Tryz.func91,Tryz.ntmps91
 go_wp2_with (at_builtin;refine wpList_append_own_at _ rfl _ _ 58 rfl base 24 i0' (.agg #[.int .i64 0,.int .i64 0]) 2 16 Tryz.underlying58 hi0 hz0a hz0b hz0c rfl (by decide) _ _ _ rfl hown ⟨vb,0,none⟩ 1 1 rs rfl (by rw [hrl]) hcells hr1 ?c3 ?c4 ?c5 ?_;rotate_left 3;intro v' w1 hown' hgrow _ hat)
 case c3=>unfold maxLen;omega
 case c4=>omega
 case c5=>exact hb
 all_goals
  obtain ⟨A2,c2,rfl,_,_⟩:=own_shape hown'
  go_ret
  refine ⟨_,rfl,hown',?_,?_⟩
  ·cases A<;>exact hgrow
  ·intro q hq
   replace hq:(Value.slice A2 (n+1) c2).ownBlock=some q:=hq
   rcases hat with e | e
   ·left
    cases A<;>exact e.symm.trans hq
   ·right
    have e2:=hq.symm.trans e
    injection e2 with e2
    omega
theorem insB_room (n:Nat) (xs rs:List Value) (hone:∀ u∈xs,u.oneCell'=true) (hr1:∀ u∈rs,u.oneCell'=true) (hrl:rs.length=2) (k:Nat) (hk:k<n) (hlen:n≤1000000000) (g c:Nat) (hroom:n+1≤c) (base vb:Nat) (w:World) (hne:g≠vb)
  (hown:w.ownsRow base 24 2 (.slice (some ⟨g,0,none⟩) n c) n xs) (hv:Blk w vb 24 rs.toArray) :
  Calls Tryz.prog 91 #[.slice (some ⟨g,0,none⟩) n c,.int .i64 (k:Int),.slice (some ⟨vb,0,none⟩) 1 1] w fun e w'=>∃ v',e=.returned v'∧w'.ownsRow base 24 2 v' (n+1) (xs.take (k*2)++rs++xs.drop (k*2))∧w.grownBy w' (some g)∧∀ q,v'.ownBlock=some q→some g=some q∨w.heap.size≤q:=by
 obtain ⟨i0',hi0,hz0a,hz0b,hz0c⟩:=info_parts infoB
 have hsz:(Tryz.prog.info? 24).map (·.size)=some 2:=by rw [hi0];simp [hz0b]
 have hzs:∀ w,(Go.sizeOf 24).run Tryz.prog w=.ok 2 w:=fun w=>by kernel_rfl
 have hxl:xs.length=n*2:=by have:=hown.1;omega
 obtain ⟨_,h | ⟨g',cap',cur,hve,hbg,hblk,hnc,hcm,hsize,htake⟩⟩:=hown
 ·obtain ⟨h,_⟩:=h;cases h
 injection hve with hv1 hv2 hv3
 injection hv1 with hv1
 injection hv1 with hv1
 subst hv1 hv3
 have hcx:c≤9223372036854775807:=by unfold maxLen at hcm;omega
 have HB:Blk w g 24 cur:=hblk
 replace hsize:cur.size=c*2:=by omega
 have htj:∀ j,j<n*2→cur[j]?=xs[j]?:=by
  intro j hj
  rw [← htake,List.getElem?_take,if_pos (by omega),Array.getElem?_toList]
 have hcs:∀ j,j<c*2→(w.cell? ⟨g,j,none⟩).isSome=true:=fun j hj=>by rw [HB.cell,Array.getElem?_eq_getElem (by omega)];rfl
 have hfz:∀ j,w.frozen? ⟨g,j,none⟩=false:=HB.frozen
 have hv0:w.shape? vb=some (24,2):=by
  have:=hv;unfold Blk at this
  simp [World.shape?,this,hrl]
 have hv2:w.shape? g=some (24,c*2):=by
  simp [World.shape?,hblk,hsize]
 have hov:∀ lb cb,(callFunc 131 #[.slice (some ⟨vb,0,none⟩) 1 1,.slice (some ⟨g,(k+1)*2,none⟩) lb cb]).run Tryz.prog w=.ok (.value (.bool false)) w:=fun lb cb=>by
  rw [run_callFunc_extern Tryz.func131 (by kernel_rfl) (by kernel_rfl) (by kernel_rfl) (e:=Extern.SlicesOverlaps.overlaps #[58,58] #[4]) (by kernel_rfl),
   Lib.run_overlaps_apart w 58 4 24 Tryz.underlying58 2 hzs ⟨vb,0,none⟩ ⟨g,(k+1)*2,none⟩ 1 1 lb cb (fun e=>hne e.symm) 24 24 2 (c*2) hv0 hv2 (by omega) (hv.frozen 0) (hv.frozen 2)]
  rfl
 have hdl:(xs.drop (k*2)).length=(n-k)*2:=by rw [List.length_drop,hxl];omega
 have hcp1:∀ ty dc sc,(Builtin.copy_ #[58,58] ty #[.slice (some ⟨g,(k+1)*2,none⟩) (n-k) dc,.slice (some ⟨g,k*2,none⟩) (n+1-k) sc]).run Tryz.prog w.drew=.ok (goInt ((n-k:Nat):Int)) (w.drew.setCells g ((k+1)*2) (xs.drop (k*2))):=fun ty dc sc=>by
  have e:Nat.min (n+1-k) (n-k)=n-k:=by simp only [Nat.min_def];split<;>omega
  have h:=run_copy_sz w.drew 58 58 ty 24 g ((k+1)*2) (n-k) dc ⟨g,k*2,none⟩ (n+1-k) sc 2 (xs.drop (k*2)) Tryz.underlying58 hsz (by rw [hdl,e];try omega)
   (fun j v hj=>by
    rw [add_mk]
    have h1:(w.drew).cell? ⟨g,k*2+j,none⟩=cur[k*2+j]?:=HB.cell _
    have h2:=(List.getElem?_eq_some_iff.1 hj).1
    rw [h1,htj _ (by rw [hdl] at h2;omega)]
    rwa [List.getElem?_drop] at hj)
   (fun j hj=>hcs _ (by rw [hdl] at hj;omega)) (fun j hj=>hfz _) (fun v hv=>hone v (List.mem_of_mem_drop hv))
  rwa [e] at h
 have HB1:Blk (w.drew.setCells g ((k+1)*2) (xs.drop (k*2))) g 24 (patch cur ((k+1)*2) (xs.drop (k*2))):=Blk.sets _ _ HB.drew
 have hg1:w.grownBy (w.drew.setCells g ((k+1)*2) (xs.drop (k*2))) (some g):=by
  have h:=grown_sets g (xs.drop (k*2)) w.drew ((k+1)*2)
  exact ⟨h.os,h.tape,h.output,h.size,h.block⟩
 have hv1:Blk (w.drew.setCells g ((k+1)*2) (xs.drop (k*2))) vb 24 rs.toArray:=Blk.grown hv hg1 (by simpa using (fun e=>hne e.symm))
 obtain ⟨W1,hW1⟩:∃ W1,Hid (W1=w.drew.setCells g ((k+1)*2) (xs.drop (k*2))):=⟨_,Lib.hid rfl⟩
 rw [← hW1.out] at hcp1 HB1 hg1 hv1
 have hcp2:∀ ty dc,(Builtin.copy_ #[58,58] ty #[.slice (some ⟨g,k*2,none⟩) (n+1-k) dc,.slice (some ⟨vb,0,none⟩) 1 1]).run Tryz.prog W1=.ok (goInt 1) (W1.setCells g (k*2) rs):=fun ty dc=>by
  have e:Nat.min 1 (n+1-k)=1:=by simp only [Nat.min_def];split<;>omega
  have h:=run_copy_sz W1 58 58 ty 24 g (k*2) (n+1-k) dc ⟨vb,0,none⟩ 1 1 2 rs Tryz.underlying58 hsz (by rw [hrl,e])
   (fun j u hu=>by rw [add_mk,Nat.zero_add,hv1.cell];simpa using hu)
   (fun j hj=>by rw [HB1.cell,Array.getElem?_eq_getElem (by rw [patch_size];rw [hrl] at hj;omega)];rfl) (fun j hj=>HB1.frozen _) hr1
  rwa [e] at h
 have hw1:IntKind.i64.wrap ((k:Int)+1)=(k:Int)+1:=by rw [IntKind.wrap_i64];omega
 have hb1:(0:Int)≤(k:Int)+1:=by omega
 have hin:k≤n:=by omega
 have htn:((k:Int)+1).toNat=k+1:=by omega
 have hb2:¬ (c=k+1):=by omega
 have hb3:(k:Int)≤(n:Int)+1:=by omega
 have hb4:¬ (c=k):=by omega
 have hz2:¬ ((k:Int)=(n:Int)):=by omega
 have hovh:=Lib.hid hov
 go_enter Tryz.func91,Tryz.ntmps91
 go_wp2_with (simp only [hov])
 go_region_law (refine step_copy_eq rfl _ _ 58 58 rfl _ _ (by simp [Act.eval,Act.put]) (by simp [Act.eval,Act.put]) (hcp1 _ _ _) ?_)
 go_wp2_with (at_builtin;refine wpList_copy_eq _ rfl _ _ 58 58 rfl _ _ rfl rfl (hcp2 _ _) ?_)
 go_ret
 have hg2:=grown_sets g rs W1 (k*2)
 refine ⟨_,rfl,⟨by simp only [List.length_append,List.length_take,List.length_drop,hrl,hxl];omega,.inr ⟨g,c,_,rfl,hbg,HB1.sets rs (k*2),by omega,hcm,by rw [patch_size,patch_size,hsize];try omega,?_⟩⟩,
  ⟨hg2.os.trans hg1.os,hg2.tape.trans hg1.tape,hg2.output.trans hg1.output,Nat.le_trans hg1.size hg2.size,fun i h1 h2=>(hg2.block i (Nat.lt_of_lt_of_le h1 hg1.size) h2).trans (hg1.block i h1 h2)⟩,fun q hq=>.inl hq⟩
 refine ins_cells (xs:=xs) (rs:=rs) (p:=k*2) (q:=2) (by omega) hrl (by omega) rfl (by rw [patch_size,patch_size];omega) ?_ ?_ ?_
 ·intro j hj
  rw [patch_out _ _ _ _ (.inl hj),patch_out _ _ _ _ (.inl (by omega)),htj j (by omega)]
 ·intro j hj
  exact patch_in _ _ _ _ (by rw [hrl];exact hj) (by rw [hrl,patch_size];omega)
 ·intro j hj
  rw [patch_out _ _ _ _ (.inr (by rw [hrl];omega)),show k*2+2+j=(k+1)*2+j by omega,patch_in _ _ _ _ (by rw [hdl];omega) (by rw [hdl];omega),List.getElem?_drop]
theorem insB_grow (n:Nat) (xs rs:List Value) (hone:∀ u∈xs,u.oneCell'=true) (hr1:∀ u∈rs,u.oneCell'=true) (hrl:rs.length=2) (k:Nat) (hk:k<n) (hlen:n≤1000000000) (g c:Nat) (hroom:c<n+1) (base vb:Nat) (w:World) (hb:base≤w.heap.size)
  (hown:w.ownsRow base 24 2 (.slice (some ⟨g,0,none⟩) n c) n xs) (hv:Blk w vb 24 rs.toArray) :
  Calls Tryz.prog 91 #[.slice (some ⟨g,0,none⟩) n c,.int .i64 (k:Int),.slice (some ⟨vb,0,none⟩) 1 1] w fun e w'=>∃ v',e=.returned v'∧w'.ownsRow base 24 2 v' (n+1) (xs.take (k*2)++rs++xs.drop (k*2))∧w.grownBy w' (some g)∧∀ q,v'.ownBlock=some q→some g=some q∨w.heap.size≤q:=by
 obtain ⟨i0',hi0,hz0a,hz0b,hz0c⟩:=info_parts infoB
 have hsz:(Tryz.prog.info? 24).map (·.size)=some 2:=by rw [hi0];simp [hz0b]
 have hxl:xs.length=n*2:=by have:=hown.1;omega
 have hcel:∀ j u,xs[j]?=some u→w.cell? ((⟨g,0,none⟩:Addr).add j)=some u:=hown.cells (g:=g) rfl
 have hglt:=(hown.lt g rfl).2
 obtain ⟨_,h | ⟨g',cap',cur,hve,hbg,hblk,hnc,hcm,hsize,htake⟩⟩:=hown
 ·obtain ⟨h,_⟩:=h;cases h
 injection hve with hv1 hv2 hv3
 injection hv1 with hv1
 injection hv1 with hv1
 subst hv1 hv3
 obtain rfl:c=n:=by omega
 clear hblk htake hsize hnc hv2
 obtain ⟨z,hzd⟩:∃ z:Value,Hid (z=.agg #[.int .i64 0,.int .i64 0]):=⟨_,Lib.hid rfl⟩
 rw [← hzd.out] at hz0a
 have hzc:z.cells.size=2:=by rw [hzd.out];rfl
 have hkk:(c:Int)+1-(k:Int)=((c+1-k:Nat):Int):=by omega
 have hik:k+(c+1-k)=c+1:=by omega
 have hold:(Builtin.firstCells i0'.size k (.slice (some ⟨g,0,none⟩) k c)).run Tryz.prog w.drew=.ok (xs.take (k*2)).toArray w.drew:=by
  rw [hz0b]
  exact run_firstCells_some w.drew 2 k ⟨g,0,none⟩ k c (xs.take (k*2)) (by rw [List.length_take];omega) (fun j v hj=>by
   rw [List.getElem?_take] at hj
   split at hj
   ·exact hcel j v hj
   ·cases hj)
 obtain ⟨G,hG⟩:∃ G,Hid (G=grownCap w (c+1) c 24):=⟨_,Lib.hid rfl⟩
 obtain ⟨ROW,hROW⟩:∃ ROW:Array Value,Hid (ROW=(xs.take (k*2)).toArray++Builtin.zeroCells z.cells (c+1-k)++Builtin.zeroCells z.cells (G-(c+1))):=⟨_,Lib.hid rfl⟩
 have hGn:c+1≤G:=by rw [hG.out];exact grownCap_ge w _ _ _
 have hGm:G≤maxLen:=by
  have:=grownCap_le_maxLen w (c+1) c 24 (by unfold maxLen;omega)
  rwa [← hG.out] at this
 have hG63:G≤9223372036854775807:=by unfold maxLen at hGm;omega
 have hrz:∀ ty,(Builtin.append_ #[58,3] ty #[.slice (some ⟨g,0,none⟩) k c,.int .i64 ((c:Int)+1-(k:Int))]).run Tryz.prog w =
   .ok (.slice (some ⟨w.heap.size,0,none⟩) (c+1) G) (w.drew.alloc (.cells ROW 24)):=fun ty=>by
  have h:=Lib.run_append_grow_zeros w 58 3 ty 24 i0' _ .i64 .i64 Tryz.underlying58 Tryz.underlying3 hi0 hz0a (some ⟨g,0,none⟩) k c (xs.take (k*2)) hold (c+1-k) (by omega) (by omega) (by omega) (by omega) (by rw [hz0c];omega) (by rw [hz0c,hik];exact growslice_fits (by omega) (by omega))
  rw [hik,← hG.out,← hROW.out] at h
  rw [hkk]
  exact h
 have hRsz:ROW.size=G*2:=by
  rw [hROW.out]
  simp only [Array.size_append,List.size_toArray,List.length_take,hxl,size_zeroCells,hzc]
  omega
 have hRl:∀ j,j<k*2→ROW[j]?=xs[j]?:=by
  intro j hj
  rw [hROW.out,Array.append_assoc,Array.getElem?_append_left (by simp;omega)]
  simp [List.getElem?_take,hj]
 clear hold hROW hz0a hzd hkk
 have HB1:Blk ((w.alloc (.cells ROW 24)).drew) w.heap.size 24 ROW:=(Blk.new w 24 ROW).drew
 have hv1:Blk ((w.alloc (.cells ROW 24)).drew) vb 24 rs.toArray:=(hv.alloc _).drew
 have hvw:=hv.lt
 have hcpA:∀ (W:World),Blk W w.heap.size 24 ROW→Blk W vb 24 rs.toArray→∀ ty dc,(Builtin.copy_ #[58,58] ty #[.slice (some ⟨w.heap.size,k*2,none⟩) (c+1-k) dc,.slice (some ⟨vb,0,none⟩) 1 1]).run Tryz.prog W=.ok (goInt 1) (W.setCells w.heap.size (k*2) rs):=fun W hWb hWv ty dc=>by
  have e:Nat.min 1 (c+1-k)=1:=by simp only [Nat.min_def];split<;>omega
  have h:=run_copy_sz W 58 58 ty 24 w.heap.size (k*2) (c+1-k) dc ⟨vb,0,none⟩ 1 1 2 rs Tryz.underlying58 hsz (by rw [hrl,e])
   (fun j u hu=>by rw [add_mk,Nat.zero_add,hWv.cell];simpa using hu)
   (fun j hj=>by rw [hWb.cell,Array.getElem?_eq_getElem (by rw [hrl] at hj;omega)];rfl) (fun j hj=>hWb.frozen _) hr1
  rwa [e] at h
 have hdl:(xs.drop (k*2)).length=(c-k)*2:=by rw [List.length_drop,hxl];omega
 have hcpB:∀ (W:World),Blk W w.heap.size 24 (patch ROW (k*2) rs)→(∀ j u,xs[j]?=some u→W.cell? ⟨g,j,none⟩=some u)→∀ ty dc sc,(Builtin.copy_ #[58,58] ty #[.slice (some ⟨w.heap.size,(k+1)*2,none⟩) (c-k) dc,.slice (some ⟨g,k*2,none⟩) (c-k) sc]).run Tryz.prog W=.ok (goInt ((c-k:Nat):Int)) (W.setCells w.heap.size ((k+1)*2) (xs.drop (k*2))):=fun W hWb hWg ty dc sc=>by
  have e:Nat.min (c-k) (c-k)=c-k:=by simp only [Nat.min_def];split<;>omega
  have h:=run_copy_sz W 58 58 ty 24 w.heap.size ((k+1)*2) (c-k) dc ⟨g,k*2,none⟩ (c-k) sc 2 (xs.drop (k*2)) Tryz.underlying58 hsz (by rw [hdl,e];try omega)
   (fun j v hj=>by rw [add_mk];exact hWg _ v (by rwa [List.getElem?_drop] at hj))
   (fun j hj=>by rw [hWb.cell,Array.getElem?_eq_getElem (by rw [patch_size];rw [hdl] at hj;omega)];rfl) (fun j hj=>hWb.frozen _) (fun v hv=>hone v (List.mem_of_mem_drop hv))
  rwa [e] at h
 have HB2:Blk (((w.alloc (.cells ROW 24)).drew.setCells w.heap.size (k*2) rs).drew) w.heap.size 24 (patch ROW (k*2) rs):=(Blk.sets _ _ HB1).drew
 have hcel2:∀ j u,xs[j]?=some u→(((w.alloc (.cells ROW 24)).drew.setCells w.heap.size (k*2) rs).drew).cell? ⟨g,j,none⟩=some u:=by
  intro j u hu
  show ((w.alloc (.cells ROW 24)).drew.setCells w.heap.size (k*2) rs).cell? ⟨g,j,none⟩=some u
  rw [World.cell?_setCells_out _ _ _ _ _ (fun h _=>absurd h (by simp only;omega))]
  show (w.alloc (.cells ROW 24)).cell? ⟨g,j,none⟩=some u
  rw [World.cell?_alloc_lt w _ ⟨g,j,none⟩ (by simpa using hglt)]
  have:=hcel j u hu
  rwa [add_mk,Nat.zero_add] at this
 have hw1:IntKind.i64.wrap ((k:Int)+1)=(k:Int)+1:=by rw [IntKind.wrap_i64];omega
 have hb1:(0:Int)≤(k:Int)+1:=by omega
 have hin:k≤c:=by omega
 have htn:((k:Int)+1).toNat=k+1:=by omega
 have hb2:¬ (G=k+1):=by omega
 have hb5:¬ (G=k):=by omega
 have hb3:(k:Int)≤(c:Int)+1:=by omega
 have hb4:¬ (c=k):=by omega
 have hz2:¬ ((k:Int)=(c:Int)):=by omega
 have hcpAh:=Lib.hid hcpA;have hcpBh:=Lib.hid hcpB;have HB1h:=Lib.hid HB1;have HB2h:=Lib.hid HB2;have hv1h:=Lib.hid hv1;have hcelh:=Lib.hid hcel2;have hrzh:=Lib.hid hrz
 clear hcpA hcpB HB1 HB2 hv1 hcel2 hrz hcel
 go_enter Tryz.func91,Tryz.ntmps91
 have hA1:=hcpAh.out _ HB1h.out hv1h.out
 go_wp2_with (first
  | (at_builtin;refine Lib.wpList_append_run _ rfl _ _ _ _ rfl _ _ rfl rfl _ _ (hrzh.out _) ?_)
  | fail)
 have hB1:=hcpBh.out _ HB2h.out hcelh.out
 go_region_law (refine step_copy_eq rfl _ _ 58 58 rfl _ _ (by simp [Act.eval,Act.put]) (by simp [Act.eval,Act.put]) (hB1 _ _ _) ?_)
 go_wp2_with fail
 go_ret
 have hg1:w.grownBy ((w.alloc (.cells ROW 24)).drew.setCells w.heap.size (k*2) rs) none:=by
  have h:=grown_sets w.heap.size rs ((w.alloc (.cells ROW 24)).drew) (k*2)
  have h0:=World.grownBy_alloc w (.cells ROW 24) none
  exact ⟨h.os.trans h0.os,h.tape.trans h0.tape,h.output.trans h0.output,Nat.le_trans h0.size h.size,fun i h1 h2=>(h.block i (Nat.lt_of_lt_of_le h1 h0.size) (fun e=>by injection e with e;omega)).trans (h0.block i h1 h2)⟩
 have hg2:=grown_sets w.heap.size (xs.drop (k*2)) ((((w.alloc (.cells ROW 24)).drew.setCells w.heap.size (k*2) rs).drew)) ((k+1)*2)
 refine ⟨_,rfl,⟨by simp only [List.length_append,List.length_take,List.length_drop,hrl,hxl];omega,.inr ⟨w.heap.size,G,_,rfl,hb,HB2h.out.sets (xs.drop (k*2)) ((k+1)*2),by omega,hGm,by rw [patch_size,patch_size,hRsz];try omega,?_⟩⟩,
  ⟨hg2.os.trans hg1.os,hg2.tape.trans hg1.tape,hg2.output.trans hg1.output,Nat.le_trans hg1.size hg2.size,fun i h1 h2=>(hg2.block i (Nat.lt_of_lt_of_le h1 hg1.size) (fun e=>by injection e with e;omega)).trans (hg1.block i h1 (by simp))⟩,fun q hq=>.inr (by simp [Value.ownBlock] at hq;omega)⟩
 refine ins_cells (xs:=xs) (rs:=rs) (p:=k*2) (q:=2) (by omega) hrl (by omega) rfl (by rw [patch_size,patch_size];omega) ?_ ?_ ?_
 ·intro j hj
  rw [patch_out _ _ _ _ (.inl (by omega)),patch_out _ _ _ _ (.inl hj),hRl j hj]
 ·intro j hj
  rw [patch_out _ _ _ _ (.inl (by omega)),patch_in _ _ _ _ (by rw [hrl];exact hj) (by rw [hrl];omega)]
 ·intro j hj
  rw [show k*2+2+j=(k+1)*2+j by omega,patch_in _ _ _ _ (by rw [hdl];omega) (by rw [hdl,patch_size];omega),List.getElem?_drop]
theorem insB_any (n:Nat) (xs rs:List Value) (hone:∀ u∈xs,u.oneCell'=true) (hr1:∀ u∈rs,u.oneCell'=true) (hrl:rs.length=2) (k:Nat) (hk:k≤n) (hlen:n≤1000000000) (v:Value) (base vb:Nat) (w:World) (hb:base≤w.heap.size) (hne:v.ownBlock≠some vb)
  (hown:w.ownsRow base 24 2 v n xs) (hv:Blk w vb 24 rs.toArray) :
  Calls Tryz.prog 91 #[v,.int .i64 (k:Int),.slice (some ⟨vb,0,none⟩) 1 1] w fun e w'=>∃ v',e=.returned v'∧w'.ownsRow base 24 2 v' (n+1) (xs.take (k*2)++rs++xs.drop (k*2))∧w.grownBy w' v.ownBlock∧∀ q,v'.ownBlock=some q→v.ownBlock=some q∨w.heap.size≤q:=by
 rcases Nat.lt_or_ge k n with h | h
 ·obtain ⟨g,c,rfl,_,_⟩:=hown.form (by omega)
  rcases Nat.lt_or_ge c (n+1) with h' | h'
  ·exact insB_grow n xs rs hone hr1 hrl k h hlen g c h' base vb w hb hown hv
  ·exact insB_room n xs rs hone hr1 hrl k h hlen g c h' base vb w (fun e=>hne (by rw [← e];rfl)) hown hv
 ·obtain rfl:k=n:=by omega
  have hl:xs.length=k*2:=by have:=hown.1;omega
  rw [List.take_of_length_le (by omega),List.drop_of_length_le (by omega),List.append_nil]
  exact insB_end k xs rs hr1 hrl hlen v base vb w hb hown hv
end Go.Proofs.YtefdblaolmckmabGreat
