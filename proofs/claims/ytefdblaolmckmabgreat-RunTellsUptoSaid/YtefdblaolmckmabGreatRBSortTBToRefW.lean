/- Lemmas of the proof. -/
import Derived.Test.YtefdblaolmckmabGreatRSortYB
import Derived.Test.YtefdblaolmckmabGreatRBRowToInv
set_option linter.unusedVariables false
set_option linter.unusedSimpArgs false
set_option maxRecDepth 100000
set_option maxHeartbeats 12800000
namespace Go.Proofs.YtefdblaolmckmabGreat
open Go.RowKit
open Brood
theorem symMergeSB {α:Type} (f:α→List Value) (hf:Els f 2) (key:α→Int) (F:FuncId) (hF:CmpF f key F) (base g c N:Nat) (hl:N≤1000000000) (cur:List α) (a m b:Nat) (h1:a<m) (h2:m<b) (hb:b≤N) (hsL:Sg key cur a m) (hsR:Sg key cur m b) (hN:cur.length=N) (w:World) (hS:St f 2 24 base g c w w cur) :
  Calls Tryz.prog 156 #[.slice (some ⟨g,0,none⟩) N c,.int .i64 (a:Int),.int .i64 (m:Int),.int .i64 (b:Int),.func (.func F) #[] #[]] w fun e w'=>e=.returned (.tuple #[])∧∃ ys,PartI key a b cur ys∧St f 2 24 base g c w w' ys:=by
 obtain ⟨P,L,R,Q,e,l1,l2,l3,l4,l5⟩:=cut4 cur (a:=a) (m:=m) (b:=b) (by omega) (by omega) (by omega)
 refine (symMergeB_any f hf key F hF base g c N hl (L.length+R.length) P L R Q cur a m b (Nat.le_refl _) (Lib.hid e) (Lib.hid l1.symm) (Lib.hid l2.symm) (Lib.hid l3.symm) h1 h2 (Lib.hid (by rw [l4];exact hsL)) (Lib.hid (by rw [l5];exact hsR)) hN w hS).mono ?_
 rintro e' w' ⟨rfl,Y,hY,hS2⟩
 exact ⟨rfl,_,⟨P,L++R,Q,Y,by rw [e];simp,l1,by simp;omega,rfl,hY⟩,hS2⟩
theorem stableB_any {α:Type} (f:α→List Value) (hf:Els f 2) (key:α→Int) (F:FuncId) (hF:CmpF f key F) (base g c N:Nat) (hl:N≤1000000000) (xs:List α) (hN:xs.length=N) (w:World) (hS:St f 2 24 base g c w w xs) :
  Calls Tryz.prog 125 #[.slice (some ⟨g,0,none⟩) N c,.int .i64 (N:Int),.func (.func F) #[] #[]] w fun e w'=>e=.returned (.tuple #[])∧St f 2 24 base g c w w' (sortK key xs):=by
 go_enter Tryz.func125,Tryz.ntmps125
 go_wp2_with fail
 go_loopw [7,8] (fun s t wr=>∃ (a:Nat) (cur:List α),s=.int .i64 a∧t=.int .i64 ((a:Int)+20)∧a≤N∧Hid (OneA key 20 a cur∧Eqf key xs cur)∧St f 2 24 base g c w wr cur) (fun s _ _=>N-(intOf s).toNat)
 case atStart=>exact ⟨0,xs,rfl,rfl,Nat.zero_le _,Lib.hid ⟨OneA.begin,Eqf.refl _⟩,hS⟩
 case round=>
  clear hS
  obtain ⟨a,cur,rfl,rfl,ha,hI,hS1⟩:=hrel
  have hcl:cur.length=N:=by rw [hI.out.2.1];exact hN
  by_cases hlt:a+20≤N
  ·have hb:=Lib.hid (show (a:Int)+20=((a+20:Nat):Int) by omega)
   have hlt2:(a:Int)+20≤(N:Int):=by omega
   go_wp2_with fail
   rw [hb.out]
   refine (insertionB_any f hf key F hF cur a (a+20) N (by omega) hlt hcl hl base g c wr hS1.self).mono ?_
   rintro e w1 ⟨rfl,ys,hp,hS2⟩
   rw [← hb.out]
   clear hb
   go_wp2_with fail
   go_roundw
   case rel=>exact ⟨a+20,ys,by go_num,by go_num,hlt,Lib.hid ⟨hI.out.1.step hp,hI.out.2.trans hp.eqf⟩,hS1.trans hS2⟩
   case measure=>simp [intOf];omega
  ·have hlt2:¬ (a:Int)+20≤(N:Int):=by omega
   go_wp2_with fail
   refine (insertionB_any f hf key F hF cur a N N ha (Nat.le_refl _) hcl hl base g c wr hS1.self).mono ?_
   rintro e w1 ⟨rfl,ys,hp,hS2⟩
   have hI2:Hid (AllB key 20 ys∧Eqf key xs ys):=Lib.hid ⟨hI.out.1.last hcl.symm (by omega) hp,hI.out.2.trans hp.eqf⟩
   have hS3:=hS1.trans hS2
   clear hp hI hS1 hS2 hlt hlt2
   go_wp2_with fail
   go_loopw [6] (fun s wr2=>∃ (B:Nat) (cur:List α),s=.int .i64 B∧20≤B∧B≤2*N+20∧Hid (AllB key B cur∧Eqf key xs cur)∧St f 2 24 base g c w wr2 cur) (fun s _=>N-(intOf s).toNat)
   case atStart=>exact ⟨20,ys,rfl,Nat.le_refl _,by omega,hI2,hS3⟩
   case round=>
   clear hI2 hS3
   obtain ⟨B,cur2,rfl,hB1,hB2,hI,hS1⟩:=hrel
   by_cases hlt:B<N
   ·go_wp2_with fail
    go_loopw [7,8] (fun s t wr3=>∃ (d:Nat) (cur:List α),s=.int .i64 d∧t=.int .i64 ((d:Int)+2*(B:Int))∧d≤N∧Hid (MidA key B d cur∧Eqf key xs cur)∧St f 2 24 base g c w wr3 cur) (fun s _ _=>N-(intOf s).toNat)
    case atStart=>exact ⟨0,cur2,rfl,by congr 1;omega,Nat.zero_le _,Lib.hid ⟨hI.out.1.begin,hI.out.2⟩,hS1⟩
    case round=>
    clear hI hS1
    obtain ⟨d,cur3,rfl,rfl,hd,hI,hS1⟩:=hrel
    have hcl3:cur3.length=N:=by rw [hI.out.2.1];exact hN
    have hpre:=Lib.hid hI.out.1.pre
    by_cases hlt3:d+2*B≤N
    ·have hb:=Lib.hid (show (d:Int)+2*(B:Int)=((d+2*B:Nat):Int) by omega)
     have hm:=Lib.hid (show (d:Int)+(B:Int)=((d+B:Nat):Int) by omega)
     have hlt2:(d:Int)+2*(B:Int)≤(N:Int):=by omega
     go_wp2_with fail
     rw [hb.out,hm.out]
     refine (symMergeSB f hf key F hF base g c N hl cur3 d (d+B) (d+2*B) (by omega) (by omega) hlt3 hpre.out.1 hpre.out.2 hcl3 _ hS1.self).mono ?_
     rintro e w2 ⟨rfl,zs,hp,hS2⟩
     rw [← hb.out]
     clear hm hb
     go_wp2_with fail
     go_roundw
     case rel=>exact ⟨d+2*B,zs,by go_num,by go_num,hlt3,Lib.hid ⟨hI.out.1.step hp,hI.out.2.trans hp.eqf⟩,hS1.trans hS2⟩
     case measure=>simp [intOf];omega
    ·have hlt2:¬ (d:Int)+2*(B:Int)≤(N:Int):=by omega
     by_cases hmN:d+B<N
     ·have hm:=Lib.hid (show (d:Int)+(B:Int)=((d+B:Nat):Int) by omega)
      have hmN2:(d:Int)+(B:Int)<(N:Int):=by omega
      go_wp2_with fail
      rw [hm.out]
      refine (symMergeSB f hf key F hF base g c N hl cur3 d (d+B) N (by omega) hmN (Nat.le_refl _) hpre.out.1 (hpre.out.2.cut (by omega)) hcl3 _ hS1.self).mono ?_
      rintro e w2 ⟨rfl,zs,hp,hS2⟩
      clear hm
      go_wp2_with fail
      go_roundw
      case rel=>exact ⟨2*B,zs,by go_num,by omega,by omega,Lib.hid ⟨hI.out.1.last hcl3.symm (by omega) hp,hI.out.2.trans hp.eqf⟩,hS1.trans hS2⟩
      case measure=>simp [intOf];omega
     ·have hmN2:¬ (d:Int)+(B:Int)<(N:Int):=by omega
      go_wp2_with fail
      go_roundw
      case rel=>exact ⟨2*B,cur3,by go_num,by omega,by omega,Lib.hid ⟨hI.out.1.skip (by omega),hI.out.2⟩,hS1⟩
      case measure=>simp [intOf];omega
   ·go_wp2_with fail
    go_end0
    refine ⟨rfl,?_⟩
    have hcl2:cur2.length=N:=by rw [hI.out.2.1];exact hN
    have hst:Stb key xs cur2:=⟨hI.out.1.whole (by omega),hI.out.2⟩
    rw [← hst.sortK]
    exact hS1
theorem stableB_nil {α:Type} (key:α→Int) (F:FuncId) (w:World) :
  Calls Tryz.prog 125 #[.slice none 0 0,.int .i64 0,.func (.func F) #[] #[]] w fun e w'=>e=.returned (.tuple #[])∧w=w':=by
 have hins:∀ (a b:Int),a=0→b=0→∀ w,Calls Tryz.prog 155 #[.slice none 0 0,.int .i64 a,.int .i64 b,.func (.func F) #[] #[]] w fun e w'=>e=.returned (.tuple #[])∧w=w':=by
  rintro a b rfl rfl w
  go_enter Tryz.func155,Tryz.ntmps155
  go_wp2_with fail
  refine wp_loop_rounds 1 ?_
  rw [rounds_succ]
  go_wp2_with fail
  go_end0
  exact ⟨rfl,rfl⟩
 go_enter Tryz.func125,Tryz.ntmps125
 go_wp2_with fail
 refine wp_loop_rounds 1 ?_
 rw [rounds_succ]
 go_wp2_with fail
 refine (hins 0 0 rfl rfl w).mono ?_
 rintro e w1 ⟨rfl,rfl⟩
 go_wp2_with fail
 refine wp_loop_rounds 1 ?_
 rw [rounds_succ]
 go_wp2_with fail
 go_end0
 exact ⟨rfl,rfl⟩
theorem sortStableB_any {α:Type} (f:α→List Value) (hf:Els f 2) (key:α→Int) (F:FuncId) (hF:CmpF f key F) (base:Nat) (xs:List α) (hl:xs.length≤1000000000) (v:Value) (w:World) (hown:w.ownsRow base 24 2 v xs.length (xs.flatMap f)) :
  Calls Tryz.prog 82 #[v,.func (.func F) #[] #[]] w fun e w'=>e=.returned (.tuple #[])∧w.grownBy w' v.ownBlock∧w'.ownsRow base 24 2 v (sortK key xs).length ((sortK key xs).flatMap f):=by
 obtain ⟨A,c,rfl,hnc,hcm⟩:=own_shape hown
 cases A with
 | none=>
  have hx:xs=[]:=by
   rcases hown.2 with ⟨_,h⟩ | ⟨g,cap,cur,h,_⟩
   ·exact List.eq_nil_of_length_eq_zero h
   ·cases h
  subst hx
  have hc:c=0:=by
   rcases hown.2 with ⟨h,_⟩ | ⟨g,cap,cur,h,_⟩
   ·injection h
   ·cases h
  subst hc
  go_enter Tryz.func82,Tryz.ntmps82
  go_wp2_with fail
  refine (stableB_nil key F _).mono ?_
  rintro e w1 ⟨rfl,rfl⟩
  go_wp2_with fail
  go_end0
  exact ⟨rfl,grown_refl _ _,hown⟩
 | some p=>
  obtain ⟨g,c',hv,_,_⟩:∃ g c',Value.slice (some p) xs.length c=.slice (some ⟨g,0,none⟩) xs.length c'∧True∧True:=by
   rcases hown.2 with ⟨h,_⟩ | ⟨g,cap,cur,h,_⟩
   ·cases h
   ·exact ⟨g,cap,h,trivial,trivial⟩
  injection hv with e1 _ e3
  injection e1 with e1
  subst e1 e3
  have hS:=St.start hown
  have hst:=Lib.hid (stableB_any f hf key F hF base g c xs.length hl xs rfl w hS)
  go_enter Tryz.func82,Tryz.ntmps82
  go_wp2_with fail
  refine hst.out.mono ?_
  rintro e w1 ⟨rfl,hS2⟩
  go_wp2_with fail
  go_end0
  have hlen:(sortK key xs).length=xs.length:=(sortK_stb xs).2.1
  refine ⟨rfl,hS2.grown,?_⟩
  have:=hS2.own
  rw [hlen] at this ⊢
  exact this
open Go.RowKit
open Brood
theorem rset_any (n:Int) (w:World) :
  Calls Tryz.prog 110 #[.int .i64 n] w fun e w'=>e=.returned (.bool (isSet n))∧w=w':=by
 go_enter Tryz.func110,Tryz.ntmps110
 go_wp2
 all_goals go_ret
 all_goals exact ⟨ret_bool (by simp [isSet];omega),rfl⟩
theorem rvalue_any (n:Int) (w:World) :
  Calls Tryz.prog 143 #[.int .i64 n] w fun e w'=>e=.returned (.bool (isVal n))∧w=w':=by
 go_enter Tryz.func143,Tryz.ntmps143
 go_wp2
 all_goals go_ret
 all_goals exact ⟨ret_bool (by simp [isVal];omega),rfl⟩
def arr (s:Nat) (k:Nat):Array Value:=((List.range 8).map fun j=>Value.bool (decide (j<k) && s.testBit j)).toArray
theorem arr_zero (s:Nat):arr s 0=#[.bool false,.bool false,.bool false,.bool false,.bool false,.bool false,.bool false,.bool false]:=by
 simp [arr,List.range_succ]
theorem arr_get (s k:Nat) {j:Nat} (hj:j<8):(arr s k)[j]?=some (.bool (decide (j<k) && s.testBit j)):=by
 simp [arr,hj]
theorem arr_set (s:Nat) {k:Nat} (hk:k<8):(arr s k).setIfInBounds k (.bool (s.testBit k))=arr s (k+1):=by
 apply Array.ext_getElem?
 intro i
 rw [Array.getElem?_setIfInBounds]
 by_cases hi:i<8
 ·rw [arr_get s k hi,arr_get s (k+1) hi]
  by_cases he:k=i
  ·subst he;simp [arr,hk]
  ·rw [if_neg he]
   have:(i<k)↔(i<k+1):=by omega
   simp [this]
 ·have h1:(arr s k)[i]?=none:=by simp [arr];omega
  have h2:(arr s (k+1))[i]?=none:=by simp [arr];omega
  rw [h1,h2]
  rw [if_neg (by omega)]
def bitsV (s:Nat):Value:=.agg #[.bool (tb s 0),.bool (tb s 1),.bool (tb s 2),.bool (tb s 3),.bool (tb s 4),.bool (tb s 5),.bool (tb s 6),.bool (tb s 7)]
theorem odd_bit (m k q:Nat) (h:q=m / 2 ^ k):(((q:Int) % 2)==1)=m.testBit k:=by
 subst h
 rw [Nat.testBit_eq_decide_div_mod_eq,Bool.eq_iff_iff]
 simp only [beq_iff_eq,decide_eq_true_eq]
 generalize m / 2 ^ k=q
 omega
theorem half (m k q:Nat) (h:q=m / 2 ^ k):q / 2=m / 2 ^ (k+1):=by
 rw [Nat.pow_succ,← Nat.div_div_eq_div_mul,h]
theorem rbits_any (m:Nat) (hm:m<256) (w:World) :
  Calls Tryz.prog 147 #[.int .i64 (m:Int)] w fun e w'=>e=.returned (bitsV m)∧Below w.heap.size w w':=by
 go_enter Tryz.func147,Tryz.ntmps147
 go_wp2_with fail
 go_loopw [0,5] (fun n i wr=>∃ k q:Nat,k≤8∧i=.int .i64 k∧n=.int .i64 (q:Int)∧q<256∧Hid (q=m / 2 ^ k)∧Blk wr (w.heap.size+1) 174 (arr m k)∧Below w.heap.size w wr∧w.heap.size+1<wr.heap.size∧Blk wr w.heap.size 174 (arr m 0)) (fun _ i _=>8-(intOf i).toNat)
 case atStart=>
  refine ⟨0,m,by omega,rfl,rfl,hm,Lib.hid (by simp),?_,((Below.refl _ _).alloc (Nat.le_refl _) _).alloc (by simp) _,by simp,?_⟩
  ·rw [arr_zero];have:=Blk.new (w.alloc (.cells #[.bool false,.bool false,.bool false,.bool false,.bool false,.bool false,.bool false,.bool false] 174)) 174 #[.bool false,.bool false,.bool false,.bool false,.bool false,.bool false,.bool false,.bool false];simpa using this
  ·rw [arr_zero];exact (Blk.new _ _ _).alloc _
 case round=>
  obtain ⟨k,q,hk,rfl,rfl,hq8,hq,hB,hbel,hsz,hR⟩:=hrel
  by_cases hlt:k<8
  ·have hset:=Lib.hid (arr_set m hlt)
   have hodd:=Lib.hid (odd_bit m k q hq.out)
   have hhalf:=Lib.hid (half m k q hq.out)
   have hc:=hB.cell k
   rw [arr_get m k hlt] at hc
   have hfz:=hB.frozen k
   go_wp2_with fail
   go_roundw
   case rel=>
    refine ⟨k+1,q / 2,by omega,by go_num,by go_num,by omega,Lib.hid hhalf.out,?_,hbel.setCell (by simp) _,by simpa using hsz,?_⟩
    ·have:=hB.set_ k (.bool (((q:Int) % 2)==1))
     rw [hodd.out,hset.out] at this
     rw [hodd.out];exact this
    ·exact hR.far (by simp) _
   case measure=>simp [intOf];omega
  ·obtain rfl:k=8:=by omega
   have cc:∀ j,j<8→wr.cell? ⟨w.heap.size+1,j,none⟩=some (.bool (tb m j)):=by
    intro j hj
    rw [hB.cell j,arr_get m 8 hj];simp [hj,tb]
   have rr:∀ j,j<8→wr.cell? ⟨w.heap.size,j,none⟩=some (.bool false):=by
    intro j hj
    rw [hR.cell j,arr_get m 0 hj];simp
   have c0:=cc 0 (by omega);have c1:=cc 1 (by omega);have c2:=cc 2 (by omega);have c3:=cc 3 (by omega);have c4:=cc 4 (by omega);have c5:=cc 5 (by omega);have c6:=cc 6 (by omega);have c7:=cc 7 (by omega)
   have r0:=rr 0 (by omega);have r1:=rr 1 (by omega);have r2:=rr 2 (by omega);have r3:=rr 3 (by omega);have r4:=rr 4 (by omega);have r5:=rr 5 (by omega);have r6:=rr 6 (by omega);have r7:=rr 7 (by omega)
   have f0:=hR.frozen 0;have f1:=hR.frozen 1;have f2:=hR.frozen 2;have f3:=hR.frozen 3;have f4:=hR.frozen 4;have f5:=hR.frozen 5;have f6:=hR.frozen 6;have f7:=hR.frozen 7
   clear cc rr
   go_wp2_with fail
   refine bodyPost_ret (v:=bitsV m) (by simp [results,Tryz.results147,go_sem,bitsV,r0,r1,r2,r3,r4,r5,r6,r7]) rfl ⟨rfl,?_⟩
   exact (((((((hbel.setCell (by simp) _).setCell (by simp) _).setCell (by simp) _).setCell (by simp) _).setCell (by simp) _).setCell (by simp) _).setCell (by simp) _).setCell (by simp) _
def arr8 (b:Nat→Bool):Array Value:=#[.bool (b 0),.bool (b 1),.bool (b 2),.bool (b 3),.bool (b 4),.bool (b 5),.bool (b 6),.bool (b 7)]
theorem arr8_get (b:Nat→Bool) {k:Nat} (hk:k<8):(arr8 b)[k]?=some (.bool (b k)):=by
 match k,hk with
 | 0,_ | 1,_ | 2,_ | 3,_ | 4,_ | 5,_ | 6,_ | 7,_=>rfl
theorem numUp_bd (b:Nat→Bool):∀ i,i≤8→numUp b i<2 ^ i:=by
 intro i
 induction i with
 | zero=>intro _;simp [numUp]
 | succ i ih=>
  intro h
  have:=ih (by omega)
  have e:2 ^ (i+1)=2*2 ^ i:=by rw [Nat.pow_succ];omega
  simp only [numUp]
  split<;>omega
theorem rnum_any (b:Nat→Bool) (w:World) :
  Calls Tryz.prog 149 #[.agg (arr8 b)] w fun e w'=>e=.returned (.int .i64 (numB b:Nat))∧Below w.heap.size w w':=by
 have hB:∀ k,k<8→(w.alloc (.cells (arr8 b) 174)).cell? ⟨w.heap.size,k,none⟩=some (.bool (b k)):=by
  intro k hk
  rw [(Blk.new w 174 (arr8 b)).cell k,arr8_get b hk]
 have hsz:(arr8 b).size=8:=rfl
 go_enter Tryz.func149,Tryz.ntmps149
 go_wp2_with fail
 go_loop [3,4] (fun n i=>∃ k q:Nat,k≤8∧i=.int .i64 (7-(k:Int))∧n=.int .i64 (q:Int)∧q<256∧Hid (q=numUp b k)) (fun _ i=>(intOf i+1).toNat)
 case atStart=>exact ⟨0,0,by omega,by simp,rfl,by omega,Lib.hid rfl⟩
 case round=>
  obtain ⟨k,q,hk,rfl,rfl,hq8,hq⟩:=hrel
  by_cases hlt:k<8
  ·have hbd:=numUp_bd b (k+1) hlt
   have hbd0:=numUp_bd b k hk
   have hpw:2 ^ (k+1)≤2 ^ 8:=Nat.pow_le_pow_right (by omega) (by omega)
   have hpw0:2 ^ k≤2 ^ 7:=Nat.pow_le_pow_right (by omega) (by omega)
   have hq7:q<128:=by rw [hq.out];omega
   clear hbd hbd0 hpw hpw0
   have hcell:=hB (7-k) (by omega)
   have hix:(7-(k:Int)).toNat=7-k:=by omega
   clear hB
   cases hb:b (7-k) with
   | true=>
    have hst:Hid (2*q+1=numUp b (k+1)):=Lib.hid (by simp only [numUp,hb];rw [← hq.out];simp)
    rw [hb] at hcell
    have hb':=Lib.hid hb
    clear hb
    go_wp2_with fail
    go_round
    case rel=>exact ⟨k+1,2*q+1,by omega,by go_num,by go_num,by omega,hst⟩
    case measure=>simp [intOf];omega
   | false=>
    have hst:Hid (2*q=numUp b (k+1)):=Lib.hid (by simp only [numUp,hb];rw [← hq.out];simp)
    rw [hb] at hcell
    have hb':=Lib.hid hb
    clear hb
    go_wp2_with fail
    go_round
    case rel=>exact ⟨k+1,2*q,by omega,by go_num,by go_num,by omega,hst⟩
    case measure=>simp [intOf];omega
  ·obtain rfl:k=8:=by omega
   go_wp2_with fail
   go_ret
   exact ⟨ret_int (by rw [hq.out];rfl),(Below.refl _ _).alloc (Nat.le_refl _) _⟩
theorem bits_at0 (m:Nat) (w:World):(Instr.index 174 (bitsV m) (.int .i64 ((0:Nat):Int))).run Tryz.prog w=.ok (.bool (tb m 0)) w:=by kernel_rfl
theorem bits_at1 (m:Nat) (w:World):(Instr.index 174 (bitsV m) (.int .i64 ((1:Nat):Int))).run Tryz.prog w=.ok (.bool (tb m 1)) w:=by kernel_rfl
theorem bits_at2 (m:Nat) (w:World):(Instr.index 174 (bitsV m) (.int .i64 ((2:Nat):Int))).run Tryz.prog w=.ok (.bool (tb m 2)) w:=by kernel_rfl
theorem bits_at3 (m:Nat) (w:World):(Instr.index 174 (bitsV m) (.int .i64 ((3:Nat):Int))).run Tryz.prog w=.ok (.bool (tb m 3)) w:=by kernel_rfl
theorem bits_at4 (m:Nat) (w:World):(Instr.index 174 (bitsV m) (.int .i64 ((4:Nat):Int))).run Tryz.prog w=.ok (.bool (tb m 4)) w:=by kernel_rfl
theorem bits_at5 (m:Nat) (w:World):(Instr.index 174 (bitsV m) (.int .i64 ((5:Nat):Int))).run Tryz.prog w=.ok (.bool (tb m 5)) w:=by kernel_rfl
theorem bits_at6 (m:Nat) (w:World):(Instr.index 174 (bitsV m) (.int .i64 ((6:Nat):Int))).run Tryz.prog w=.ok (.bool (tb m 6)) w:=by kernel_rfl
theorem bits_at7 (m:Nat) (w:World):(Instr.index 174 (bitsV m) (.int .i64 ((7:Nat):Int))).run Tryz.prog w=.ok (.bool (tb m 7)) w:=by kernel_rfl
theorem bits_at (m:Nat) {k:Nat} (hk:k<8) (w:World):(Instr.index 174 (bitsV m) (.int .i64 (k:Int))).run Tryz.prog w=.ok (.bool (tb m k)) w:=by
 have h:k=0∨k=1∨k=2∨k=3∨k=4∨k=5∨k=6∨k=7:=by omega
 rcases h with rfl | rfl | rfl | rfl | rfl | rfl | rfl | rfl
 ·exact bits_at0 m w
 ·exact bits_at1 m w
 ·exact bits_at2 m w
 ·exact bits_at3 m w
 ·exact bits_at4 m w
 ·exact bits_at5 m w
 ·exact bits_at6 m w
 ·exact bits_at7 m w
theorem rlist_any (m:Nat) (hm:m<256) (w:World) :
  Calls Tryz.prog 120 #[.int .i64 (m:Int)] w fun e w'=>∃ v,e=.returned v∧w'.ownsRow w.heap.size 3 1 v (listS (m:Int)).length (ints (listS (m:Int)))∧Below w.heap.size w w':=by
 obtain ⟨i0,hi,hz0,hz1,hz2⟩:=info_parts infoInt
 go_enter Tryz.func120,Tryz.ntmps120
 go_wp2_with (go_at_call 147;refine (rbits_any m hm _).mono ?_;rintro e w1 ⟨rfl,hb1⟩)
 go_loopw [3,8] (fun v i wr=>∃ k:Nat,k≤8∧i=.int .i64 k∧wr.ownsRow w.heap.size 3 1 v (upS m k).length (ints (upS m k))∧Below w.heap.size w wr) (fun _ i _=>8-(intOf i).toNat)
 case atStart=>exact ⟨0,by omega,rfl,own_nil _ _ _ _,hb1⟩
 case round=>
  obtain ⟨k,hk,rfl,hown,hbel⟩:=hrel
  by_cases hlt:k<8
  ·have hix:=bits_at m hlt
   cases hh:hasB m k with
   | true=>
    have hup:=Lib.hid (upS_yes hlt hh)
    have hle:=upS_le m k
    have hsz:=hbel.size
    have ht:tb m k=true:=by
     have hk':(k:Int)<8:=by omega
     simpa [hasB,isPart,hk',tb] using hh
    have hh':=Lib.hid hh
    clear hh
    rw [ht] at hix
    have ht':=Lib.hid ht
    clear ht
    go_wp2_with (first
     | (at_builtin;refine wpList_append_own _ rfl _ _ 38 rfl w.heap.size 3 i0 (.int .i64 0) 1 8 Tryz.underlying38 hi hz0 hz1 hz2 rfl (by decide) _ _ _ rfl (hown.alloc _) ⟨wr.heap.size,0,none⟩ 1 1 [.int .i64 (k:Int)] rfl rfl ?c1 ?c2 ?c3 ?c4 ?c5 ?_;rotate_left 5;intro v' w1 hown' hgrow _))
    case c1=>exact cell_one_new _ _ _
    case c2=>intro u hu;simp at hu;subst hu;rfl
    case c3=>unfold maxLen;omega
    case c4=>omega
    case c5=>simp;omega
    go_roundw
    case rel=>
     refine ⟨k+1,by omega,by go_num,?_,?_⟩
     ·rw [hup.out,List.length_append,← ints_snoc];exact hown'
     ·exact (hbel.alloc hsz _).grown hgrow (by simp;omega) (own_block hown)
    case measure=>simp [intOf];omega
   | false=>
    have hup:=Lib.hid (upS_no hlt hh)
    have ht:tb m k=false:=by
     have hk':(k:Int)<8:=by omega
     simpa [hasB,isPart,hk',tb] using hh
    have hh':=Lib.hid hh
    clear hh
    rw [ht] at hix
    have ht':=Lib.hid ht
    clear ht
    go_wp2_with fail
    go_roundw
    case rel=>exact ⟨k+1,by omega,by go_num,by rw [hup.out];exact hown,hbel⟩
    case measure=>simp [intOf];omega
  ·obtain rfl:k=8:=by omega
   go_wp2_with fail
   go_ret
   exact ⟨_,rfl,hown,hbel⟩
theorem rhas_any (s k:Int) (hs:isSet s=true) (w:World) :
  Calls Tryz.prog 116 #[.int .i64 s,.int .i64 k] w fun e w'=>e=.returned (.bool (hasB s k))∧Below w.heap.size w w':=by
 have hs':=isSet_iff.1 hs
 obtain ⟨m,rfl⟩:=nat_of hs'.1
 have hm:m<256:=by omega
 by_cases hk:isPart k=true
 ·have hk':=isPart_iff.1 hk
  obtain ⟨k,rfl⟩:=nat_of hk'.1
  have hk8:k<8:=by omega
  have hix:=bits_at m hk8
  have heq:Hid (hasB (m:Int) (k:Int)=tb m k):=Lib.hid (by simp [hasB,hk,tb])
  clear hs hk hs'
  go_enter Tryz.func116,Tryz.ntmps116
  go_wp2_with (go_at_call 147;refine (rbits_any m hm _).mono ?_;rintro e w1 ⟨rfl,hb1⟩)
  go_ret
  exact ⟨ret_bool heq.out.symm,hb1⟩
 ·have hf:Hid (hasB (m:Int) k=false):=Lib.hid (by simp at hk;simp [hasB,hk])
  have hk':k<0∨8≤k:=isPart_false.1 (by simpa using hk)
  clear hk hs
  rcases hk' with hk' | hk'
  ·go_enter Tryz.func116,Tryz.ntmps116
   go_wp2_with fail
   go_ret
   exact ⟨ret_bool hf.out.symm,Below.refl _ _⟩
  ·go_enter Tryz.func116,Tryz.ntmps116
   go_wp2_with fail
   go_ret
   exact ⟨ret_bool hf.out.symm,Below.refl _ _⟩
end Go.Proofs.YtefdblaolmckmabGreat
