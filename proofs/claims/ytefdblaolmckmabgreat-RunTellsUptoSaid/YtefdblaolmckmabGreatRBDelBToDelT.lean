/- Lemmas of the proof. -/
import Derived.Deep.RegionLaw
import Derived.Test.YtefdblaolmckmabGreatRBPosKToInsB
set_option linter.unusedVariables false
set_option linter.unusedSimpArgs false
set_option maxRecDepth 100000
set_option maxHeartbeats 12800000
namespace Go.Proofs.YtefdblaolmckmabGreat
open Go.RowKit Go.Lib
open Brood
theorem zeroDB (w:World):(zeroValue 24).run Tryz.prog w=.ok (.agg #[.int .i64 0,.int .i64 0]) w:=by kernel_rfl
theorem infoDB:(Tryz.prog.info? 24).map (fun i=>(i.zero,i.size,i.bytes))=some (some (.agg #[.int .i64 0,.int .i64 0]),2,16):=by kernel_rfl
theorem delB_any (n:Nat) (xs:List Value) (hone:∀ u∈xs,u.oneCell'=true) (k:Nat) (hk:k<n) (hlen:n≤1000000000) (v:Value) (base:Nat) (w:World) (hown:w.ownsRow base 24 2 v n xs) :
  Calls Tryz.prog 136 #[v,.int .i64 (k:Int),.int .i64 ((k:Int)+1)] w fun e w'=>∃ v',e=.returned v'∧w'.ownsRow base 24 2 v' (n-1) (xs.take (k*2)++xs.drop ((k+1)*2))∧w.grownBy w' v.ownBlock∧v'.ownBlock=v.ownBlock:=by
 obtain ⟨i0',hi0,hz0a,hz0b,hz0c⟩:=info_parts infoDB
 obtain ⟨g,c,rfl,_,_⟩:=hown.form (by omega)
 obtain ⟨cur,HB,hbg,hnc,hcm,hsize,htake⟩:=own_blk hown
 have hxl:xs.length=n*2:=by have:=hown.1;omega
 have hcx:c≤9223372036854775807:=by unfold maxLen at hcm;omega
 clear hown
 have hsz1:(.agg #[.int .i64 0,.int .i64 0]:Value).cells.size=2:=rfl
 -- what is moved
 have hdl:(xs.drop ((k+1)*2)).length=(n-(k+1))*2:=by
  have h0:(xs.drop ((k+1)*2)).length=xs.length-((k+1)*2):=List.length_drop
  omega
 obtain ⟨ad,hX,hnews⟩:∃ ad:Addr,(if c=k+1 then some ⟨g,0,none⟩ else some ⟨g,(k+1)*2,none⟩)=some ad∧∀ j u,(xs.drop ((k+1)*2))[j]?=some u→w.cell? (ad.add j)=some u:=by
  by_cases hc:c=k+1
  ·refine ⟨⟨g,0,none⟩,if_pos hc,?_⟩
   ·intro j u hu
    have:=(List.getElem?_eq_some_iff.1 hu).1
    rw [hdl] at this
    omega
  ·refine ⟨⟨g,(k+1)*2,none⟩,if_neg hc,?_⟩
   intro j u hu
   have hj:=(List.getElem?_eq_some_iff.1 hu).1
   rw [List.getElem?_drop,← htake,List.getElem?_take] at hu
   rw [add_mk,HB.cell]
   split at hu
   ·rw [Array.getElem?_toList] at hu;exact hu
   ·cases hu
 have hspare:∀ j,j<(xs.drop ((k+1)*2)).length→(w.cell? ⟨g,0+k*2+j,none⟩).isSome=true∧w.frozen? ⟨g,0+k*2+j,none⟩=false:=by
  intro j hj
  rw [hdl] at hj
  rw [HB.cell,Array.getElem?_eq_getElem (by omega)]
  exact ⟨rfl,HB.frozen _⟩
 obtain ⟨W1,hW1⟩:∃ W1,W1=w.drew.setCells g (k*2) (xs.drop ((k+1)*2)):=⟨_,rfl⟩
 have HB1:Blk W1 g 24 (patch cur (k*2) (xs.drop ((k+1)*2))):=by rw [hW1];exact Blk.sets _ _ HB.drew
 have hG1:w.grownBy W1 (some g):=by
  rw [hW1]
  have h:=grown_sets g (xs.drop ((k+1)*2)) w.drew (k*2)
  exact ⟨h.os,h.tape,h.output,h.size,h.block⟩
 have hzl:(Builtin.zeroCells (.agg #[.int .i64 0,.int .i64 0]:Value).cells 1).toList.length=1*2:=by rw [Array.length_toList,size_zeroCells];rfl
 have hcl:=fun ty=>run_clear_sz (P:=Tryz.prog) W1 58 24 ty _ 2 g ((n-1)*2) 1 (c-(n-1)) Tryz.underlying58 zeroDB rfl (zeroCells_one (by decide)) (by omega)
  (fun q hq=>by rw [HB1.cell,Array.getElem?_eq_getElem (by rw [patch_size];omega)];rfl) (fun q _=>HB1.frozen _)
 generalize (Builtin.zeroCells (.agg #[.int .i64 0,.int .i64 0]:Value).cells 1).toList=zs at hcl hzl
 have HB2:=Lib.hid (Blk.sets zs ((n-1)*2) HB1)
 have hG2:=Lib.hid (grown_grown hG1 (grown_sets g zs W1 ((n-1)*2)))
 have htk:(patch (patch cur (k*2) (xs.drop ((k+1)*2))) ((n-1)*2) zs).toList.take ((n-1)*2)=xs.take (k*2)++xs.drop ((k+1)*2):=by
  apply List.ext_getElem?
  intro q
  rw [List.getElem?_take]
  split
  ·rename_i hq
   rw [Array.getElem?_toList,patch_out _ _ _ _ (.inl hq)]
   rcases Nat.lt_or_ge q (k*2) with h | h
   ·rw [patch_out _ _ _ _ (.inl h),List.getElem?_append_left (by rw [List.length_take];omega),List.getElem?_take,if_pos h,← htake,List.getElem?_take,if_pos (by omega),Array.getElem?_toList]
   ·rw [List.getElem?_append_right (by rw [List.length_take];omega),List.length_take,hxl,Nat.min_eq_left (by omega)]
    obtain ⟨j,rfl⟩:∃ j,q=k*2+j:=⟨q-k*2,by omega⟩
    rw [patch_in _ _ _ _ (by rw [hdl];omega) (by rw [hdl];omega),Nat.add_sub_cancel_left]
  ·rename_i hq
   symm
   rw [List.getElem?_eq_none_iff,List.length_append,List.length_take,hdl]
   omega
 have htkh:=Lib.hid htk
 have hszh:=Lib.hid hsize
 have hclh:=Lib.hid hcl
 have hw1:IntKind.i64.wrap ((k:Int)+1)=(k:Int)+1:=by rw [IntKind.wrap_i64];omega
 have b1:(0:Int)≤(k:Int)+1:=by omega
 have b2:(k:Int)+1≤(n:Int):=by omega
 have b2c:(k:Int)+1≤(c:Int):=by omega
 have b3:(k:Int)≤(k:Int)+1:=by omega
 have b4:(n:Int)≤(c:Int):=by omega
 have b5:(k:Int)≤(c:Int):=by omega
 have b6:((k:Int)==(k:Int)+1)=false:=by simp;omega
 have b7:¬ ((k:Int)=(k:Int)+1):=by omega
 have btn:((k:Int)+1).toNat=k+1:=by omega
 have bnk:k+(n-(k+1))=n-1:=by omega
 have bc:¬ (c=n-1):=by omega
 have bm:((n-1:Nat):Int)≤(n:Int):=by omega
 have bmc:((n-1:Nat):Int)≤(c:Int):=by omega
 have bm0:(0:Int)≤((n-1:Nat):Int):=by omega
 have bn1:n-(n-1)=1:=by omega
 have bkc:¬ (c=k):=by omega
 have hspareh:=Lib.hid hspare;have hnewsh:=Lib.hid hnews
 have honeh:=Lib.hid (fun u hu=>hone u (List.mem_of_mem_drop (i:=(k+1)*2) hu))
 have hdlh:=Lib.hid hdl
 clear hspare hnews hcl htk hsize htake HB HB1 hxl hone hdl
 go_enter Tryz.func136,Tryz.ntmps136
 go_wp2_with fail
 rw [hW1] at hclh HB2 hG2
 go_region_law (refine step_append_room rfl _ _ 58 rfl 24 i0' 2 Tryz.underlying58 hi0 hz0b g 0 k c (by simp [Act.eval,Act.put]) ad (n-(k+1)) (c-(k+1)) (xs.drop ((k+1)*2)) (by simp [Act.eval,Act.put,hX]) (by have:=hdlh.out;omega) hnewsh.out honeh.out (by omega) hspareh.out ?_)
 go_wp2_with (simp only [hclh.out])
 go_ret
 exact ⟨_,rfl,own_of_blk HB2.out hbg (by omega) hcm (by rw [patch_size,patch_size];exact hszh.out) (by simpa using htkh.out),hG2.out,rfl⟩
open Go.RowKit Go.Lib
open Brood
theorem zeroDI (w:World):(zeroValue 3).run Tryz.prog w=.ok (.int .i64 0) w:=by kernel_rfl
theorem infoDI:(Tryz.prog.info? 3).map (fun i=>(i.zero,i.size,i.bytes))=some (some (.int .i64 0),1,8):=by kernel_rfl
theorem delI_any (n:Nat) (xs:List Value) (hone:∀ u∈xs,u.oneCell'=true) (k:Nat) (hk:k<n) (hlen:n≤1000000000) (v:Value) (base:Nat) (w:World) (hown:w.ownsRow base 3 1 v n xs) :
  Calls Tryz.prog 137 #[v,.int .i64 (k:Int),.int .i64 ((k:Int)+1)] w fun e w'=>∃ v',e=.returned v'∧w'.ownsRow base 3 1 v' (n-1) (xs.take (k)++xs.drop (k+1))∧w.grownBy w' v.ownBlock∧v'.ownBlock=v.ownBlock:=by
 obtain ⟨i0',hi0,hz0a,hz0b,hz0c⟩:=info_parts infoDI
 obtain ⟨g,c,rfl,_,_⟩:=hown.form (by omega)
 obtain ⟨cur,HB,hbg,hnc,hcm,hsize,htake⟩:=own_blk hown
 have hxl:xs.length=n:=by have:=hown.1;omega
 have hcx:c≤9223372036854775807:=by unfold maxLen at hcm;omega
 clear hown
 have hsz1:(.int .i64 0:Value).cells.size=1:=rfl
 -- what is moved
 have hdl:(xs.drop (k+1)).length=(n-(k+1)):=by
  have h0:(xs.drop (k+1)).length=xs.length-(k+1):=List.length_drop
  omega
 obtain ⟨ad,hX,hnews⟩:∃ ad:Addr,(if c=k+1 then some ⟨g,0,none⟩ else some ⟨g,k+1,none⟩)=some ad∧∀ j u,(xs.drop (k+1))[j]?=some u→w.cell? (ad.add j)=some u:=by
  by_cases hc:c=k+1
  ·refine ⟨⟨g,0,none⟩,if_pos hc,?_⟩
   ·intro j u hu
    have:=(List.getElem?_eq_some_iff.1 hu).1
    rw [hdl] at this
    omega
  ·refine ⟨⟨g,k+1,none⟩,if_neg hc,?_⟩
   intro j u hu
   have hj:=(List.getElem?_eq_some_iff.1 hu).1
   rw [List.getElem?_drop,← htake,List.getElem?_take] at hu
   rw [add_mk,HB.cell]
   split at hu
   ·rw [Array.getElem?_toList] at hu;exact hu
   ·cases hu
 have hspare:∀ j,j<(xs.drop (k+1)).length→(w.cell? ⟨g,0+k*1+j,none⟩).isSome=true∧w.frozen? ⟨g,0+k*1+j,none⟩=false:=by
  intro j hj
  rw [hdl] at hj
  rw [HB.cell,Array.getElem?_eq_getElem (by omega)]
  exact ⟨rfl,HB.frozen _⟩
 obtain ⟨W1,hW1⟩:∃ W1,W1=w.drew.setCells g (k) (xs.drop (k+1)):=⟨_,rfl⟩
 have HB1:Blk W1 g 3 (patch cur (k) (xs.drop (k+1))):=by rw [hW1];exact Blk.sets _ _ HB.drew
 have hG1:w.grownBy W1 (some g):=by
  rw [hW1]
  have h:=grown_sets g (xs.drop (k+1)) w.drew (k)
  exact ⟨h.os,h.tape,h.output,h.size,h.block⟩
 have hzl:(Builtin.zeroCells (.int .i64 0:Value).cells 1).toList.length=1*1:=by rw [Array.length_toList,size_zeroCells];rfl
 have hcl:=fun ty=>run_clear_sz (P:=Tryz.prog) W1 38 3 ty _ 1 g (n-1) 1 (c-(n-1)) Tryz.underlying38 zeroDI rfl (zeroCells_one (by decide)) (by omega)
  (fun q hq=>by rw [HB1.cell,Array.getElem?_eq_getElem (by rw [patch_size];omega)];rfl) (fun q _=>HB1.frozen _)
 generalize (Builtin.zeroCells (.int .i64 0:Value).cells 1).toList=zs at hcl hzl
 have HB2:=Lib.hid (Blk.sets zs (n-1) HB1)
 have hG2:=Lib.hid (grown_grown hG1 (grown_sets g zs W1 (n-1)))
 have htk:(patch (patch cur (k) (xs.drop (k+1))) (n-1) zs).toList.take (n-1)=xs.take (k)++xs.drop (k+1):=by
  apply List.ext_getElem?
  intro q
  rw [List.getElem?_take]
  split
  ·rename_i hq
   rw [Array.getElem?_toList,patch_out _ _ _ _ (.inl hq)]
   rcases Nat.lt_or_ge q (k) with h | h
   ·rw [patch_out _ _ _ _ (.inl h),List.getElem?_append_left (by rw [List.length_take];omega),List.getElem?_take,if_pos h,← htake,List.getElem?_take,if_pos (by omega),Array.getElem?_toList]
   ·rw [List.getElem?_append_right (by rw [List.length_take];omega),List.length_take,hxl,Nat.min_eq_left (by omega)]
    obtain ⟨j,rfl⟩:∃ j,q=k+j:=⟨q-k,by omega⟩
    rw [patch_in _ _ _ _ (by rw [hdl];omega) (by rw [hdl];omega),Nat.add_sub_cancel_left]
  ·rename_i hq
   symm
   rw [List.getElem?_eq_none_iff,List.length_append,List.length_take,hdl]
   omega
 have htkh:=Lib.hid htk
 have hszh:=Lib.hid hsize
 have hclh:=Lib.hid hcl
 have hw1:IntKind.i64.wrap ((k:Int)+1)=(k:Int)+1:=by rw [IntKind.wrap_i64];omega
 have b1:(0:Int)≤(k:Int)+1:=by omega
 have b2:(k:Int)+1≤(n:Int):=by omega
 have b2c:(k:Int)+1≤(c:Int):=by omega
 have b3:(k:Int)≤(k:Int)+1:=by omega
 have b4:(n:Int)≤(c:Int):=by omega
 have b5:(k:Int)≤(c:Int):=by omega
 have b6:((k:Int)==(k:Int)+1)=false:=by simp;omega
 have b7:¬ ((k:Int)=(k:Int)+1):=by omega
 have btn:((k:Int)+1).toNat=k+1:=by omega
 have bnk:k+(n-(k+1))=n-1:=by omega
 have bc:¬ (c=n-1):=by omega
 have bm:((n-1:Nat):Int)≤(n:Int):=by omega
 have bmc:((n-1:Nat):Int)≤(c:Int):=by omega
 have bm0:(0:Int)≤((n-1:Nat):Int):=by omega
 have bn1:n-(n-1)=1:=by omega
 have bkc:¬ (c=k):=by omega
 have hspareh:=Lib.hid hspare;have hnewsh:=Lib.hid hnews
 have honeh:=Lib.hid (fun u hu=>hone u (List.mem_of_mem_drop (i:=k+1) hu))
 have hdlh:=Lib.hid hdl
 clear hspare hnews hcl htk hsize htake HB HB1 hxl hone hdl
 go_enter Tryz.func137,Tryz.ntmps137
 go_wp2_with fail
 rw [hW1] at hclh HB2 hG2
 go_region_law (refine step_append_room rfl _ _ 38 rfl 3 i0' 1 Tryz.underlying38 hi0 hz0b g 0 k c (by simp [Act.eval,Act.put]) ad (n-(k+1)) (c-(k+1)) (xs.drop (k+1)) (by simp [Act.eval,Act.put,hX]) (by have:=hdlh.out;omega) hnewsh.out honeh.out (by omega) hspareh.out ?_)
 go_wp2_with (simp only [hclh.out])
 go_ret
 exact ⟨_,rfl,own_of_blk HB2.out hbg (by omega) hcm (by rw [patch_size,patch_size];exact hszh.out) (by simpa using htkh.out),hG2.out,rfl⟩
open Go.RowKit Go.Lib
open Brood
theorem zeroDT (w:World):(zeroValue 100).run Tryz.prog w=.ok (.agg #[.int .i64 0,.slice none 0 0,.slice none 0 0]) w:=by kernel_rfl
theorem infoDT:(Tryz.prog.info? 100).map (fun i=>(i.zero,i.size,i.bytes))=some (some (.agg #[.int .i64 0,.slice none 0 0,.slice none 0 0]),3,56):=by kernel_rfl
theorem delT_any (n:Nat) (xs:List Value) (hone:∀ u∈xs,u.oneCell'=true) (k:Nat) (hk:k<n) (hlen:n≤1000000000) (v:Value) (base:Nat) (w:World) (hown:w.ownsRow base 100 3 v n xs) :
  Calls Tryz.prog 138 #[v,.int .i64 (k:Int),.int .i64 ((k:Int)+1)] w fun e w'=>∃ v',e=.returned v'∧w'.ownsRow base 100 3 v' (n-1) (xs.take (k*3)++xs.drop ((k+1)*3))∧w.grownBy w' v.ownBlock∧v'.ownBlock=v.ownBlock:=by
 obtain ⟨i0',hi0,hz0a,hz0b,hz0c⟩:=info_parts infoDT
 obtain ⟨g,c,rfl,_,_⟩:=hown.form (by omega)
 obtain ⟨cur,HB,hbg,hnc,hcm,hsize,htake⟩:=own_blk hown
 have hxl:xs.length=n*3:=by have:=hown.1;omega
 have hcx:c≤9223372036854775807:=by unfold maxLen at hcm;omega
 clear hown
 have hsz1:(.agg #[.int .i64 0,.slice none 0 0,.slice none 0 0]:Value).cells.size=3:=rfl
 -- what is moved
 have hdl:(xs.drop ((k+1)*3)).length=(n-(k+1))*3:=by
  have h0:(xs.drop ((k+1)*3)).length=xs.length-((k+1)*3):=List.length_drop
  omega
 obtain ⟨ad,hX,hnews⟩:∃ ad:Addr,(if c=k+1 then some ⟨g,0,none⟩ else some ⟨g,(k+1)*3,none⟩)=some ad∧∀ j u,(xs.drop ((k+1)*3))[j]?=some u→w.cell? (ad.add j)=some u:=by
  by_cases hc:c=k+1
  ·refine ⟨⟨g,0,none⟩,if_pos hc,?_⟩
   ·intro j u hu
    have:=(List.getElem?_eq_some_iff.1 hu).1
    rw [hdl] at this
    omega
  ·refine ⟨⟨g,(k+1)*3,none⟩,if_neg hc,?_⟩
   intro j u hu
   have hj:=(List.getElem?_eq_some_iff.1 hu).1
   rw [List.getElem?_drop,← htake,List.getElem?_take] at hu
   rw [add_mk,HB.cell]
   split at hu
   ·rw [Array.getElem?_toList] at hu;exact hu
   ·cases hu
 have hspare:∀ j,j<(xs.drop ((k+1)*3)).length→(w.cell? ⟨g,0+k*3+j,none⟩).isSome=true∧w.frozen? ⟨g,0+k*3+j,none⟩=false:=by
  intro j hj
  rw [hdl] at hj
  rw [HB.cell,Array.getElem?_eq_getElem (by omega)]
  exact ⟨rfl,HB.frozen _⟩
 obtain ⟨W1,hW1⟩:∃ W1,W1=w.drew.setCells g (k*3) (xs.drop ((k+1)*3)):=⟨_,rfl⟩
 have HB1:Blk W1 g 100 (patch cur (k*3) (xs.drop ((k+1)*3))):=by rw [hW1];exact Blk.sets _ _ HB.drew
 have hG1:w.grownBy W1 (some g):=by
  rw [hW1]
  have h:=grown_sets g (xs.drop ((k+1)*3)) w.drew (k*3)
  exact ⟨h.os,h.tape,h.output,h.size,h.block⟩
 have hzl:(Builtin.zeroCells (.agg #[.int .i64 0,.slice none 0 0,.slice none 0 0]:Value).cells 1).toList.length=1*3:=by rw [Array.length_toList,size_zeroCells];rfl
 have hcl:=fun ty=>run_clear_sz (P:=Tryz.prog) W1 37 100 ty _ 3 g ((n-1)*3) 1 (c-(n-1)) Tryz.underlying37 zeroDT rfl (zeroCells_one (by decide)) (by omega)
  (fun q hq=>by rw [HB1.cell,Array.getElem?_eq_getElem (by rw [patch_size];omega)];rfl) (fun q _=>HB1.frozen _)
 generalize (Builtin.zeroCells (.agg #[.int .i64 0,.slice none 0 0,.slice none 0 0]:Value).cells 1).toList=zs at hcl hzl
 have HB2:=Lib.hid (Blk.sets zs ((n-1)*3) HB1)
 have hG2:=Lib.hid (grown_grown hG1 (grown_sets g zs W1 ((n-1)*3)))
 have htk:(patch (patch cur (k*3) (xs.drop ((k+1)*3))) ((n-1)*3) zs).toList.take ((n-1)*3)=xs.take (k*3)++xs.drop ((k+1)*3):=by
  apply List.ext_getElem?
  intro q
  rw [List.getElem?_take]
  split
  ·rename_i hq
   rw [Array.getElem?_toList,patch_out _ _ _ _ (.inl hq)]
   rcases Nat.lt_or_ge q (k*3) with h | h
   ·rw [patch_out _ _ _ _ (.inl h),List.getElem?_append_left (by rw [List.length_take];omega),List.getElem?_take,if_pos h,← htake,List.getElem?_take,if_pos (by omega),Array.getElem?_toList]
   ·rw [List.getElem?_append_right (by rw [List.length_take];omega),List.length_take,hxl,Nat.min_eq_left (by omega)]
    obtain ⟨j,rfl⟩:∃ j,q=k*3+j:=⟨q-k*3,by omega⟩
    rw [patch_in _ _ _ _ (by rw [hdl];omega) (by rw [hdl];omega),Nat.add_sub_cancel_left]
  ·rename_i hq
   symm
   rw [List.getElem?_eq_none_iff,List.length_append,List.length_take,hdl]
   omega
 have htkh:=Lib.hid htk
 have hszh:=Lib.hid hsize
 have hclh:=Lib.hid hcl
 have hw1:IntKind.i64.wrap ((k:Int)+1)=(k:Int)+1:=by rw [IntKind.wrap_i64];omega
 have b1:(0:Int)≤(k:Int)+1:=by omega
 have b2:(k:Int)+1≤(n:Int):=by omega
 have b2c:(k:Int)+1≤(c:Int):=by omega
 have b3:(k:Int)≤(k:Int)+1:=by omega
 have b4:(n:Int)≤(c:Int):=by omega
 have b5:(k:Int)≤(c:Int):=by omega
 have b6:((k:Int)==(k:Int)+1)=false:=by simp;omega
 have b7:¬ ((k:Int)=(k:Int)+1):=by omega
 have btn:((k:Int)+1).toNat=k+1:=by omega
 have bnk:k+(n-(k+1))=n-1:=by omega
 have bc:¬ (c=n-1):=by omega
 have bm:((n-1:Nat):Int)≤(n:Int):=by omega
 have bmc:((n-1:Nat):Int)≤(c:Int):=by omega
 have bm0:(0:Int)≤((n-1:Nat):Int):=by omega
 have bn1:n-(n-1)=1:=by omega
 have bkc:¬ (c=k):=by omega
 have hspareh:=Lib.hid hspare;have hnewsh:=Lib.hid hnews
 have honeh:=Lib.hid (fun u hu=>hone u (List.mem_of_mem_drop (i:=(k+1)*3) hu))
 have hdlh:=Lib.hid hdl
 clear hspare hnews hcl htk hsize htake HB HB1 hxl hone hdl
 go_enter Tryz.func138,Tryz.ntmps138
 go_wp2_with fail
 rw [hW1] at hclh HB2 hG2
 go_region_law (refine step_append_room rfl _ _ 37 rfl 100 i0' 3 Tryz.underlying37 hi0 hz0b g 0 k c (by simp [Act.eval,Act.put]) ad (n-(k+1)) (c-(k+1)) (xs.drop ((k+1)*3)) (by simp [Act.eval,Act.put,hX]) (by have:=hdlh.out;omega) hnewsh.out honeh.out (by omega) hspareh.out ?_)
 go_wp2_with (simp only [hclh.out])
 go_ret
 exact ⟨_,rfl,own_of_blk HB2.out hbg (by omega) hcm (by rw [patch_size,patch_size];exact hszh.out) (by simpa using htkh.out),hG2.out,rfl⟩
end Go.Proofs.YtefdblaolmckmabGreat
