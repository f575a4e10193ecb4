/- Lemmas of the proof. -/
import Derived.Deep.RegionLaw
import Derived.Test.YtefdblaolmckmabGreatRBPosKToInsB
import Derived.Test.YtefdblaolmckmabGreatRBStoBToKg
set_option linter.unusedVariables false
set_option linter.unusedSimpArgs false
set_option maxRecDepth 100000
set_option maxHeartbeats 12800000
namespace Go.Proofs.YtefdblaolmckmabGreat
open Go.RowKit Go.Lib
open Brood
theorem infoI:(Tryz.prog.info? 3).map (fun i=>(i.zero,i.size,i.bytes))=some (some (.int .i64 0),1,8):=by kernel_rfl
theorem insI_end (n:Nat) (xs rs:List Value) (hr1:∀ u∈rs,u.oneCell'=true) (hrl:rs.length=1) (hlen:n≤1000000000) (v:Value) (base vb:Nat) (w:World) (hb:base≤w.heap.size)
  (hown:w.ownsRow base 3 1 v n xs) (hv:Blk w vb 3 rs.toArray) :
  Calls Tryz.prog 92 #[v,.int .i64 (n:Int),.slice (some ⟨vb,0,none⟩) 1 1] w fun e w'=>∃ v',e=.returned v'∧w'.ownsRow base 3 1 v' (n+1) (xs++rs)∧w.grownBy w' v.ownBlock∧∀ q,v'.ownBlock=some q→v.ownBlock=some q∨w.heap.size≤q:=by
 obtain ⟨i0',hi0,hz0a,hz0b,hz0c⟩:=info_parts infoI
 obtain ⟨A,c,rfl,hnc,hcm⟩:=own_shape hown
 have hcx:c≤9223372036854775807:=by unfold maxLen at hcm;omega
 have hcells:∀ j u,rs[j]?=some u→w.cell? ((⟨vb,0,none⟩:Addr).add j)=some u:=by
  intro j u hu
  rw [add_mk,Nat.zero_add,hv.cell]
  simpa using hu
 go_enter Tryz.func92,Tryz.ntmps92
 go_wp2_with (at_builtin;refine wpList_append_own_at _ rfl _ _ 38 rfl base 3 i0' (.int .i64 0) 1 8 Tryz.underlying38 hi0 hz0a hz0b hz0c rfl (by decide) _ _ _ rfl hown ⟨vb,0,none⟩ 1 1 rs rfl (by rw [hrl]) hcells hr1 ?c3 ?c4 ?c5 ?_;rotate_left 3;intro v' w1 hown' hgrow _ hat)
 case c3=>unfold maxLen;omega
 case c4=>omega
 case c5=>exact hb
 all_goals
  obtain ⟨A2,c2,rfl,_,_⟩:=own_shape hown'
  go_ret
  refine ⟨_,rfl,hown',?_,?_⟩
  ·cases A<;>exact hgrow
  ·intro q hq
   replace hq:(Value.slice A2 (n+1) c2).ownBlock=some q:=hq
   rcases hat with e | e
   ·left
    cases A<;>exact e.symm.trans hq
   ·right
    have e2:=hq.symm.trans e
    injection e2 with e2
    omega
theorem insI_room (n:Nat) (xs rs:List Value) (hone:∀ u∈xs,u.oneCell'=true) (hr1:∀ u∈rs,u.oneCell'=true) (hrl:rs.length=1) (k:Nat) (hk:k<n) (hlen:n≤1000000000) (g c:Nat) (hroom:n+1≤c) (base vb:Nat) (w:World) (hne:g≠vb)
  (hown:w.ownsRow base 3 1 (.slice (some ⟨g,0,none⟩) n c) n xs) (hv:Blk w vb 3 rs.toArray) :
  Calls Tryz.prog 92 #[.slice (some ⟨g,0,none⟩) n c,.int .i64 (k:Int),.slice (some ⟨vb,0,none⟩) 1 1] w fun e w'=>∃ v',e=.returned v'∧w'.ownsRow base 3 1 v' (n+1) (xs.take (k)++rs++xs.drop (k))∧w.grownBy w' (some g)∧∀ q,v'.ownBlock=some q→some g=some q∨w.heap.size≤q:=by
 obtain ⟨i0',hi0,hz0a,hz0b,hz0c⟩:=info_parts infoI
 have hsz:(Tryz.prog.info? 3).map (·.size)=some 1:=by rw [hi0];simp [hz0b]
 have hzs:∀ w,(Go.sizeOf 3).run Tryz.prog w=.ok 1 w:=fun w=>by kernel_rfl
 have hxl:xs.length=n:=by have:=hown.1;omega
 obtain ⟨_,h | ⟨g',cap',cur,hve,hbg,hblk,hnc,hcm,hsize,htake⟩⟩:=hown
 ·obtain ⟨h,_⟩:=h;cases h
 injection hve with hv1 hv2 hv3
 injection hv1 with hv1
 injection hv1 with hv1
 subst hv1 hv3
 have hcx:c≤9223372036854775807:=by unfold maxLen at hcm;omega
 have HB:Blk w g 3 cur:=hblk
 replace hsize:cur.size=c:=by omega
 have htj:∀ j,j<n→cur[j]?=xs[j]?:=by
  intro j hj
  rw [← htake,List.getElem?_take,if_pos (by omega),Array.getElem?_toList]
 have hcs:∀ j,j<c→(w.cell? ⟨g,j,none⟩).isSome=true:=fun j hj=>by rw [HB.cell,Array.getElem?_eq_getElem (by omega)];rfl
 have hfz:∀ j,w.frozen? ⟨g,j,none⟩=false:=HB.frozen
 have hv0:w.shape? vb=some (3,1):=by
  have:=hv;unfold Blk at this
  simp [World.shape?,this,hrl]
 have hv2:w.shape? g=some (3,c):=by
  simp [World.shape?,hblk,hsize]
 have hov:∀ lb cb,(callFunc 133 #[.slice (some ⟨vb,0,none⟩) 1 1,.slice (some ⟨g,k+1,none⟩) lb cb]).run Tryz.prog w=.ok (.value (.bool false)) w:=fun lb cb=>by
  rw [run_callFunc_extern Tryz.func133 (by kernel_rfl) (by kernel_rfl) (by kernel_rfl) (e:=Extern.SlicesOverlaps.overlaps #[38,38] #[4]) (by kernel_rfl),
   Lib.run_overlaps_apart w 38 4 3 Tryz.underlying38 1 hzs ⟨vb,0,none⟩ ⟨g,k+1,none⟩ 1 1 lb cb (fun e=>hne e.symm) 3 3 1 (c) hv0 hv2 (by omega) (hv.frozen 0) (hv.frozen 1)]
  rfl
 have hdl:(xs.drop (k)).length=n-k:=by rw [List.length_drop,hxl]
 have hcp1:∀ ty dc sc,(Builtin.copy_ #[38,38] ty #[.slice (some ⟨g,k+1,none⟩) (n-k) dc,.slice (some ⟨g,k,none⟩) (n+1-k) sc]).run Tryz.prog w.drew=.ok (goInt ((n-k:Nat):Int)) (w.drew.setCells g (k+1) (xs.drop (k))):=fun ty dc sc=>by
  have e:Nat.min (n+1-k) (n-k)=n-k:=by simp only [Nat.min_def];split<;>omega
  have h:=run_copy_sz w.drew 38 38 ty 3 g (k+1) (n-k) dc ⟨g,k,none⟩ (n+1-k) sc 1 (xs.drop (k)) Tryz.underlying38 hsz (by rw [hdl,e];try omega)
   (fun j v hj=>by
    rw [add_mk]
    have h1:(w.drew).cell? ⟨g,k+j,none⟩=cur[k+j]?:=HB.cell _
    have h2:=(List.getElem?_eq_some_iff.1 hj).1
    rw [h1,htj _ (by rw [hdl] at h2;omega)]
    rwa [List.getElem?_drop] at hj)
   (fun j hj=>hcs _ (by rw [hdl] at hj;omega)) (fun j hj=>hfz _) (fun v hv=>hone v (List.mem_of_mem_drop hv))
  rwa [e] at h
 have HB1:Blk (w.drew.setCells g (k+1) (xs.drop (k))) g 3 (patch cur (k+1) (xs.drop (k))):=Blk.sets _ _ HB.drew
 have hg1:w.grownBy (w.drew.setCells g (k+1) (xs.drop (k))) (some g):=by
  have h:=grown_sets g (xs.drop (k)) w.drew (k+1)
  exact ⟨h.os,h.tape,h.output,h.size,h.block⟩
 have hv1:Blk (w.drew.setCells g (k+1) (xs.drop (k))) vb 3 rs.toArray:=Blk.grown hv hg1 (by simpa using (fun e=>hne e.symm))
 obtain ⟨W1,hW1⟩:∃ W1,Hid (W1=w.drew.setCells g (k+1) (xs.drop (k))):=⟨_,Lib.hid rfl⟩
 rw [← hW1.out] at hcp1 HB1 hg1 hv1
 have hcp2:∀ ty dc,(Builtin.copy_ #[38,38] ty #[.slice (some ⟨g,k,none⟩) (n+1-k) dc,.slice (some ⟨vb,0,none⟩) 1 1]).run Tryz.prog W1=.ok (goInt 1) (W1.setCells g (k) rs):=fun ty dc=>by
  have e:Nat.min 1 (n+1-k)=1:=by simp only [Nat.min_def];split<;>omega
  have h:=run_copy_sz W1 38 38 ty 3 g (k) (n+1-k) dc ⟨vb,0,none⟩ 1 1 1 rs Tryz.underlying38 hsz (by rw [hrl,e])
   (fun j u hu=>by rw [add_mk,Nat.zero_add,hv1.cell];simpa using hu)
   (fun j hj=>by rw [HB1.cell,Array.getElem?_eq_getElem (by rw [patch_size];rw [hrl] at hj;omega)];rfl) (fun j hj=>HB1.frozen _) hr1
  rwa [e] at h
 have hw1:IntKind.i64.wrap ((k:Int)+1)=(k:Int)+1:=by rw [IntKind.wrap_i64];omega
 have hb1:(0:Int)≤(k:Int)+1:=by omega
 have hin:k≤n:=by omega
 have htn:((k:Int)+1).toNat=k+1:=by omega
 have hb2:¬ (c=k+1):=by omega
 have hb3:(k:Int)≤(n:Int)+1:=by omega
 have hb4:¬ (c=k):=by omega
 have hz2:¬ ((k:Int)=(n:Int)):=by omega
 have hovh:=Lib.hid hov
 go_enter Tryz.func92,Tryz.ntmps92
 go_wp2_with (simp only [hov])
 go_region_law (refine step_copy_eq rfl _ _ 38 38 rfl _ _ (by simp [Act.eval,Act.put]) (by simp [Act.eval,Act.put]) (hcp1 _ _ _) ?_)
 go_wp2_with (at_builtin;refine wpList_copy_eq _ rfl _ _ 38 38 rfl _ _ rfl rfl (hcp2 _ _) ?_)
 go_ret
 have hg2:=grown_sets g rs W1 (k)
 refine ⟨_,rfl,⟨by simp only [List.length_append,List.length_take,List.length_drop,hrl,hxl];omega,.inr ⟨g,c,_,rfl,hbg,HB1.sets rs (k),by omega,hcm,by rw [patch_size,patch_size,hsize];try omega,?_⟩⟩,
  ⟨hg2.os.trans hg1.os,hg2.tape.trans hg1.tape,hg2.output.trans hg1.output,Nat.le_trans hg1.size hg2.size,fun i h1 h2=>(hg2.block i (Nat.lt_of_lt_of_le h1 hg1.size) h2).trans (hg1.block i h1 h2)⟩,fun q hq=>.inl hq⟩
 refine ins_cells (xs:=xs) (rs:=rs) (p:=k) (q:=1) (by omega) hrl (by omega) rfl (by rw [patch_size,patch_size];omega) ?_ ?_ ?_
 ·intro j hj
  rw [patch_out _ _ _ _ (.inl hj),patch_out _ _ _ _ (.inl (by omega)),htj j (by omega)]
 ·intro j hj
  exact patch_in _ _ _ _ (by rw [hrl];exact hj) (by rw [hrl,patch_size];omega)
 ·intro j hj
  rw [patch_out _ _ _ _ (.inr (by rw [hrl];omega)),show k+1+j=k+1+j by omega,patch_in _ _ _ _ (by rw [hdl];omega) (by rw [hdl];omega),List.getElem?_drop]
theorem insI_grow (n:Nat) (xs rs:List Value) (hone:∀ u∈xs,u.oneCell'=true) (hr1:∀ u∈rs,u.oneCell'=true) (hrl:rs.length=1) (k:Nat) (hk:k<n) (hlen:n≤1000000000) (g c:Nat) (hroom:c<n+1) (base vb:Nat) (w:World) (hb:base≤w.heap.size)
  (hown:w.ownsRow base 3 1 (.slice (some ⟨g,0,none⟩) n c) n xs) (hv:Blk w vb 3 rs.toArray) :
  Calls Tryz.prog 92 #[.slice (some ⟨g,0,none⟩) n c,.int .i64 (k:Int),.slice (some ⟨vb,0,none⟩) 1 1] w fun e w'=>∃ v',e=.returned v'∧w'.ownsRow base 3 1 v' (n+1) (xs.take (k)++rs++xs.drop (k))∧w.grownBy w' (some g)∧∀ q,v'.ownBlock=some q→some g=some q∨w.heap.size≤q:=by
 obtain ⟨i0',hi0,hz0a,hz0b,hz0c⟩:=info_parts infoI
 have hsz:(Tryz.prog.info? 3).map (·.size)=some 1:=by rw [hi0];simp [hz0b]
 have hxl:xs.length=n:=by have:=hown.1;omega
 have hcel:∀ j u,xs[j]?=some u→w.cell? ((⟨g,0,none⟩:Addr).add j)=some u:=hown.cells (g:=g) rfl
 have hglt:=(hown.lt g rfl).2
 obtain ⟨_,h | ⟨g',cap',cur,hve,hbg,hblk,hnc,hcm,hsize,htake⟩⟩:=hown
 ·obtain ⟨h,_⟩:=h;cases h
 injection hve with hv1 hv2 hv3
 injection hv1 with hv1
 injection hv1 with hv1
 subst hv1 hv3
 obtain rfl:c=n:=by omega
 clear hblk htake hsize hnc hv2
 obtain ⟨z,hzd⟩:∃ z:Value,Hid (z=.int .i64 0):=⟨_,Lib.hid rfl⟩
 rw [← hzd.out] at hz0a
 have hzc:z.cells.size=1:=by rw [hzd.out];rfl
 have hkk:(c:Int)+1-(k:Int)=((c+1-k:Nat):Int):=by omega
 have hik:k+(c+1-k)=c+1:=by omega
 have hold:(Builtin.firstCells i0'.size k (.slice (some ⟨g,0,none⟩) k c)).run Tryz.prog w.drew=.ok (xs.take (k)).toArray w.drew:=by
  rw [hz0b]
  exact run_firstCells_some w.drew 1 k ⟨g,0,none⟩ k c (xs.take (k)) (by rw [List.length_take];omega) (fun j v hj=>by
   rw [List.getElem?_take] at hj
   split at hj
   ·exact hcel j v hj
   ·cases hj)
 obtain ⟨G,hG⟩:∃ G,Hid (G=grownCap w (c+1) c 3):=⟨_,Lib.hid rfl⟩
 obtain ⟨ROW,hROW⟩:∃ ROW:Array Value,Hid (ROW=(xs.take (k)).toArray++Builtin.zeroCells z.cells (c+1-k)++Builtin.zeroCells z.cells (G-(c+1))):=⟨_,Lib.hid rfl⟩
 have hGn:c+1≤G:=by rw [hG.out];exact grownCap_ge w _ _ _
 have hGm:G≤maxLen:=by
  have:=grownCap_le_maxLen w (c+1) c 3 (by unfold maxLen;omega)
  rwa [← hG.out] at this
 have hG63:G≤9223372036854775807:=by unfold maxLen at hGm;omega
 have hrz:∀ ty,(Builtin.append_ #[38,3] ty #[.slice (some ⟨g,0,none⟩) k c,.int .i64 ((c:Int)+1-(k:Int))]).run Tryz.prog w =
   .ok (.slice (some ⟨w.heap.size,0,none⟩) (c+1) G) (w.drew.alloc (.cells ROW 3)):=fun ty=>by
  have h:=Lib.run_append_grow_zeros w 38 3 ty 3 i0' _ .i64 .i64 Tryz.underlying38 Tryz.underlying3 hi0 hz0a (some ⟨g,0,none⟩) k c (xs.take (k)) hold (c+1-k) (by omega) (by omega) (by omega) (by omega) (by rw [hz0c];omega) (by rw [hz0c,hik];exact growslice_fits (by omega) (by omega))
  rw [hik,← hG.out,← hROW.out] at h
  rw [hkk]
  exact h
 have hRsz:ROW.size=G:=by
  rw [hROW.out]
  simp only [Array.size_append,List.size_toArray,List.length_take,hxl,size_zeroCells,hzc]
  omega
 have hRl:∀ j,j<k→ROW[j]?=xs[j]?:=by
  intro j hj
  rw [hROW.out,Array.append_assoc,Array.getElem?_append_left (by simp;omega)]
  simp [List.getElem?_take,hj]
 clear hold hROW hz0a hzd hkk
 have HB1:Blk ((w.alloc (.cells ROW 3)).drew) w.heap.size 3 ROW:=(Blk.new w 3 ROW).drew
 have hv1:Blk ((w.alloc (.cells ROW 3)).drew) vb 3 rs.toArray:=(hv.alloc _).drew
 have hvw:=hv.lt
 have hcpA:∀ (W:World),Blk W w.heap.size 3 ROW→Blk W vb 3 rs.toArray→∀ ty dc,(Builtin.copy_ #[38,38] ty #[.slice (some ⟨w.heap.size,k,none⟩) (c+1-k) dc,.slice (some ⟨vb,0,none⟩) 1 1]).run Tryz.prog W=.ok (goInt 1) (W.setCells w.heap.size (k) rs):=fun W hWb hWv ty dc=>by
  have e:Nat.min 1 (c+1-k)=1:=by simp only [Nat.min_def];split<;>omega
  have h:=run_copy_sz W 38 38 ty 3 w.heap.size (k) (c+1-k) dc ⟨vb,0,none⟩ 1 1 1 rs Tryz.underlying38 hsz (by rw [hrl,e])
   (fun j u hu=>by rw [add_mk,Nat.zero_add,hWv.cell];simpa using hu)
   (fun j hj=>by rw [hWb.cell,Array.getElem?_eq_getElem (by rw [hrl] at hj;omega)];rfl) (fun j hj=>hWb.frozen _) hr1
  rwa [e] at h
 have hdl:(xs.drop (k)).length=c-k:=by rw [List.length_drop,hxl]
 have hcpB:∀ (W:World),Blk W w.heap.size 3 (patch ROW (k) rs)→(∀ j u,xs[j]?=some u→W.cell? ⟨g,j,none⟩=some u)→∀ ty dc sc,(Builtin.copy_ #[38,38] ty #[.slice (some ⟨w.heap.size,k+1,none⟩) (c-k) dc,.slice (some ⟨g,k,none⟩) (c-k) sc]).run Tryz.prog W=.ok (goInt ((c-k:Nat):Int)) (W.setCells w.heap.size (k+1) (xs.drop (k))):=fun W hWb hWg ty dc sc=>by
  have e:Nat.min (c-k) (c-k)=c-k:=by simp only [Nat.min_def];split<;>omega
  have h:=run_copy_sz W 38 38 ty 3 w.heap.size (k+1) (c-k) dc ⟨g,k,none⟩ (c-k) sc 1 (xs.drop (k)) Tryz.underlying38 hsz (by rw [hdl,e];try omega)
   (fun j v hj=>by rw [add_mk];exact hWg _ v (by rwa [List.getElem?_drop] at hj))
   (fun j hj=>by rw [hWb.cell,Array.getElem?_eq_getElem (by rw [patch_size];rw [hdl] at hj;omega)];rfl) (fun j hj=>hWb.frozen _) (fun v hv=>hone v (List.mem_of_mem_drop hv))
  rwa [e] at h
 have HB2:Blk (((w.alloc (.cells ROW 3)).drew.setCells w.heap.size (k) rs).drew) w.heap.size 3 (patch ROW (k) rs):=(Blk.sets _ _ HB1).drew
 have hcel2:∀ j u,xs[j]?=some u→(((w.alloc (.cells ROW 3)).drew.setCells w.heap.size (k) rs).drew).cell? ⟨g,j,none⟩=some u:=by
  intro j u hu
  show ((w.alloc (.cells ROW 3)).drew.setCells w.heap.size (k) rs).cell? ⟨g,j,none⟩=some u
  rw [World.cell?_setCells_out _ _ _ _ _ (fun h _=>absurd h (by simp only;omega))]
  show (w.alloc (.cells ROW 3)).cell? ⟨g,j,none⟩=some u
  rw [World.cell?_alloc_lt w _ ⟨g,j,none⟩ (by simpa using hglt)]
  have:=hcel j u hu
  rwa [add_mk,Nat.zero_add] at this
 have hw1:IntKind.i64.wrap ((k:Int)+1)=(k:Int)+1:=by rw [IntKind.wrap_i64];omega
 have hb1:(0:Int)≤(k:Int)+1:=by omega
 have hin:k≤c:=by omega
 have htn:((k:Int)+1).toNat=k+1:=by omega
 have hb2:¬ (G=k+1):=by omega
 have hb5:¬ (G=k):=by omega
 have hb3:(k:Int)≤(c:Int)+1:=by omega
 have hb4:¬ (c=k):=by omega
 have hz2:¬ ((k:Int)=(c:Int)):=by omega
 have hcpAh:=Lib.hid hcpA;have hcpBh:=Lib.hid hcpB;have HB1h:=Lib.hid HB1;have HB2h:=Lib.hid HB2;have hv1h:=Lib.hid hv1;have hcelh:=Lib.hid hcel2;have hrzh:=Lib.hid hrz
 clear hcpA hcpB HB1 HB2 hv1 hcel2 hrz hcel
 go_enter Tryz.func92,Tryz.ntmps92
 have hA1:=hcpAh.out _ HB1h.out hv1h.out
 go_wp2_with (first
  | (at_builtin;refine Lib.wpList_append_run _ rfl _ _ _ _ rfl _ _ rfl rfl _ _ (hrzh.out _) ?_)
  | fail)
 have hB1:=hcpBh.out _ HB2h.out hcelh.out
 go_region_law (refine step_copy_eq rfl _ _ 38 38 rfl _ _ (by simp [Act.eval,Act.put]) (by simp [Act.eval,Act.put]) (hB1 _ _ _) ?_)
 go_wp2_with fail
 go_ret
 have hg1:w.grownBy ((w.alloc (.cells ROW 3)).drew.setCells w.heap.size (k) rs) none:=by
  have h:=grown_sets w.heap.size rs ((w.alloc (.cells ROW 3)).drew) (k)
  have h0:=World.grownBy_alloc w (.cells ROW 3) none
  exact ⟨h.os.trans h0.os,h.tape.trans h0.tape,h.output.trans h0.output,Nat.le_trans h0.size h.size,fun i h1 h2=>(h.block i (Nat.lt_of_lt_of_le h1 h0.size) (fun e=>by injection e with e;omega)).trans (h0.block i h1 h2)⟩
 have hg2:=grown_sets w.heap.size (xs.drop (k)) ((((w.alloc (.cells ROW 3)).drew.setCells w.heap.size (k) rs).drew)) (k+1)
 refine ⟨_,rfl,⟨by simp only [List.length_append,List.length_take,List.length_drop,hrl,hxl];omega,.inr ⟨w.heap.size,G,_,rfl,hb,HB2h.out.sets (xs.drop (k)) (k+1),by omega,hGm,by rw [patch_size,patch_size,hRsz];try omega,?_⟩⟩,
  ⟨hg2.os.trans hg1.os,hg2.tape.trans hg1.tape,hg2.output.trans hg1.output,Nat.le_trans hg1.size hg2.size,fun i h1 h2=>(hg2.block i (Nat.lt_of_lt_of_le h1 hg1.size) (fun e=>by injection e with e;omega)).trans (hg1.block i h1 (by simp))⟩,fun q hq=>.inr (by simp [Value.ownBlock] at hq;omega)⟩
 refine ins_cells (xs:=xs) (rs:=rs) (p:=k) (q:=1) (by omega) hrl (by omega) rfl (by rw [patch_size,patch_size];omega) ?_ ?_ ?_
 ·intro j hj
  rw [patch_out _ _ _ _ (.inl (by omega)),patch_out _ _ _ _ (.inl hj),hRl j hj]
 ·intro j hj
  rw [patch_out _ _ _ _ (.inl (by omega)),patch_in _ _ _ _ (by rw [hrl];exact hj) (by rw [hrl];omega)]
 ·intro j hj
  rw [show k+1+j=k+1+j by omega,patch_in _ _ _ _ (by rw [hdl];omega) (by rw [hdl,patch_size];omega),List.getElem?_drop]
theorem insI_any (n:Nat) (xs rs:List Value) (hone:∀ u∈xs,u.oneCell'=true) (hr1:∀ u∈rs,u.oneCell'=true) (hrl:rs.length=1) (k:Nat) (hk:k≤n) (hlen:n≤1000000000) (v:Value) (base vb:Nat) (w:World) (hb:base≤w.heap.size) (hne:v.ownBlock≠some vb)
  (hown:w.ownsRow base 3 1 v n xs) (hv:Blk w vb 3 rs.toArray) :
  Calls Tryz.prog 92 #[v,.int .i64 (k:Int),.slice (some ⟨vb,0,none⟩) 1 1] w fun e w'=>∃ v',e=.returned v'∧w'.ownsRow base 3 1 v' (n+1) (xs.take (k)++rs++xs.drop (k))∧w.grownBy w' v.ownBlock∧∀ q,v'.ownBlock=some q→v.ownBlock=some q∨w.heap.size≤q:=by
 rcases Nat.lt_or_ge k n with h | h
 ·obtain ⟨g,c,rfl,_,_⟩:=hown.form (by omega)
  rcases Nat.lt_or_ge c (n+1) with h' | h'
  ·exact insI_grow n xs rs hone hr1 hrl k h hlen g c h' base vb w hb hown hv
  ·exact insI_room n xs rs hone hr1 hrl k h hlen g c h' base vb w (fun e=>hne (by rw [← e];rfl)) hown hv
 ·obtain rfl:k=n:=by omega
  have hl:xs.length=k:=by have:=hown.1;omega
  rw [List.take_of_length_le (by omega),List.drop_of_length_le (by omega),List.append_nil]
  exact insI_end k xs rs hr1 hrl hlen v base vb w hb hown hv
open Go.RowKit Go.Lib
open Brood
theorem infoT:(Tryz.prog.info? 100).map (fun i=>(i.zero,i.size,i.bytes))=some (some (.agg #[.int .i64 0,.slice none 0 0,.slice none 0 0]),3,56):=by kernel_rfl
theorem insT_end (n:Nat) (xs rs:List Value) (hr1:∀ u∈rs,u.oneCell'=true) (hrl:rs.length=3) (hlen:n≤1000000000) (v:Value) (base vb:Nat) (w:World) (hb:base≤w.heap.size)
  (hown:w.ownsRow base 100 3 v n xs) (hv:Blk w vb 100 rs.toArray) :
  Calls Tryz.prog 87 #[v,.int .i64 (n:Int),.slice (some ⟨vb,0,none⟩) 1 1] w fun e w'=>∃ v',e=.returned v'∧w'.ownsRow base 100 3 v' (n+1) (xs++rs)∧w.grownBy w' v.ownBlock∧∀ q,v'.ownBlock=some q→v.ownBlock=some q∨w.heap.size≤q:=by
 obtain ⟨i0',hi0,hz0a,hz0b,hz0c⟩:=info_parts infoT
 obtain ⟨A,c,rfl,hnc,hcm⟩:=own_shape hown
 have hcx:c≤9223372036854775807:=by unfold maxLen at hcm;omega
 have hcells:∀ j u,rs[j]?=some u→w.cell? ((⟨vb,0,none⟩:Addr).add j)=some u:=by
  intro j u hu
  rw [add_mk,Nat.zero_add,hv.cell]
  simpa using hu
 go_enter Tryz.func87,Tryz.ntmps87
 go_wp2_with (at_builtin;refine wpList_append_own_at _ rfl _ _ 37 rfl base 100 i0' (.agg #[.int .i64 0,.slice none 0 0,.slice none 0 0]) 3 56 Tryz.underlying37 hi0 hz0a hz0b hz0c rfl (by decide) _ _ _ rfl hown ⟨vb,0,none⟩ 1 1 rs rfl (by rw [hrl]) hcells hr1 ?c3 ?c4 ?c5 ?_;rotate_left 3;intro v' w1 hown' hgrow _ hat)
 case c3=>unfold maxLen;omega
 case c4=>omega
 case c5=>exact hb
 all_goals
  obtain ⟨A2,c2,rfl,_,_⟩:=own_shape hown'
  go_ret
  refine ⟨_,rfl,hown',?_,?_⟩
  ·cases A<;>exact hgrow
  ·intro q hq
   replace hq:(Value.slice A2 (n+1) c2).ownBlock=some q:=hq
   rcases hat with e | e
   ·left
    cases A<;>exact e.symm.trans hq
   ·right
    have e2:=hq.symm.trans e
    injection e2 with e2
    omega
theorem insT_room (n:Nat) (xs rs:List Value) (hone:∀ u∈xs,u.oneCell'=true) (hr1:∀ u∈rs,u.oneCell'=true) (hrl:rs.length=3) (k:Nat) (hk:k<n) (hlen:n≤1000000000) (g c:Nat) (hroom:n+1≤c) (base vb:Nat) (w:World) (hne:g≠vb)
  (hown:w.ownsRow base 100 3 (.slice (some ⟨g,0,none⟩) n c) n xs) (hv:Blk w vb 100 rs.toArray) :
  Calls Tryz.prog 87 #[.slice (some ⟨g,0,none⟩) n c,.int .i64 (k:Int),.slice (some ⟨vb,0,none⟩) 1 1] w fun e w'=>∃ v',e=.returned v'∧w'.ownsRow base 100 3 v' (n+1) (xs.take (k*3)++rs++xs.drop (k*3))∧w.grownBy w' (some g)∧∀ q,v'.ownBlock=some q→some g=some q∨w.heap.size≤q:=by
 obtain ⟨i0',hi0,hz0a,hz0b,hz0c⟩:=info_parts infoT
 have hsz:(Tryz.prog.info? 100).map (·.size)=some 3:=by rw [hi0];simp [hz0b]
 have hzs:∀ w,(Go.sizeOf 100).run Tryz.prog w=.ok 3 w:=fun w=>by kernel_rfl
 have hxl:xs.length=n*3:=by have:=hown.1;omega
 obtain ⟨_,h | ⟨g',cap',cur,hve,hbg,hblk,hnc,hcm,hsize,htake⟩⟩:=hown
 ·obtain ⟨h,_⟩:=h;cases h
 injection hve with hv1 hv2 hv3
 injection hv1 with hv1
 injection hv1 with hv1
 subst hv1 hv3
 have hcx:c≤9223372036854775807:=by unfold maxLen at hcm;omega
 have HB:Blk w g 100 cur:=hblk
 replace hsize:cur.size=c*3:=by omega
 have htj:∀ j,j<n*3→cur[j]?=xs[j]?:=by
  intro j hj
  rw [← htake,List.getElem?_take,if_pos (by omega),Array.getElem?_toList]
 have hcs:∀ j,j<c*3→(w.cell? ⟨g,j,none⟩).isSome=true:=fun j hj=>by rw [HB.cell,Array.getElem?_eq_getElem (by omega)];rfl
 have hfz:∀ j,w.frozen? ⟨g,j,none⟩=false:=HB.frozen
 have hv0:w.shape? vb=some (100,3):=by
  have:=hv;unfold Blk at this
  simp [World.shape?,this,hrl]
 have hv2:w.shape? g=some (100,c*3):=by
  simp [World.shape?,hblk,hsize]
 have hov:∀ lb cb,(callFunc 128 #[.slice (some ⟨vb,0,none⟩) 1 1,.slice (some ⟨g,(k+1)*3,none⟩) lb cb]).run Tryz.prog w=.ok (.value (.bool false)) w:=fun lb cb=>by
  rw [run_callFunc_extern Tryz.func128 (by kernel_rfl) (by kernel_rfl) (by kernel_rfl) (e:=Extern.SlicesOverlaps.overlaps #[37,37] #[4]) (by kernel_rfl),
   Lib.run_overlaps_apart w 37 4 100 Tryz.underlying37 3 hzs ⟨vb,0,none⟩ ⟨g,(k+1)*3,none⟩ 1 1 lb cb (fun e=>hne e.symm) 100 100 3 (c*3) hv0 hv2 (by omega) (hv.frozen 0) (hv.frozen 3)]
  rfl
 have hdl:(xs.drop (k*3)).length=(n-k)*3:=by rw [List.length_drop,hxl];omega
 have hcp1:∀ ty dc sc,(Builtin.copy_ #[37,37] ty #[.slice (some ⟨g,(k+1)*3,none⟩) (n-k) dc,.slice (some ⟨g,k*3,none⟩) (n+1-k) sc]).run Tryz.prog w.drew=.ok (goInt ((n-k:Nat):Int)) (w.drew.setCells g ((k+1)*3) (xs.drop (k*3))):=fun ty dc sc=>by
  have e:Nat.min (n+1-k) (n-k)=n-k:=by simp only [Nat.min_def];split<;>omega
  have h:=run_copy_sz w.drew 37 37 ty 100 g ((k+1)*3) (n-k) dc ⟨g,k*3,none⟩ (n+1-k) sc 3 (xs.drop (k*3)) Tryz.underlying37 hsz (by rw [hdl,e];try omega)
   (fun j v hj=>by
    rw [add_mk]
    have h1:(w.drew).cell? ⟨g,k*3+j,none⟩=cur[k*3+j]?:=HB.cell _
    have h2:=(List.getElem?_eq_some_iff.1 hj).1
    rw [h1,htj _ (by rw [hdl] at h2;omega)]
    rwa [List.getElem?_drop] at hj)
   (fun j hj=>hcs _ (by rw [hdl] at hj;omega)) (fun j hj=>hfz _) (fun v hv=>hone v (List.mem_of_mem_drop hv))
  rwa [e] at h
 have HB1:Blk (w.drew.setCells g ((k+1)*3) (xs.drop (k*3))) g 100 (patch cur ((k+1)*3) (xs.drop (k*3))):=Blk.sets _ _ HB.drew
 have hg1:w.grownBy (w.drew.setCells g ((k+1)*3) (xs.drop (k*3))) (some g):=by
  have h:=grown_sets g (xs.drop (k*3)) w.drew ((k+1)*3)
  exact ⟨h.os,h.tape,h.output,h.size,h.block⟩
 have hv1:Blk (w.drew.setCells g ((k+1)*3) (xs.drop (k*3))) vb 100 rs.toArray:=Blk.grown hv hg1 (by simpa using (fun e=>hne e.symm))
 obtain ⟨W1,hW1⟩:∃ W1,Hid (W1=w.drew.setCells g ((k+1)*3) (xs.drop (k*3))):=⟨_,Lib.hid rfl⟩
 rw [← hW1.out] at hcp1 HB1 hg1 hv1
 have hcp2:∀ ty dc,(Builtin.copy_ #[37,37] ty #[.slice (some ⟨g,k*3,none⟩) (n+1-k) dc,.slice (some ⟨vb,0,none⟩) 1 1]).run Tryz.prog W1=.ok (goInt 1) (W1.setCells g (k*3) rs):=fun ty dc=>by
  have e:Nat.min 1 (n+1-k)=1:=by simp only [Nat.min_def];split<;>omega
  have h:=run_copy_sz W1 37 37 ty 100 g (k*3) (n+1-k) dc ⟨vb,0,none⟩ 1 1 3 rs Tryz.underlying37 hsz (by rw [hrl,e])
   (fun j u hu=>by rw [add_mk,Nat.zero_add,hv1.cell];simpa using hu)
   (fun j hj=>by rw [HB1.cell,Array.getElem?_eq_getElem (by rw [patch_size];rw [hrl] at hj;omega)];rfl) (fun j hj=>HB1.frozen _) hr1
  rwa [e] at h
 have hw1:IntKind.i64.wrap ((k:Int)+1)=(k:Int)+1:=by rw [IntKind.wrap_i64];omega
 have hb1:(0:Int)≤(k:Int)+1:=by omega
 have hin:k≤n:=by omega
 have htn:((k:Int)+1).toNat=k+1:=by omega
 have hb2:¬ (c=k+1):=by omega
 have hb3:(k:Int)≤(n:Int)+1:=by omega
 have hb4:¬ (c=k):=by omega
 have hz2:¬ ((k:Int)=(n:Int)):=by omega
 have hovh:=Lib.hid hov
 go_enter Tryz.func87,Tryz.ntmps87
 go_wp2_with (simp only [hov])
 go_region_law (refine step_copy_eq rfl _ _ 37 37 rfl _ _ (by simp [Act.eval,Act.put]) (by simp [Act.eval,Act.put]) (hcp1 _ _ _) ?_)
 go_wp2_with (at_builtin;refine wpList_copy_eq _ rfl _ _ 37 37 rfl _ _ rfl rfl (hcp2 _ _) ?_)
 go_ret
 have hg2:=grown_sets g rs W1 (k*3)
 refine ⟨_,rfl,⟨by simp only [List.length_append,List.length_take,List.length_drop,hrl,hxl];omega,.inr ⟨g,c,_,rfl,hbg,HB1.sets rs (k*3),by omega,hcm,by rw [patch_size,patch_size,hsize];try omega,?_⟩⟩,
  ⟨hg2.os.trans hg1.os,hg2.tape.trans hg1.tape,hg2.output.trans hg1.output,Nat.le_trans hg1.size hg2.size,fun i h1 h2=>(hg2.block i (Nat.lt_of_lt_of_le h1 hg1.size) h2).trans (hg1.block i h1 h2)⟩,fun q hq=>.inl hq⟩
 refine ins_cells (xs:=xs) (rs:=rs) (p:=k*3) (q:=3) (by omega) hrl (by omega) rfl (by rw [patch_size,patch_size];omega) ?_ ?_ ?_
 ·intro j hj
  rw [patch_out _ _ _ _ (.inl hj),patch_out _ _ _ _ (.inl (by omega)),htj j (by omega)]
 ·intro j hj
  exact patch_in _ _ _ _ (by rw [hrl];exact hj) (by rw [hrl,patch_size];omega)
 ·intro j hj
  rw [patch_out _ _ _ _ (.inr (by rw [hrl];omega)),show k*3+3+j=(k+1)*3+j by omega,patch_in _ _ _ _ (by rw [hdl];omega) (by rw [hdl];omega),List.getElem?_drop]
theorem insT_grow (n:Nat) (xs rs:List Value) (hone:∀ u∈xs,u.oneCell'=true) (hr1:∀ u∈rs,u.oneCell'=true) (hrl:rs.length=3) (k:Nat) (hk:k<n) (hlen:n≤1000000000) (g c:Nat) (hroom:c<n+1) (base vb:Nat) (w:World) (hb:base≤w.heap.size)
  (hown:w.ownsRow base 100 3 (.slice (some ⟨g,0,none⟩) n c) n xs) (hv:Blk w vb 100 rs.toArray) :
  Calls Tryz.prog 87 #[.slice (some ⟨g,0,none⟩) n c,.int .i64 (k:Int),.slice (some ⟨vb,0,none⟩) 1 1] w fun e w'=>∃ v',e=.returned v'∧w'.ownsRow base 100 3 v' (n+1) (xs.take (k*3)++rs++xs.drop (k*3))∧w.grownBy w' (some g)∧∀ q,v'.ownBlock=some q→some g=some q∨w.heap.size≤q:=by
 obtain ⟨i0',hi0,hz0a,hz0b,hz0c⟩:=info_parts infoT
 have hsz:(Tryz.prog.info? 100).map (·.size)=some 3:=by rw [hi0];simp [hz0b]
 have hxl:xs.length=n*3:=by have:=hown.1;omega
 have hcel:∀ j u,xs[j]?=some u→w.cell? ((⟨g,0,none⟩:Addr).add j)=some u:=hown.cells (g:=g) rfl
 have hglt:=(hown.lt g rfl).2
 obtain ⟨_,h | ⟨g',cap',cur,hve,hbg,hblk,hnc,hcm,hsize,htake⟩⟩:=hown
 ·obtain ⟨h,_⟩:=h;cases h
 injection hve with hv1 hv2 hv3
 injection hv1 with hv1
 injection hv1 with hv1
 subst hv1 hv3
 obtain rfl:c=n:=by omega
 clear hblk htake hsize hnc hv2
 obtain ⟨z,hzd⟩:∃ z:Value,Hid (z=.agg #[.int .i64 0,.slice none 0 0,.slice none 0 0]):=⟨_,Lib.hid rfl⟩
 rw [← hzd.out] at hz0a
 have hzc:z.cells.size=3:=by rw [hzd.out];rfl
 have hkk:(c:Int)+1-(k:Int)=((c+1-k:Nat):Int):=by omega
 have hik:k+(c+1-k)=c+1:=by omega
 have hold:(Builtin.firstCells i0'.size k (.slice (some ⟨g,0,none⟩) k c)).run Tryz.prog w.drew=.ok (xs.take (k*3)).toArray w.drew:=by
  rw [hz0b]
  exact run_firstCells_some w.drew 3 k ⟨g,0,none⟩ k c (xs.take (k*3)) (by rw [List.length_take];omega) (fun j v hj=>by
   rw [List.getElem?_take] at hj
   split at hj
   ·exact hcel j v hj
   ·cases hj)
 obtain ⟨G,hG⟩:∃ G,Hid (G=grownCap w (c+1) c 100):=⟨_,Lib.hid rfl⟩
 obtain ⟨ROW,hROW⟩:∃ ROW:Array Value,Hid (ROW=(xs.take (k*3)).toArray++Builtin.zeroCells z.cells (c+1-k)++Builtin.zeroCells z.cells (G-(c+1))):=⟨_,Lib.hid rfl⟩
 have hGn:c+1≤G:=by rw [hG.out];exact grownCap_ge w _ _ _
 have hGm:G≤maxLen:=by
  have:=grownCap_le_maxLen w (c+1) c 100 (by unfold maxLen;omega)
  rwa [← hG.out] at this
 have hG63:G≤9223372036854775807:=by unfold maxLen at hGm;omega
 have hrz:∀ ty,(Builtin.append_ #[37,3] ty #[.slice (some ⟨g,0,none⟩) k c,.int .i64 ((c:Int)+1-(k:Int))]).run Tryz.prog w =
   .ok (.slice (some ⟨w.heap.size,0,none⟩) (c+1) G) (w.drew.alloc (.cells ROW 100)):=fun ty=>by
  have h:=Lib.run_append_grow_zeros w 37 3 ty 100 i0' _ .i64 .i64 Tryz.underlying37 Tryz.underlying3 hi0 hz0a (some ⟨g,0,none⟩) k c (xs.take (k*3)) hold (c+1-k) (by omega) (by omega) (by omega) (by omega) (by rw [hz0c];omega) (by rw [hz0c,hik];exact growslice_fits (by omega) (by omega))
  rw [hik,← hG.out,← hROW.out] at h
  rw [hkk]
  exact h
 have hRsz:ROW.size=G*3:=by
  rw [hROW.out]
  simp only [Array.size_append,List.size_toArray,List.length_take,hxl,size_zeroCells,hzc]
  omega
 have hRl:∀ j,j<k*3→ROW[j]?=xs[j]?:=by
  intro j hj
  rw [hROW.out,Array.append_assoc,Array.getElem?_append_left (by simp;omega)]
  simp [List.getElem?_take,hj]
 clear hold hROW hz0a hzd hkk
 have HB1:Blk ((w.alloc (.cells ROW 100)).drew) w.heap.size 100 ROW:=(Blk.new w 100 ROW).drew
 have hv1:Blk ((w.alloc (.cells ROW 100)).drew) vb 100 rs.toArray:=(hv.alloc _).drew
 have hvw:=hv.lt
 have hcpA:∀ (W:World),Blk W w.heap.size 100 ROW→Blk W vb 100 rs.toArray→∀ ty dc,(Builtin.copy_ #[37,37] ty #[.slice (some ⟨w.heap.size,k*3,none⟩) (c+1-k) dc,.slice (some ⟨vb,0,none⟩) 1 1]).run Tryz.prog W=.ok (goInt 1) (W.setCells w.heap.size (k*3) rs):=fun W hWb hWv ty dc=>by
  have e:Nat.min 1 (c+1-k)=1:=by simp only [Nat.min_def];split<;>omega
  have h:=run_copy_sz W 37 37 ty 100 w.heap.size (k*3) (c+1-k) dc ⟨vb,0,none⟩ 1 1 3 rs Tryz.underlying37 hsz (by rw [hrl,e])
   (fun j u hu=>by rw [add_mk,Nat.zero_add,hWv.cell];simpa using hu)
   (fun j hj=>by rw [hWb.cell,Array.getElem?_eq_getElem (by rw [hrl] at hj;omega)];rfl) (fun j hj=>hWb.frozen _) hr1
  rwa [e] at h
 have hdl:(xs.drop (k*3)).length=(c-k)*3:=by rw [List.length_drop,hxl];omega
 have hcpB:∀ (W:World),Blk W w.heap.size 100 (patch ROW (k*3) rs)→(∀ j u,xs[j]?=some u→W.cell? ⟨g,j,none⟩=some u)→∀ ty dc sc,(Builtin.copy_ #[37,37] ty #[.slice (some ⟨w.heap.size,(k+1)*3,none⟩) (c-k) dc,.slice (some ⟨g,k*3,none⟩) (c-k) sc]).run Tryz.prog W=.ok (goInt ((c-k:Nat):Int)) (W.setCells w.heap.size ((k+1)*3) (xs.drop (k*3))):=fun W hWb hWg ty dc sc=>by
  have e:Nat.min (c-k) (c-k)=c-k:=by simp only [Nat.min_def];split<;>omega
  have h:=run_copy_sz W 37 37 ty 100 w.heap.size ((k+1)*3) (c-k) dc ⟨g,k*3,none⟩ (c-k) sc 3 (xs.drop (k*3)) Tryz.underlying37 hsz (by rw [hdl,e];try omega)
   (fun j v hj=>by rw [add_mk];exact hWg _ v (by rwa [List.getElem?_drop] at hj))
   (fun j hj=>by rw [hWb.cell,Array.getElem?_eq_getElem (by rw [patch_size];rw [hdl] at hj;omega)];rfl) (fun j hj=>hWb.frozen _) (fun v hv=>hone v (List.mem_of_mem_drop hv))
  rwa [e] at h
 have HB2:Blk (((w.alloc (.cells ROW 100)).drew.setCells w.heap.size (k*3) rs).drew) w.heap.size 100 (patch ROW (k*3) rs):=(Blk.sets _ _ HB1).drew
 have hcel2:∀ j u,xs[j]?=some u→(((w.alloc (.cells ROW 100)).drew.setCells w.heap.size (k*3) rs).drew).cell? ⟨g,j,none⟩=some u:=by
  intro j u hu
  show ((w.alloc (.cells ROW 100)).drew.setCells w.heap.size (k*3) rs).cell? ⟨g,j,none⟩=some u
  rw [World.cell?_setCells_out _ _ _ _ _ (fun h _=>absurd h (by simp only;omega))]
  show (w.alloc (.cells ROW 100)).cell? ⟨g,j,none⟩=some u
  rw [World.cell?_alloc_lt w _ ⟨g,j,none⟩ (by simpa using hglt)]
  have:=hcel j u hu
  rwa [add_mk,Nat.zero_add] at this
 have hw1:IntKind.i64.wrap ((k:Int)+1)=(k:Int)+1:=by rw [IntKind.wrap_i64];omega
 have hb1:(0:Int)≤(k:Int)+1:=by omega
 have hin:k≤c:=by omega
 have htn:((k:Int)+1).toNat=k+1:=by omega
 have hb2:¬ (G=k+1):=by omega
 have hb5:¬ (G=k):=by omega
 have hb3:(k:Int)≤(c:Int)+1:=by omega
 have hb4:¬ (c=k):=by omega
 have hz2:¬ ((k:Int)=(c:Int)):=by omega
 have hcpAh:=Lib.hid hcpA;have hcpBh:=Lib.hid hcpB;have HB1h:=Lib.hid HB1;have HB2h:=Lib.hid HB2;have hv1h:=Lib.hid hv1;have hcelh:=Lib.hid hcel2;have hrzh:=Lib.hid hrz
 clear hcpA hcpB HB1 HB2 hv1 hcel2 hrz hcel
 go_enter Tryz.func87,Tryz.ntmps87
 have hA1:=hcpAh.out _ HB1h.out hv1h.out
 go_wp2_with (first
  | (at_builtin;refine Lib.wpList_append_run _ rfl _ _ _ _ rfl _ _ rfl rfl _ _ (hrzh.out _) ?_)
  | fail)
 have hB1:=hcpBh.out _ HB2h.out hcelh.out
 go_region_law (refine step_copy_eq rfl _ _ 37 37 rfl _ _ (by simp [Act.eval,Act.put]) (by simp [Act.eval,Act.put]) (hB1 _ _ _) ?_)
 go_wp2_with fail
 go_ret
 have hg1:w.grownBy ((w.alloc (.cells ROW 100)).drew.setCells w.heap.size (k*3) rs) none:=by
  have h:=grown_sets w.heap.size rs ((w.alloc (.cells ROW 100)).drew) (k*3)
  have h0:=World.grownBy_alloc w (.cells ROW 100) none
  exact ⟨h.os.trans h0.os,h.tape.trans h0.tape,h.output.trans h0.output,Nat.le_trans h0.size h.size,fun i h1 h2=>(h.block i (Nat.lt_of_lt_of_le h1 h0.size) (fun e=>by injection e with e;omega)).trans (h0.block i h1 h2)⟩
 have hg2:=grown_sets w.heap.size (xs.drop (k*3)) ((((w.alloc (.cells ROW 100)).drew.setCells w.heap.size (k*3) rs).drew)) ((k+1)*3)
 refine ⟨_,rfl,⟨by simp only [List.length_append,List.length_take,List.length_drop,hrl,hxl];omega,.inr ⟨w.heap.size,G,_,rfl,hb,HB2h.out.sets (xs.drop (k*3)) ((k+1)*3),by omega,hGm,by rw [patch_size,patch_size,hRsz];try omega,?_⟩⟩,
  ⟨hg2.os.trans hg1.os,hg2.tape.trans hg1.tape,hg2.output.trans hg1.output,Nat.le_trans hg1.size hg2.size,fun i h1 h2=>(hg2.block i (Nat.lt_of_lt_of_le h1 hg1.size) (fun e=>by injection e with e;omega)).trans (hg1.block i h1 (by simp))⟩,fun q hq=>.inr (by simp [Value.ownBlock] at hq;omega)⟩
 refine ins_cells (xs:=xs) (rs:=rs) (p:=k*3) (q:=3) (by omega) hrl (by omega) rfl (by rw [patch_size,patch_size];omega) ?_ ?_ ?_
 ·intro j hj
  rw [patch_out _ _ _ _ (.inl (by omega)),patch_out _ _ _ _ (.inl hj),hRl j hj]
 ·intro j hj
  rw [patch_out _ _ _ _ (.inl (by omega)),patch_in _ _ _ _ (by rw [hrl];exact hj) (by rw [hrl];omega)]
 ·intro j hj
  rw [show k*3+3+j=(k+1)*3+j by omega,patch_in _ _ _ _ (by rw [hdl];omega) (by rw [hdl,patch_size];omega),List.getElem?_drop]
theorem insT_any (n:Nat) (xs rs:List Value) (hone:∀ u∈xs,u.oneCell'=true) (hr1:∀ u∈rs,u.oneCell'=true) (hrl:rs.length=3) (k:Nat) (hk:k≤n) (hlen:n≤1000000000) (v:Value) (base vb:Nat) (w:World) (hb:base≤w.heap.size) (hne:v.ownBlock≠some vb)
  (hown:w.ownsRow base 100 3 v n xs) (hv:Blk w vb 100 rs.toArray) :
  Calls Tryz.prog 87 #[v,.int .i64 (k:Int),.slice (some ⟨vb,0,none⟩) 1 1] w fun e w'=>∃ v',e=.returned v'∧w'.ownsRow base 100 3 v' (n+1) (xs.take (k*3)++rs++xs.drop (k*3))∧w.grownBy w' v.ownBlock∧∀ q,v'.ownBlock=some q→v.ownBlock=some q∨w.heap.size≤q:=by
 rcases Nat.lt_or_ge k n with h | h
 ·obtain ⟨g,c,rfl,_,_⟩:=hown.form (by omega)
  rcases Nat.lt_or_ge c (n+1) with h' | h'
  ·exact insT_grow n xs rs hone hr1 hrl k h hlen g c h' base vb w hb hown hv
  ·exact insT_room n xs rs hone hr1 hrl k h hlen g c h' base vb w (fun e=>hne (by rw [← e];rfl)) hown hv
 ·obtain rfl:k=n:=by omega
  have hl:xs.length=k*3:=by have:=hown.1;omega
  rw [List.take_of_length_le (by omega),List.drop_of_length_le (by omega),List.append_nil]
  exact insT_end k xs rs hr1 hrl hlen v base vb w hb hown hv
open Go.RowKit
section
variable {P:Program} {ops:Array Oper} {Q:Exit→Act→World→Prop}
def edgeTo (ops:Array Oper) (i j:Nat):Bool:=match ops[i]? with
 | some o=>o.after.toList.any fun e=>e.on==j && Region.binds .any e
 | none=>false
def Shuts (ops:Array Oper) (l:Nat→Bool):Prop:=∀ i j,edgeTo ops i j=true→l i=true→l j=true
theorem Shuts.not {ops:Array Oper} {l:Nat→Bool} (h:Shuts ops l) {i j:Nat} (he:edgeTo ops i j=true) (hj:l j=false):l i=false:=by
 cases hi:l i with
 | false=>rfl
 | true=>rw [h i j he hi] at hj;cases hj
def mixV (K:Nat→Bool) (V vs:Nat→Value) (j:Nat):Value:=if K j then V j else vs j
theorem wp_region_mx {id:Nat} {a:Act} {w:World} (hm:P.follows .mixedOrders=true) (hk:okOps ops a.tmps.size=true) (hg:(ops.toList.all fun o=>o.guard.isNone)=true)
  (K:Nat→Bool) (V:Nat→Value) (J:(Nat→Bool)→(Nat→Value)→World→Prop)
  (h0:J (fun _=>false) (fun _=>undef) w.drew)
  (hend:∀ vs w' l,J l vs w'→(∀ j,j<ops.size→l j=true)→Q .normal (putAll ops.toList 0 (mixV K V vs) a) w')
  (hstep:∀ (i:Nat) (o:Oper),ops[i]?=some o→∀ (l:Nat→Bool) (vs:Nat→Value) (act:Act) (w':World),J l vs w'→Shuts ops l→l i=false →
   (o.after.all fun e=>!Region.binds .any e || l e.on)=true →
   (∀ j d,dstAt ops j=some d→l j=true→act.tmps[d]?.getD undef=mixV K V vs j) →
   (∀ k,notDst ops k=true→act.tmps[k]?.getD undef=a.tmps[k]?.getD undef) →
   ∀ K':Act→World→Prop,(∀ v w'',(K i=true→v=V i)→J (upd l i true) (upd vs i v) w''→K' (act.put o.dst v) w'')→o.wp P act w' K' Q):(Code.region id ops true).wp P Q a w:=by
 refine wp_region_vals hm hk (fun l vs w'=>(J l vs w'∧Shuts ops l)∧∀ j,K j=true→l j=true→vs j=V j) ⟨⟨h0,fun _ _ _ h=>by cases h⟩,fun _ _ h=>by cases h⟩ ?_ ?_
 ·rintro vs w' l ⟨⟨hb,_⟩,hv⟩ hl
  rw [putAll_congr (V':=mixV K V vs) ops.toList 0 a (fun j hj=>by
   unfold mixV
   split
   ·rename_i hK;exact hv j hK (hl j (by simpa using hj))
   ·rfl)]
  exact hend vs w' l hb hl
 ·rintro i o ho l vs act w' hF ⟨⟨hb,hsh⟩,hv⟩ hl hd
  have hno:o.guard=none:=by
   have:=List.all_eq_true.1 hg o (Array.mem_toList_iff.2 (Array.mem_of_getElem? ho))
   simpa using this
  rw [if_pos (by unfold Region.wanted;rw [hno])]
  intro K' hK'
  have hsh':Shuts ops (upd l i true):=by
   intro x j he hx
   by_cases e:j=i
   ·subst e;rw [upd_same]
   ·rw [upd_ne _ _ e]
    by_cases ex:x=i
    ·subst ex
     unfold edgeTo at he
     rw [ho] at he
     obtain ⟨q,hq,h2⟩:=List.any_eq_true.1 he
     rw [Bool.and_eq_true,beq_iff_eq] at h2
     have:=(Array.all_eq_true_iff_forall_mem.1 hd) _ (Array.mem_toList_iff.1 hq)
     rw [h2.2,h2.1] at this
     simpa using this
    ·rw [upd_ne _ _ ex] at hx
     exact hsh x j he hx
  refine hstep i o ho l vs act w' hb hsh hl hd ?_ (fun k h=>hF.was h) K' (fun v w'' hvi hb'=>hK' v w'' ⟨⟨hb',hsh'⟩,fun j hKj hj=>?_⟩)
  ·intro j d hj hlj
   rw [hF.val hj hlj]
   unfold mixV
   split
   ·rename_i hK;exact hv j hK hlj
   ·rfl
  ·by_cases e:j=i
   ·subst e;rw [upd_same];exact hvi hKj
   ·rw [upd_ne _ _ e] at hj ⊢
    exact hv j hKj hj
end
end Go.Proofs.YtefdblaolmckmabGreat
