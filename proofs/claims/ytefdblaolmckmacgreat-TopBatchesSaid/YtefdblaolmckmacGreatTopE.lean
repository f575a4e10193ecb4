/- The walk of TopBatches. -/
import Derived.Test.YtefdblaolmckmacGreatBSpecKToTopG
set_option linter.unusedVariables false
set_option linter.unusedSimpArgs false
namespace Go.Proofs.YtefdblaolmckmacGreat
open Go.RowKit
open Brood
theorem shl_bits:∀ k∈List.range 8,wrap64 ((2:Int) ^ k)=((2 ^ k:Nat):Int):=by decide +kernel
def ActsIn (B:List Ent) (L:List DIn):Prop:=∀ x∈L,(x.A=none∧x.c=0∧x.d.sys.acts=[])∨∃ g,x.A=some ⟨g,0,none⟩∧Ent.box g 76 (x.d.sys.acts.flatMap actCells)∈B
theorem ActsIn.more {B B':List Ent} {L:List DIn} (h:ActsIn B L) (hs:∀ p∈B,p∈B'):ActsIn B' L:=fun x hx=>(h x hx).imp id (fun ⟨g,h1,h2⟩=>⟨g,h1,hs _ h2⟩)
theorem ActsIn.snoc {B:List Ent} {L:List DIn} {x:DIn} (h:ActsIn B L) (hx:(x.A=none∧x.c=0∧x.d.sys.acts=[])∨∃ g,x.A=some ⟨g,0,none⟩∧Ent.box g 76 (x.d.sys.acts.flatMap actCells)∈B):ActsIn B (L++[x]):=by
 intro y hy
 rcases List.mem_append.1 hy with hy | hy
 ·exact h y hy
 ·rw [List.mem_singleton.1 hy];exact hx
theorem ActsIn.rd {w0 w:World} {E B:List Ent} (H:Hp w0 w E) {L:List DIn} (h:ActsIn B L) (hs:∀ p∈B,p∈E):∀ x∈L,RdAB w w.heap.size x.A x.d.sys.acts:=by
 intro x hx
 rcases h x hx with ⟨h1,_,h2⟩ | ⟨g,h1,h2⟩
 ·rw [h1,h2];exact rdAB_nil
 ·rw [h1]
  exact rdAB_blk (H.all _ (hs _ h2)).2
theorem ActsIn.cap {B:List Ent} {L:List DIn} (h:ActsIn B L):∀ x∈L,x.A=none→x.c=0:=by
 intro x hx e
 rcases h x hx with ⟨_,h1,_⟩ | ⟨g,h1,_⟩
 ·exact h1
 ·rw [h1] at e;cases e
theorem oneL_succ (k:Nat):oneL (k+1)=oneL k++[sysD ((2 ^ k:Nat):Int) [⟨4,(k:Int),0,1⟩]]:=by
 unfold oneL
 rw [List.range_succ,List.map_append]
 rfl
theorem manyL_succ (k:Nat):manyL (k+1)=manyL k++[sysD 1 [⟨4,0,0,1⟩]]:=by
 unfold manyL
 rw [List.range_succ,List.map_append]
 rfl
theorem bat_ok {N:Nat} (h1:1≤N) (h8:N≤8):(playV allMods (oneL N++[tickD])).f=(0,0)∧((playV allMods (oneL N++[tickD])).a[N]?).map (·.n)=some 1∧(playV allMods (manyL N++[tickD])).f=(0,0)∧((playV allMods (manyL N++[tickD])).a[N]?).map (·.n)=some (N:Int):=by
 have hm:N∈[1,2,3,4,5,6,7,8]:=by
  have:N=1∨N=2∨N=3∨N=4∨N=5∨N=6∨N=7∨N=8:=by omega
  simpa using this
 have h:=batches_is N hm
 obtain ⟨a,h⟩:=Prod.mk.inj h
 obtain ⟨b,h⟩:=Prod.mk.inj h
 obtain ⟨c,d⟩:=Prod.mk.inj h
 exact ⟨a,b,c,d⟩
theorem ans_at {w0 w:World} {E:List Ent} (H:Hp w0 w E) (q:Nat) {A:Option Addr} {c:Nat} {L:List AnsIn} (hk:E[q]?=some (pkA A c L)) {P:List BAns} (hL:L.map (·.a)=P) {i:Nat} {z:Int} (hp:(P[i]?).map (·.n)=some z) :
  i<L.length∧∃ b off,A=some ⟨b,off,none⟩∧b<w.heap.size∧w.cell? ⟨b,off+i*5+4,none⟩=some (.int .i64 z):=by
 rw [← hL,List.getElem?_map] at hp
 rcases Nat.lt_or_ge i L.length with h | h
 ·rw [List.getElem?_eq_getElem h] at hp
  simp only [Option.map_some,Option.some.injEq] at hp
  obtain ⟨b,off,e,hb,_,_,_,_,y⟩:=pkA_at H q hk h
  rw [hp] at y
  exact ⟨h,b,off,e,hb,y⟩
 ·rw [List.getElem?_eq_none h] at hp
  cases hp
set_option maxRecDepth 20000 in
set_option maxHeartbeats 6400000 in
theorem topBatches_any (n:Int) (w:World):Calls Tryz.prog 11 #[.int .i64 n] w fun e w'=>e=.returned (.bool true)∧Below w.heap.size w w':=by
 go_enter Tryz.func11,Tryz.ntmps11
 go_wp2_with fail
 refine (alivet_any w).mono ?_
 rintro e w1 ⟨rfl,hb⟩
 have hB:=Lib.hid hb
 clear hb
 by_cases g0:n<1
 ·go_wp2_with fail
  go_ret
  exact ⟨rfl,hB.out⟩
 by_cases g1:8<n
 ·go_wp2_with fail
  go_ret
  exact ⟨rfl,hB.out⟩
 obtain ⟨N,rfl⟩:∃ N:Nat,n=(N:Int):=⟨n.toNat,by omega⟩
 have hN1:1≤N:=by omega
 have hN:N≤8:=by omega
 go_upto_region 6 with fail
 clear g0 g1
 have H0:Hp w w1 [pkD none 0 [],pkD none 0 []]:=(((Hp.start w).grow hB.out).nil_ 58 12).nil_ 58 12
 have hH0:=Lib.hid H0
 clear H0
 go_wp2_with fail
 go_loopw [3,4,21] (fun s3 s4 q wr=>∃ (k:Nat) (Ll Lm:List DIn) (B:List Ent) (Al:Option Addr) (cl:Nat) (Am:Option Addr) (cm:Nat),k≤N∧q=.int .i64 k∧s3=.slice Al Ll.length cl∧s4=.slice Am Lm.length cm∧Hid (doOf Ll=oneL k∧doOf Lm=manyL k∧ActsIn B Ll∧ActsIn B Lm) ∧
  Hp w wr (pkD Al cl Ll::pkD Am cm Lm::B)) (fun _ _ q _=>N-(intOf q).toNat)
 case atStart=>exact ⟨0,[],[],[],none,0,none,0,by omega,rfl,rfl,rfl,Lib.hid ⟨rfl,rfl,(fun x hx=>by cases hx),(fun x hx=>by cases hx)⟩,hH0.out⟩
 case round=>
  clear hH0
  obtain ⟨k,Ll,Lm,B,Al,cl,Am,cm,hk,rfl,rfl,rfl,hS,H⟩:=hrel
  have hll:Ll.length=k:=by rw [← doOf_length,hS.out.1];simp [oneL]
  have hlm:Lm.length=k:=by rw [← doOf_length,hS.out.2.1];simp [manyL]
  have hll8:Ll.length≤8:=by omega
  have hlm8:Lm.length≤8:=by omega
  have hllh:=Lib.hid hll;have hlmh:=Lib.hid hlm
  clear hll hlm
  by_cases hlt:k<N
  ·have i0:(0:Int)≤(k:Int):=by omega
   have i1:(k:Int)<(N:Int):=by omega
   obtain ⟨z,hz⟩:∃ z:Int,z=((2 ^ k:Nat):Int):=⟨_,rfl⟩
   have hzh:=Lib.hid hz
   have hsh:=shl_bits k (List.mem_range.2 (by omega))
   rw [← hz] at hsh
   clear hz
   have i8:(k:Int)<64:=by omega
   have hHr:=Lib.hid H
   clear H
   have H2:=hHr.out.newL wr.heap.size rfl 76 [.int .i64 4,.int .i64 (k:Int),.int .i64 0,.int .i64 1]
   have hH2:=Lib.hid H2
   clear H2 hHr
   go_wp2_with fail
   obtain ⟨w2,hw2,H2⟩:=hH2.out.name
   rw [hw2]
   obtain ⟨gb,hgb⟩:∃ gb,gb=wr.heap.size:=⟨_,rfl⟩
   rw [← hgb] at H2 ⊢
   clear hw2 hH2 hgb
   try rw [hsh]
   refine (system_do_any z [⟨4,(k:Int),0,1⟩] (some ⟨gb,0,none⟩) 1 w2).mono ?_
   rintro e w3 ⟨rfl,hb3⟩
   have H:=(H2.perm (List.perm_append_comm_assoc [_] [_,_] _)).grow hb3
   replace H:Hp w w3 (pkD Al cl Ll::pkD Am cm Lm::.box gb 76 [.int .i64 4,.int .i64 (k:Int),.int .i64 0,.int .i64 1]::B):=H
   clear H2 hb3
   simp only [doVal,sysD,List.length_cons,List.length_nil]
   obtain ⟨i0',hi0,hz0a,hz0b,hz0c⟩:=info_parts infoDo
   have HN:=H.newL w3.heap.size rfl 58 [.int .i64 5,.int .i64 0,.int .i64 0,.int .i64 0,.int .i64 0,.int .i64 0,.int .i64 0,.int .i64 z,.int .i64 0,.slice (some ⟨gb,0,none⟩) 1 1,.int .i64 0,.int .i64 0]
   have hHN:=Lib.hid HN
   have hown:=HN.owns 1 rfl
   clear H HN
   go_wp2_with (at_builtin;refine wpList_append_own_at _ rfl _ _ 23 rfl w.heap.size 58 i0' (.agg #[.int .i64 0,.int .i64 0,.int .i64 0,.int .i64 0,.int .i64 0,.int .i64 0,.int .i64 0,.int .i64 0,.int .i64 0,.slice none 0 0,.int .i64 0,.int .i64 0]) 12 112 Tryz.underlying23 hi0 hz0a hz0b hz0c rfl (by decide) _ _ _ rfl hown ⟨w3.heap.size,0,none⟩ 1 1 [.int .i64 5,.int .i64 0,.int .i64 0,.int .i64 0,.int .i64 0,.int .i64 0,.int .i64 0,.int .i64 z,.int .i64 0,.slice (some ⟨gb,0,none⟩) 1 1,.int .i64 0,.int .i64 0] rfl rfl ?c1 ?c2 ?c3 ?c4 ?c5 ?_;rotate_left 5;intro v' w8 hown8 hgrow8 _ hat8;have H8:=hHN.out.app 1 rfl hgrow8 hown8 (hat8.imp id (fun e g hg=>by rw [e] at hg;injection hg with hg;exact Nat.le_of_eq hg));obtain ⟨A4,c4,rfl,hs1,hs2⟩:=own_shape hown8)
   try any_goals (exact news_blk (hHN.out.blk 0 rfl))
   case c2=>simp [Value.oneCell']
   case c3=>unfold maxLen;omega
   case c4=>omega
   case c5=>simpa using hHN.out.bel.size
   have hH8:=Lib.hid H8
   clear H8
   have h9:=pkD_snoc (L:=Ll) (x:=⟨sysD z [⟨4,(k:Int),0,1⟩],some ⟨gb,0,none⟩,1⟩) hH8.out
   clear hH8 hHN hown
   have hHr:=Lib.hid (h9.perm (List.Perm.swap _ _ _))
   have hg1:=Lib.hid (rfl:gb=gb)
   obtain ⟨g1,hg1e⟩:∃ g1,g1=gb:=⟨_,rfl⟩
   rw [← hg1e] at hHr
   obtain ⟨A5,hA5⟩:∃ A5,A5=A4:=⟨_,rfl⟩
   obtain ⟨c5,hc5⟩:∃ c5,c5=c4:=⟨_,rfl⟩
   rw [← hA5,← hc5] at hHr ⊢
   obtain ⟨w5,hw5⟩:∃ w5:World,w5=w8:=⟨_,rfl⟩
   rw [← hw5] at hHr ⊢
   clear h9 hg1 hg1e hA5 hc5 hw5 hs1 hs2 hsh
   have H2:=hHr.out.newL w5.heap.size rfl 76 [.int .i64 4,.int .i64 0,.int .i64 0,.int .i64 1]
   have hH2:=Lib.hid H2
   clear H2 hHr
   go_wp2_with fail
   obtain ⟨w2,hw2,H2⟩:=hH2.out.name
   rw [hw2]
   obtain ⟨gb,hgb⟩:∃ gb,gb=w5.heap.size:=⟨_,rfl⟩
   rw [← hgb] at H2 ⊢
   clear hw2 hH2 hgb
   refine (system_do_any 1 [⟨4,0,0,1⟩] (some ⟨gb,0,none⟩) 1 w2).mono ?_
   rintro e w3 ⟨rfl,hb3⟩
   have H:=(H2.perm (List.perm_append_comm_assoc [_] [_,_] _)).grow hb3
   replace H:Hp w w3 (pkD Am cm Lm::pkD A5 c5 (Ll++[(⟨sysD z [⟨4,(k:Int),0,1⟩],some ⟨g1,0,none⟩,1⟩:DIn)])::.box gb 76 [.int .i64 4,.int .i64 0,.int .i64 0,.int .i64 1]::.box g1 76 [.int .i64 4,.int .i64 (k:Int),.int .i64 0,.int .i64 1]::B):=H
   clear H2 hb3
   simp only [doVal,sysD,List.length_cons,List.length_nil]
   obtain ⟨i0',hi0,hz0a,hz0b,hz0c⟩:=info_parts infoDo
   have HN:=H.newL w3.heap.size rfl 58 [.int .i64 5,.int .i64 0,.int .i64 0,.int .i64 0,.int .i64 0,.int .i64 0,.int .i64 0,.int .i64 1,.int .i64 0,.slice (some ⟨gb,0,none⟩) 1 1,.int .i64 0,.int .i64 0]
   have hHN:=Lib.hid HN
   have hown:=HN.owns 1 rfl
   clear H HN
   go_wp2_with (at_builtin;refine wpList_append_own_at _ rfl _ _ 23 rfl w.heap.size 58 i0' (.agg #[.int .i64 0,.int .i64 0,.int .i64 0,.int .i64 0,.int .i64 0,.int .i64 0,.int .i64 0,.int .i64 0,.int .i64 0,.slice none 0 0,.int .i64 0,.int .i64 0]) 12 112 Tryz.underlying23 hi0 hz0a hz0b hz0c rfl (by decide) _ _ _ rfl hown ⟨w3.heap.size,0,none⟩ 1 1 [.int .i64 5,.int .i64 0,.int .i64 0,.int .i64 0,.int .i64 0,.int .i64 0,.int .i64 0,.int .i64 1,.int .i64 0,.slice (some ⟨gb,0,none⟩) 1 1,.int .i64 0,.int .i64 0] rfl rfl ?d1 ?d2 ?d3 ?d4 ?d5 ?_;rotate_left 5;intro v' w8 hown8 hgrow8 _ hat8;have H8:=hHN.out.app 1 rfl hgrow8 hown8 (hat8.imp id (fun e g hg=>by rw [e] at hg;injection hg with hg;exact Nat.le_of_eq hg));obtain ⟨A4,c4,rfl,hs1,hs2⟩:=own_shape hown8)
   try any_goals (exact news_blk (hHN.out.blk 0 rfl))
   case d2=>simp [Value.oneCell']
   case d3=>unfold maxLen;omega
   case d4=>omega
   case d5=>simpa using hHN.out.bel.size
   have hH8:=Lib.hid H8
   clear H8
   have h9:=pkD_snoc (L:=Lm) (x:=⟨sysD 1 [⟨4,0,0,1⟩],some ⟨gb,0,none⟩,1⟩) hH8.out
   clear hH8 hHN hown
   have h10:=Lib.hid (h9.perm (List.Perm.swap _ _ _))
   clear h9
   go_roundw
   case rel=>
    have hS0:=hS.out
    refine ⟨k+1,Ll++[(⟨sysD z [⟨4,(k:Int),0,1⟩],some ⟨g1,0,none⟩,1⟩:DIn)],Lm++[(⟨sysD 1 [⟨4,0,0,1⟩],some ⟨gb,0,none⟩,1⟩:DIn)],_,A5,c5,A4,c4,by omega,by go_num,by simp,by simp,Lib.hid ⟨?_,?_,?_,?_⟩,h10.out⟩
    ·rw [doOf_append,hS0.1,oneL_succ,← hzh.out];rfl
    ·rw [doOf_append,hS0.2.1,manyL_succ];rfl
    ·exact (hS0.2.2.1.more (fun p hp=>by simp [hp])).snoc (.inr ⟨g1,rfl,List.mem_cons_of_mem _ (List.mem_cons_self ..)⟩)
    ·exact (hS0.2.2.2.more (fun p hp=>by simp [hp])).snoc (.inr ⟨gb,rfl,List.mem_cons_self ..⟩)
   case measure=>simp [intOf];omega
  ·obtain rfl:k=N:=by omega
   obtain ⟨f1,a1,f2,a2⟩:=bat_ok hN1 hN
   have hHr:=Lib.hid H
   clear H
   go_wp2_with fail
   refine (all_any wr).mono ?_
   rintro e w2 ⟨rfl,rfl⟩
   have H5:=(hHr.out.newL wr.heap.size rfl 55 [.int .i64 255,.int .i64 255,.bool true]).perm (List.perm_append_comm_assoc [_] [_,_] _)
   obtain ⟨w2,hw2,H⟩:=H5.name
   rw [hw2]
   obtain ⟨gm,hgm⟩:∃ gm,gm=wr.heap.size:=⟨_,rfl⟩
   rw [← hgm] at H ⊢
   replace H:Hp w w2 (pkD Al cl Ll::pkD Am cm Lm::.box gm 55 [.int .i64 255,.int .i64 255,.bool true]::B):=H
   clear H5 hw2 hgm hHr
   obtain ⟨i0',hi0,hz0a,hz0b,hz0c⟩:=info_parts infoDo
   have HN:=H.newL w2.heap.size rfl 58 [.int .i64 6,.int .i64 0,.int .i64 0,.int .i64 0,.int .i64 0,.int .i64 0,.int .i64 0,.int .i64 0,.int .i64 0,.slice none 0 0,.int .i64 0,.int .i64 0]
   have hHN:=Lib.hid HN
   have hown:=HN.owns 1 rfl
   clear H HN
   go_wp2_with (at_builtin;refine wpList_append_own_at _ rfl _ _ 23 rfl w.heap.size 58 i0' (.agg #[.int .i64 0,.int .i64 0,.int .i64 0,.int .i64 0,.int .i64 0,.int .i64 0,.int .i64 0,.int .i64 0,.int .i64 0,.slice none 0 0,.int .i64 0,.int .i64 0]) 12 112 Tryz.underlying23 hi0 hz0a hz0b hz0c rfl (by decide) _ _ _ rfl hown ⟨w2.heap.size,0,none⟩ 1 1 [.int .i64 6,.int .i64 0,.int .i64 0,.int .i64 0,.int .i64 0,.int .i64 0,.int .i64 0,.int .i64 0,.int .i64 0,.slice none 0 0,.int .i64 0,.int .i64 0] rfl rfl ?f1 ?f2 ?f3 ?f4 ?f5 ?_;rotate_left 5;intro v' w8 hown8 hgrow8 _ hat8;have H8:=hHN.out.app 1 rfl hgrow8 hown8 (hat8.imp id (fun e g hg=>by rw [e] at hg;injection hg with hg;exact Nat.le_of_eq hg));obtain ⟨A4,c4,rfl,hs1,hs2⟩:=own_shape hown8)
   try any_goals (exact news_blk (hHN.out.blk 0 rfl))
   case f2=>simp [Value.oneCell']
   case f3=>unfold maxLen;omega
   case f4=>omega
   case f5=>simpa using hHN.out.bel.size
   have hH8:=Lib.hid H8
   clear H8
   have h9:=pkD_snoc (L:=Ll) (x:=tickI) hH8.out
   obtain ⟨w3,hw3⟩:∃ w3:World,w3=w8:=⟨_,rfl⟩
   rw [← hw3] at h9 ⊢
   clear hw3 hH8 hHN hown
   have hD:RdD w3 w3.heap.size A4 (Ll++[tickI]):=pkD_rd h9 0 rfl (ActsIn.rd h9 (B:=B) (hS.out.2.2.1.snoc (.inl ⟨rfl,rfl,rfl⟩)) (fun p hp=>by simp [hp]))
   have hM:RdM w3 w3.heap.size (some ⟨gm,0,none⟩) allMods:=rdM_blk (h9.blk 2 rfl)
   have hpl:=Lib.hid (hplay_any allMods (some ⟨gm,0,none⟩) 1 (by decide) (fun h=>by cases h) (Ll++[tickI]) A4 c4 (by rw [List.length_append,hllh.out];unfold maxLen;simp;omega) (ActsIn.cap (B:=B) (hS.out.2.2.1.snoc (.inl ⟨rfl,rfl,rfl⟩))) w3 hM hD)
   rw [doOf_append,hS.out.1,List.length_append,List.length_singleton] at hpl
   have hH9:=Lib.hid ((h9.drop1 0).drop1 1)
   clear h9 hD hM
   go_wp2_with fail
   refine hpl.out.mono ?_
   rintro e w4 ⟨s,La,A,c,rfl,_,hLa,HP⟩
   replace hLa:La.map (·.a)=(playV allMods (oneL k++[tickD])).a:=hLa
   have f1':(playV allMods (oneL k++doOf [tickI])).f=(0,0):=f1
   rw [f1']
   have HP1:Hp w3 w4 [pkA A c La]:=HP.sub (.cons_cons _ (List.nil_sublist _))
   have H6:Hp w w4 (pkD Am cm Lm::pkA A c La::B):=(hH9.out.join HP1).perm (.cons _ List.perm_append_comm)
   have H7:=(H6.newL w4.heap.size rfl 30 [.slice s.A s.l.length s.c,.slice s.Ag s.gens.length s.cg,.slice s.Am s.mods.length s.cm,.slice s.As s.sys.length s.cs]).newL (w4.heap.size+1) (by simp) 34 [.int .i64 0,.int .i64 0]
   have H8':=H7.perm (List.perm_append_comm_assoc [_,_] [_] _)
   replace H8':Hp w _ (pkD Am cm Lm::.box (w4.heap.size+1) 34 [.int .i64 0,.int .i64 0]::.box w4.heap.size 30 [.slice s.A s.l.length s.c,.slice s.Ag s.gens.length s.cg,.slice s.Am s.mods.length s.cm,.slice s.As s.sys.length s.cs]::pkA A c La::B):=H8'
   have hH8:=Lib.hid H8'
   have hLah:=Lib.hid hLa
   clear H6 H7 H8' HP HP1 hLa hpl f1 f1' hH9
   unfold hoVal
   dsimp only
   go_upto_region 13 with fail
   obtain ⟨w5,hw5,H8⟩:=hH8.out.name
   rw [hw5]
   obtain ⟨g8,hg8⟩:∃ g8,g8=w4.heap.size+1:=⟨_,rfl⟩
   rw [← hg8] at H8 ⊢
   generalize w4.heap.size=g6 at *
   obtain ⟨HB1,hHB1⟩:∃ HB1,HB1=Ent.box g6 30 [.slice s.A s.l.length s.c,.slice s.Ag s.gens.length s.cg,.slice s.Am s.mods.length s.cm,.slice s.As s.sys.length s.cs]:=⟨_,rfl⟩
   rw [← hHB1] at H8
   have hHr:=Lib.hid H8
   clear hw5 hH8 H8 hHB1 hg8
   go_wp2_with fail
   refine (all_any w5).mono ?_
   rintro e w6 ⟨rfl,rfl⟩
   have H5:=(hHr.out.newL w5.heap.size rfl 55 [.int .i64 255,.int .i64 255,.bool true]).perm (List.Perm.swap _ _ _)
   obtain ⟨w6,hw6,H⟩:=H5.name
   rw [hw6]
   obtain ⟨gm2,hgm2⟩:∃ gm2,gm2=w5.heap.size:=⟨_,rfl⟩
   rw [← hgm2] at H ⊢
   clear H5 hw6 hgm2 hHr
   obtain ⟨i0',hi0,hz0a,hz0b,hz0c⟩:=info_parts infoDo
   have HN:=H.newL w6.heap.size rfl 58 [.int .i64 6,.int .i64 0,.int .i64 0,.int .i64 0,.int .i64 0,.int .i64 0,.int .i64 0,.int .i64 0,.int .i64 0,.slice none 0 0,.int .i64 0,.int .i64 0]
   have hHN:=Lib.hid HN
   have hown:=HN.owns 1 rfl
   clear H HN
   go_wp2_with (at_builtin;refine wpList_append_own_at _ rfl _ _ 23 rfl w.heap.size 58 i0' (.agg #[.int .i64 0,.int .i64 0,.int .i64 0,.int .i64 0,.int .i64 0,.int .i64 0,.int .i64 0,.int .i64 0,.int .i64 0,.slice none 0 0,.int .i64 0,.int .i64 0]) 12 112 Tryz.underlying23 hi0 hz0a hz0b hz0c rfl (by decide) _ _ _ rfl hown ⟨w6.heap.size,0,none⟩ 1 1 [.int .i64 6,.int .i64 0,.int .i64 0,.int .i64 0,.int .i64 0,.int .i64 0,.int .i64 0,.int .i64 0,.int .i64 0,.slice none 0 0,.int .i64 0,.int .i64 0] rfl rfl ?g1 ?g2 ?g3 ?g4 ?g5 ?_;rotate_left 5;intro v' w8 hown8 hgrow8 _ hat8;have H8:=hHN.out.app 1 rfl hgrow8 hown8 (hat8.imp id (fun e g hg=>by rw [e] at hg;injection hg with hg;exact Nat.le_of_eq hg));obtain ⟨A4,c4,rfl,hs1,hs2⟩:=own_shape hown8)
   try any_goals (exact news_blk (hHN.out.blk 0 rfl))
   case g2=>simp [Value.oneCell']
   case g3=>unfold maxLen;omega
   case g4=>omega
   case g5=>simpa using hHN.out.bel.size
   have hH8:=Lib.hid H8
   clear H8
   have h9:=pkD_snoc (L:=Lm) (x:=tickI) hH8.out
   obtain ⟨w7,hw7⟩:∃ w7:World,w7=w8:=⟨_,rfl⟩
   rw [← hw7] at h9 ⊢
   clear hw7 hH8 hHN hown
   have hD:RdD w7 w7.heap.size A4 (Lm++[tickI]):=pkD_rd h9 0 rfl (ActsIn.rd h9 (B:=B) (hS.out.2.2.2.snoc (.inl ⟨rfl,rfl,rfl⟩)) (fun p hp=>by simp [hp]))
   have hM:RdM w7 w7.heap.size (some ⟨gm2,0,none⟩) allMods:=rdM_blk (h9.blk 1 rfl)
   have hpl:=Lib.hid (hplay_any allMods (some ⟨gm2,0,none⟩) 1 (by decide) (fun h=>by cases h) (Lm++[tickI]) A4 c4 (by rw [List.length_append,hlmh.out];unfold maxLen;simp;omega) (ActsIn.cap (B:=B) (hS.out.2.2.2.snoc (.inl ⟨rfl,rfl,rfl⟩))) w7 hM hD)
   rw [doOf_append,hS.out.2.1,List.length_append,List.length_singleton] at hpl
   have hH9:=Lib.hid h9
   clear h9 hD hM
   go_wp2_with fail
   refine hpl.out.mono ?_
   rintro e w9 ⟨s2,Lb,A2,cb,rfl,_,hLb,HP⟩
   replace hLb:Lb.map (·.a)=(playV allMods (manyL k++[tickD])).a:=hLb
   have f2':(playV allMods (manyL k++doOf [tickI])).f=(0,0):=f2
   rw [f2']
   have HP1:Hp w7 w9 [pkA A2 cb Lb]:=HP.sub (.cons_cons _ (List.nil_sublist _))
   have H6:=(hH9.out.join HP1).perm List.perm_append_comm
   replace H6:Hp w w9 (pkA A2 cb Lb::pkD A4 c4 (Lm++[tickI])::.box gm2 55 [.int .i64 255,.int .i64 255,.bool true]::.box g8 34 [.int .i64 0,.int .i64 0]::HB1::pkA A c La::B):=H6
   have H7:=(H6.newL w9.heap.size rfl 30 [.slice s2.A s2.l.length s2.c,.slice s2.Ag s2.gens.length s2.cg,.slice s2.Am s2.mods.length s2.cm,.slice s2.As s2.sys.length s2.cs]).newL (w9.heap.size+1) (by simp) 34 [.int .i64 0,.int .i64 0]
   have hH7:=Lib.hid H7
   have hLbh:=Lib.hid hLb
   clear H6 H7 HP HP1 hLb hpl f2 f2' hH9
   unfold hoVal
   dsimp only
   go_upto_region 14 with fail
   obtain ⟨w10,hw10,H8⟩:=hH7.out.name
   rw [hw10]
   have ff1:=H8.cell 5 0 rfl rfl;have ff2:=H8.cell 0 0 rfl rfl
   obtain ⟨hi1,b,off,rfl,hbl,y1⟩:=ans_at H8 7 rfl hLah.out a1
   obtain ⟨hi2,b2,off2,rfl,hbl2,y2⟩:=ans_at H8 2 rfl hLbh.out a2
   have hB8:=Lib.hid H8.bel
   have q0:(0:Int)≤(k:Int):=by omega
   have q1:(k:Int)<(La.length:Int):=by omega
   have q2:(k:Int)<(Lb.length:Int):=by omega
   clear hw10 hH7 H8 hLah hLbh a1 a2 hi1 hi2 hbl hbl2
   generalize La.length=nl1 at *
   generalize Lb.length=nl2 at *
   go_wp2_with fail
   go_ret
   exact ⟨rfl,hB8.out⟩
end Go.Proofs.YtefdblaolmckmacGreat
