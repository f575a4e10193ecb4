/- The walk of TopBlind. -/
import Derived.Test.YtefdblaolmckmabGreatBSpecIToSpecK
import Derived.Test.YtefdblaolmckmabGreatBInsIToMx
set_option linter.unusedVariables false
set_option linter.unusedSimpArgs false
namespace Go.Proofs.YtefdblaolmckmabGreat
open Go.RowKit
open Brood
def tb1 (F T:Nat) (zf:Int) (g:Nat):DIn:=⟨sysD zf [⟨2,(T:Int),(F:Int),0⟩],some ⟨g,0,none⟩,1⟩
def tb2 (zf:Int) (g:Nat):DIn:=⟨sysD zf [⟨6,0,0,0⟩],some ⟨g,0,none⟩,1⟩
def tb3 (zt:Int) (g:Nat):DIn:=⟨sysD 0 [⟨7,zt,0,0⟩],some ⟨g,0,none⟩,1⟩
def actB (g:Nat) (a:BAct):Ent:=.box g 35 (actCells a)
def hoB (g:Nat) (cs:List Value):Ent:=.box g 44 cs
def faB (g:Nat):Ent:=.box g 48 [.int .i64 0,.int .i64 0]
def dosB (g:Nat) (l:List DIn):Ent:=.box g 31 (l.flatMap doCells)
def ansP (errs:List Int) (E:List Ent) (v:Value):Prop:=∃ (A:Option Addr) (c:Nat) (L:List AnsIn),v=.slice A L.length c∧L.map (fun x=>x.a.err)=errs∧pkA A c L∈E
def FB (F T:Nat) (zf zt:Int) (errs:List Int) (E:List Ent) (k:Nat) (v:Value):Prop:=
 if k=6 then ∃ g,v=.slice (some ⟨g,0,none⟩) 1 1∧actB g ⟨2,(T:Int),(F:Int),0⟩∈E
 else if k=11 then ∃ g,v=.slice (some ⟨g,0,none⟩) 1 1∧actB g ⟨6,0,0,0⟩∈E
 else if k=16 then ∃ g,v=.slice (some ⟨g,0,none⟩) 1 1∧actB g ⟨7,zt,0,0⟩∈E
 else if k=7 then ∃ g,v=doVal (tb1 F T zf g)∧actB g ⟨2,(T:Int),(F:Int),0⟩∈E
 else if k=12 then ∃ g,v=doVal (tb2 zf g)∧actB g ⟨6,0,0,0⟩∈E
 else if k=17 then ∃ g,v=doVal (tb3 zt g)∧actB g ⟨7,zt,0,0⟩∈E
 else if k=18 then ∃ g g1 g2 g3,v=.slice (some ⟨g,0,none⟩) 3 3∧dosB g [tb1 F T zf g1,tb2 zf g2,tb3 zt g3]∈E∧actB g1 ⟨2,(T:Int),(F:Int),0⟩∈E∧actB g2 ⟨6,0,0,0⟩∈E∧actB g3 ⟨7,zt,0,0⟩∈E
 else if k=19∨k=20 then ∃ s u,v=.tuple #[hoVal s,u,.agg #[.int .i64 0,.int .i64 0]]∧ansP errs E u
 else if k=21 then ∃ s,v=hoVal s
 else if k=22∨k=27 then ansP errs E v
 else if k=23 then v=.agg #[.int .i64 0,.int .i64 0]
 else if k=24 then ∃ g cs,v=.pointer (some ⟨g,0,none⟩)∧cs.length=4∧hoB g cs∈E
 else if k=25 then ∃ g,v=.pointer (some ⟨g,0,none⟩)∧faB g∈E
 else True
structure TbRel (E E':List Ent):Prop where
 a:∀ p∈E,(∀ g cs,p≠hoB g cs)→p∈E'
 h:∀ g cs,hoB g cs∈E→cs.length=4→∃ cs',cs'.length=4∧hoB g cs'∈E'
theorem TbRel.sub {E E':List Ent} (h:∀ p∈E,p∈E'):TbRel E E':=⟨fun p hp _=>h p hp,fun g cs hg hl=>⟨cs,hl,h _ hg⟩⟩
theorem act_ne (g:Nat) (a:BAct):∀ g' cs,actB g a≠hoB g' cs:=by
 intro g' cs e
 unfold actB hoB at e
 injection e with _ e _
 revert e
 decide
theorem dos_ne (g:Nat) (l:List DIn):∀ g' cs,dosB g l≠hoB g' cs:=by
 intro g' cs e
 unfold dosB hoB at e
 injection e with _ e _
 revert e
 decide
theorem fa_ne (g:Nat):∀ g' cs,faB g≠hoB g' cs:=by
 intro g' cs e
 unfold faB hoB at e
 injection e with _ e _
 revert e
 decide
theorem pk_ne (A:Option Addr) (c:Nat) (L:List AnsIn):∀ g' cs,pkA A c L≠hoB g' cs:=by
 intro g' cs e
 unfold pkA hoB at e
 cases e
section
variable {F T:Nat} {zf zt:Int} {errs:List Int} {E E':List Ent}
theorem ansP.keep {v:Value} (hr:TbRel E E') (h:ansP errs E v):ansP errs E' v:=by
 obtain ⟨A,c,L,h1,h2,h3⟩:=h
 exact ⟨A,c,L,h1,h2,hr.a _ h3 (pk_ne _ _ _)⟩
theorem fb_keep (hr:TbRel E E') {k:Nat} {v:Value} (h:FB F T zf zt errs E k v):FB F T zf zt errs E' k v:=by
 unfold FB at h ⊢
 by_cases h6:k=6
 ·rw [if_pos h6] at h ⊢
  obtain ⟨g,h1,h2⟩:=h
  exact ⟨g,h1,hr.a _ h2 (act_ne _ _)⟩
 rw [if_neg h6] at h ⊢
 by_cases h11:k=11
 ·rw [if_pos h11] at h ⊢
  obtain ⟨g,h1,h2⟩:=h
  exact ⟨g,h1,hr.a _ h2 (act_ne _ _)⟩
 rw [if_neg h11] at h ⊢
 by_cases h16:k=16
 ·rw [if_pos h16] at h ⊢
  obtain ⟨g,h1,h2⟩:=h
  exact ⟨g,h1,hr.a _ h2 (act_ne _ _)⟩
 rw [if_neg h16] at h ⊢
 by_cases h7:k=7
 ·rw [if_pos h7] at h ⊢
  obtain ⟨g,h1,h2⟩:=h
  exact ⟨g,h1,hr.a _ h2 (act_ne _ _)⟩
 rw [if_neg h7] at h ⊢
 by_cases h12:k=12
 ·rw [if_pos h12] at h ⊢
  obtain ⟨g,h1,h2⟩:=h
  exact ⟨g,h1,hr.a _ h2 (act_ne _ _)⟩
 rw [if_neg h12] at h ⊢
 by_cases h17:k=17
 ·rw [if_pos h17] at h ⊢
  obtain ⟨g,h1,h2⟩:=h
  exact ⟨g,h1,hr.a _ h2 (act_ne _ _)⟩
 rw [if_neg h17] at h ⊢
 by_cases h18:k=18
 ·rw [if_pos h18] at h ⊢
  obtain ⟨g,g1,g2,g3,h1,h2,h3,h4,h5⟩:=h
  exact ⟨g,g1,g2,g3,h1,hr.a _ h2 (dos_ne _ _),hr.a _ h3 (act_ne _ _),hr.a _ h4 (act_ne _ _),hr.a _ h5 (act_ne _ _)⟩
 rw [if_neg h18] at h ⊢
 by_cases h19:k=19∨k=20
 ·rw [if_pos h19] at h ⊢
  obtain ⟨s,u,h1,h2⟩:=h
  exact ⟨s,u,h1,h2.keep hr⟩
 rw [if_neg h19] at h ⊢
 by_cases h21:k=21
 ·rw [if_pos h21] at h ⊢
  exact h
 rw [if_neg h21] at h ⊢
 by_cases h22:k=22∨k=27
 ·rw [if_pos h22] at h ⊢
  exact h.keep hr
 rw [if_neg h22] at h ⊢
 by_cases h23:k=23
 ·rw [if_pos h23] at h ⊢
  exact h
 rw [if_neg h23] at h ⊢
 by_cases h24:k=24
 ·rw [if_pos h24] at h ⊢
  obtain ⟨g,cs,h1,h2,h3⟩:=h
  obtain ⟨cs',h4,h5⟩:=hr.h g cs h3 h2
  exact ⟨g,cs',h1,h4,h5⟩
 rw [if_neg h24] at h ⊢
 by_cases h25:k=25
 ·rw [if_pos h25] at h ⊢
  obtain ⟨g,h1,h2⟩:=h
  exact ⟨g,h1,hr.a _ h2 (fa_ne _)⟩
 rw [if_neg h25]
 trivial
def TbJ (w0:World) (F T:Nat) (zf zt:Int) (errs:List Int) (m:Ent) (l:Nat→Bool) (vs:Nat→Value) (w':World):Prop:=
 ∃ E,Hp w0 w' E∧m∈E∧∀ k,l k=true→FB F T zf zt errs E k (vs k)
variable {w0 w' w'':World} {m:Ent} {l:Nat→Bool} {vs:Nat→Value}
theorem tb_step (hE:Hp w0 w'' E') (hm:m∈E') (hr:TbRel E E') (hF:∀ k,l k=true→FB F T zf zt errs E k (vs k)) {i:Nat} {v:Value} (hi:FB F T zf zt errs E' i v):TbJ w0 F T zf zt errs m (upd l i true) (upd vs i v) w'':=by
 refine ⟨E',hE,hm,fun k hk=>?_⟩
 by_cases e:k=i
 ·subst e
  rw [upd_same]
  exact hi
 ·rw [upd_ne _ _ e] at hk ⊢
  exact fb_keep hr (hF k hk)
theorem tb_same (h:TbJ w0 F T zf zt errs m l vs w') {i:Nat} {v:Value} (hi:∀ E,(∀ k,l k=true→FB F T zf zt errs E k (vs k))→FB F T zf zt errs E i v):TbJ w0 F T zf zt errs m (upd l i true) (upd vs i v) w':=by
 obtain ⟨E,hE,hm,hF⟩:=h
 exact tb_step hE hm (.sub fun p hp=>hp) hF (hi E hF)
theorem mem_set_of {α:Type} {l:List α} {k:Nat} {a b:α} (hk:l[k]?=some a):b∈l.set k b:=by
 have hlt:k<l.length:=(List.getElem?_eq_some_iff.1 hk).1
 exact List.mem_of_getElem? (i:=k) (by rw [List.getElem?_set_self hlt])
theorem mem_set_other {α:Type} {l:List α} {k:Nat} {a b p:α} (hk:l[k]?=some a) (hp:p∈l) (hne:p≠a):p∈l.set k b:=by
 obtain ⟨j,hj⟩:=List.getElem?_of_mem hp
 have hjk:k≠j:=by
  intro e
  subst e
  rw [hk] at hj
  exact hne (Option.some.inj hj).symm
 exact List.mem_of_getElem? (i:=j) (by rw [List.getElem?_set_ne hjk];exact hj)
theorem tb_house (hE:Hp w0 w' E) {g:Nat} {cs:List Value} (hg:hoB g cs∈E) (hl:cs.length=4) (a b c d:Value):∃ E',Hp w0 ((((w'.setCell ⟨g,0,none⟩ a).setCell ⟨g,1,none⟩ b).setCell ⟨g,2,none⟩ c).setCell ⟨g,3,none⟩ d) E'∧TbRel E E':=by
 obtain ⟨k,hk⟩:=List.getElem?_of_mem hg
 have hlt:k<E.length:=(List.getElem?_eq_some_iff.1 hk).1
 have g1:∀ (u:Ent),(E.set k u)[k]?=some u:=fun u=>List.getElem?_set_self hlt
 have H1:=hE.set k 0 a hk
 have H2:=H1.set k 1 b (g1 _)
 rw [List.set_set] at H2
 have H3:=H2.set k 2 c (g1 _)
 rw [List.set_set] at H3
 have H4:=H3.set k 3 d (g1 _)
 rw [List.set_set] at H4
 refine ⟨_,H4,fun p hp hne=>mem_set_other hk hp (hne g cs),fun g' cs' hg' hl'=>?_⟩
 by_cases e:hoB g' cs'=hoB g cs
 ·unfold hoB at e
  injection e with e1 _ _
  subst e1
  exact ⟨_,by simp [hl],mem_set_of hk⟩
 ·exact ⟨cs',hl',mem_set_other hk hg' e⟩
theorem fault_same {w':World} (hE:Hp w0 w' E) {g:Nat} (hg:faB g∈E):∃ E',Hp w0 ((w'.setCell ⟨g,0,none⟩ (.int .i64 0)).setCell ⟨g,1,none⟩ (.int .i64 0)) E'∧∀ p∈E,p∈E':=by
 obtain ⟨k,hk⟩:=List.getElem?_of_mem hg
 have hlt:k<E.length:=(List.getElem?_eq_some_iff.1 hk).1
 have g1:∀ (u:Ent),(E.set k u)[k]?=some u:=fun u=>List.getElem?_set_self hlt
 have H1:=hE.set k 0 (.int .i64 0) hk
 have H2:=H1.set k 1 (.int .i64 0) (g1 _)
 rw [List.set_set] at H2
 refine ⟨_,H2,fun p hp=>?_⟩
 by_cases e:p=faB g
 ·subst e
  exact mem_set_of hk
 ·exact mem_set_other hk hp e
end
theorem shl_bits8:∀ k∈List.range 8,IntKind.i64.wrap ((2:Int) ^ k)=((2 ^ k:Nat):Int):=by decide +kernel
theorem tb_bit {r:Int} {F:Nat} (hr:0≤r∧r≤255) (h:F<8):(bits .and .i64 (r / 2 ^ F) 1==1)=r.toNat.testBit F:=by
 have:=bits_has r.toNat (by omega) F h
 rw [Int.toNat_of_nonneg hr.1] at this
 exact this
theorem shl_one {F:Nat} (h:F<8):IntKind.i64.wrap ((2:Int) ^ F)=((2 ^ F:Nat):Int):=shl_bits8 F (List.mem_range.2 h)
set_option maxRecDepth 20000 in
set_option maxHeartbeats 12800000 in
theorem topBlind_any (r v:Int) (life:Bool) (f t:Int) (w:World):Calls Tryz.prog 4 #[.int .i64 r,.int .i64 v,.bool life,.int .i64 f,.int .i64 t] w fun e w'=>e=.returned (.bool true)∧Below w.heap.size w w':=by
 go_enter Tryz.func4,Tryz.ntmps4
 go_wp2_with fail
 refine (alivet_any w).mono ?_
 rintro e w1 ⟨rfl,hb⟩
 have hB:=Lib.hid hb
 clear hb
 by_cases g0:r<0
 ·go_wp2_with fail
  go_ret
  exact ⟨rfl,hB.out⟩
 by_cases g1:255<r
 ·go_wp2_with fail
  go_ret
  exact ⟨rfl,hB.out⟩
 by_cases g2:v<0
 ·go_wp2_with fail
  go_ret
  exact ⟨rfl,hB.out⟩
 by_cases g3:255<v
 ·go_wp2_with fail
  go_ret
  exact ⟨rfl,hB.out⟩
 by_cases g4:f<0
 ·go_wp2_with fail
  go_ret
  exact ⟨rfl,hB.out⟩
 by_cases g5:8≤f
 ·go_wp2_with fail
  go_ret
  exact ⟨rfl,hB.out⟩
 by_cases g6:t<0
 ·go_wp2_with fail
  go_ret
  exact ⟨rfl,hB.out⟩
 by_cases g7:8≤t
 ·go_wp2_with fail
  go_ret
  exact ⟨rfl,hB.out⟩
 go_upto_region 3 with fail
 go_cut [51] (fun s wx=>s=.bool false∧w1=wx)
 case first=>
  go_wp2_with fail
  go_meet
  exact ⟨by simp [g0,g1,g2,g3,g4,g5,g6,g7],rfl⟩
 case rest=>
 rename_i Kc hKc
 refine hKc _ _ ?_
 clear hKc
 obtain ⟨rfl,rfl⟩:=hcut
 obtain ⟨F,rfl⟩:∃ F:Nat,f=(F:Int):=⟨f.toNat,by omega⟩
 obtain ⟨T,rfl⟩:∃ T:Nat,t=(T:Int):=⟨t.toNat,by omega⟩
 have hF8:F<8:=by omega
 have hT8:T<8:=by omega
 have hbl:=blind_is (r:=r) (w:=v) (life:=life) (f:=F) (t:=T) (by omega) (by omega) hF8 hT8
 obtain ⟨zf,hzf⟩:∃ z:Int,z=((2 ^ F:Nat):Int):=⟨_,rfl⟩
 obtain ⟨zt,hzt⟩:∃ z:Int,z=((2 ^ T:Nat):Int):=⟨_,rfl⟩
 have sf:=shl_one hF8
 have st:=shl_one hT8
 rw [← hzf] at sf
 rw [← hzt] at st
 have hb1:=Lib.hid (tb_bit (r:=r) (F:=F) (by omega) hF8)
 have hb2:=Lib.hid (tb_bit (r:=v) (F:=T) (by omega) hT8)
 have i0:(0:Int)≤(F:Int):=by omega
 have i1:(F:Int)<64:=by omega
 have i2:(0:Int)≤(T:Int):=by omega
 have i3:(T:Int)<64:=by omega
 have hdos:Hid (∀ g1 g2 g3,doOf [tb1 F T zf g1,tb2 zf g2,tb3 zt g3]=blindL F T):=Lib.hid (fun g1 g2 g3=>by rw [hzf,hzt];rfl)
 clear g0 g1 g2 g3 g4 g5 g6 g7 hzf hzt
 have H0:=((Hp.start w).grow hB.out).newL w1.heap.size rfl 56 [.int .i64 r,.int .i64 v,.bool life]
 have hH0:=Lib.hid H0
 have hblh:=Lib.hid hbl
 clear H0 hbl hB
 go_upto_region 6 with fail
 obtain ⟨w2,hw2,H0⟩:=hH0.out.name
 rw [hw2]
 obtain ⟨gm,hgm⟩:∃ gm,gm=w1.heap.size:=⟨_,rfl⟩
 rw [← hgm] at H0 ⊢
 have hH:=Lib.hid H0
 clear hw2 hH0 hgm H0
 refine wp_region_mx mixed (by kernel_rfl) (by kernel_rfl) (fun q=>!(q==6) && !(q==7) && !(q==11) && !(q==12) && !(q==16) && !(q==17) && !(q==18) && !(q==19) && !(q==20) && !(q==21) && !(q==22) && !(q==23) && !(q==24) && !(q==25) && !(q==26) && !(q==27) && !(q==28)) (tab [.slice (some ⟨gm,0,none⟩) 1 1,.int .i64 (F:Int),.int .i64 zf,.int .i64 (T:Int),.int .i64 (F:Int),.agg #[.int .i64 2,.int .i64 (T:Int),.int .i64 (F:Int),.int .i64 0],undef,undef,.int .i64 (F:Int),.int .i64 zf,.agg #[.int .i64 6,.int .i64 0,.int .i64 0,.int .i64 0],undef,undef,.int .i64 (T:Int),.int .i64 zt,.agg #[.int .i64 7,.int .i64 zt,.int .i64 0,.int .i64 0],undef,undef,undef,undef,undef,undef,undef,undef,undef,undef,undef,undef,undef]) (fun l vs w'=>TbJ w F T zf zt [if (r.toNat.testBit F && v.toNat.testBit T)=true then 0 else 8,if (r.toNat.testBit F && life)=true then 0 else 8,if (v.toNat.testBit T && life)=true then 0 else 8] (.box gm 56 [.int .i64 r,.int .i64 v,.bool life]) l vs w') ?_ ?_ ?_
 ·exact ⟨_,hH.out.drew,List.mem_singleton.2 rfl,fun k h=>by cases h⟩
 ·intro vs w3 l hJ hl
  rw [putAll_tab _ _ _ _ [(some 58,.slice (some ⟨gm,0,none⟩) 1 1),(some 59,.int .i64 (F:Int)),(some 60,.int .i64 zf),(some 61,.int .i64 (T:Int)),(some 62,.int .i64 (F:Int)),(some 63,.agg #[.int .i64 2,.int .i64 (T:Int),.int .i64 (F:Int),.int .i64 0]),(some 64,vs 6),(some 65,vs 7),(some 66,.int .i64 (F:Int)),(some 67,.int .i64 zf),(some 68,.agg #[.int .i64 6,.int .i64 0,.int .i64 0,.int .i64 0]),(some 69,vs 11),(some 70,vs 12),(some 71,.int .i64 (T:Int)),(some 72,.int .i64 zt),(some 73,.agg #[.int .i64 7,.int .i64 zt,.int .i64 0,.int .i64 0]),(some 74,vs 16),(some 75,vs 17),(some 76,vs 18),(some 77,vs 19),(some 57,vs 20),(some 78,vs 21),(some 79,vs 22),(some 80,vs 23),(some 12,vs 24),(some 14,vs 25),(none,vs 26),(some 13,vs 27),(none,vs 28)] rfl]
  simp only [putL_eq,putT,List.set_cons_succ,List.set_cons_zero]
  obtain ⟨E,hE,hm,hF⟩:=hJ
  obtain ⟨A,c,L,e27,hLe,hp⟩:=hF 27 (hl 27 (by decide))
  obtain ⟨gf,e25,hgf⟩:=hF 25 (hl 25 (by decide))
  rw [e25,e27]
  have hE':=Lib.hid hE
  have hfa:=(hE.all _ hgf).2
  have ff:=hfa.cell 0
  simp at ff
  clear hF hl hm hblh hdos
  go_upto_region 9 with fail
  go_cut [15,16] (fun s15 s16 wx=>s15=.bool (r.toNat.testBit F)∧s16=.bool (v.toNat.testBit T)∧∃ n,wx=w3.drewN n)
  case first=>
   go_quiet (fail)
   go_wp2_with fail
   go_meet
   exact ⟨congrArg Value.bool hb1.out,congrArg Value.bool hb2.out,_,rfl⟩
  case rest=>
  obtain ⟨rfl,rfl,nq,rfl⟩:=hcut
  clear hb1 hb2 hH sf st i0 i1 i2 i3 hF8 hT8
  obtain ⟨x0,x1,x2,rfl⟩:∃ x0 x1 x2,L=[x0,x1,x2]:=by
   have hL3:L.length=3:=by simpa using congrArg List.length hLe
   match L,hL3 with
   | [a,b,c],_=>exact ⟨a,b,c,rfl⟩
  simp only [List.map_cons,List.map_nil,List.cons.injEq,and_true] at hLe
  obtain ⟨y0,y1,y2⟩:=hLe
  clear e25 e27 hgf hfa hE ff
  generalize r.toNat.testBit F=b1 at *
  generalize v.toNat.testBit T=b2 at *
  obtain ⟨w4,hw4⟩:∃ w4,w4=w3.drewN nq:=⟨_,rfl⟩
  have hE4:=Lib.hid (hE'.out.drewN nq)
  rw [← hw4] at hE4 ⊢
  clear hw4 hE'
  obtain ⟨kp,hkp⟩:=List.getElem?_of_mem hp
  clear hp
  rcases b1 with _ | _<;>rcases b2 with _ | _<;>rcases life with _ | _
  ·simp only [Bool.and_true,Bool.and_false,Bool.false_and,Bool.true_and,Bool.false_eq_true,if_true,if_false] at y0 y1 y2
   have H5:=hE4.out.newL w4.heap.size rfl 4 [.bool false,.bool false,.bool false]
   have hH5:=Lib.hid H5
   clear H5 hE4
   go_upto_region 11 with fail
   obtain ⟨w5,hw5,H5⟩:=hH5.out.name
   rw [hw5]
   obtain ⟨gy,hgy⟩:∃ gy,gy=w4.heap.size:=⟨_,rfl⟩
   rw [← hgy] at H5 ⊢
   clear hw5 hgy hH5
   have hH5:=Lib.hid H5
   clear H5
   go_wp2_with fail
   go_loopw [109] (fun q wr=>∃ k:Nat,k≤3∧q=.int .i64 k∧Hp w wr (.box gy 4 [.bool false,.bool false,.bool false]::E)) (fun q _=>3-(intOf q).toNat)
   case atStart=>exact ⟨0,by omega,rfl,hH5.out⟩
   case round=>
    clear hH5
    obtain ⟨k,hk,rfl,H⟩:=hrel
    have hkp':(Ent.box gy 4 [.bool false,.bool false,.bool false]::E)[kp+1]?=some (pkA A c [x0,x1,x2]):=by simpa using hkp
    rcases (show k=0∨k=1∨k=2∨k=3 by omega) with rfl | rfl | rfl | rfl
    ·have c0:=H.cell 0 0 rfl rfl
     obtain ⟨b,off,rfl,hb,j1,j2,j3,j4,j5⟩:=pkA_at H (kp+1) hkp' (i:=0) (by simp)
     simp only [List.getElem_cons_zero,y0,Nat.zero_mul,Nat.add_zero] at j1
     clear j2 j3 j4 j5 hb hkp'
     have hHh:=Lib.hid H
     clear H
     go_wp2_with fail
     go_roundw
     case rel=>exact ⟨1,by omega,by go_num,hHh.out⟩
     case measure=>simp [intOf]
    ·have c0:=H.cell 0 1 rfl rfl
     obtain ⟨b,off,rfl,hb,j1,j2,j3,j4,j5⟩:=pkA_at H (kp+1) hkp' (i:=1) (by simp)
     simp only [List.getElem_cons_zero,List.getElem_cons_succ,y1,Nat.one_mul] at j1
     clear j2 j3 j4 j5 hb hkp'
     have hHh:=Lib.hid H
     clear H
     go_wp2_with fail
     go_roundw
     case rel=>exact ⟨2,by omega,by go_num,hHh.out⟩
     case measure=>simp [intOf]
    ·have c0:=H.cell 0 2 rfl rfl
     obtain ⟨b,off,rfl,hb,j1,j2,j3,j4,j5⟩:=pkA_at H (kp+1) hkp' (i:=2) (by simp)
     simp only [List.getElem_cons_zero,List.getElem_cons_succ,y2] at j1
     clear j2 j3 j4 j5 hb hkp'
     have hHh:=Lib.hid H
     clear H
     go_wp2_with fail
     go_roundw
     case rel=>exact ⟨3,by omega,by go_num,hHh.out⟩
     case measure=>simp [intOf]
    ·have hHh:=Lib.hid H
     clear H hkp'
     go_wp2_with fail
     go_ret
     exact ⟨rfl,hHh.out.bel⟩
  ·simp only [Bool.and_true,Bool.and_false,Bool.false_and,Bool.true_and,Bool.false_eq_true,if_true,if_false] at y0 y1 y2
   have H5:=hE4.out.newL w4.heap.size rfl 4 [.bool false,.bool false,.bool false]
   have hH5:=Lib.hid H5
   clear H5 hE4
   go_upto_region 11 with fail
   obtain ⟨w5,hw5,H5⟩:=hH5.out.name
   rw [hw5]
   obtain ⟨gy,hgy⟩:∃ gy,gy=w4.heap.size:=⟨_,rfl⟩
   rw [← hgy] at H5 ⊢
   clear hw5 hgy hH5
   have hH5:=Lib.hid H5
   clear H5
   go_wp2_with fail
   go_loopw [109] (fun q wr=>∃ k:Nat,k≤3∧q=.int .i64 k∧Hp w wr (.box gy 4 [.bool false,.bool false,.bool false]::E)) (fun q _=>3-(intOf q).toNat)
   case atStart=>exact ⟨0,by omega,rfl,hH5.out⟩
   case round=>
    clear hH5
    obtain ⟨k,hk,rfl,H⟩:=hrel
    have hkp':(Ent.box gy 4 [.bool false,.bool false,.bool false]::E)[kp+1]?=some (pkA A c [x0,x1,x2]):=by simpa using hkp
    rcases (show k=0∨k=1∨k=2∨k=3 by omega) with rfl | rfl | rfl | rfl
    ·have c0:=H.cell 0 0 rfl rfl
     obtain ⟨b,off,rfl,hb,j1,j2,j3,j4,j5⟩:=pkA_at H (kp+1) hkp' (i:=0) (by simp)
     simp only [List.getElem_cons_zero,y0,Nat.zero_mul,Nat.add_zero] at j1
     clear j2 j3 j4 j5 hb hkp'
     have hHh:=Lib.hid H
     clear H
     go_wp2_with fail
     go_roundw
     case rel=>exact ⟨1,by omega,by go_num,hHh.out⟩
     case measure=>simp [intOf]
    ·have c0:=H.cell 0 1 rfl rfl
     obtain ⟨b,off,rfl,hb,j1,j2,j3,j4,j5⟩:=pkA_at H (kp+1) hkp' (i:=1) (by simp)
     simp only [List.getElem_cons_zero,List.getElem_cons_succ,y1,Nat.one_mul] at j1
     clear j2 j3 j4 j5 hb hkp'
     have hHh:=Lib.hid H
     clear H
     go_wp2_with fail
     go_roundw
     case rel=>exact ⟨2,by omega,by go_num,hHh.out⟩
     case measure=>simp [intOf]
    ·have c0:=H.cell 0 2 rfl rfl
     obtain ⟨b,off,rfl,hb,j1,j2,j3,j4,j5⟩:=pkA_at H (kp+1) hkp' (i:=2) (by simp)
     simp only [List.getElem_cons_zero,List.getElem_cons_succ,y2] at j1
     clear j2 j3 j4 j5 hb hkp'
     have hHh:=Lib.hid H
     clear H
     go_wp2_with fail
     go_roundw
     case rel=>exact ⟨3,by omega,by go_num,hHh.out⟩
     case measure=>simp [intOf]
    ·have hHh:=Lib.hid H
     clear H hkp'
     go_wp2_with fail
     go_ret
     exact ⟨rfl,hHh.out.bel⟩
  ·simp only [Bool.and_true,Bool.and_false,Bool.false_and,Bool.true_and,Bool.false_eq_true,if_true,if_false] at y0 y1 y2
   have H5:=hE4.out.newL w4.heap.size rfl 4 [.bool false,.bool false,.bool false]
   have hH5:=Lib.hid H5
   clear H5 hE4
   go_upto_region 11 with fail
   obtain ⟨w5,hw5,H5⟩:=hH5.out.name
   rw [hw5]
   obtain ⟨gy,hgy⟩:∃ gy,gy=w4.heap.size:=⟨_,rfl⟩
   rw [← hgy] at H5 ⊢
   clear hw5 hgy hH5
   have hH5:=Lib.hid H5
   clear H5
   go_wp2_with fail
   go_loopw [109] (fun q wr=>∃ k:Nat,k≤3∧q=.int .i64 k∧Hp w wr (.box gy 4 [.bool false,.bool false,.bool false]::E)) (fun q _=>3-(intOf q).toNat)
   case atStart=>exact ⟨0,by omega,rfl,hH5.out⟩
   case round=>
    clear hH5
    obtain ⟨k,hk,rfl,H⟩:=hrel
    have hkp':(Ent.box gy 4 [.bool false,.bool false,.bool false]::E)[kp+1]?=some (pkA A c [x0,x1,x2]):=by simpa using hkp
    rcases (show k=0∨k=1∨k=2∨k=3 by omega) with rfl | rfl | rfl | rfl
    ·have c0:=H.cell 0 0 rfl rfl
     obtain ⟨b,off,rfl,hb,j1,j2,j3,j4,j5⟩:=pkA_at H (kp+1) hkp' (i:=0) (by simp)
     simp only [List.getElem_cons_zero,y0,Nat.zero_mul,Nat.add_zero] at j1
     clear j2 j3 j4 j5 hb hkp'
     have hHh:=Lib.hid H
     clear H
     go_wp2_with fail
     go_roundw
     case rel=>exact ⟨1,by omega,by go_num,hHh.out⟩
     case measure=>simp [intOf]
    ·have c0:=H.cell 0 1 rfl rfl
     obtain ⟨b,off,rfl,hb,j1,j2,j3,j4,j5⟩:=pkA_at H (kp+1) hkp' (i:=1) (by simp)
     simp only [List.getElem_cons_zero,List.getElem_cons_succ,y1,Nat.one_mul] at j1
     clear j2 j3 j4 j5 hb hkp'
     have hHh:=Lib.hid H
     clear H
     go_wp2_with fail
     go_roundw
     case rel=>exact ⟨2,by omega,by go_num,hHh.out⟩
     case measure=>simp [intOf]
    ·have c0:=H.cell 0 2 rfl rfl
     obtain ⟨b,off,rfl,hb,j1,j2,j3,j4,j5⟩:=pkA_at H (kp+1) hkp' (i:=2) (by simp)
     simp only [List.getElem_cons_zero,List.getElem_cons_succ,y2] at j1
     clear j2 j3 j4 j5 hb hkp'
     have hHh:=Lib.hid H
     clear H
     go_wp2_with fail
     go_roundw
     case rel=>exact ⟨3,by omega,by go_num,hHh.out⟩
     case measure=>simp [intOf]
    ·have hHh:=Lib.hid H
     clear H hkp'
     go_wp2_with fail
     go_ret
     exact ⟨rfl,hHh.out.bel⟩
  ·simp only [Bool.and_true,Bool.and_false,Bool.false_and,Bool.true_and,Bool.false_eq_true,if_true,if_false] at y0 y1 y2
   have H5:=hE4.out.newL w4.heap.size rfl 4 [.bool false,.bool false,.bool true]
   have hH5:=Lib.hid H5
   clear H5 hE4
   go_upto_region 11 with fail
   obtain ⟨w5,hw5,H5⟩:=hH5.out.name
   rw [hw5]
   obtain ⟨gy,hgy⟩:∃ gy,gy=w4.heap.size:=⟨_,rfl⟩
   rw [← hgy] at H5 ⊢
   clear hw5 hgy hH5
   have hH5:=Lib.hid H5
   clear H5
   go_wp2_with fail
   go_loopw [109] (fun q wr=>∃ k:Nat,k≤3∧q=.int .i64 k∧Hp w wr (.box gy 4 [.bool false,.bool false,.bool true]::E)) (fun q _=>3-(intOf q).toNat)
   case atStart=>exact ⟨0,by omega,rfl,hH5.out⟩
   case round=>
    clear hH5
    obtain ⟨k,hk,rfl,H⟩:=hrel
    have hkp':(Ent.box gy 4 [.bool false,.bool false,.bool true]::E)[kp+1]?=some (pkA A c [x0,x1,x2]):=by simpa using hkp
    rcases (show k=0∨k=1∨k=2∨k=3 by omega) with rfl | rfl | rfl | rfl
    ·have c0:=H.cell 0 0 rfl rfl
     obtain ⟨b,off,rfl,hb,j1,j2,j3,j4,j5⟩:=pkA_at H (kp+1) hkp' (i:=0) (by simp)
     simp only [List.getElem_cons_zero,y0,Nat.zero_mul,Nat.add_zero] at j1
     clear j2 j3 j4 j5 hb hkp'
     have hHh:=Lib.hid H
     clear H
     go_wp2_with fail
     go_roundw
     case rel=>exact ⟨1,by omega,by go_num,hHh.out⟩
     case measure=>simp [intOf]
    ·have c0:=H.cell 0 1 rfl rfl
     obtain ⟨b,off,rfl,hb,j1,j2,j3,j4,j5⟩:=pkA_at H (kp+1) hkp' (i:=1) (by simp)
     simp only [List.getElem_cons_zero,List.getElem_cons_succ,y1,Nat.one_mul] at j1
     clear j2 j3 j4 j5 hb hkp'
     have hHh:=Lib.hid H
     clear H
     go_wp2_with fail
     go_roundw
     case rel=>exact ⟨2,by omega,by go_num,hHh.out⟩
     case measure=>simp [intOf]
    ·have c0:=H.cell 0 2 rfl rfl
     obtain ⟨b,off,rfl,hb,j1,j2,j3,j4,j5⟩:=pkA_at H (kp+1) hkp' (i:=2) (by simp)
     simp only [List.getElem_cons_zero,List.getElem_cons_succ,y2] at j1
     clear j2 j3 j4 j5 hb hkp'
     have hHh:=Lib.hid H
     clear H
     go_wp2_with fail
     go_roundw
     case rel=>exact ⟨3,by omega,by go_num,hHh.out⟩
     case measure=>simp [intOf]
    ·have hHh:=Lib.hid H
     clear H hkp'
     go_wp2_with fail
     go_ret
     exact ⟨rfl,hHh.out.bel⟩
  ·simp only [Bool.and_true,Bool.and_false,Bool.false_and,Bool.true_and,Bool.false_eq_true,if_true,if_false] at y0 y1 y2
   have H5:=hE4.out.newL w4.heap.size rfl 4 [.bool false,.bool false,.bool false]
   have hH5:=Lib.hid H5
   clear H5 hE4
   go_upto_region 11 with fail
   obtain ⟨w5,hw5,H5⟩:=hH5.out.name
   rw [hw5]
   obtain ⟨gy,hgy⟩:∃ gy,gy=w4.heap.size:=⟨_,rfl⟩
   rw [← hgy] at H5 ⊢
   clear hw5 hgy hH5
   have hH5:=Lib.hid H5
   clear H5
   go_wp2_with fail
   go_loopw [109] (fun q wr=>∃ k:Nat,k≤3∧q=.int .i64 k∧Hp w wr (.box gy 4 [.bool false,.bool false,.bool false]::E)) (fun q _=>3-(intOf q).toNat)
   case atStart=>exact ⟨0,by omega,rfl,hH5.out⟩
   case round=>
    clear hH5
    obtain ⟨k,hk,rfl,H⟩:=hrel
    have hkp':(Ent.box gy 4 [.bool false,.bool false,.bool false]::E)[kp+1]?=some (pkA A c [x0,x1,x2]):=by simpa using hkp
    rcases (show k=0∨k=1∨k=2∨k=3 by omega) with rfl | rfl | rfl | rfl
    ·have c0:=H.cell 0 0 rfl rfl
     obtain ⟨b,off,rfl,hb,j1,j2,j3,j4,j5⟩:=pkA_at H (kp+1) hkp' (i:=0) (by simp)
     simp only [List.getElem_cons_zero,y0,Nat.zero_mul,Nat.add_zero] at j1
     clear j2 j3 j4 j5 hb hkp'
     have hHh:=Lib.hid H
     clear H
     go_wp2_with fail
     go_roundw
     case rel=>exact ⟨1,by omega,by go_num,hHh.out⟩
     case measure=>simp [intOf]
    ·have c0:=H.cell 0 1 rfl rfl
     obtain ⟨b,off,rfl,hb,j1,j2,j3,j4,j5⟩:=pkA_at H (kp+1) hkp' (i:=1) (by simp)
     simp only [List.getElem_cons_zero,List.getElem_cons_succ,y1,Nat.one_mul] at j1
     clear j2 j3 j4 j5 hb hkp'
     have hHh:=Lib.hid H
     clear H
     go_wp2_with fail
     go_roundw
     case rel=>exact ⟨2,by omega,by go_num,hHh.out⟩
     case measure=>simp [intOf]
    ·have c0:=H.cell 0 2 rfl rfl
     obtain ⟨b,off,rfl,hb,j1,j2,j3,j4,j5⟩:=pkA_at H (kp+1) hkp' (i:=2) (by simp)
     simp only [List.getElem_cons_zero,List.getElem_cons_succ,y2] at j1
     clear j2 j3 j4 j5 hb hkp'
     have hHh:=Lib.hid H
     clear H
     go_wp2_with fail
     go_roundw
     case rel=>exact ⟨3,by omega,by go_num,hHh.out⟩
     case measure=>simp [intOf]
    ·have hHh:=Lib.hid H
     clear H hkp'
     go_wp2_with fail
     go_ret
     exact ⟨rfl,hHh.out.bel⟩
  ·simp only [Bool.and_true,Bool.and_false,Bool.false_and,Bool.true_and,Bool.false_eq_true,if_true,if_false] at y0 y1 y2
   have H5:=hE4.out.newL w4.heap.size rfl 4 [.bool false,.bool true,.bool false]
   have hH5:=Lib.hid H5
   clear H5 hE4
   go_upto_region 11 with fail
   obtain ⟨w5,hw5,H5⟩:=hH5.out.name
   rw [hw5]
   obtain ⟨gy,hgy⟩:∃ gy,gy=w4.heap.size:=⟨_,rfl⟩
   rw [← hgy] at H5 ⊢
   clear hw5 hgy hH5
   have hH5:=Lib.hid H5
   clear H5
   go_wp2_with fail
   go_loopw [109] (fun q wr=>∃ k:Nat,k≤3∧q=.int .i64 k∧Hp w wr (.box gy 4 [.bool false,.bool true,.bool false]::E)) (fun q _=>3-(intOf q).toNat)
   case atStart=>exact ⟨0,by omega,rfl,hH5.out⟩
   case round=>
    clear hH5
    obtain ⟨k,hk,rfl,H⟩:=hrel
    have hkp':(Ent.box gy 4 [.bool false,.bool true,.bool false]::E)[kp+1]?=some (pkA A c [x0,x1,x2]):=by simpa using hkp
    rcases (show k=0∨k=1∨k=2∨k=3 by omega) with rfl | rfl | rfl | rfl
    ·have c0:=H.cell 0 0 rfl rfl
     obtain ⟨b,off,rfl,hb,j1,j2,j3,j4,j5⟩:=pkA_at H (kp+1) hkp' (i:=0) (by simp)
     simp only [List.getElem_cons_zero,y0,Nat.zero_mul,Nat.add_zero] at j1
     clear j2 j3 j4 j5 hb hkp'
     have hHh:=Lib.hid H
     clear H
     go_wp2_with fail
     go_roundw
     case rel=>exact ⟨1,by omega,by go_num,hHh.out⟩
     case measure=>simp [intOf]
    ·have c0:=H.cell 0 1 rfl rfl
     obtain ⟨b,off,rfl,hb,j1,j2,j3,j4,j5⟩:=pkA_at H (kp+1) hkp' (i:=1) (by simp)
     simp only [List.getElem_cons_zero,List.getElem_cons_succ,y1,Nat.one_mul] at j1
     clear j2 j3 j4 j5 hb hkp'
     have hHh:=Lib.hid H
     clear H
     go_wp2_with fail
     go_roundw
     case rel=>exact ⟨2,by omega,by go_num,hHh.out⟩
     case measure=>simp [intOf]
    ·have c0:=H.cell 0 2 rfl rfl
     obtain ⟨b,off,rfl,hb,j1,j2,j3,j4,j5⟩:=pkA_at H (kp+1) hkp' (i:=2) (by simp)
     simp only [List.getElem_cons_zero,List.getElem_cons_succ,y2] at j1
     clear j2 j3 j4 j5 hb hkp'
     have hHh:=Lib.hid H
     clear H
     go_wp2_with fail
     go_roundw
     case rel=>exact ⟨3,by omega,by go_num,hHh.out⟩
     case measure=>simp [intOf]
    ·have hHh:=Lib.hid H
     clear H hkp'
     go_wp2_with fail
     go_ret
     exact ⟨rfl,hHh.out.bel⟩
  ·simp only [Bool.and_true,Bool.and_false,Bool.false_and,Bool.true_and,Bool.false_eq_true,if_true,if_false] at y0 y1 y2
   have H5:=hE4.out.newL w4.heap.size rfl 4 [.bool true,.bool false,.bool false]
   have hH5:=Lib.hid H5
   clear H5 hE4
   go_upto_region 11 with fail
   obtain ⟨w5,hw5,H5⟩:=hH5.out.name
   rw [hw5]
   obtain ⟨gy,hgy⟩:∃ gy,gy=w4.heap.size:=⟨_,rfl⟩
   rw [← hgy] at H5 ⊢
   clear hw5 hgy hH5
   have hH5:=Lib.hid H5
   clear H5
   go_wp2_with fail
   go_loopw [109] (fun q wr=>∃ k:Nat,k≤3∧q=.int .i64 k∧Hp w wr (.box gy 4 [.bool true,.bool false,.bool false]::E)) (fun q _=>3-(intOf q).toNat)
   case atStart=>exact ⟨0,by omega,rfl,hH5.out⟩
   case round=>
    clear hH5
    obtain ⟨k,hk,rfl,H⟩:=hrel
    have hkp':(Ent.box gy 4 [.bool true,.bool false,.bool false]::E)[kp+1]?=some (pkA A c [x0,x1,x2]):=by simpa using hkp
    rcases (show k=0∨k=1∨k=2∨k=3 by omega) with rfl | rfl | rfl | rfl
    ·have c0:=H.cell 0 0 rfl rfl
     obtain ⟨b,off,rfl,hb,j1,j2,j3,j4,j5⟩:=pkA_at H (kp+1) hkp' (i:=0) (by simp)
     simp only [List.getElem_cons_zero,y0,Nat.zero_mul,Nat.add_zero] at j1
     clear j2 j3 j4 j5 hb hkp'
     have hHh:=Lib.hid H
     clear H
     go_wp2_with fail
     go_roundw
     case rel=>exact ⟨1,by omega,by go_num,hHh.out⟩
     case measure=>simp [intOf]
    ·have c0:=H.cell 0 1 rfl rfl
     obtain ⟨b,off,rfl,hb,j1,j2,j3,j4,j5⟩:=pkA_at H (kp+1) hkp' (i:=1) (by simp)
     simp only [List.getElem_cons_zero,List.getElem_cons_succ,y1,Nat.one_mul] at j1
     clear j2 j3 j4 j5 hb hkp'
     have hHh:=Lib.hid H
     clear H
     go_wp2_with fail
     go_roundw
     case rel=>exact ⟨2,by omega,by go_num,hHh.out⟩
     case measure=>simp [intOf]
    ·have c0:=H.cell 0 2 rfl rfl
     obtain ⟨b,off,rfl,hb,j1,j2,j3,j4,j5⟩:=pkA_at H (kp+1) hkp' (i:=2) (by simp)
     simp only [List.getElem_cons_zero,List.getElem_cons_succ,y2] at j1
     clear j2 j3 j4 j5 hb hkp'
     have hHh:=Lib.hid H
     clear H
     go_wp2_with fail
     go_roundw
     case rel=>exact ⟨3,by omega,by go_num,hHh.out⟩
     case measure=>simp [intOf]
    ·have hHh:=Lib.hid H
     clear H hkp'
     go_wp2_with fail
     go_ret
     exact ⟨rfl,hHh.out.bel⟩
  ·simp only [Bool.and_true,Bool.and_false,Bool.false_and,Bool.true_and,Bool.false_eq_true,if_true,if_false] at y0 y1 y2
   have H5:=hE4.out.newL w4.heap.size rfl 4 [.bool true,.bool true,.bool true]
   have hH5:=Lib.hid H5
   clear H5 hE4
   go_upto_region 11 with fail
   obtain ⟨w5,hw5,H5⟩:=hH5.out.name
   rw [hw5]
   obtain ⟨gy,hgy⟩:∃ gy,gy=w4.heap.size:=⟨_,rfl⟩
   rw [← hgy] at H5 ⊢
   clear hw5 hgy hH5
   have hH5:=Lib.hid H5
   clear H5
   go_wp2_with fail
   go_loopw [109] (fun q wr=>∃ k:Nat,k≤3∧q=.int .i64 k∧Hp w wr (.box gy 4 [.bool true,.bool true,.bool true]::E)) (fun q _=>3-(intOf q).toNat)
   case atStart=>exact ⟨0,by omega,rfl,hH5.out⟩
   case round=>
    clear hH5
    obtain ⟨k,hk,rfl,H⟩:=hrel
    have hkp':(Ent.box gy 4 [.bool true,.bool true,.bool true]::E)[kp+1]?=some (pkA A c [x0,x1,x2]):=by simpa using hkp
    rcases (show k=0∨k=1∨k=2∨k=3 by omega) with rfl | rfl | rfl | rfl
    ·have c0:=H.cell 0 0 rfl rfl
     obtain ⟨b,off,rfl,hb,j1,j2,j3,j4,j5⟩:=pkA_at H (kp+1) hkp' (i:=0) (by simp)
     simp only [List.getElem_cons_zero,y0,Nat.zero_mul,Nat.add_zero] at j1
     clear j2 j3 j4 j5 hb hkp'
     have hHh:=Lib.hid H
     clear H
     go_wp2_with fail
     go_roundw
     case rel=>exact ⟨1,by omega,by go_num,hHh.out⟩
     case measure=>simp [intOf]
    ·have c0:=H.cell 0 1 rfl rfl
     obtain ⟨b,off,rfl,hb,j1,j2,j3,j4,j5⟩:=pkA_at H (kp+1) hkp' (i:=1) (by simp)
     simp only [List.getElem_cons_zero,List.getElem_cons_succ,y1,Nat.one_mul] at j1
     clear j2 j3 j4 j5 hb hkp'
     have hHh:=Lib.hid H
     clear H
     go_wp2_with fail
     go_roundw
     case rel=>exact ⟨2,by omega,by go_num,hHh.out⟩
     case measure=>simp [intOf]
    ·have c0:=H.cell 0 2 rfl rfl
     obtain ⟨b,off,rfl,hb,j1,j2,j3,j4,j5⟩:=pkA_at H (kp+1) hkp' (i:=2) (by simp)
     simp only [List.getElem_cons_zero,List.getElem_cons_succ,y2] at j1
     clear j2 j3 j4 j5 hb hkp'
     have hHh:=Lib.hid H
     clear H
     go_wp2_with fail
     go_roundw
     case rel=>exact ⟨3,by omega,by go_num,hHh.out⟩
     case measure=>simp [intOf]
    ·have hHh:=Lib.hid H
     clear H hkp'
     go_wp2_with fail
     go_ret
     exact ⟨rfl,hHh.out.bel⟩
 ·intro qq op ho l vs act w' hJ hsh hli hd hv hwas K hK
  have hiq:qq<29:=lt_of_some ho
  have s3_:=hwas 3 rfl
  have s4_:=hwas 4 rfl
  have s11_:=hwas 11 rfl
  simp at s3_ s4_ s11_
  match qq,hiq,ho,hli,hK with
  | 0,_,ho,hli,hK=>
   obtain rfl:=Option.some.inj ho
   clear hv hwas
   go_simp
   exact hK _ _ (fun _=>rfl) (tb_same hJ (fun E _=>trivial))
  | 1,_,ho,hli,hK=>
   obtain rfl:=Option.some.inj ho
   clear hv hwas
   go_simp
   exact hK _ _ (fun _=>rfl) (tb_same hJ (fun E _=>trivial))
  | 2,_,ho,hli,hK=>
   obtain rfl:=Option.some.inj ho
   have x59:act.tmps[59]?.getD undef=.int .i64 (F:Int):=hv 1 59 rfl (by simp [Region.binds] at hd;simp [hd])
   clear hv hwas
   go_simp
   exact hK _ _ (fun _=>rfl) (tb_same hJ (fun E _=>trivial))
  | 3,_,ho,hli,hK=>
   obtain rfl:=Option.some.inj ho
   clear hv hwas
   go_simp
   exact hK _ _ (fun _=>rfl) (tb_same hJ (fun E _=>trivial))
  | 4,_,ho,hli,hK=>
   obtain rfl:=Option.some.inj ho
   clear hv hwas
   go_simp
   exact hK _ _ (fun _=>rfl) (tb_same hJ (fun E _=>trivial))
  | 5,_,ho,hli,hK=>
   obtain rfl:=Option.some.inj ho
   have x61:act.tmps[61]?.getD undef=.int .i64 (T:Int):=hv 3 61 rfl (by simp [Region.binds] at hd;simp [hd])
   have x62:act.tmps[62]?.getD undef=.int .i64 (F:Int):=hv 4 62 rfl (by simp [Region.binds] at hd;simp [hd])
   clear hv hwas
   go_simp
   exact hK _ _ (fun _=>rfl) (tb_same hJ (fun E _=>trivial))
  | 6,_,ho,hli,hK=>
   obtain rfl:=Option.some.inj ho
   have x63:act.tmps[63]?.getD undef=.agg #[.int .i64 2,.int .i64 (T:Int),.int .i64 (F:Int),.int .i64 0]:=hv 5 63 rfl (by simp [Region.binds] at hd;simp [hd])
   obtain ⟨E,hE,hm,hF⟩:=hJ
   have hE2:=hE.newL w'.heap.size rfl 35 (actCells ⟨2,(T:Int),(F:Int),0⟩)
   clear hv hwas
   go_simp
   exact hK _ _ (fun h=>by cases h) (tb_step hE2 (List.mem_cons_of_mem _ hm) (.sub fun p hp=>List.mem_cons_of_mem _ hp) hF ⟨w'.heap.size,rfl,List.mem_cons_self ..⟩)
  | 7,_,ho,hli,hK=>
   obtain rfl:=Option.some.inj ho
   have x60:act.tmps[60]?.getD undef=.int .i64 zf:=hv 2 60 rfl (by simp [Region.binds] at hd;simp [hd])
   have x64:act.tmps[64]?.getD undef=vs 6:=hv 6 64 rfl (by simp [Region.binds] at hd;simp [hd])
   obtain ⟨E,hE,hm,hF⟩:=hJ
   have lsrc:l 6=true:=by simp [Region.binds] at hd;simp [hd]
   obtain ⟨g,ev,hg⟩:=hF 6 lsrc
   rw [ev] at x64
   clear hv hwas
   go_simp
   refine (system_do_any zf [⟨2,(T:Int),(F:Int),0⟩] (some ⟨g,0,none⟩) 1 w').mono ?_
   rintro e w4 ⟨rfl,hb4⟩
   exact hK _ _ (fun h=>by cases h) (tb_step (hE.grow hb4) hm (.sub fun p hp=>hp) hF ⟨g,rfl,hg⟩)
  | 8,_,ho,hli,hK=>
   obtain rfl:=Option.some.inj ho
   clear hv hwas
   go_simp
   exact hK _ _ (fun _=>rfl) (tb_same hJ (fun E _=>trivial))
  | 9,_,ho,hli,hK=>
   obtain rfl:=Option.some.inj ho
   have x66:act.tmps[66]?.getD undef=.int .i64 (F:Int):=hv 8 66 rfl (by simp [Region.binds] at hd;simp [hd])
   clear hv hwas
   go_simp
   exact hK _ _ (fun _=>rfl) (tb_same hJ (fun E _=>trivial))
  | 10,_,ho,hli,hK=>
   obtain rfl:=Option.some.inj ho
   clear hv hwas
   go_simp
   exact hK _ _ (fun _=>rfl) (tb_same hJ (fun E _=>trivial))
  | 11,_,ho,hli,hK=>
   obtain rfl:=Option.some.inj ho
   have x68:act.tmps[68]?.getD undef=.agg #[.int .i64 6,.int .i64 0,.int .i64 0,.int .i64 0]:=hv 10 68 rfl (by simp [Region.binds] at hd;simp [hd])
   obtain ⟨E,hE,hm,hF⟩:=hJ
   have hE2:=hE.newL w'.heap.size rfl 35 (actCells ⟨6,0,0,0⟩)
   clear hv hwas
   go_simp
   exact hK _ _ (fun h=>by cases h) (tb_step hE2 (List.mem_cons_of_mem _ hm) (.sub fun p hp=>List.mem_cons_of_mem _ hp) hF ⟨w'.heap.size,rfl,List.mem_cons_self ..⟩)
  | 12,_,ho,hli,hK=>
   obtain rfl:=Option.some.inj ho
   have x67:act.tmps[67]?.getD undef=.int .i64 zf:=hv 9 67 rfl (by simp [Region.binds] at hd;simp [hd])
   have x69:act.tmps[69]?.getD undef=vs 11:=hv 11 69 rfl (by simp [Region.binds] at hd;simp [hd])
   obtain ⟨E,hE,hm,hF⟩:=hJ
   have lsrc:l 11=true:=by simp [Region.binds] at hd;simp [hd]
   obtain ⟨g,ev,hg⟩:=hF 11 lsrc
   rw [ev] at x69
   clear hv hwas
   go_simp
   refine (system_do_any zf [⟨6,0,0,0⟩] (some ⟨g,0,none⟩) 1 w').mono ?_
   rintro e w4 ⟨rfl,hb4⟩
   exact hK _ _ (fun h=>by cases h) (tb_step (hE.grow hb4) hm (.sub fun p hp=>hp) hF ⟨g,rfl,hg⟩)
  | 13,_,ho,hli,hK=>
   obtain rfl:=Option.some.inj ho
   clear hv hwas
   go_simp
   exact hK _ _ (fun _=>rfl) (tb_same hJ (fun E _=>trivial))
  | 14,_,ho,hli,hK=>
   obtain rfl:=Option.some.inj ho
   have x71:act.tmps[71]?.getD undef=.int .i64 (T:Int):=hv 13 71 rfl (by simp [Region.binds] at hd;simp [hd])
   clear hv hwas
   go_simp
   exact hK _ _ (fun _=>rfl) (tb_same hJ (fun E _=>trivial))
  | 15,_,ho,hli,hK=>
   obtain rfl:=Option.some.inj ho
   have x72:act.tmps[72]?.getD undef=.int .i64 zt:=hv 14 72 rfl (by simp [Region.binds] at hd;simp [hd])
   clear hv hwas
   go_simp
   exact hK _ _ (fun _=>rfl) (tb_same hJ (fun E _=>trivial))
  | 16,_,ho,hli,hK=>
   obtain rfl:=Option.some.inj ho
   have x73:act.tmps[73]?.getD undef=.agg #[.int .i64 7,.int .i64 zt,.int .i64 0,.int .i64 0]:=hv 15 73 rfl (by simp [Region.binds] at hd;simp [hd])
   obtain ⟨E,hE,hm,hF⟩:=hJ
   have hE2:=hE.newL w'.heap.size rfl 35 (actCells ⟨7,zt,0,0⟩)
   clear hv hwas
   go_simp
   exact hK _ _ (fun h=>by cases h) (tb_step hE2 (List.mem_cons_of_mem _ hm) (.sub fun p hp=>List.mem_cons_of_mem _ hp) hF ⟨w'.heap.size,rfl,List.mem_cons_self ..⟩)
  | 17,_,ho,hli,hK=>
   obtain rfl:=Option.some.inj ho
   have x74:act.tmps[74]?.getD undef=vs 16:=hv 16 74 rfl (by simp [Region.binds] at hd;simp [hd])
   obtain ⟨E,hE,hm,hF⟩:=hJ
   have lsrc:l 16=true:=by simp [Region.binds] at hd;simp [hd]
   obtain ⟨g,ev,hg⟩:=hF 16 lsrc
   rw [ev] at x74
   clear hv hwas
   go_simp
   refine (system_do_any 0 [⟨7,zt,0,0⟩] (some ⟨g,0,none⟩) 1 w').mono ?_
   rintro e w4 ⟨rfl,hb4⟩
   exact hK _ _ (fun h=>by cases h) (tb_step (hE.grow hb4) hm (.sub fun p hp=>hp) hF ⟨g,rfl,hg⟩)
  | 18,_,ho,hli,hK=>
   obtain rfl:=Option.some.inj ho
   have x65:act.tmps[65]?.getD undef=vs 7:=hv 7 65 rfl (by simp [Region.binds] at hd;simp [hd])
   have x70:act.tmps[70]?.getD undef=vs 12:=hv 12 70 rfl (by simp [Region.binds] at hd;simp [hd])
   have x75:act.tmps[75]?.getD undef=vs 17:=hv 17 75 rfl (by simp [Region.binds] at hd;simp [hd])
   obtain ⟨E,hE,hm,hF⟩:=hJ
   have l7:l 7=true:=by simp [Region.binds] at hd;simp [hd]
   have l12:l 12=true:=by simp [Region.binds] at hd;simp [hd]
   have l17:l 17=true:=by simp [Region.binds] at hd;simp [hd]
   obtain ⟨q1,e1,h1⟩:=hF 7 l7
   obtain ⟨q2,e2,h2⟩:=hF 12 l12
   obtain ⟨q3,e3,h3⟩:=hF 17 l17
   rw [e1] at x65
   rw [e2] at x70
   rw [e3] at x75
   have hE2:=hE.newL w'.heap.size rfl 31 ([tb1 F T zf q1,tb2 zf q2,tb3 zt q3].flatMap doCells)
   unfold doVal at x65 x70 x75
   clear hv hwas
   go_simp
   exact hK _ _ (fun h=>by cases h) (tb_step hE2 (List.mem_cons_of_mem _ hm) (.sub fun p hp=>List.mem_cons_of_mem _ hp) hF ⟨w'.heap.size,q1,q2,q3,rfl,List.mem_cons_self ..,List.mem_cons_of_mem _ h1,List.mem_cons_of_mem _ h2,List.mem_cons_of_mem _ h3⟩)
  | 19,_,ho,hli,hK=>
   obtain rfl:=Option.some.inj ho
   have x58:act.tmps[58]?.getD undef=.slice (some ⟨gm,0,none⟩) 1 1:=hv 0 58 rfl (by simp [Region.binds] at hd;simp [hd])
   have x76:act.tmps[76]?.getD undef=vs 18:=hv 18 76 rfl (by simp [Region.binds] at hd;simp [hd])
   obtain ⟨E,hE,hm,hF⟩:=hJ
   have l18:l 18=true:=by simp [Region.binds] at hd;simp [hd]
   obtain ⟨gd,q1,q2,q3,ev,hgd,h1,h2,h3⟩:=hF 18 l18
   rw [ev] at x76
   have hM:RdM w' w'.heap.size (some ⟨gm,0,none⟩) [⟨r,v,life⟩]:=rdM_blk (hE.all _ hm).2
   have hD:RdD w' w'.heap.size (some ⟨gd,0,none⟩) [tb1 F T zf q1,tb2 zf q2,tb3 zt q3]:=rdD_blk (hE.all _ hgd).2 (by
    intro x hx
    simp only [List.mem_cons,List.not_mem_nil,or_false] at hx
    rcases hx with rfl | rfl | rfl
    ·exact rdAB_blk (l:=[⟨2,(T:Int),(F:Int),0⟩]) (hE.all _ h1).2
    ·exact rdAB_blk (l:=[⟨6,0,0,0⟩]) (hE.all _ h2).2
    ·exact rdAB_blk (l:=[⟨7,zt,0,0⟩]) (hE.all _ h3).2)
   have hP:=hplay_any [⟨r,v,life⟩] (some ⟨gm,0,none⟩) 1 (by simp [maxLen]) (fun h=>by cases h) [tb1 F T zf q1,tb2 zf q2,tb3 zt q3] (some ⟨gd,0,none⟩) 3 (by simp [maxLen]) (by
    intro x hx
    simp only [List.mem_cons,List.not_mem_nil,or_false] at hx
    rcases hx with rfl | rfl | rfl<;>intro h<;>cases h) w' hM hD
   rw [hdos.out] at hP
   clear hv hwas
   go_simp
   refine hP.mono ?_
   rintro e w4 ⟨s,L,A,c,rfl,his,hL,HP⟩
   have hE2:=hE.join HP
   rw [hblh.out.1]
   exact hK _ _ (fun h=>by cases h) (tb_step hE2 (List.mem_append_left _ hm) (.sub fun p hp=>List.mem_append_left _ hp) hF ⟨s,_,rfl,A,c,L,rfl,by rw [← hblh.out.2,← hL,List.map_map];rfl,List.mem_append_right _ (List.mem_cons_self ..)⟩)
  | 20,_,ho,hli,hK=>
   obtain rfl:=Option.some.inj ho
   have x77:act.tmps[77]?.getD undef=vs 19:=hv 19 77 rfl (by simp [Region.binds] at hd;simp [hd])
   have l19:l 19=true:=by simp [Region.binds] at hd;simp [hd]
   clear hv hwas
   go_simp
   exact hK _ _ (fun h=>by cases h) (tb_same hJ (fun E hF=>hF 19 l19))
  | 21,_,ho,hli,hK=>
   obtain rfl:=Option.some.inj ho
   have x57:act.tmps[57]?.getD undef=vs 20:=hv 20 57 rfl (by simp [Region.binds] at hd;simp [hd])
   obtain ⟨E,hE,hm,hF⟩:=hJ
   have l20:l 20=true:=by simp [Region.binds] at hd;simp [hd]
   obtain ⟨s,u,e1,h1⟩:=hF 20 l20
   rw [e1] at x57
   clear hv hwas
   go_simp
   exact hK _ _ (fun h=>by cases h) (tb_step hE hm (.sub fun p hp=>hp) hF ⟨s,rfl⟩)
  | 22,_,ho,hli,hK=>
   obtain rfl:=Option.some.inj ho
   have x57:act.tmps[57]?.getD undef=vs 20:=hv 20 57 rfl (by simp [Region.binds] at hd;simp [hd])
   obtain ⟨E,hE,hm,hF⟩:=hJ
   have l20:l 20=true:=by simp [Region.binds] at hd;simp [hd]
   obtain ⟨s,u,e1,h1⟩:=hF 20 l20
   rw [e1] at x57
   clear hv hwas
   go_simp
   exact hK _ _ (fun h=>by cases h) (tb_step hE hm (.sub fun p hp=>hp) hF h1)
  | 23,_,ho,hli,hK=>
   obtain rfl:=Option.some.inj ho
   have x57:act.tmps[57]?.getD undef=vs 20:=hv 20 57 rfl (by simp [Region.binds] at hd;simp [hd])
   obtain ⟨E,hE,hm,hF⟩:=hJ
   have l20:l 20=true:=by simp [Region.binds] at hd;simp [hd]
   obtain ⟨s,u,e1,h1⟩:=hF 20 l20
   rw [e1] at x57
   clear hv hwas
   go_simp
   exact hK _ _ (fun h=>by cases h) (tb_step hE hm (.sub fun p hp=>hp) hF rfl)
  | 24,_,ho,hli,hK=>
   obtain rfl:=Option.some.inj ho
   obtain ⟨E,hE,hm,hF⟩:=hJ
   have hE2:=hE.newL w'.heap.size rfl 44 [.slice none 0 0,.slice none 0 0,.slice none 0 0,.slice none 0 0]
   clear hv hwas
   go_simp
   exact hK _ _ (fun h=>by cases h) (tb_step hE2 (List.mem_cons_of_mem _ hm) (.sub fun p hp=>List.mem_cons_of_mem _ hp) hF ⟨w'.heap.size,_,rfl,rfl,List.mem_cons_self ..⟩)
  | 25,_,ho,hli,hK=>
   obtain rfl:=Option.some.inj ho
   obtain ⟨E,hE,hm,hF⟩:=hJ
   have hE2:=hE.newL w'.heap.size rfl 48 [.int .i64 0,.int .i64 0]
   clear hv hwas
   go_simp
   exact hK _ _ (fun h=>by cases h) (tb_step hE2 (List.mem_cons_of_mem _ hm) (.sub fun p hp=>List.mem_cons_of_mem _ hp) hF ⟨w'.heap.size,rfl,List.mem_cons_self ..⟩)
  | 26,_,ho,hli,hK=>
   obtain rfl:=Option.some.inj ho
   have x12:act.tmps[12]?.getD undef=vs 24:=hv 24 12 rfl (by simp [Region.binds] at hd;simp [hd])
   have x78:act.tmps[78]?.getD undef=vs 21:=hv 21 78 rfl (by simp [Region.binds] at hd;simp [hd])
   obtain ⟨E,hE,hm,hF⟩:=hJ
   have l24:l 24=true:=by simp [Region.binds] at hd;simp [hd]
   have l21:l 21=true:=by simp [Region.binds] at hd;simp [hd]
   obtain ⟨g,cs,e1,hcl,hg⟩:=hF 24 l24
   obtain ⟨s,e2⟩:=hF 21 l21
   rw [e1] at x12
   rw [e2] at x78
   unfold hoVal at x78
   have hb:=(hE.all _ hg).2
   have z0:=hb.frozen 0;have z1:=hb.frozen 1;have z2:=hb.frozen 2;have z3:=hb.frozen 3
   obtain ⟨c0,c1,c2,c3,rfl⟩:∃ c0 c1 c2 c3,cs=[c0,c1,c2,c3]:=by match cs,hcl with | [a,b,c,d],_=>exact ⟨a,b,c,d,rfl⟩
   have d0:=hb.cell 0;have d1:=hb.cell 1;have d2:=hb.cell 2;have d3:=hb.cell 3
   simp at d0 d1 d2 d3
   obtain ⟨E',hE2,hr⟩:=tb_house hE hg hcl (.slice s.A s.l.length s.c) (.slice s.Ag s.gens.length s.cg) (.slice s.Am s.mods.length s.cm) (.slice s.As s.sys.length s.cs)
   clear hv hwas
   go_simp
   exact hK undef _ (fun h=>by cases h) (tb_step hE2 (hr.a _ hm (fun g' cs' e=>by unfold hoB at e;injection e with _ e _;revert e;decide)) hr hF trivial)
  | 27,_,ho,hli,hK=>
   obtain rfl:=Option.some.inj ho
   have x79:act.tmps[79]?.getD undef=vs 22:=hv 22 79 rfl (by simp [Region.binds] at hd;simp [hd])
   have l22:l 22=true:=by simp [Region.binds] at hd;simp [hd]
   clear hv hwas
   go_simp
   exact hK _ _ (fun h=>by cases h) (tb_same hJ (fun E hF=>hF 22 l22))
  | 28,_,ho,hli,hK=>
   obtain rfl:=Option.some.inj ho
   have x14:act.tmps[14]?.getD undef=vs 25:=hv 25 14 rfl (by simp [Region.binds] at hd;simp [hd])
   have x80:act.tmps[80]?.getD undef=vs 23:=hv 23 80 rfl (by simp [Region.binds] at hd;simp [hd])
   obtain ⟨E,hE,hm,hF⟩:=hJ
   have l25:l 25=true:=by simp [Region.binds] at hd;simp [hd]
   have l23:l 23=true:=by simp [Region.binds] at hd;simp [hd]
   obtain ⟨g,e1,hg⟩:=hF 25 l25
   have e2:=hF 23 l23
   replace e2:vs 23=.agg #[.int .i64 0,.int .i64 0]:=e2
   rw [e1] at x14
   rw [e2] at x80
   have hb:=(hE.all _ hg).2
   have z0:=hb.frozen 0;have z1:=hb.frozen 1
   have d0:=hb.cell 0;have d1:=hb.cell 1
   simp at d0 d1
   obtain ⟨E',hE2,hr⟩:=fault_same hE hg
   clear hv hwas
   go_simp
   exact hK undef _ (fun h=>by cases h) (tb_step hE2 (hr _ hm) (.sub hr) hF trivial)
end Go.Proofs.YtefdblaolmckmabGreat
