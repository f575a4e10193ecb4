/- Lemmas of the proof. -/
import Derived.Test.YtefdblaolmckmacGreatMBSpecDToHouU
import Derived.Test.YtefdblaolmckmacGreatMHouO
import Derived.Test.YtefdblaolmckmacGreatMBRowToInv
set_option linter.unusedVariables false
set_option linter.unusedSimpArgs false
set_option maxRecDepth 100000
set_option maxHeartbeats 12800000
namespace Go.Proofs.YtefdblaolmckmacGreat
open Brood
theorem doAll_len:∀ (l:List BDo) (h:BHouse),(doAll h l).2.length=l.length
 | [],_=>rfl
 | d::l,h=>by
  show ((doAll (doV h d).1 l).2.length+1)=l.length+1
  rw [doAll_len l]
theorem playV_at {mods:List BMod} {l:List BDo} (h1:(modsErr mods).1=0) (h2:l.length≤80):playV mods l=⟨(doAll (house0 mods) l).1,(doAll (house0 mods) l).2,(0,0)⟩:=by
 unfold playV
 rw [if_neg (by simpa using h1),if_neg (by omega)]
def LeG (a b:List Int):Prop:=∀ k:Nat,a.getD k 0≤b.getD k 0
theorem LeG.refl (a:List Int):LeG a a:=fun _=>Int.le_refl _
theorem LeG.trans {a b c:List Int} (h:LeG a b) (h':LeG b c):LeG a c:=fun k=>Int.le_trans (h k) (h' k)
theorem getD_ge {l:List Int} {k:Nat} (h:l.length≤k):l.getD k 0=0:=by
 rw [List.getD_eq_getElem?_getD,List.getElem?_eq_none h];rfl
theorem SpawnOk.leG {rows:List BRow} {gens:List Int} {has n:Int} {E:Spawned} (h:SpawnOk rows gens has n E):LeG gens E.gens∧∃ k:Nat,E.i=(k:Int)∧gens.getD k 0<E.g∧E.g≤E.gens.getD k 0:=by
 obtain ⟨m,hm,hml⟩:=h.pos
 have hg:=h.gen
 rw [hm] at hg
 have hlt:gens.getD m 0<E.g:=by
  rcases Nat.lt_or_ge m gens.length with h1 | h1
  ·have:=hg.1 (by omega)
   rw [Int.toNat_natCast] at this
   omega
  ·have e:m=gens.length:=by omega
   have:=hg.2 (by omega)
   rw [getD_ge h1]
   omega
 rw [h.gens_,hm]
 refine ⟨fun k=>?_,m,rfl,hlt,?_⟩
 ·rw [gp_get gens hml]
  split
  ·rename_i e;subst e;omega
  ·exact Int.le_refl _
 ·rw [gp_get gens hml,if_pos rfl];exact Int.le_refl _
theorem step_leG {W:BWorld} {i g:Int} {a:BAct} (h:(stepV W i g a).err=0):LeG W.gens (stepV W i g a).gens:=by
 rcases step_cases h with ⟨_,H⟩ | ⟨_,E,H,e1,e2⟩ | ⟨_,_,fr,k,q0,hf,H⟩ | ⟨_,e1,e2⟩
 ·rw [H.gens_];exact LeG.refl _
 ·rw [e2];exact H.leG.1
 ·rw [H.gens_];exact LeG.refl _
 ·rw [e2];exact LeG.refl _
theorem run_leG {W:BWorld} {x:BSys} (hw:RightB W) (he:(runM W x).err=0):LeG W.gens (runM W x).gens:=
 (runM_ind (P:=fun V=>LeG W.gens V.gens) he hw (LeG.refl _) (fun V b a _ _ _ hP hs=>hP.trans (step_leG hs))).2
theorem orS_has (s t k:Int):hasB (orS s t) k=(hasB s k || hasB t k):=has_or s t k
theorem run_gone {W:BWorld} {x:BSys} {i g:Int} (hw:RightB W) (he:(runM W x).err=0) (hl:0≤i∧i.toNat<W.gens.length) (hg:g≤W.gens.getD i.toNat 0) (ho:rowOf i g W.rows=none) :
  i.toNat<(runM W x).gens.length∧g≤(runM W x).gens.getD i.toNat 0∧rowOf i g (runM W x).rows=none:=by
 refine (runM_ind (P:=fun V=>i.toNat<V.gens.length∧g≤V.gens.getD i.toNat 0∧rowOf i g V.rows=none) he hw ⟨hl.2,hg,ho⟩ ?_).2
 intro V b a hb ha hV ⟨hl',hg,hP⟩ hs
 unfold bw
 dsimp only
 rcases step_cases hs with ⟨_,H⟩ | ⟨_,E,H,e1,e2⟩ | ⟨h6,h7,fr,k,q0,hf,H⟩ | ⟨_,e1,e2⟩
 ·rw [H.gens_]
  refine ⟨hl',hg,?_⟩
  by_cases hbe:i=b.idx∧g=b.gen
  ·rw [hbe.1,hbe.2];exact H.gone
  ·rw [H.rest hbe];exact hP
 ·rw [e1,e2]
  obtain ⟨g1,g2,g3⟩:=H.gens_le hl'
  exact ⟨g1,Int.le_trans hg g2,H.only hP (fun h=>by have:=g3 (by omega);omega)⟩
 ·rw [H.gens_]
  refine ⟨hl',hg,?_⟩
  by_cases hbe:i=b.idx∧g=b.gen
  ·have:=H.old_
   rw [← hbe.1,← hbe.2,hP] at this
   cases this
  ·rw [H.rest (fr_ok hf) hbe];exact hP
 ·rw [e1,e2];exact ⟨hl',hg,hP⟩
structure Kept (ws:Int) (r q:BRow):Prop where
 val:∀ k:Nat,k<8→hasB ws (k:Int)=false→q.vals.getD k 0=r.vals.getD k 0∧hasB q.has (k:Int)=hasB r.has (k:Int)
theorem all_gone {i g:Int}:∀ (l:List BSys) {W:BWorld},RightB W→(allE W l).2=0→(0≤i∧i.toNat<W.gens.length)→g≤W.gens.getD i.toNat 0→rowOf i g W.rows=none→rowOf i g (allE W l).1.rows=none
 | [],W,_,_,_,_,ho=>ho
 | x::l,W,hw,h,hl,hg,ho=>by
  rw [allE] at h ⊢
  by_cases h1:(runM W x).err≠0
  ·rw [if_pos h1] at h;exact absurd h h1
  ·rw [if_neg h1] at h ⊢
   have h1':(runM W x).err=0:=by simpa using h1
   obtain ⟨g1,g2,g3⟩:=run_gone hw h1' hl hg ho
   exact all_gone l (runM_right h1' hw) h ⟨hl.1,g1⟩ g2 g3
theorem all_kept {ws:Int}:∀ (l:List BSys) {W:BWorld},RightB W→(∀ x∈l,∀ k:Nat,hasB ws (k:Int)=false→hasB (needs x).writes (k:Int)=false)→(allE W l).2=0→∀ {r q:BRow},r∈W.rows→rowOf r.idx r.gen (allE W l).1.rows=some q→Kept ws r q
 | [],W,hw,_,_,r,q,hr,hq=>by
  have e:rowOf r.idx r.gen W.rows=some q:=hq
  rw [(rowOf_some_iff hw.rise).2 ⟨hr,rfl,rfl⟩] at e
  obtain rfl:=Option.some.inj e
  exact ⟨fun _ _ _=>⟨rfl,rfl⟩⟩
 | x::l,W,hw,hn,h,r,q,hr,hq=>by
  rw [allE] at h hq
  by_cases h1:(runM W x).err≠0
  ·rw [if_pos h1] at h;exact absurd h h1
  ·rw [if_neg h1] at h hq
   have h1':(runM W x).err=0:=by simpa using h1
   have hW:=runM_right h1' hw
   have hi:=hw.idx r hr
   cases ho:rowOf r.idx r.gen (runM W x).rows with
   | none=>
    have hl:r.idx.toNat<(runM W x).gens.length∧r.gen≤(runM W x).gens.getD r.idx.toNat 0:=by
     have hm:=run_leG hw h1' r.idx.toNat
     have hf:=hw.fit r hr
     have h1g:=hw.gen r.gen (by rw [hf,getD_get (show r.idx.toNat<W.gens.length by omega)];exact List.getElem_mem _)
     have hlt:r.idx.toNat<(runM W x).gens.length:=by
      rcases Nat.lt_or_ge r.idx.toNat (runM W x).gens.length with h | h
      ·exact h
      ·rw [getD_ge h] at hm;omega
     exact ⟨hlt,by omega⟩
    rw [all_gone l hW h ⟨hi.1,hl.1⟩ hl.2 ho] at hq
    cases hq
   | some p=>
    have hp:=(rowOf_some_iff hW.rise).1 ho
    have hk:=run_writes hw h1' hr ho
    have hq':rowOf p.idx p.gen (allE (bw (runM W x)) l).1.rows=some q:=by rw [hp.2.1,hp.2.2];exact hq
    have ih:=all_kept l hW (fun y hy=>hn y (List.mem_cons_of_mem _ hy)) h hp.1 hq'
    refine ⟨fun k k8 hwk=>?_⟩
    have e1:=ih.val k k8 hwk
    have e2:=hk.val k k8 (hn x (List.mem_cons_self ..) k hwk)
    exact ⟨e1.1.trans e2.1,e1.2.trans e2.2⟩
theorem all_beings:∀ (l:List BSys) {W:BWorld},RightB W→(∀ x∈l,(needs x).life=false)→(allE W l).2=0→(allE W l).1.rows.map beOf=W.rows.map beOf
 | [],W,_,_,_=>rfl
 | x::l,W,hw,hn,h=>by
  rw [allE] at h ⊢
  by_cases h1:(runM W x).err≠0
  ·rw [if_pos h1] at h;exact absurd h h1
  ·rw [if_neg h1] at h ⊢
   have h1':(runM W x).err=0:=by simpa using h1
   exact (all_beings l (runM_right h1' hw) (fun y hy=>hn y (List.mem_cons_of_mem _ hy)) h).trans (run_beings hw h1' (hn x (List.mem_cons_self ..))).1
open Go.RowKit
open Brood
theorem infoAns:(Tryz.prog.info? 44).map (fun i=>(i.zero,i.size,i.bytes))=some (some (.agg #[.int .i64 0,.int .i64 0,.int .i64 0,.slice none 0 0,.int .i64 0]),5,56):=by kernel_rfl
structure AnsIn where
 a:BAns
 A:Option Addr
 c:Nat
def ansCells (x:AnsIn):List Value:=[.int .i64 x.a.err,.int .i64 x.a.i,.int .i64 x.a.g,.slice x.A x.a.bs.length x.c,.int .i64 x.a.n]
def ansEnt (x:AnsIn):Ent:=aoE x.A x.c x.a.bs
def pkA (A:Option Addr) (c:Nat) (L:List AnsIn):Ent:=.own (.slice A L.length c) 44 5 L.length (L.flatMap ansCells)
def hoVal (s:HIn):Value:=.agg #[.slice s.A s.l.length s.c,.slice s.Ag s.gens.length s.cg,.slice s.Am s.mods.length s.cm,.slice s.As s.sys.length s.cs]
def hoK (s:HIn):List Ent:=sysE s::modE s::(stE s.A s.c s.l s.Ag s.cg s.gens++s.sys.map actE)
def sZero:HIn:=⟨none,0,[],none,0,[],none,0,[],none,0,[]⟩
def PlayPost (w:World) (P:Played) (e:Ending) (w':World):Prop:=∃ (s:HIn) (L:List AnsIn) (A:Option Addr) (c:Nat),e=.returned (.tuple #[hoVal s,.slice A L.length c,.agg #[.int .i64 P.f.1,.int .i64 P.f.2]])∧HIs s P.h∧L.map (·.a)=P.a∧Hp w w' (pkA A c L::(hoK s++L.map ansEnt))
theorem sZero_is:HIs sZero ⟨[],[],⟨[],[]⟩⟩:=⟨rfl,rfl,rfl,rfl⟩
theorem zero_ents {w0 w:World} {E:List Ent} (h:Hp w0 w E):Hp w0 w (pkA none 0 []::(hoK sZero++([]:List AnsIn).map ansEnt)):=by
 have h0:=h.sub (List.nil_sublist E)
 have h1:=(((((h0.nil_ 44 5).nil_ 51 4).nil_ 55 3).nil_ 3 1).nil_ 102 3)
 exact h1
theorem rdM_none {w:World} {B:Nat} {l:List BMod} (h:RdM w B none l):l=[]:=by
 match l,h with
 | [],_=>rfl
 | a::l,h=>obtain ⟨b,off,e,_⟩:=h.2 (by simp);cases e
theorem play_perm (a b c d e f g h i:Ent):([a,b,c,d,e,f,g,h,i]:List Ent).Perm [a,h,e,f,g,i,b,c,d]:=by
 have h1:([b,c,d]++([e,f,g]++[h,i])).Perm ([h,e,f,g,i]++[b,c,d]):=by
  refine List.perm_append_comm.trans (List.Perm.append_right _ ?_)
  exact List.perm_middle
 exact .cons _ h1
theorem play_close {w0 w:World} {b1:Ent} {bh:Nat} {s:HIn} {A:Option Addr} {c:Nat} {a':BAns} {L:List AnsIn} {A4:Option Addr} {c4:Nat} {f7 f6 h4:Ent}
  (H:Hp w0 w (b1::.own (.slice A4 (L.length+1) c4) 44 5 (L.length+1) (L.flatMap ansCells++[.int .i64 a'.err,.int .i64 a'.i,.int .i64 a'.g,.slice A a'.bs.length c,.int .i64 a'.n])::aoE A c a'.bs::(hoE bh s++(f7::f6::h4::L.map ansEnt)))) :
  Hp w0 w (hoE bh s++(pkA A4 c4 (L++[⟨a',A,c⟩])::f7::f6::h4::(L++[(⟨a',A,c⟩:AnsIn)]).map ansEnt)):=by
 have e:hoE bh s++(pkA A4 c4 (L++[⟨a',A,c⟩])::f7::f6::h4::(L++[(⟨a',A,c⟩:AnsIn)]).map ansEnt)=hoE bh s++(.own (.slice A4 (L.length+1) c4) 44 5 (L.length+1) (L.flatMap ansCells++[.int .i64 a'.err,.int .i64 a'.i,.int .i64 a'.g,.slice A a'.bs.length c,.int .i64 a'.n])::((f7::f6::h4::L.map ansEnt)++[aoE A c a'.bs])):=by
  unfold pkA
  simp [ansCells,ansEnt]
 rw [e]
 refine (H.drop1 0).perm ?_
 refine List.Perm.trans ?_ List.perm_middle.symm
 refine .cons _ ?_
 rw [← List.append_assoc]
 exact (List.perm_append_comm (l₁:=[aoE A c a'.bs]))
theorem play_last {w0 w:World} {bh:Nat} {s:HIn} {L:List AnsIn} {A4:Option Addr} {c4:Nat} {f7 f6 h4:Ent} (H:Hp w0 w (hoE bh s++(pkA A4 c4 L::f7::f6::h4::L.map ansEnt))) :
  Hp w0 w (s.box bh::f6::h4::pkA A4 c4 L::(hoK s++L.map ansEnt)):=by
 have H1:Hp w0 w (s.box bh::(hoK s++([pkA A4 c4 L]++([f7,f6,h4]++L.map ansEnt)))):=H
 have H2:=H1.perm (.cons _ (List.perm_append_comm_assoc (hoK s) [pkA A4 c4 L] _))
 have H3:Hp w0 w (s.box bh::pkA A4 c4 L::(hoK s++([f7,f6,h4]++L.map ansEnt))):=H2
 have H4:=H3.perm (.cons _ (.cons _ (List.perm_append_comm_assoc (hoK s) [f7,f6,h4] _)))
 have H5:Hp w0 w (s.box bh::pkA A4 c4 L::f7::f6::h4::(hoK s++L.map ansEnt)):=H4
 refine (H5.drop1 2).perm (.cons _ ?_)
 exact (List.perm_append_comm_assoc [pkA A4 c4 L] [f6,h4] _)
theorem hplay_any (mods:List BMod) (mA:Option Addr) (mc:Nat) (hml:mods.length≤maxLen) (hmn:mA=none→mc=0) (l:List DIn) (dA:Option Addr) (dc:Nat) (hll:l.length≤maxLen) (hln:∀ x∈l,x.A=none→x.c=0) (w:World) (hM:RdM w w.heap.size mA mods) (hD:RdD w w.heap.size dA l) :
  Calls Tryz.prog 12 #[.slice mA mods.length mc,.slice dA l.length dc] w (PlayPost w (playV mods (doOf l))):=by
 have hV:Hid (playV mods (doOf l)=if (modsErr mods).1≠0 then ⟨⟨[],[],⟨[],[]⟩⟩,[],modsErr mods⟩
  else if 80<l.length then ⟨⟨[],[],⟨[],[]⟩⟩,[],(4,0)⟩
  else ⟨(doAll (house0 mods) (doOf l)).1,(doAll (house0 mods) (doOf l)).2,(0,0)⟩):=Lib.hid (by unfold playV;rw [doOf_length])
 have hmr:Hid ((modsErr mods).1=0→mods.length≤6∧HouseR mods (house0 mods)):=Lib.hid (fun h=>⟨(mods_right h).1,house0_right h⟩)
 generalize playV mods (doOf l)=V at *
 unfold PlayPost
 have H0:=((Hp.start w).newL w.heap.size rfl 30 [.slice none 0 0,.slice none 0 0,.slice none 0 0,.slice none 0 0]).newL (w.heap.size+1) (by simp) 34 [.int .i64 0,.int .i64 0]
 have hH0:=Lib.hid H0
 have hlenm:=Lib.hid hml;have hlenl:=Lib.hid hll
 clear H0 hml hll
 go_enter Tryz.func12,Tryz.ntmps12
 go_upto_region 1 with fail
 obtain ⟨w1,hw1,H0⟩:=hH0.out.name
 rw [hw1]
 obtain ⟨g4,hg4⟩:∃ g4,g4=w.heap.size:=⟨_,rfl⟩
 rw [← hg4] at H0 ⊢
 clear hw1 hH0 hg4
 have hwr:=Lib.hid (hwrong_any mods mA mc hlenm.out w1 (Rd.grow hM H0.bel))
 have hH0:=Lib.hid H0
 clear H0
 go_wp2_with fail
 refine hwr.out.mono ?_
 generalize modsErr mods=F at *
 obtain ⟨f1,f2⟩:=F
 dsimp only at hV hmr ⊢
 rintro e w2 ⟨rfl,hb2⟩
 have H1:=(hH0.out.grow hb2).newL w2.heap.size rfl 34 [.int .i64 f1,.int .i64 f2]
 have hH1:=Lib.hid H1
 clear H1 hH0 hwr hb2
 go_upto_region 2 with fail
 obtain ⟨w3,hw3,H1⟩:=hH1.out.name
 rw [hw3]
 obtain ⟨g7,hg7⟩:∃ g7,g7=w2.heap.size:=⟨_,rfl⟩
 rw [← hg7] at H1 ⊢
 clear hw3 hH1 hg7
 have ff:=H1.cell 0 0 rfl rfl
 by_cases hf:f1=0
 case neg=>
  have hf':(f1 != 0)=true:=by simpa using hf
  have hE:Hid (V=⟨⟨[],[],⟨[],[]⟩⟩,[],(f1,f2)⟩):=Lib.hid (by rw [hV.out,if_pos hf])
  have hH1:=Lib.hid H1
  clear H1 hV hmr hf
  go_upto_region 3 with fail
  clear ff
  refine wp_region_mx mixed (by kernel_rfl) (by kernel_rfl) (fun _=>true) (tab [.agg #[.slice none 0 0,.slice none 0 0,.slice none 0 0,.slice none 0 0],.agg #[.int .i64 f1,.int .i64 f2],undef,.slice none 0 0,undef]) (fun l vs w'=>Hp w w' [.box g7 34 [.int .i64 f1,.int .i64 f2],.box (g4+1) 34 (if l 4 then [.int .i64 f1,.int .i64 f2] else [.int .i64 0,.int .i64 0]),.box g4 30 [.slice none 0 0,.slice none 0 0,.slice none 0 0,.slice none 0 0]]) ?_ ?_ ?_
  ·exact hH1.out.drew
  ·intro vs w' l1 hJ hl
   rw [putAll_tab _ _ _ _ [(some 16,.agg #[.slice none 0 0,.slice none 0 0,.slice none 0 0,.slice none 0 0]),(some 17,.agg #[.int .i64 f1,.int .i64 f2]),(none,undef),(some 5,.slice none 0 0),(none,undef)] rfl]
   simp only [putL_eq,putT,List.set_cons_succ,List.set_cons_zero]
   have l4:=hl 4 (by decide)
   rw [l4] at hJ
   have r0:=hJ.cell 2 0 rfl rfl;have r1:=hJ.cell 2 1 rfl rfl;have r2:=hJ.cell 2 2 rfl rfl;have r3:=hJ.cell 2 3 rfl rfl;have r4:=hJ.cell 1 0 rfl rfl;have r5:=hJ.cell 1 1 rfl rfl
   have hJh:=Lib.hid hJ
   clear hJ hl hH1
   go_wp2_with fail
   refine bodyPost_ret (v:=.tuple #[hoVal sZero,.slice none 0 0,.agg #[.int .i64 f1,.int .i64 f2]]) (by simp [results,Tryz.results12,go_sem,r0,r1,r2,r3,r4,r5,hoVal,sZero]) rfl ⟨sZero,[],none,0,by rw [hE.out];rfl,by rw [hE.out];exact sZero_is,by rw [hE.out];rfl,zero_ents hJh.out⟩
  ·intro qq op ho l vs act w' hJ hsh hli hd hv hwas K hK
   have hiq:qq<5:=lt_of_some ho
   have s4_:=hwas 4 rfl
   have s6_:=hwas 6 rfl
   have s7_:=hwas 7 rfl
   simp at s4_ s6_ s7_
   match qq,hiq,ho,hli,hK with
   | 0,_,ho,hli,hK=>
    obtain rfl:=sj ho
    clear hv hwas
    go_simp
    exact hK _ _ (fun _=>rfl) hJ
   | 1,_,ho,hli,hK=>
    obtain rfl:=sj ho
    have y0:=hJ.cell 0 0 rfl rfl;have y1:=hJ.cell 0 1 rfl rfl
    clear hv hwas
    go_simp
    exact hK _ _ (fun _=>rfl) hJ
   | 2,_,ho,hli,hK=>
    obtain rfl:=sj ho
    have x16:act.tmps[16]?.getD undef=.agg #[.slice none 0 0,.slice none 0 0,.slice none 0 0,.slice none 0 0]:=hv 0 16 rfl (rb hd rfl)
    have z0:=hJ.frozen 2 0 rfl;have z1:=hJ.frozen 2 1 rfl;have z2:=hJ.frozen 2 2 rfl;have z3:=hJ.frozen 2 3 rfl
    have d0:=hJ.cell 2 0 rfl rfl;have d1:=hJ.cell 2 1 rfl rfl;have d2:=hJ.cell 2 2 rfl rfl;have d3:=hJ.cell 2 3 rfl rfl
    have HQ:=(((hJ.set 2 0 (.slice none 0 0) rfl).set 2 1 (.slice none 0 0) rfl).set 2 2 (.slice none 0 0) rfl).set 2 3 (.slice none 0 0) rfl
    clear hv hwas
    go_simp
    exact hK _ _ (fun _=>rfl) HQ
   | 3,_,ho,hli,hK=>
    obtain rfl:=sj ho
    clear hv hwas
    go_simp
    exact hK _ _ (fun _=>rfl) hJ
   | 4,_,ho,hli,hK=>
    obtain rfl:=sj ho
    have x17:act.tmps[17]?.getD undef=.agg #[.int .i64 f1,.int .i64 f2]:=hv 1 17 rfl (rb hd rfl)
    rw [hli] at hJ
    have z0:=hJ.frozen 1 0 rfl;have z1:=hJ.frozen 1 1 rfl
    have d0:=hJ.cell 1 0 rfl rfl;have d1:=hJ.cell 1 1 rfl rfl
    have HQ:=(hJ.set 1 0 (.int .i64 f1) rfl).set 1 1 (.int .i64 f2) rfl
    clear hv hwas
    go_simp
    exact hK _ _ (fun _=>rfl) HQ
 subst hf
 obtain ⟨hm6,hr0⟩:=hmr.out rfl
 have hr0h:=Lib.hid hr0;have hm6h:=Lib.hid hm6
 have hH1:=Lib.hid H1
 clear H1 hmr hr0 hm6
 by_cases h80:80<l.length
 ·have hE:Hid (V=⟨⟨[],[],⟨[],[]⟩⟩,[],(4,0)⟩):=Lib.hid (by rw [hV.out,if_neg (by simp),if_pos h80])
  have i80:(80:Int)<(l.length:Int):=by omega
  have H1:=hH1.out
  have z0:=H1.frozen 2 0 rfl;have z1:=H1.frozen 2 1 rfl;have z2:=H1.frozen 2 2 rfl;have z3:=H1.frozen 2 3 rfl
  have y0:=H1.frozen 1 0 rfl;have y1:=H1.frozen 1 1 rfl;have e0:=H1.cell 1 0 rfl rfl;have e1:=H1.cell 1 1 rfl rfl
  have d0:=H1.cell 2 0 rfl rfl;have d1:=H1.cell 2 1 rfl rfl;have d2:=H1.cell 2 2 rfl rfl;have d3:=H1.cell 2 3 rfl rfl
  have H2:=((((((H1.set 2 0 (.slice none 0 0) rfl).set 2 1 (.slice none 0 0) rfl).set 2 2 (.slice none 0 0) rfl).set 2 3 (.slice none 0 0) rfl).set 1 0 (.int .i64 4) rfl).set 1 1 (.int .i64 0) rfl)
  have r0:=H2.cell 2 0 rfl rfl;have r1:=H2.cell 2 1 rfl rfl;have r2:=H2.cell 2 2 rfl rfl;have r3:=H2.cell 2 3 rfl rfl;have r4:=H2.cell 1 0 rfl rfl;have r5:=H2.cell 1 1 rfl rfl
  have hne:=H1.ne 2 1 rfl rfl (by decide)
  have hH2:=Lib.hid H2
  clear H1 H2 h80 hV
  go_wp2_with fail
  refine bodyPost_ret (v:=.tuple #[hoVal sZero,.slice none 0 0,.agg #[.int .i64 4,.int .i64 0]]) (by simp [results,Tryz.results12,go_sem,r0,r1,r2,r3,r4,r5,hoVal,sZero]) rfl ⟨sZero,[],none,0,by rw [hE.out];rfl,by rw [hE.out];exact sZero_is,by rw [hE.out];rfl,zero_ents hH2.out⟩
 have hE:Hid (V=⟨(doAll (house0 mods) (doOf l)).1,(doAll (house0 mods) (doOf l)).2,(0,0)⟩):=Lib.hid (by rw [hV.out,if_neg (by simp),if_neg h80])
 have i80:¬ (80:Int)<(l.length:Int):=by omega
 have hl80:Hid (l.length≤80):=Lib.hid (by omega)
 clear h80 hV
 go_upto_region 6 with fail
 clear ff i80
 have H2:=hH1.out.newL w3.heap.size rfl 81 [.slice none 0 0,.slice none 0 0,.slice none 0 0,.slice none 0 0]
 have hH2:=Lib.hid H2
 clear H2 hH1
 go_upto_region 7 with fail
 obtain ⟨w4,hw4,H2⟩:=hH2.out.name
 rw [hw4]
 obtain ⟨bh,hbh⟩:∃ bh,bh=w3.heap.size:=⟨_,rfl⟩
 rw [← hbh] at H2 ⊢
 clear hw4 hH2 hbh
 have hcl:=Lib.hid (cloneM_any mods mA mc (by have:=hm6h.out;omega) (fun e=>⟨hmn e,by have h0:=hM;rw [e] at h0;exact rdM_none h0⟩) w4 (Rd.grow hM H2.bel))
 have hH2:=Lib.hid H2
 clear H2
 go_wp2_with fail
 refine hcl.out.mono ?_
 rintro e w5 ⟨v,rfl,hown,hb5⟩
 have H3:=hH2.out.got hb5 hown
 obtain ⟨A5,c5,rfl,_,_⟩:=own_shape hown
 clear hown hb5 hH2 hcl
 have y2:=H3.frozen 0 2 rfl;have p2:=H3.cell 0 2 rfl rfl
 have H4:=H3.set 0 2 (.slice A5 mods.length c5) rfl
 have hlb:=H3.lt 0 rfl
 have hH4:=Lib.hid H4
 clear H3 H4
 go_upto_region 9 with fail
 obtain ⟨w6,hw6,H4⟩:=hH4.out.name
 rw [hw6]
 clear hw6 hH4 y2 p2 hlb
 obtain ⟨s0,hs0⟩:∃ s0:HIn,s0=⟨none,0,[],none,0,[],A5,c5,mods,none,0,[]⟩:=⟨_,rfl⟩
 have his0:HIs s0 (house0 mods):=by rw [hs0];exact ⟨rfl,rfl,rfl,rfl⟩
 have H5:Hp w w6 (hoE bh s0++(pkA none 0 []::.box g7 34 [.int .i64 0,.int .i64 f2]::.box (g4+1) 34 [.int .i64 0,.int .i64 0]::.box g4 30 [.slice none 0 0,.slice none 0 0,.slice none 0 0,.slice none 0 0]::([]:List AnsIn).map ansEnt)):=by
  have H6:=(((H4.nil_ 3 1).nil_ 102 3).nil_ 51 4).nil_ 44 5
  rw [hs0]
  refine H6.perm ?_
  show ([_,_,_,_,_,_,_,_,_]:List Ent).Perm [_,_,_,_,_,_,_,_,_]
  exact play_perm _ _ _ _ _ _ _ _ _
 have hH5:=Lib.hid H5;have his0h:=Lib.hid his0
 clear H4 H5 his0 hs0
 go_wp2_with fail
 go_loopw [9,33] (fun s9 q wr=>∃ (k:Nat) (s:HIn) (h:BHouse) (L:List AnsIn) (A3:Option Addr) (c3:Nat),k≤l.length∧q=.int .i64 k∧L.length=k∧s9=.slice A3 L.length c3∧HIs s h∧HouseR mods h ∧
  Hid ((doAll (house0 mods) (doOf l)).1=(doAll h ((doOf l).drop k)).1∧(doAll (house0 mods) (doOf l)).2=L.map (·.a)++(doAll h ((doOf l).drop k)).2) ∧
  Hp w wr (hoE bh s++(pkA A3 c3 L::.box g7 34 [.int .i64 0,.int .i64 f2]::.box (g4+1) 34 [.int .i64 0,.int .i64 0]::.box g4 30 [.slice none 0 0,.slice none 0 0,.slice none 0 0,.slice none 0 0]::L.map ansEnt))) (fun _ q _=>l.length-(intOf q).toNat)
 case atStart=>exact ⟨0,s0,house0 mods,[],none,0,by omega,rfl,rfl,rfl,his0h.out,hr0h.out,Lib.hid ⟨by simp,by simp⟩,hH5.out⟩
 case round=>
  clear hH5 his0h hr0h
  obtain ⟨k,s,h,L,A3,c3,hk,rfl,hLk,rfl,his,hr,hst,H⟩:=hrel
  have hLkh:=Lib.hid hLk
  by_cases hlt:k<l.length
  ·have hRd:RdD wr w.heap.size dA l:=hD.under H.bel (Nat.le_refl _)
   obtain ⟨db,off,eA,hdb,hat⟩:=(hD.at_ hlt)
   have hln':=hln l[k] (List.getElem_mem hlt)
   have hact:=hD.acts l[k] (List.getElem_mem hlt)
   have hdr:=Lib.hid (doOf_drop hlt)
   generalize l[k]=x at *
   have hnew:Hid ((doAll (house0 mods) (doOf l)).1=(doAll (doV h x.d).1 ((doOf l).drop (k+1))).1∧(doAll (house0 mods) (doOf l)).2=(L.map (·.a)++[(doV h x.d).2])++(doAll (doV h x.d).1 ((doOf l).drop (k+1))).2):=Lib.hid (by
    have h0:=hst.out
    rw [hdr.out] at h0
    refine ⟨h0.1,h0.2.trans ?_⟩
    rw [List.append_assoc]
    rfl)
   have hr':=Lib.hid (hr.do_ x.d)
   have hdo:=Lib.hid (hdo_any mods bh s h his hr x db (off+k*12) w wr _ H hdb hat hln' hact)
   have hL80:L.length<80:=by have:=hl80.out;omega
   have hl80':=hl80.out
   have i0:(0:Int)≤(k:Int):=by omega
   have i1:(k:Int)<(l.length:Int):=by omega
   clear hRd hat hact hln' hst hdr his hr H hLk
   rw [eA]
   go_wp2_with fail
   refine hdo.out.mono ?_
   rintro e w7 ⟨s',A,c,rfl,his',H6⟩
   have his'h:=Lib.hid his'
   generalize doV h x.d=V2 at *
   obtain ⟨h',a'⟩:=V2
   dsimp only at hr' hnew his'h H6 ⊢
   have H7:Hp w w7 (pkA A3 c3 L::aoE A c a'.bs::(hoE bh s'++(.box g7 34 [.int .i64 0,.int .i64 f2]::.box (g4+1) 34 [.int .i64 0,.int .i64 0]::.box g4 30 [.slice none 0 0,.slice none 0 0,.slice none 0 0,.slice none 0 0]::L.map ansEnt))):=H6.perm ((List.Perm.cons _ List.perm_middle).trans (List.Perm.swap _ _ _))
   obtain ⟨i0',hi0,hz0a,hz0b,hz0c⟩:=info_parts infoAns
   have HN:=H7.newL w7.heap.size rfl 44 [.int .i64 a'.err,.int .i64 a'.i,.int .i64 a'.g,.slice A a'.bs.length c,.int .i64 a'.n]
   have hHN:=Lib.hid HN
   have hown:=HN.owns 1 rfl
   clear H6 H7 HN hdo his'
   unfold ansVal
   go_wp2_with (at_builtin;refine wpList_append_own_at _ rfl _ _ 31 rfl w.heap.size 44 i0' (.agg #[.int .i64 0,.int .i64 0,.int .i64 0,.slice none 0 0,.int .i64 0]) 5 56 Tryz.underlying31 hi0 hz0a hz0b hz0c rfl (by decide) _ _ _ rfl hown ⟨w7.heap.size,0,none⟩ 1 1 [.int .i64 a'.err,.int .i64 a'.i,.int .i64 a'.g,.slice A a'.bs.length c,.int .i64 a'.n] rfl rfl ?c1 ?c2 ?c3 ?c4 ?c5 ?_;rotate_left 5;intro v' w8 hown8 hgrow8 _ hat8;have H8:=hHN.out.app 1 rfl hgrow8 hown8 (hat8.imp id (fun e g hg=>by rw [e] at hg;injection hg with hg;omega));obtain ⟨A4,c4,rfl,hs1,hs2⟩:=own_shape hown8)
   case c1=>exact news_blk (hHN.out.blk 0 rfl)
   case c2=>simp [Value.oneCell']
   case c3=>unfold maxLen;omega
   case c4=>omega
   case c5=>simpa using hHN.out.bel.size
   have hH8:=Lib.hid H8
   clear H8
   go_roundw
   case rel=>
    refine ⟨k+1,s',h',L++[⟨a',A,c⟩],A4,c4,by omega,by go_num,by simp [hLkh.out],by simp,his'h.out,hr'.out,Lib.hid ?_,?_⟩
    ·have h0:=hnew.out
     refine ⟨h0.1,h0.2.trans ?_⟩
     simp
    ·exact play_close hH8.out
   case measure=>simp [intOf];omega
  ·obtain rfl:k=l.length:=by omega
   have hfin:=hst.out
   have e0:(doOf l).drop l.length=[]:=by rw [← doOf_length l,List.drop_length]
   rw [e0] at hfin
   have hfh:=Lib.hid (show (doAll (house0 mods) (doOf l)).1=h∧(doAll (house0 mods) (doOf l)).2=L.map (·.a) from ⟨hfin.1,hfin.2.trans (List.append_nil _)⟩)
   have hish:=Lib.hid his
   have H6:Hp w wr (.box bh 81 [.slice s.A s.l.length s.c,.slice s.Ag s.gens.length s.cg,.slice s.Am s.mods.length s.cm,.slice s.As s.sys.length s.cs]::.box (g4+1) 34 [.int .i64 0,.int .i64 0]::.box g4 30 [.slice none 0 0,.slice none 0 0,.slice none 0 0,.slice none 0 0]::pkA A3 c3 L::(hoK s++L.map ansEnt)):=play_last H
   have x0:=H6.cell 0 0 rfl rfl;have x1:=H6.cell 0 1 rfl rfl;have x2:=H6.cell 0 2 rfl rfl;have x3:=H6.cell 0 3 rfl rfl
   have z0:=H6.frozen 2 0 rfl;have z1:=H6.frozen 2 1 rfl;have z2:=H6.frozen 2 2 rfl;have z3:=H6.frozen 2 3 rfl
   have y0:=H6.frozen 1 0 rfl;have y1:=H6.frozen 1 1 rfl;have e0:=H6.cell 1 0 rfl rfl;have e1:=H6.cell 1 1 rfl rfl
   have d0:=H6.cell 2 0 rfl rfl;have d1:=H6.cell 2 1 rfl rfl;have d2:=H6.cell 2 2 rfl rfl;have d3:=H6.cell 2 3 rfl rfl
   have H7:=((((((H6.set 2 0 (.slice s.A s.l.length s.c) rfl).set 2 1 (.slice s.Ag s.gens.length s.cg) rfl).set 2 2 (.slice s.Am s.mods.length s.cm) rfl).set 2 3 (.slice s.As s.sys.length s.cs) rfl).set 1 0 (.int .i64 0) rfl).set 1 1 (.int .i64 0) rfl)
   have r0:=H7.cell 2 0 rfl rfl;have r1:=H7.cell 2 1 rfl rfl;have r2:=H7.cell 2 2 rfl rfl;have r3:=H7.cell 2 3 rfl rfl;have r4:=H7.cell 1 0 rfl rfl;have r5:=H7.cell 1 1 rfl rfl
   have hne:=H6.ne 2 1 rfl rfl (by decide)
   have hH7:=Lib.hid H7
   clear H H6 H7 hst hfin his hr hLk
   go_wp2_with fail
   refine bodyPost_ret (v:=.tuple #[hoVal s,.slice A3 L.length c3,.agg #[.int .i64 0,.int .i64 0]]) (by simp [results,Tryz.results12,go_sem,r0,r1,r2,r3,r4,r5,hoVal]) rfl ⟨s,L,A3,c3,by rw [hE.out],by rw [hE.out,hfh.out.1];exact hish.out,by rw [hE.out,hfh.out.2],((hH7.out.drop1 0).drop1 0).drop1 0⟩
open Brood
def sysD (need:Int) (l:List BAct):BDo:=⟨5,0,0,0,0,0,⟨0,need,0,l⟩,0,0⟩
def spawnD (has n:Int):BDo:=⟨1,has,0,n,0,0,⟨0,0,0,[]⟩,0,0⟩
def askD (need part:Int):BDo:=⟨7,0,part,0,0,0,⟨0,0,0,[]⟩,need,0⟩
def tickD:BDo:=⟨6,0,0,0,0,0,⟨0,0,0,[]⟩,0,0⟩
theorem alive7_is:((playV [⟨1,1,false⟩] [spawnD 1 5,sysD 1 [⟨4,0,0,2⟩],tickD,askD 0 0]).f,(playV [⟨1,1,false⟩] [spawnD 1 5,sysD 1 [⟨4,0,0,2⟩],tickD,askD 0 0]).a.map (·.n))=((0,0),[0,1,1,7]):=by decide +kernel
open Go.RowKit
theorem Rd.of_blk {w:World} {g sz n:Nat} {t:TypeId} {cs:Array Value} (h:Blk w g t cs) (hl:cs.toList.length=n*sz):Rd w w.heap.size sz (some ⟨g,0,none⟩) n cs.toList:=
 ⟨hl,fun _=>⟨g,0,rfl,h.lt,fun j u hu=>by rw [Nat.zero_add,h.cell j];simpa using hu⟩⟩
open Go.RowKit
open Brood
open Go.RowKit
open Brood
theorem pkA_at {w0 w:World} {E:List Ent} (H:Hp w0 w E) (k:Nat) {A:Option Addr} {c:Nat} {L:List AnsIn} (hk:E[k]?=some (pkA A c L)) {i:Nat} (hi:i<L.length) :
  ∃ b off,A=some ⟨b,off,none⟩∧b<w.heap.size∧w.cell? ⟨b,off+i*5,none⟩=some (.int .i64 L[i].a.err)∧w.cell? ⟨b,off+i*5+1,none⟩=some (.int .i64 L[i].a.i)∧w.cell? ⟨b,off+i*5+2,none⟩=some (.int .i64 L[i].a.g) ∧
   w.cell? ⟨b,off+i*5+3,none⟩=some (.slice L[i].A L[i].a.bs.length L[i].c)∧w.cell? ⟨b,off+i*5+4,none⟩=some (.int .i64 L[i].a.n):=by
 have hr:Rd w w.heap.size 5 A L.length (L.flatMap ansCells):=H.rd k hk
 obtain ⟨b,off,e,hb,hc⟩:=hr.2 (by omega)
 have hf:∀ x,(ansCells x).length=5:=fun _=>rfl
 refine ⟨b,off,e,hb,?_,?_,?_,?_,?_⟩
 ·have:=hc (i*5+0) _ (flat_get hf L i hi 0 (by omega));simpa using this
 ·have:=hc (i*5+1) _ (flat_get hf L i hi 1 (by omega));simpa [Nat.add_assoc] using this
 ·have:=hc (i*5+2) _ (flat_get hf L i hi 2 (by omega));simpa [Nat.add_assoc] using this
 ·have:=hc (i*5+3) _ (flat_get hf L i hi 3 (by omega));simpa [Nat.add_assoc] using this
 ·have:=hc (i*5+4) _ (flat_get hf L i hi 4 (by omega));simpa [Nat.add_assoc] using this
theorem rdM_blk {w:World} {g:Nat} {t:TypeId} {l:List BMod} (h:Blk w g t (l.flatMap modCells).toArray):RdM w w.heap.size (some ⟨g,0,none⟩) l:=by
 have:=Rd.of_blk (sz:=3) (n:=l.length) h (by
  rw [List.toList_toArray]
  exact flat_length (f:=modCells) (fun _=>rfl) l)
 rw [List.toList_toArray] at this
 exact this
theorem rdAB_blk {w:World} {g:Nat} {t:TypeId} {l:List BAct} (h:Blk w g t (l.flatMap actCells).toArray):RdAB w w.heap.size (some ⟨g,0,none⟩) l:=by
 have:=Rd.of_blk (sz:=4) (n:=l.length) h (by
  rw [List.toList_toArray]
  exact flat_length (f:=actCells) (fun _=>rfl) l)
 rw [List.toList_toArray] at this
 exact this
theorem rdD_blk {w:World} {g:Nat} {t:TypeId} {l:List DIn} (h:Blk w g t (l.flatMap doCells).toArray) (ha:∀ x∈l,RdAB w w.heap.size x.A x.d.sys.acts):RdD w w.heap.size (some ⟨g,0,none⟩) l:=by
 have:=Rd.of_blk (sz:=12) (n:=l.length) h (by
  rw [List.toList_toArray]
  exact flat_length (f:=doCells) (fun _=>rfl) l)
 rw [List.toList_toArray] at this
 exact ⟨this,ha⟩
theorem rdAB_nil {w:World} {B:Nat}:RdAB w B none []:=Rd.nil_
open Go.RowKit
open Brood
theorem infoDo:(Tryz.prog.info? 58).map (fun i=>(i.zero,i.size,i.bytes))=some (some (.agg #[.int .i64 0,.int .i64 0,.int .i64 0,.int .i64 0,.int .i64 0,.int .i64 0,.int .i64 0,.int .i64 0,.int .i64 0,.slice none 0 0,.int .i64 0,.int .i64 0]),12,112):=by kernel_rfl
def pkD (A:Option Addr) (c:Nat) (L:List DIn):Ent:=.own (.slice A L.length c) 58 12 L.length (L.flatMap doCells)
theorem pkD_rd {w0 w:World} {E:List Ent} (H:Hp w0 w E) (k:Nat) {A:Option Addr} {c:Nat} {L:List DIn} (hk:E[k]?=some (pkD A c L)) (ha:∀ x∈L,RdAB w w.heap.size x.A x.d.sys.acts):RdD w w.heap.size A L:=⟨H.rd k hk,ha⟩
def plain (d:BDo):DIn:=⟨d,none,0⟩
def tickI:DIn:=plain tickD
theorem doOf_append (l m:List DIn):doOf (l++m)=doOf l++doOf m:=by simp [doOf]
theorem pkD_snoc {w0 w:World} {A:Option Addr} {c:Nat} {L:List DIn} {x:DIn} {b:Ent} {E:List Ent} (h:Hp w0 w (b::.own (.slice A (L.length+1) c) 58 12 (L.length+1) (L.flatMap doCells++doCells x)::E)):Hp w0 w (pkD A c (L++[x])::E):=by
 have e:pkD A c (L++[x])=.own (.slice A (L.length+1) c) 58 12 (L.length+1) (L.flatMap doCells++doCells x):=by
  unfold pkD
  simp
 rw [e]
 exact h.drop1 0
theorem hoK_st {w0 w:World} {E:List Ent} (H:Hp w0 w E) {s:HIn} (hs:∀ p∈hoK s,p∈E):RdSt w w.heap.size ⟨s.A,s.c,s.l,s.Ag,s.cg,s.gens⟩:=
 H.stRd (fun p hp=>hs p (by unfold hoK;simp [hp]))
open Go.RowKit
open Brood
theorem alive7_sys:(playV [⟨1,1,false⟩] [spawnD 1 5,sysD 1 [⟨4,0,0,2⟩],tickD,askD 0 0]).h.syss.length=1:=by decide +kernel
theorem alive7_any (w:World):Calls Tryz.prog 18 #[] w fun e w'=>e=.returned (.bool true)∧Below w.heap.size w w':=by
 have hal:=alive7_is
 have hsy:=alive7_sys
 have H0:=(Hp.start w).newL w.heap.size rfl 55 [.int .i64 1,.int .i64 1,.bool false]
 have H1:=H0.newL (w.heap.size+1) (by simp) 76 [.int .i64 4,.int .i64 0,.int .i64 0,.int .i64 2]
 have H2:=H1.newL (w.heap.size+1+1) (by simp) 58 [.int .i64 1,.int .i64 1,.int .i64 0,.int .i64 5,.int .i64 0,.int .i64 0,.int .i64 0,.int .i64 0,.int .i64 0,.slice none 0 0,.int .i64 0,.int .i64 0,.int .i64 5,.int .i64 0,.int .i64 0,.int .i64 0,.int .i64 0,.int .i64 0,.int .i64 0,.int .i64 1,.int .i64 0,.slice (some ⟨w.heap.size+1,0,none⟩) 1 1,.int .i64 0,.int .i64 0,.int .i64 6,.int .i64 0,.int .i64 0,.int .i64 0,.int .i64 0,.int .i64 0,.int .i64 0,.int .i64 0,.int .i64 0,.slice none 0 0,.int .i64 0,.int .i64 0,.int .i64 7,.int .i64 0,.int .i64 0,.int .i64 0,.int .i64 0,.int .i64 0,.int .i64 0,.int .i64 0,.int .i64 0,.slice none 0 0,.int .i64 0,.int .i64 0]
 have hH2:=Lib.hid H2
 clear H0 H1 H2
 go_enter Tryz.func18,Tryz.ntmps18
 go_wp2_with fail
 obtain ⟨w6,hw6,H4⟩:=hH2.out.name
 rw [hw6]
 obtain ⟨gm,hgm⟩:∃ gm,gm=w.heap.size:=⟨_,rfl⟩
 rw [← hgm] at H4 ⊢
 obtain ⟨gb,hgb⟩:∃ gb,gb=gm+1:=⟨_,rfl⟩
 rw [← hgb] at H4 ⊢
 obtain ⟨gd,hgd⟩:∃ gd,gd=gb+1:=⟨_,rfl⟩
 rw [← hgd] at H4 ⊢
 clear hw6 hH2 hgd hgb
 have hM:RdM w6 w6.heap.size (some ⟨gm,0,none⟩) [⟨1,1,false⟩]:=rdM_blk (H4.blk 2 rfl)
 have hAb:RdAB w6 w6.heap.size (some ⟨gb,0,none⟩) [⟨4,0,0,2⟩]:=rdAB_blk (H4.blk 1 rfl)
 have hD:RdD w6 w6.heap.size (some ⟨gd,0,none⟩) [⟨spawnD 1 5,none,0⟩,⟨sysD 1 [⟨4,0,0,2⟩],some ⟨gb,0,none⟩,1⟩,⟨tickD,none,0⟩,⟨askD 0 0,none,0⟩]:=rdD_blk (H4.blk 0 rfl) (by
  intro x hx
  simp only [List.mem_cons,List.not_mem_nil,or_false] at hx
  rcases hx with rfl | rfl | rfl | rfl
  ·exact rdAB_nil
  ·exact hAb
  ·exact rdAB_nil
  ·exact rdAB_nil)
 have hB:=Lib.hid H4.bel
 refine (hplay_any [⟨1,1,false⟩] (some ⟨gm,0,none⟩) 1 (by simp [maxLen]) (fun h=>by cases h) [⟨spawnD 1 5,none,0⟩,⟨sysD 1 [⟨4,0,0,2⟩],some ⟨gb,0,none⟩,1⟩,⟨tickD,none,0⟩,⟨askD 0 0,none,0⟩] (some ⟨gd,0,none⟩) 4 (by simp [maxLen]) (by
  intro x hx
  simp only [List.mem_cons,List.not_mem_nil,or_false] at hx
  rcases hx with rfl | rfl | rfl | rfl<;>intro h<;>first | rfl | cases h) w6 hM hD).mono ?_
 rintro e w7 ⟨s,L,A,c,rfl,his,hL,HP⟩
 have e0:doOf [⟨spawnD 1 5,none,0⟩,⟨sysD 1 [⟨4,0,0,2⟩],some ⟨gb,0,none⟩,1⟩,⟨tickD,none,0⟩,⟨askD 0 0,none,0⟩]=[spawnD 1 5,sysD 1 [⟨4,0,0,2⟩],tickD,askD 0 0]:=rfl
 rw [e0] at hL his ⊢
 clear e0
 generalize playV [⟨1,1,false⟩] [spawnD 1 5,sysD 1 [⟨4,0,0,2⟩],tickD,askD 0 0]=P at *
 obtain ⟨hf,ha⟩:=Prod.mk.inj hal
 rw [hf]
 have hsl:s.sys.length=1:=by rw [← sysOf_length,his.sys];exact hsy
 have hLn:L.map (fun x=>x.a.n)=[0,1,1,7]:=by rw [← hL,List.map_map] at ha;exact ha
 clear hf ha hal hL hsy his P
 have hlen:L.length=4:=by have:=congrArg List.length hLn;simpa using this
 obtain ⟨x0,x1,x2,x3,rfl⟩:∃ x0 x1 x2 x3,L=[x0,x1,x2,x3]:=by
  match L,hlen with
  | [a,b,c,d],_=>exact ⟨a,b,c,d,rfl⟩
 simp only [List.map_cons,List.map_nil,List.cons.injEq,and_true] at hLn
 obtain ⟨b,off,rfl,hb,j1,j2,j3,j4,hn⟩:=pkA_at HP 0 rfl (i:=3) (by simp)
 clear j1 j2 j3 j4
 obtain ⟨b',off',e',hb',j1,j2,j3,j4,hm⟩:=pkA_at HP 0 rfl (i:=2) (by simp)
 clear j1 j2 j3 j4
 injection e' with e'
 injection e' with e1 e2
 subst e1 e2
 have hn':w7.cell? ⟨b,off+3*5+4,none⟩=some (.int .i64 7):=by rw [← hLn.2.2.2];exact hn
 have hm':w7.cell? ⟨b,off+2*5+4,none⟩=some (.int .i64 1):=by rw [← hLn.2.2.1];exact hm
 have H8:=(HP.newL w7.heap.size rfl 30 [.slice s.A s.l.length s.c,.slice s.Ag s.gens.length s.cg,.slice s.Am s.mods.length s.cm,.slice s.As s.sys.length s.cs]).newL (w7.heap.size+1) (by simp) 34 [.int .i64 0,.int .i64 0]
 have hbel:Below w7.heap.size w7 _:=((Below.refl w7.heap.size w7).alloc (Nat.le_refl _) (.cells #[.slice s.A s.l.length s.c,.slice s.Ag s.gens.length s.cg,.slice s.Am s.mods.length s.cm,.slice s.As s.sys.length s.cs] 30)).alloc (by simp) (.cells #[.int .i64 0,.int .i64 0] 34)
 have y3:=(hbel.cell (p:=⟨b,off+3*5+4,none⟩) hb).trans hn'
 have y2:=(hbel.cell (p:=⟨b,off+2*5+4,none⟩) hb).trans hm'
 have hH8:=Lib.hid H8
 have hslh:=Lib.hid hsl
 clear H8 HP hn hn' hm hm' hM hD hAb H4 hlen hLn hb hb' hbel hsl
 unfold hoVal
 dsimp only
 go_upto_region 2 with fail
 obtain ⟨w8,hw8,H8⟩:=hH8.out.name
 rw [hw8] at y3 y2 ⊢
 have ff:=H8.cell 0 0 rfl rfl
 have g3:=H8.cell 1 3 rfl rfl
 rw [hslh.out] at g3
 have hB8:=Lib.hid (hB.out.trans (H8.bel.mono hB.out.size))
 clear hw8 hH8 H8 hB hgm
 go_wp2_with fail
 go_ret
 exact ⟨rfl,hB8.out⟩
open Brood
theorem doAll_app2:∀ (l m:List BDo) (h:BHouse),(doAll h (l++m)).1=(doAll (doAll h l).1 m).1∧(doAll h (l++m)).2=(doAll h l).2++(doAll (doAll h l).1 m).2
 | [],m,h=>⟨rfl,rfl⟩
 | d::l,m,h=>by
  have ih:=doAll_app2 l m (doV h d).1
  exact ⟨ih.1,congrArg (fun x=>(doV h d).2::x) ih.2⟩
theorem play_err {mods:List BMod} {l m:List BDo} (h:(modsErr mods).1≠0):(playV mods l).f=modsErr mods∧(playV mods m).f=modsErr mods:=by
 unfold playV
 rw [if_pos h,if_pos h]
 exact ⟨rfl,rfl⟩
theorem play_tick {mods:List BMod} {l:List BDo} (h1:(modsErr mods).1=0) (h2:l.length<80):(playV mods l).f=(0,0)∧(playV mods (l++[tickD])).f=(0,0)∧(playV mods (l++[tickD])).h=(tickV (playV mods l).h).1 ∧
  (playV mods (l++[tickD])).a=(playV mods l).a++[(tickV (playV mods l).h).2]∧(playV mods l).a.length=l.length∧HouseR mods (playV mods l).h:=by
 have h3:=doAll_app2 l [tickD] (house0 mods)
 rw [playV_at h1 (by omega),playV_at h1 (by rw [List.length_append];simp;omega)]
 exact ⟨rfl,rfl,h3.1,h3.2,doAll_len _ _,HouseR.all_ l (house0_right h1)⟩
end Go.Proofs.YtefdblaolmckmacGreat
