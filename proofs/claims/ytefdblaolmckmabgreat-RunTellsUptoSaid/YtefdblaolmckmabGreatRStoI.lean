/- Lemmas of the proof. -/
import Derived.Test.YtefdblaolmckmabGreatRBPosKToInsB
import Derived.Test.YtefdblaolmckmabGreatRBInsIToMx
set_option linter.unusedVariables false
set_option linter.unusedSimpArgs false
set_option maxRecDepth 100000
set_option maxHeartbeats 12800000
namespace Go.Proofs.YtefdblaolmckmabGreat
open Go.RowKit
open Brood
theorem kfind_any (l:List TabIn) (A:Option Addr) (c:Nat) (x:Int) (hlen:l.length≤1000000000) (hrise:(l.map TabIn.has).Pairwise (· < ·)) (kb:Nat) (w:World) (hc:w.cell? ⟨kb,0,none⟩=some (.slice A l.length c)) (hR:Rd w w.heap.size 3 A l.length (l.flatMap tabCells)) :
  Calls Tryz.prog 86 #[.pointer (some ⟨kb,0,none⟩),.int .i64 x] w fun e w'=>e=.returned (.tuple #[.int .i64 (posK x (l.map TabIn.has):Nat),.bool (foundK x (l.map TabIn.has))])∧Below w.heap.size w w':=by
 have hcall:=Lib.hid (searchT_any l A c x hlen hrise w hR)
 generalize posK x (l.map TabIn.has)=k at *
 generalize foundK x (l.map TabIn.has)=f at *
 clear hrise hR
 go_enter Tryz.func86,Tryz.ntmps86
 go_wp2_with fail
 refine hcall.out.mono ?_
 rintro e w1 ⟨rfl,hb⟩
 go_wp2_with fail
 refine bodyPost_ret (v:=.tuple #[.int .i64 (k:Int),.bool f]) (by simp [results,Tryz.results86,go_sem]) rfl ⟨rfl,hb⟩
def kBox (kb:Nat) (A:Option Addr) (n c:Nat) (vg:Value):Ent:=.box kb 108 [.slice A n c,vg]
def kE (kb:Nat) (A:Option Addr) (c:Nat) (l:List TabIn) (vg:Value) (E0:List Ent):List Ent:=[kBox kb A l.length c vg,outE A c l]++(l.flatMap tabE++E0)
theorem kE_last {w0 w:World} {kb:Nat} {A:Option Addr} {c:Nat} {l:List TabIn} {vg:Value} {E0:List Ent} (h:Hp w0 w (kE kb A c l vg E0)):Hp w0 w E0:=Hp.last (E:=[kBox kb A l.length c vg,outE A c l]++l.flatMap tabE) (by rw [List.append_assoc];exact h)
theorem has_map {l:List TabIn} {G:List Grp} (h:l.map tabOf=G.map tabG):l.map TabIn.has=G.map Grp.h:=by
 have:=congrArg (List.map BTab.has) h
 simpa [List.map_map,Function.comp_def,tabOf,tabG] using this
theorem up_map {G:List Grp} (h:Up G):(G.map Grp.h).Pairwise (· < ·):=by
 rw [List.pairwise_map];exact h
def newTab (has:Int) (cA:Option Addr) (n:Nat):TabIn:=⟨has,none,0,[],cA,n,List.replicate n ⟨none,0,[]⟩⟩
theorem newTab_fit {has:Int} {cA:Option Addr}:tabOf (newTab has cA (listS has).length)=tabG ⟨has,[]⟩:=by
 unfold tabOf tabG newTab
 simp only [List.map_replicate]
 congr 1
 refine List.ext_getElem (by simp) fun i h1 h2=>by simp [colOf]
theorem opened_fit {x:Int} {l:List TabIn} {G:List Grp} (h:l.map tabOf=G.map tabG) {t:TabIn} (ht:tabOf t=tabG ⟨x,[]⟩) (hf:hfound x G=false):(insAt l (hpos x G) t).map tabOf=(opened x G).map tabG:=by
 unfold opened insAt
 rw [hf]
 simp only [Bool.false_eq_true,if_false,List.map_append,List.map_cons,List.map_take,List.map_drop,h,ht]
theorem made_repl (z:Value):∀ n:Nat,(madeCells #[z] n).toList=List.replicate n z:=by
 intro n
 refine List.ext_getElem (by rw [Array.length_toList,size_madeCells];simp) fun i h1 h2=>?_
 have hi:i<n:=by simpa using h2
 simp [madeCells,Nat.mod_one]
theorem Hp.made {w0 w:World} {E:List Ent} (h:Hp w0 w E) (t:TypeId) (z:Value) (n:Nat) (hn:n≤maxLen):Hp w0 (w.alloc (.cells (madeCells #[z] n) t)) (E++[.own (.slice (some ⟨w.heap.size,0,none⟩) n n) t 1 n (List.replicate n z)]):=by
 refine h.moreR (World.grownBy_alloc w _ _) ?_ (fun g hg=>by
  have:w.heap.size=g:=by simpa [Ent.blk,Value.ownBlock] using hg
  omega)
 have:=World.ownsRow_lit (base:=w0.heap.size) (e:=t) (size:=1) w (madeCells #[z] n) n h.bel.size hn (by rw [size_madeCells,Nat.mul_one])
 rw [made_repl] at this
 exact this
theorem Hp.nils {w0 w:World} {E:List Ent} (h:Hp w0 w E) (e:TypeId) (sz:Nat):∀ n:Nat,Hp w0 w (E++List.replicate n (.own (.slice none 0 0) e sz 0 []))
 | 0=>by simpa using h
 | n+1=>by
  have:=(Hp.nils h e sz n).nil_ e sz
  rw [List.append_assoc] at this
  rwa [List.replicate_succ']
theorem newTab_ent (has:Int) (cA:Option Addr) (n:Nat):tabE (newTab has cA n)=.own (.slice none 0 0) 24 2 0 []::.own (.slice cA n n) 38 1 n (List.replicate n (.slice none 0 0))::List.replicate n (.own (.slice none 0 0) 3 1 0 []):=by
 unfold tabE bsE csE newTab
 simp only [List.length_nil,List.flatMap_nil,List.length_replicate,List.map_replicate]
 rfl
theorem insAt_perm {α:Type} (l:List α) (k:Nat) (a:α):(insAt l k a).Perm (l++[a]):=by
 unfold insAt
 refine List.perm_middle.trans ?_
 rw [List.take_append_drop]
 exact List.perm_append_comm (l₁:=[a])
theorem Hp.lt1 {w0 w:World} {E:List Ent} (h:Hp w0 w E) (k:Nat) {g n c:Nat} {e:TypeId} {sz:Nat} {xs:List Value} (hk:E[k]?=some (.own (.slice (some ⟨g,0,none⟩) n c) e sz n xs)):g<w.heap.size:=(Ent.lt (h.mem hk) rfl).2
theorem flat_set_same {l:List TabIn} {k:Nat} (t t':TabIn) (h:tabCells t=tabCells t'):(l.set k t).flatMap tabCells=(l.set k t').flatMap tabCells:=by
 induction l generalizing k with
 | nil=>simp
 | cons a l ih=>cases k with
  | zero=>simp [h]
  | succ k=>simp [ih]
theorem Hp.tabN {w0 w:World} {E R:List Ent} {l:List TabIn} {k:Nat} {has:Int} {cA:Option Addr} {n:Nat} {p:Ent} (h:Hp w0 w (E++(l.flatMap tabE++R)++[.own (.slice cA n n) 38 1 n (List.replicate n (.slice none 0 0))]++[p])):Hp w0 w (E++((insAt l k (newTab has cA n)).flatMap tabE++R)):=by
 have h1:=((h.sub (List.sublist_append_left _ [p])).nil_ 24 2).nils 3 1 n
 refine h1.perm ?_
 simp only [List.append_assoc]
 refine List.Perm.append_left _ ?_
 have h2:=((insAt_perm l k (newTab has cA n)).flatMap_right tabE)
 rw [List.flatMap_append,List.flatMap_singleton,newTab_ent] at h2
 refine List.Perm.trans ?_ (h2.symm.append_right R)
 rw [List.append_assoc]
 refine List.Perm.append_left _ ?_
 refine List.perm_append_comm.trans (List.Perm.append_right _ ?_)
 exact List.Perm.swap _ _ _
theorem kinsert_any (G:List Grp) (hup:Up G) (hrise:∀ g∈G,Rise g.rs) (hcl:∀ g∈G,Clean g) (hgl:G.length≤1048576) (hbl:∀ g∈G,g.rs.length≤1048576) (R:BRow) (hRs:isSet R.has=true) (b o:Nat)
  (l:List TabIn) (A:Option Addr) (c:Nat) (vg:Value) (kb:Nat) (E0:List Ent) (hfit:l.map tabOf=G.map tabG) (w0 w:World) (hrow:∀ w',Hp w0 w' E0→RowAt w' b o R∧b<w'.heap.size) (h:Hp w0 w (kE kb A c l vg E0)) :
  Calls Tryz.prog 42 #[.pointer (some ⟨kb,0,none⟩),.pointer (some ⟨b,o,none⟩)] w fun e w'=>e=.returned (.tuple #[])∧∃ A' c' l',l'.map tabOf=(insG R G).map tabG∧Hp w0 w' (kE kb A' c' l' vg E0):=by
 have hfith:=Lib.hid hfit;have hriseh:=Lib.hid hrise;have hclh:=Lib.hid hcl;have hblh:=Lib.hid hbl;have hrowh:=Lib.hid hrow;have huph:=Lib.hid hup
 have hll:l.length≤1048576:=by rw [fit_len hfit];exact hgl
 obtain ⟨ridx,rgen,rhas,rvals,r8⟩:=R
 dsimp only at hRs
 have hkf:=kfind_any l A c rhas (by omega) (by rw [has_map hfit];exact up_map hup) kb w (h.cell 0 0 rfl rfl) (h.rd 1 rfl)
 rw [has_map hfit,posK_grps,foundK_grps] at hkf
 have hpl:=hpos_le rhas G
 obtain ⟨k,hk⟩:∃ k,Hid (k=hpos rhas G):=⟨_,Lib.hid rfl⟩
 rw [← hk.out] at hkf hpl
 have hkfh:=Lib.hid hkf
 clear hfit hrise hcl hbl hrow hup hkf
 obtain ⟨hat,hblt⟩:=hrowh.out w (kE_last h)
 obtain ⟨q0,q1,q2⟩:=hat.head
 dsimp only at q0 q1 q2
 clear hat
 go_enter Tryz.func42,Tryz.ntmps42
 go_wp2_with fail
 refine hkfh.out.mono ?_
 rintro e w1 ⟨rfl,hb⟩
 have H:=Lib.hid (h.grow hb)
 clear hkfh hb h q0 q1 q2 hblt
 obtain ⟨F,hF⟩:∃ F,Hid (F=hfound rhas G):=⟨_,Lib.hid rfl⟩
 rw [← hF.out]
 go_upto_if 21 with fail
 go_cut [] from 22 (fun wx=>∃ A' c' l',Hid (l'.map tabOf=(opened rhas G).map tabG)∧Hp w0 wx (kE kb A' c' l' vg E0))
 case first=>
  cases F with
  | true=>
   have ho:Hid (opened rhas G=G):=Lib.hid (by unfold opened;rw [← hF.out,if_pos rfl])
   go_wp2_with fail
   go_meet
   exact ⟨A,c,l,Lib.hid (by rw [ho.out];exact hfith.out),H.out⟩
  | false=>
   have hcnt:=fun W=>count_any rhas hRs W
   rw [count_eq] at hcnt
   have hcnth:=Lib.hid hcnt
   have hl8:=listS_len rhas
   have hfo:Hid (∀ t:TabIn,tabOf t=tabG ⟨rhas,[]⟩→(insAt l k t).map tabOf=(opened rhas G).map tabG):=Lib.hid (fun t ht=>by rw [hk.out];exact opened_fit hfith.out ht hF.out.symm)
   have hnf:Hid (∀ cA,tabOf (newTab rhas cA (listS rhas).length)=tabG ⟨rhas,[]⟩):=Lib.hid (fun cA=>newTab_fit)
   have hkl:k≤l.length:=by have:=fit_len hfith.out;omega
   clear hcnt hpl
   generalize (listS rhas).length=n at *
   obtain ⟨i1',hi1,hz1a,hz1b,hz1c⟩:=info_parts infoSl
   have hmkb:=fun W:World=>run_make (P:=Tryz.prog) W 98 38 i1' (.slice none 0 0) Tryz.underlying98 hi1 hz1a .i64 .i64 n n (by omega) (Int.le_refl _) (by rw [hz1c];omega) (by omega)
   simp only [Int.toNat_natCast,hz1b,Nat.mul_one] at hmkb
   have hcell1:(Value.slice none 0 0).cells=#[.slice none 0 0]:=rfl
   simp only [hcell1] at hmkb
   have H1:=H.out
   have k0:=H1.cell 0 0 rfl rfl
   have kl:=H1.lt 0 rfl
   obtain ⟨hat,hblt⟩:=hrowh.out w1 (kE_last H1)
   have q2:=hat.head.2.2
   dsimp only at q2
   have HN:=((H1.made 38 (.slice none 0 0) n (by unfold maxLen;omega)).new (w1.heap.size+1) (by simp) 100 [.int .i64 rhas,.slice none 0 0,.slice (some ⟨w1.heap.size,0,none⟩) n n]).drew
   have hne:(Value.slice A l.length c).ownBlock≠some (w1.heap.size+1):=fun e=>by have:=(Ent.lt (H1.mem (k:=1) rfl) (g:=w1.heap.size+1) e).2;omega
   have HBk:Blk ((w1.alloc (.cells (madeCells #[.slice none 0 0] n) 38)).alloc (.cells #[.int .i64 rhas,.slice none 0 0,.slice (some ⟨w1.heap.size,0,none⟩) n n] 100)).drew (w1.heap.size+1) 100 #[.int .i64 rhas,.slice none 0 0,.slice (some ⟨w1.heap.size,0,none⟩) n n]:=by
    have:=(Blk.new (w1.alloc (.cells (madeCells #[.slice none 0 0] n) 38)) 100 #[.int .i64 rhas,.slice none 0 0,.slice (some ⟨w1.heap.size,0,none⟩) n n]).drew
    simpa using this
   have hins:=Lib.hid (insT_any l.length (l.flatMap tabCells) [.int .i64 rhas,.slice none 0 0,.slice (some ⟨w1.heap.size,0,none⟩) n n] (tab_one l) (by simp [Value.oneCell']) rfl k hkl (by omega) (.slice A l.length c) w0.heap.size (w1.heap.size+1) _ HN.bel.size hne (HN.owns 1 rfl) HBk)
   have hfi:Hid ((l.flatMap tabCells).take (k*3)++[.int .i64 rhas,.slice none 0 0,.slice (some ⟨w1.heap.size,0,none⟩) n n]++(l.flatMap tabCells).drop (k*3)=(insAt l k (newTab rhas (some ⟨w1.heap.size,0,none⟩) n)).flatMap tabCells):=Lib.hid (by rw [flat_ins tabCells_len];simp [tabCells,newTab])
   have HNh:=Lib.hid HN
   have hGw:Hid (∀ W:World,Hp w0 W E0→W.cell? ⟨b,o+2,none⟩=some (.int .i64 rhas)):=Lib.hid (fun W hW=>(hrowh.out W hW).1.head.2.2)
   clear hat hne HN HBk H1 hl8 hcell1
   go_wp2_with fail
   refine wp_region_mx mixed (by kernel_rfl) (by kernel_rfl) (fun q=>!(q==19)) (tab [.pointer (some ⟨kb,0,none⟩),.pointer (some ⟨kb,0,none⟩),.pointer (some ⟨kb,0,none⟩),.pointer (some ⟨kb,0,none⟩),.pointer (some ⟨kb,0,none⟩),.slice A l.length c,.int .i64 k,.pointer (some ⟨b,o,none⟩),.pointer (some ⟨b,o,none⟩),.pointer (some ⟨b,o+2,none⟩),.int .i64 rhas,.pointer (some ⟨b,o,none⟩),.pointer (some ⟨b,o,none⟩),.pointer (some ⟨b,o+2,none⟩),.int .i64 rhas,.int .i64 n,.slice (some ⟨w1.heap.size,0,none⟩) n n,.agg #[.int .i64 rhas,.slice none 0 0,.slice (some ⟨w1.heap.size,0,none⟩) n n],.slice (some ⟨w1.heap.size+1,0,none⟩) 1 1,undef,.pointer (some ⟨kb,0,none⟩),.pointer (some ⟨kb,0,none⟩),.pointer (some ⟨kb,0,none⟩),undef]) (fun q vs w'=>(q 19=false→w'.cell? ⟨kb,0,none⟩=some (.slice A l.length c)∧w'.cell? ⟨b,o+2,none⟩=some (.int .i64 rhas))∧(if q 23 then ∃ A3 c3,Hp w0 w' ([kBox kb A3 (l.length+1) c3 vg,.own (.slice A3 (l.length+1) c3) 100 3 (l.length+1) ((insAt l k (newTab rhas (some ⟨w1.heap.size,0,none⟩) n)).flatMap tabCells)]++(l.flatMap tabE++E0)++[.own (.slice (some ⟨w1.heap.size,0,none⟩) n n) 38 1 n (List.replicate n (.slice none 0 0))]++[.box (w1.heap.size+1) 100 [.int .i64 rhas,.slice none 0 0,.slice (some ⟨w1.heap.size,0,none⟩) n n]]) else if q 19 then ∃ A3 c3,vs 19=.slice A3 (l.length+1) c3∧Hp w0 w' ([kBox kb A l.length c vg,.own (.slice A3 (l.length+1) c3) 100 3 (l.length+1) ((insAt l k (newTab rhas (some ⟨w1.heap.size,0,none⟩) n)).flatMap tabCells)]++(l.flatMap tabE++E0)++[.own (.slice (some ⟨w1.heap.size,0,none⟩) n n) 38 1 n (List.replicate n (.slice none 0 0))]++[.box (w1.heap.size+1) 100 [.int .i64 rhas,.slice none 0 0,.slice (some ⟨w1.heap.size,0,none⟩) n n]]) else if q 18 then w'=((w1.alloc (.cells (madeCells #[.slice none 0 0] n) 38)).alloc (.cells #[.int .i64 rhas,.slice none 0 0,.slice (some ⟨w1.heap.size,0,none⟩) n n] 100)).drew else if q 16 then w'=(w1.alloc (.cells (madeCells #[.slice none 0 0] n) 38)).drew else w'=w1.drew)) ?_ ?_ ?_
   ·exact ⟨fun _=>⟨k0,q2⟩,rfl⟩
   ·intro vs w' q hJ hl
    rw [putAll_tab _ _ _ _ [(some 22,.pointer (some ⟨kb,0,none⟩)),(some 23,.pointer (some ⟨kb,0,none⟩)),(some 24,.pointer (some ⟨kb,0,none⟩)),(some 25,.pointer (some ⟨kb,0,none⟩)),(some 26,.pointer (some ⟨kb,0,none⟩)),(some 27,.slice A l.length c),(some 28,.int .i64 k),(some 29,.pointer (some ⟨b,o,none⟩)),(some 30,.pointer (some ⟨b,o,none⟩)),(some 31,.pointer (some ⟨b,o+2,none⟩)),(some 32,.int .i64 rhas),(some 33,.pointer (some ⟨b,o,none⟩)),(some 34,.pointer (some ⟨b,o,none⟩)),(some 35,.pointer (some ⟨b,o+2,none⟩)),(some 36,.int .i64 rhas),(some 37,.int .i64 n),(some 38,.slice (some ⟨w1.heap.size,0,none⟩) n n),(some 39,.agg #[.int .i64 rhas,.slice none 0 0,.slice (some ⟨w1.heap.size,0,none⟩) n n]),(some 40,.slice (some ⟨w1.heap.size+1,0,none⟩) 1 1),(some 41,vs 19),(some 42,.pointer (some ⟨kb,0,none⟩)),(some 43,.pointer (some ⟨kb,0,none⟩)),(some 44,.pointer (some ⟨kb,0,none⟩)),(none,undef)] rfl]
    simp only [putL_eq,putT,List.set_cons_succ,List.set_cons_zero]
    have l23:q 23=true:=hl 23 (by decide)
    have hJ2:=hJ.2
    rw [l23,if_pos rfl] at hJ2
    obtain ⟨A3,c3,H5⟩:=hJ2
    go_wp2_with fail
    go_meet
    refine ⟨A3,c3,insAt l k (newTab rhas (some ⟨w1.heap.size,0,none⟩) n),Lib.hid (hfo.out _ (hnf.out _)),?_⟩
    unfold kE outE
    rw [insAt_len _ hkl]
    exact H5.tabN
   ·intro qq op ho q vs act w' hJ hsh hli hd hv hwas K hK
    have hiq:qq<24:=lt_of_some ho
    have s0_:=hwas 0 rfl
    have s1_:=hwas 1 rfl
    have s4_:=hwas 4 rfl
    simp at s0_ s1_ s4_
    match qq,hiq,ho,hli,hK with
    | 0,_,ho,hli,hK=>
     obtain rfl:=sj ho
     clear hv hwas
     go_simp
     exact hK _ _ (fun _=>rfl) hJ
    | 1,_,ho,hli,hK=>
     obtain rfl:=sj ho
     clear hv hwas
     go_simp
     exact hK _ _ (fun _=>rfl) hJ
    | 2,_,ho,hli,hK=>
     obtain rfl:=sj ho
     have x23:act.tmps[23]?.getD undef=.pointer (some ⟨kb,0,none⟩):=hv 1 23 rfl (rb hd rfl)
     clear hv hwas
     go_simp
     exact hK _ _ (fun _=>rfl) hJ
    | 3,_,ho,hli,hK=>
     obtain rfl:=sj ho
     have x24:act.tmps[24]?.getD undef=.pointer (some ⟨kb,0,none⟩):=hv 2 24 rfl (rb hd rfl)
     clear hv hwas
     go_simp
     exact hK _ _ (fun _=>rfl) hJ
    | 4,_,ho,hli,hK=>
     obtain rfl:=sj ho
     have x25:act.tmps[25]?.getD undef=.pointer (some ⟨kb,0,none⟩):=hv 3 25 rfl (rb hd rfl)
     clear hv hwas
     go_simp
     exact hK _ _ (fun _=>rfl) hJ
    | 5,_,ho,hli,hK=>
     obtain rfl:=sj ho
     have x26:act.tmps[26]?.getD undef=.pointer (some ⟨kb,0,none⟩):=hv 4 26 rfl (rb hd rfl)
     have n19:=hsh.not (i:=19) (j:=5) (by rfl) hli
     have g0:=(hJ.1 n19).1;have g2:=(hJ.1 n19).2
     clear hv hwas
     go_simp
     exact hK _ _ (fun _=>rfl) hJ
    | 6,_,ho,hli,hK=>
     obtain rfl:=sj ho
     clear hv hwas
     go_simp
     exact hK _ _ (fun _=>rfl) hJ
    | 7,_,ho,hli,hK=>
     obtain rfl:=sj ho
     clear hv hwas
     go_simp
     exact hK _ _ (fun _=>rfl) hJ
    | 8,_,ho,hli,hK=>
     obtain rfl:=sj ho
     have x29:act.tmps[29]?.getD undef=.pointer (some ⟨b,o,none⟩):=hv 7 29 rfl (rb hd rfl)
     clear hv hwas
     go_simp
     exact hK _ _ (fun _=>rfl) hJ
    | 9,_,ho,hli,hK=>
     obtain rfl:=sj ho
     have x30:act.tmps[30]?.getD undef=.pointer (some ⟨b,o,none⟩):=hv 8 30 rfl (rb hd rfl)
     clear hv hwas
     go_simp
     exact hK _ _ (fun _=>rfl) hJ
    | 10,_,ho,hli,hK=>
     obtain rfl:=sj ho
     have x31:act.tmps[31]?.getD undef=.pointer (some ⟨b,o+2,none⟩):=hv 9 31 rfl (rb hd rfl)
     have n17:=hsh.not (i:=17) (j:=10) (by rfl) hli
     have n18:=hsh.not (i:=18) (j:=17) (by rfl) n17
     have n19:=hsh.not (i:=19) (j:=18) (by rfl) n18
     have g0:=(hJ.1 n19).1;have g2:=(hJ.1 n19).2
     clear hv hwas
     go_simp
     exact hK _ _ (fun _=>rfl) hJ
    | 11,_,ho,hli,hK=>
     obtain rfl:=sj ho
     clear hv hwas
     go_simp
     exact hK _ _ (fun _=>rfl) hJ
    | 12,_,ho,hli,hK=>
     obtain rfl:=sj ho
     have x33:act.tmps[33]?.getD undef=.pointer (some ⟨b,o,none⟩):=hv 11 33 rfl (rb hd rfl)
     clear hv hwas
     go_simp
     exact hK _ _ (fun _=>rfl) hJ
    | 13,_,ho,hli,hK=>
     obtain rfl:=sj ho
     have x34:act.tmps[34]?.getD undef=.pointer (some ⟨b,o,none⟩):=hv 12 34 rfl (rb hd rfl)
     clear hv hwas
     go_simp
     exact hK _ _ (fun _=>rfl) hJ
    | 14,_,ho,hli,hK=>
     obtain rfl:=sj ho
     have x35:act.tmps[35]?.getD undef=.pointer (some ⟨b,o+2,none⟩):=hv 13 35 rfl (rb hd rfl)
     have n15:=hsh.not (i:=15) (j:=14) (by rfl) hli
     have n19:=hsh.not (i:=19) (j:=15) (by rfl) n15
     have g0:=(hJ.1 n19).1;have g2:=(hJ.1 n19).2
     clear hv hwas
     go_simp
     exact hK _ _ (fun _=>rfl) hJ
    | 15,_,ho,hli,hK=>
     obtain rfl:=sj ho
     have x36:act.tmps[36]?.getD undef=.int .i64 rhas:=hv 14 36 rfl (rb hd rfl)
     clear hv hwas
     go_simp
     refine (hcnth.out _).mono ?_
     rintro e w4 ⟨rfl,rfl⟩
     exact hK _ _ (fun _=>rfl) hJ
    | 16,_,ho,hli,hK=>
     obtain rfl:=sj ho
     have x37:act.tmps[37]?.getD undef=.int .i64 n:=hv 15 37 rfl (rb hd rfl)
     have n17:=hsh.not (i:=17) (j:=16) (by rfl) hli
     have n18:=hsh.not (i:=18) (j:=17) (by rfl) n17
     have n19:=hsh.not (i:=19) (j:=18) (by rfl) n18
     have n23:=hsh.not (i:=23) (j:=19) (by rfl) n19
     obtain ⟨hJ1,hJ2⟩:=hJ
     obtain ⟨g0,g2⟩:=hJ1 n19
     simp only [n23,n19,n18,hli,Bool.false_eq_true,if_false] at hJ2
     subst hJ2
     clear hv hwas
     go_simp
     refine hK _ _ (fun _=>rfl) ⟨fun _=>⟨?_,?_⟩,by simp [upd,n23,n19,n18]⟩
     ·exact (World.cell?_alloc_lt w1 _ _ kl).trans k0
     ·exact (World.cell?_alloc_lt w1 _ _ hblt).trans q2
    | 17,_,ho,hli,hK=>
     obtain rfl:=sj ho
     have x32:act.tmps[32]?.getD undef=.int .i64 rhas:=hv 10 32 rfl (rb hd rfl)
     have x38:act.tmps[38]?.getD undef=.slice (some ⟨w1.heap.size,0,none⟩) n n:=hv 16 38 rfl (rb hd rfl)
     clear hv hwas
     go_simp
     exact hK _ _ (fun _=>rfl) hJ
    | 18,_,ho,hli,hK=>
     obtain rfl:=sj ho
     have x39:act.tmps[39]?.getD undef=.agg #[.int .i64 rhas,.slice none 0 0,.slice (some ⟨w1.heap.size,0,none⟩) n n]:=hv 17 39 rfl (rb hd rfl)
     have l17:q 17=true:=by simp [Region.binds] at hd;simp [hd]
     have l16:q 16=true:=hsh 17 16 (by rfl) l17
     have n19:=hsh.not (i:=19) (j:=18) (by rfl) hli
     have n23:=hsh.not (i:=23) (j:=19) (by rfl) n19
     obtain ⟨hJ1,hJ2⟩:=hJ
     simp only [n23,n19,hli,l16,Bool.false_eq_true,if_false,if_true] at hJ2
     subst hJ2
     clear hv hwas hJ1
     go_simp
     refine hK _ _ (fun _=>rfl) ⟨fun _=>⟨?_,?_⟩,by simp [upd,n23,n19]⟩
     ·exact (World.cell?_alloc_lt (w1.alloc (.cells (madeCells #[.slice none 0 0] n) 38)) _ _ (by simp;omega)).trans ((World.cell?_alloc_lt w1 _ _ kl).trans k0)
     ·exact (World.cell?_alloc_lt (w1.alloc (.cells (madeCells #[.slice none 0 0] n) 38)) _ _ (by simp;omega)).trans ((World.cell?_alloc_lt w1 _ _ hblt).trans q2)
    | 19,_,ho,hli,hK=>
     obtain rfl:=sj ho
     have x27:act.tmps[27]?.getD undef=.slice A l.length c:=hv 5 27 rfl (rb hd rfl)
     have x28:act.tmps[28]?.getD undef=.int .i64 k:=hv 6 28 rfl (rb hd rfl)
     have x40:act.tmps[40]?.getD undef=.slice (some ⟨w1.heap.size+1,0,none⟩) 1 1:=hv 18 40 rfl (rb hd rfl)
     have l18:q 18=true:=by simp [Region.binds] at hd;simp [hd]
     have n23:=hsh.not (i:=23) (j:=19) (by rfl) hli
     obtain ⟨hJ1,hJ2⟩:=hJ
     simp only [n23,hli,l18,Bool.false_eq_true,if_false,if_true] at hJ2
     subst hJ2
     clear hv hwas hJ1
     go_simp
     refine hins.out.mono ?_
     rintro e w4 ⟨v4,rfl,hown4,hgr4,hat4⟩
     obtain ⟨A3,c3,rfl,_,_⟩:=own_shape hown4
     rw [hfi.out] at hown4
     refine hK _ _ (fun h=>by cases h) ⟨fun h=>by simp [upd] at h,?_⟩
     simp only [upd,n23,if_true,Bool.false_eq_true,if_false,show (23:Nat)=19↔False by decide]
     exact ⟨A3,c3,rfl,HNh.out.step (p':=.own (.slice A3 (l.length+1) c3) 100 3 (l.length+1) _) 1 rfl hgr4 hown4 hat4⟩
    | 20,_,ho,hli,hK=>
     obtain rfl:=sj ho
     have x22:act.tmps[22]?.getD undef=.pointer (some ⟨kb,0,none⟩):=hv 0 22 rfl (rb hd rfl)
     clear hv hwas
     go_simp
     exact hK _ _ (fun _=>rfl) hJ
    | 21,_,ho,hli,hK=>
     obtain rfl:=sj ho
     have x42:act.tmps[42]?.getD undef=.pointer (some ⟨kb,0,none⟩):=hv 20 42 rfl (rb hd rfl)
     clear hv hwas
     go_simp
     exact hK _ _ (fun _=>rfl) hJ
    | 22,_,ho,hli,hK=>
     obtain rfl:=sj ho
     have x43:act.tmps[43]?.getD undef=.pointer (some ⟨kb,0,none⟩):=hv 21 43 rfl (rb hd rfl)
     clear hv hwas
     go_simp
     exact hK _ _ (fun _=>rfl) hJ
    | 23,_,ho,hli,hK=>
     obtain rfl:=sj ho
     have x41:act.tmps[41]?.getD undef=vs 19:=hv 19 41 rfl (rb hd rfl)
     have x44:act.tmps[44]?.getD undef=.pointer (some ⟨kb,0,none⟩):=hv 22 44 rfl (rb hd rfl)
     have l22:q 22=true:=by simp [Region.binds] at hd;simp [hd]
     have l19:q 19=true:=hsh 22 19 (by rfl) l22
     obtain ⟨hJ1,hJ2⟩:=hJ
     simp only [hli,l19,Bool.false_eq_true,if_false,if_true] at hJ2
     obtain ⟨A3,c3,hv19,H4⟩:=hJ2
     rw [hv19] at x41
     have z0:=H4.cell 0 0 rfl rfl
     have y0:=H4.frozen 0 0 rfl
     clear hv hwas hJ1
     go_simp
     refine hK _ _ (fun _=>rfl) ⟨fun h=>by simp [upd,l19] at h,?_⟩
     simp only [upd,if_true]
     exact ⟨A3,c3,H4.set 0 0 (.slice A3 (l.length+1) c3) rfl⟩
 case rest=>
  clear H hfith
  obtain ⟨A',c',l',hfit',H⟩:=hcut
  obtain ⟨G1,g,G2,hO⟩:=opened_at rhas huph.out
  have hkG:G1.length=k:=by rw [hO.len,hk.out]
  have hll':l'.length=G1.length+(G2.length+1):=by rw [fit_len hfit'.out,hO.eq];simp
  have hkl:k<l'.length:=by omega
  have hll2:l'.length≤1048577:=by
   rcases hO.or_ with ⟨_,e,_⟩ | ⟨e,_⟩
   ·have:=congrArg List.length e;simp at this;omega
   ·have:=congrArg List.length e;simp at this;omega
  have hFk:FitAt l'[k] g:=by
   have h1:=fit_at hfit'.out hkl (by rw [← fit_len hfit'.out];exact hkl)
   have h2:(opened rhas G)[k]'(by rw [← fit_len hfit'.out];exact hkl)=g:=by
    simp only [hO.eq]
    rw [List.getElem_append_right (by omega)]
    simp [hkG]
   rwa [h2] at h1
  have hgr:Rise g.rs∧g.rs.length≤1048576:=by
   rcases hO.or_ with ⟨e,_⟩ | ⟨e,_⟩
   ·rw [e];exact ⟨fun i j hi=>by simp at hi,by simp⟩
   ·have hm:g∈G:=by rw [e];simp
    exact ⟨hriseh.out g hm,hblh.out g hm⟩
  have hfin:Hid (∀ t:TabIn,FitAt t (putRow ⟨ridx,rgen,rhas,rvals,r8⟩ g)→(l'.set k t).map tabOf=(insG ⟨ridx,rgen,rhas,rvals,r8⟩ G).map tabG):=Lib.hid (fun t ht=>by
   rw [hO.ins,List.map_set,hfit'.out,hO.eq,ht.tab]
   rw [List.map_append,List.map_append,List.map_cons,List.map_cons,← hkG]
   simp)
  have hgh:=hO.h
  obtain ⟨gh,rs⟩:=g
  dsimp only at hgr hgh
  obtain rfl:rhas=gh:=hgh.symm
  obtain ⟨hgr1,hgr2⟩:=hgr
  have hgrh:=Lib.hid hgr1
  obtain ⟨tg,rfl⟩:=own_some (H.owns 1 rfl) (by omega)
  clear hO hfit' hriseh hclh hblh huph hkG hll' hgr1
  have H1:=H.tabF (E:=[_,_]) hkl
  have k0:=H.cell 0 0 rfl rfl
  have hcell:∀ j u,j<3→(tabCells l'[k])[j]?=some u→wc.cell? ⟨tg,k*3+j,none⟩=some u:=fun j u hj hu=>H.ownCell 1 (k*3+j) rfl ((flat_get tabCells_len l' k hkl j hj).trans hu)
  have e1:=hcell 1 _ (by omega) rfl
  have htc1:=flat_get tabCells_len l' k hkl 1 (by omega)
  have htc2:=flat_get tabCells_len l' k hkl 2 (by omega)
  have i0:(0:Int)≤(k:Int):=by omega
  have i1:(k:Int)<(l'.length:Int):=by omega
  clear hcell
  generalize htk:l'[k]=t at *
  have htkh:=Lib.hid htk
  clear htk
  obtain ⟨has,bA,bc,bs,cA,cc,cols⟩:=t
  replace htc1:(l'.flatMap tabCells)[k*3+1]?=some (.slice bA bs.length bc):=htc1
  replace htc2:(l'.flatMap tabCells)[k*3+2]?=some (.slice cA cols.length cc):=htc2
  have htc1h:=Lib.hid htc1;have htc2h:=Lib.hid htc2
  clear htc1 htc2
  obtain rfl:has=rhas:=hFk.has
  have hFh:=Lib.hid hFk
  have hbl:bs.length=rs.length:=hFk.len
  have hbs1:bs.map Prod.fst=rs.map BRow.idx:=by have h5:bs=rs.map beOf:=hFk.bs;rw [h5,List.map_map];rfl
  have hq:Hid (∀ W:World,Hp w0 W ([kBox kb (some ⟨tg,0,none⟩) l'.length c' vg,outE (some ⟨tg,0,none⟩) c' l']++[bsE ⟨has,bA,bc,bs,cA,cc,cols⟩,csE ⟨has,bA,bc,bs,cA,cc,cols⟩]++(cols.map colE++((l'.eraseIdx k).flatMap tabE++E0)))→Calls Tryz.prog 89 #[.slice bA bs.length bc,.int .i64 ridx,.func (.func 90) #[] #[]] W fun e w'=>(∃ fb,e=.returned (.tuple #[.int .i64 (posOf ridx rs:Nat),.bool fb]))∧Below W.heap.size W w'):=Lib.hid (fun W hW=>by
   have:=searchB_any bs bA bc ridx (by omega) (by rw [hbs1];have:=rise_pair.1 hgrh.out;rw [List.pairwise_map];exact this) W (hW.rd 2 rfl)
   rw [hbs1,posK_rows] at this
   exact this.mono fun e w' ⟨h1,h2⟩=>⟨⟨_,h1⟩,h2⟩)
  have hpo:=posOf_le ridx rs
  obtain ⟨p,hp⟩:∃ p,Hid (p=posOf ridx rs):=⟨_,Lib.hid rfl⟩
  rw [← hp.out] at hpo hq
  dsimp only at e1
  clear hFk hbs1 H
  obtain ⟨hat,hblt⟩:=hrowh.out wc (H1.last.last.last)
  obtain ⟨q0,q1,_⟩:=hat.head
  dsimp only at q0 q1
  clear hat
  go_wp2_with fail
  go_cut [7] (fun s7 wx=>s7=.int .i64 (p:Int)∧Hp w0 wx ([kBox kb (some ⟨tg,0,none⟩) l'.length c' vg,outE (some ⟨tg,0,none⟩) c' l']++[bsE ⟨has,bA,bc,bs,cA,cc,cols⟩,csE ⟨has,bA,bc,bs,cA,cc,cols⟩]++(cols.map colE++((l'.eraseIdx k).flatMap tabE++E0))))
  case first=>
   have H1h:=Lib.hid H1
   have hz:=Lib.hid (hq.out _ H1.drew)
   clear hq H1 hll2 hbl hgr2 hll hgl
   go_region_held3 (fun w'=>w'.cell? ⟨tg,k*3+1,none⟩=some (.slice bA bs.length bc)∧w'.cell? ⟨b,o,none⟩=some (.int .i64 ridx))
    (exact ⟨e1,q0⟩)
    (first
     | (go_at_call 89;refine hz.out.mono ?_;rintro e w5 ⟨⟨fb,rfl⟩,hb5⟩;have H1:=H1h.out.drew.grow hb5;have e1:w5.cell? ⟨tg,k*3+1,none⟩=some (.slice bA bs.length bc):=H1.ownCell 1 (k*3+1) rfl htc1h.out;have q0:=(hrowh.out _ H1.last.last.last).1.head.1))
   go_wp2_with fail
   go_meet
   exact ⟨rfl,H1⟩
  case rest=>
  clear k0 e1 q0 q1 hblt H1 hq
  obtain ⟨rfl,H1⟩:=hcut
  have e1:wc.cell? ⟨tg,k*3+1,none⟩=some (.slice bA bs.length bc):=H1.ownCell 1 (k*3+1) rfl htc1h.out
  obtain ⟨hat,hblt⟩:=hrowh.out wc (H1.last.last.last)
  obtain ⟨q0,q1,_⟩:=hat.head
  dsimp only at q0 q1
  have htl:=(H1.lt1 1 rfl)
  have HN:=(H1.new wc.heap.size rfl 24 [.int .i64 ridx,.int .i64 rgen]).drew
  have hne:(Value.slice bA bs.length bc).ownBlock≠some wc.heap.size:=fun e=>by have:=(Ent.lt (H1.mem (k:=2) rfl) (g:=wc.heap.size) e).2;omega
  have hins:=Lib.hid (insB_any bs.length (bs.flatMap beC) [.int .i64 ridx,.int .i64 rgen] (be_one bs) (by simp [Value.oneCell']) rfl p (by omega) (by omega) (.slice bA bs.length bc) w0.heap.size wc.heap.size _ HN.bel.size hne (HN.owns 2 rfl) ((Blk.new wc 24 #[.int .i64 ridx,.int .i64 rgen]).drew))
  have hfi:Hid ((bs.flatMap beC).take (p*2)++[.int .i64 ridx,.int .i64 rgen]++(bs.flatMap beC).drop (p*2)=(insAt bs p (ridx,rgen)).flatMap beC):=Lib.hid (by rw [flat_ins beC_len];rfl)
  have hil:Hid ((insAt bs p (ridx,rgen)).length=bs.length+1):=Lib.hid (insAt_len _ (by omega))
  have HNh:=Lib.hid HN;have H1h:=Lib.hid H1
  have hbdh:=Lib.hid (And.intro hpo hgr2)
  clear hat hne HN H1 hll2 hbl hgr2 hll hgl hpo
  go_wp2_with fail
  go_cut [] (fun wx=>∃ bA' bc',Hp w0 wx ([kBox kb (some ⟨tg,0,none⟩) l'.length c' vg,outE (some ⟨tg,0,none⟩) c' (l'.set k ⟨has,bA',bc',insAt bs p (ridx,rgen),cA,cc,cols⟩)]++[bsE ⟨has,bA',bc',insAt bs p (ridx,rgen),cA,cc,cols⟩,csE ⟨has,bA',bc',insAt bs p (ridx,rgen),cA,cc,cols⟩]++(cols.map colE++((l'.eraseIdx k).flatMap tabE++E0))))
  case first=>
   refine wp_region_mx mixed (by kernel_rfl) (by kernel_rfl) (fun q=>!(q==11)) (tab [.pointer (some ⟨tg,k*3,none⟩),.pointer (some ⟨tg,k*3,none⟩),.pointer (some ⟨tg,k*3,none⟩),.pointer (some ⟨tg,k*3+1,none⟩),.slice bA bs.length bc,.int .i64 p,.pointer (some ⟨b,o,none⟩),.pointer (some ⟨b,o,none⟩),.pointer (some ⟨b,o,none⟩),.agg #[.int .i64 ridx,.int .i64 rgen],.slice (some ⟨wc.heap.size,0,none⟩) 1 1,undef,.pointer (some ⟨tg,k*3,none⟩),.pointer (some ⟨tg,k*3+1,none⟩),undef]) (fun q vs w'=>(q 11=false→w'.cell? ⟨tg,k*3+1,none⟩=some (.slice bA bs.length bc)∧w'.cell? ⟨b,o,none⟩=some (.int .i64 ridx)∧w'.cell? ⟨b,o+1,none⟩=some (.int .i64 rgen))∧(if q 14 then ∃ A3 c3,Hp w0 w' ([kBox kb (some ⟨tg,0,none⟩) l'.length c' vg,outE (some ⟨tg,0,none⟩) c' (l'.set k ⟨has,A3,c3,insAt bs p (ridx,rgen),cA,cc,cols⟩)]++[.own (.slice A3 (bs.length+1) c3) 24 2 (bs.length+1) ((insAt bs p (ridx,rgen)).flatMap beC),csE ⟨has,bA,bc,bs,cA,cc,cols⟩]++(cols.map colE++((l'.eraseIdx k).flatMap tabE++E0))++[.box wc.heap.size 24 [.int .i64 ridx,.int .i64 rgen]]) else if q 11 then ∃ A3 c3,vs 11=.slice A3 (bs.length+1) c3∧Hp w0 w' ([kBox kb (some ⟨tg,0,none⟩) l'.length c' vg,outE (some ⟨tg,0,none⟩) c' l']++[.own (.slice A3 (bs.length+1) c3) 24 2 (bs.length+1) ((insAt bs p (ridx,rgen)).flatMap beC),csE ⟨has,bA,bc,bs,cA,cc,cols⟩]++(cols.map colE++((l'.eraseIdx k).flatMap tabE++E0))++[.box wc.heap.size 24 [.int .i64 ridx,.int .i64 rgen]]) else if q 10 then w'=(wc.alloc (.cells #[.int .i64 ridx,.int .i64 rgen] 24)).drew else w'=wc.drew)) ?_ ?_ ?_
   ·exact ⟨fun _=>⟨e1,q0,q1⟩,rfl⟩
   ·intro vs w' q hJ hl
    rw [putAll_tab _ _ _ _ [(some 65,.pointer (some ⟨tg,k*3,none⟩)),(some 66,.pointer (some ⟨tg,k*3,none⟩)),(some 67,.pointer (some ⟨tg,k*3,none⟩)),(some 68,.pointer (some ⟨tg,k*3+1,none⟩)),(some 69,.slice bA bs.length bc),(some 70,.int .i64 p),(some 71,.pointer (some ⟨b,o,none⟩)),(some 72,.pointer (some ⟨b,o,none⟩)),(some 73,.pointer (some ⟨b,o,none⟩)),(some 74,.agg #[.int .i64 ridx,.int .i64 rgen]),(some 75,.slice (some ⟨wc.heap.size,0,none⟩) 1 1),(some 76,vs 11),(some 77,.pointer (some ⟨tg,k*3,none⟩)),(some 78,.pointer (some ⟨tg,k*3+1,none⟩)),(none,undef)] rfl]
    simp only [putL_eq,putT,List.set_cons_succ,List.set_cons_zero]
    have l14:q 14=true:=hl 14 (by decide)
    have hJ2:=hJ.2
    rw [l14,if_pos rfl] at hJ2
    obtain ⟨A3,c3,H5⟩:=hJ2
    go_wp2_with fail
    go_meet
    refine ⟨A3,c3,?_⟩
    unfold bsE
    rw [hil.out]
    exact H5.sub (List.sublist_append_left _ _)
   ·intro qq op ho q vs act w' hJ hsh hli hd hv hwas K hK
    have hiq:qq<15:=lt_of_some ho
    have s1_:=hwas 1 rfl
    have s6_:=hwas 6 rfl
    have s7_:=hwas 7 rfl
    simp at s1_ s6_ s7_
    match qq,hiq,ho,hli,hK with
    | 0,_,ho,hli,hK=>
     obtain rfl:=sj ho
     clear hv hwas
     go_simp
     exact hK _ _ (fun _=>rfl) hJ
    | 1,_,ho,hli,hK=>
     obtain rfl:=sj ho
     clear hv hwas
     go_simp
     exact hK _ _ (fun _=>rfl) hJ
    | 2,_,ho,hli,hK=>
     obtain rfl:=sj ho
     have x66:act.tmps[66]?.getD undef=.pointer (some ⟨tg,k*3,none⟩):=hv 1 66 rfl (rb hd rfl)
     clear hv hwas
     go_simp
     exact hK _ _ (fun _=>rfl) hJ
    | 3,_,ho,hli,hK=>
     obtain rfl:=sj ho
     have x67:act.tmps[67]?.getD undef=.pointer (some ⟨tg,k*3,none⟩):=hv 2 67 rfl (rb hd rfl)
     clear hv hwas
     go_simp
     exact hK _ _ (fun _=>rfl) hJ
    | 4,_,ho,hli,hK=>
     obtain rfl:=sj ho
     have x68:act.tmps[68]?.getD undef=.pointer (some ⟨tg,k*3+1,none⟩):=hv 3 68 rfl (rb hd rfl)
     have n11:=hsh.not (i:=11) (j:=4) (by rfl) hli
     obtain ⟨g0,g1,g2⟩:=hJ.1 n11
     clear hv hwas
     go_simp
     exact hK _ _ (fun _=>rfl) hJ
    | 5,_,ho,hli,hK=>
     obtain rfl:=sj ho
     clear hv hwas
     go_simp
     exact hK _ _ (fun _=>rfl) hJ
    | 6,_,ho,hli,hK=>
     obtain rfl:=sj ho
     clear hv hwas
     go_simp
     exact hK _ _ (fun _=>rfl) hJ
    | 7,_,ho,hli,hK=>
     obtain rfl:=sj ho
     have x71:act.tmps[71]?.getD undef=.pointer (some ⟨b,o,none⟩):=hv 6 71 rfl (rb hd rfl)
     clear hv hwas
     go_simp
     exact hK _ _ (fun _=>rfl) hJ
    | 8,_,ho,hli,hK=>
     obtain rfl:=sj ho
     have x72:act.tmps[72]?.getD undef=.pointer (some ⟨b,o,none⟩):=hv 7 72 rfl (rb hd rfl)
     clear hv hwas
     go_simp
     exact hK _ _ (fun _=>rfl) hJ
    | 9,_,ho,hli,hK=>
     obtain rfl:=sj ho
     have x73:act.tmps[73]?.getD undef=.pointer (some ⟨b,o,none⟩):=hv 8 73 rfl (rb hd rfl)
     have n10:=hsh.not (i:=10) (j:=9) (by rfl) hli
     have n11:=hsh.not (i:=11) (j:=10) (by rfl) n10
     obtain ⟨g0,g1,g2⟩:=hJ.1 n11
     clear hv hwas
     go_simp
     exact hK _ _ (fun _=>rfl) hJ
    | 10,_,ho,hli,hK=>
     obtain rfl:=sj ho
     have x74:act.tmps[74]?.getD undef=.agg #[.int .i64 ridx,.int .i64 rgen]:=hv 9 74 rfl (rb hd rfl)
     have n11:=hsh.not (i:=11) (j:=10) (by rfl) hli
     have n14:=hsh.not (i:=14) (j:=11) (by rfl) n11
     obtain ⟨hJ1,hJ2⟩:=hJ
     simp only [n14,n11,hli,Bool.false_eq_true,if_false] at hJ2
     subst hJ2
     clear hv hwas hJ1
     go_simp
     refine hK _ _ (fun _=>rfl) ⟨fun _=>⟨?_,?_,?_⟩,by simp [upd,n14,n11]⟩
     ·exact (World.cell?_alloc_lt wc _ _ htl).trans e1
     ·exact (World.cell?_alloc_lt wc _ _ hblt).trans q0
     ·exact (World.cell?_alloc_lt wc _ _ hblt).trans q1
    | 11,_,ho,hli,hK=>
     obtain rfl:=sj ho
     have x69:act.tmps[69]?.getD undef=.slice bA bs.length bc:=hv 4 69 rfl (rb hd rfl)
     have x70:act.tmps[70]?.getD undef=.int .i64 p:=hv 5 70 rfl (rb hd rfl)
     have x75:act.tmps[75]?.getD undef=.slice (some ⟨wc.heap.size,0,none⟩) 1 1:=hv 10 75 rfl (rb hd rfl)
     have l10:q 10=true:=by simp [Region.binds] at hd;simp [hd]
     have n14:=hsh.not (i:=14) (j:=11) (by rfl) hli
     obtain ⟨hJ1,hJ2⟩:=hJ
     simp only [n14,hli,l10,Bool.false_eq_true,if_false,if_true] at hJ2
     subst hJ2
     clear hv hwas hJ1
     go_simp
     refine hins.out.mono ?_
     rintro e w4 ⟨v4,rfl,hown4,hgr4,hat4⟩
     obtain ⟨A3,c3,rfl,_,_⟩:=own_shape hown4
     rw [hfi.out] at hown4
     refine hK _ _ (fun h=>by cases h) ⟨fun h=>by simp [upd] at h,?_⟩
     simp only [upd,n14,if_true,Bool.false_eq_true,if_false,show (14:Nat)=11↔False by decide]
     exact ⟨A3,c3,rfl,HNh.out.step (p':=.own (.slice A3 (bs.length+1) c3) 24 2 (bs.length+1) _) 2 rfl hgr4 hown4 hat4⟩
    | 12,_,ho,hli,hK=>
     obtain rfl:=sj ho
     have x65:act.tmps[65]?.getD undef=.pointer (some ⟨tg,k*3,none⟩):=hv 0 65 rfl (rb hd rfl)
     clear hv hwas
     go_simp
     exact hK _ _ (fun _=>rfl) hJ
    | 13,_,ho,hli,hK=>
     obtain rfl:=sj ho
     have x77:act.tmps[77]?.getD undef=.pointer (some ⟨tg,k*3,none⟩):=hv 12 77 rfl (rb hd rfl)
     clear hv hwas
     go_simp
     exact hK _ _ (fun _=>rfl) hJ
    | 14,_,ho,hli,hK=>
     obtain rfl:=sj ho
     have x76:act.tmps[76]?.getD undef=vs 11:=hv 11 76 rfl (rb hd rfl)
     have x78:act.tmps[78]?.getD undef=.pointer (some ⟨tg,k*3+1,none⟩):=hv 13 78 rfl (rb hd rfl)
     have l13:q 13=true:=by simp [Region.binds] at hd;simp [hd]
     have l11:q 11=true:=hsh 13 11 (by rfl) l13
     obtain ⟨hJ1,hJ2⟩:=hJ
     simp only [hli,l11,Bool.false_eq_true,if_false,if_true] at hJ2
     obtain ⟨A3,c3,hv11,H4⟩:=hJ2
     rw [hv11] at x76
     have z0:=H4.ownCell 1 (k*3+1) rfl htc1h.out
     have y0:=H4.ownFrozen 1 (k*3+1) rfl
     have H5:=H4.put 1 (k*3+1) (.slice A3 (bs.length+1) c3) rfl
     have hset:=(flat_tabset hkl ⟨has,A3,c3,insAt bs p (ridx,rgen),cA,cc,cols⟩ 1 (by omega) (.slice A3 (bs.length+1) c3) (by rw [htkh.out];simp only [tabCells,hil.out];rfl)).symm
     have H6:Hp w0 (w'.setCell ⟨tg,k*3+1,none⟩ (.slice A3 (bs.length+1) c3)) ([kBox kb (some ⟨tg,0,none⟩) l'.length c' vg,outE (some ⟨tg,0,none⟩) c' (l'.set k ⟨has,A3,c3,insAt bs p (ridx,rgen),cA,cc,cols⟩)]++[.own (.slice A3 (bs.length+1) c3) 24 2 (bs.length+1) ((insAt bs p (ridx,rgen)).flatMap beC),csE ⟨has,bA,bc,bs,cA,cc,cols⟩]++(cols.map colE++((l'.eraseIdx k).flatMap tabE++E0))++[.box wc.heap.size 24 [.int .i64 ridx,.int .i64 rgen]]):=by
      unfold outE
      rw [List.length_set,← hset]
      exact H5
     clear hv hwas hJ1 H5 hset
     go_simp
     refine hK _ _ (fun _=>rfl) ⟨fun h=>by simp [upd,l11] at h,?_⟩
     simp only [upd,if_true]
     exact ⟨A3,c3,H6⟩
  case rest=>
  clear e1 q0 q1 hblt htl hins hfi HNh H1h
  obtain ⟨bA',bc',H1⟩:=hcut
  obtain ⟨bs',hbs'⟩:∃ bs',Hid (bs'=insAt bs p (ridx,rgen)):=⟨_,Lib.hid rfl⟩
  rw [← hbs'.out] at H1
  obtain ⟨rs',hrs'⟩:∃ rs',Hid (rs'=insRow rs p ⟨ridx,rgen,has,rvals,r8⟩):=⟨_,Lib.hid rfl⟩
  have htc3:((l'.set k ⟨has,bA',bc',bs',cA,cc,cols⟩).flatMap tabCells)[k*3+2]?=some (.slice cA cols.length cc):=by
   rw [flat_get tabCells_len _ k (by simpa using hkl) 2 (by omega),List.getElem_set_self];rfl
  have hsame:Hid (∀ x:List ColIn,x.length=cols.length→(l'.set k ⟨has,bA',bc',bs',cA,cc,cols⟩).flatMap tabCells=(l'.set k ⟨has,bA',bc',bs',cA,cc,x⟩).flatMap tabCells):=Lib.hid (fun x hx=>by
   refine flat_set_same _ _ ?_
   simp only [tabCells,hx])
  have hcl0:Hid (cols.length=(listS has).length):=Lib.hid hFh.out.clen
  have hcz:Hid (cols.map ColIn.zs=(listS has).map (colOf rs)):=Lib.hid hFh.out.cols
  have hfin2:Hid (∀ x:List ColIn,x.map ColIn.zs=(listS has).map (colOf rs')→(l'.set k ⟨has,bA',bc',bs',cA,cc,x⟩).map tabOf=(insG ⟨ridx,rgen,has,rvals,r8⟩ G).map tabG):=Lib.hid (fun x hx=>by
   refine hfin.out _ ⟨rfl,?_,?_⟩
   ·show bs'=(insRow rs (posOf ridx rs) _).map beOf
    rw [be_ins,hbs'.out,← hp.out]
    have h5:bs=rs.map beOf:=hFh.out.bs
    rw [h5];rfl
   ·show x.map ColIn.zs=(listS has).map (colOf (insRow rs (posOf ridx rs) _))
    rw [hx,hrs'.out,← hp.out])
  obtain ⟨O,hO⟩:∃ O,O=outE (some ⟨tg,0,none⟩) c' (l'.set k ⟨has,bA',bc',bs',cA,cc,cols⟩):=⟨_,rfl⟩
  have htO:∃ n xs,O=.own (.slice (some ⟨tg,0,none⟩) n c') 100 3 n xs∧xs[k*3+2]?=some (.slice cA cols.length cc):=⟨_,_,hO,htc3⟩
  rw [← hO] at H1
  have hOh:=Lib.hid hO
  have htOh:=Lib.hid htO
  clear htc3 hO htO hFh hfin hbs' htc1h htc2h
  have hl8:=listS_len has
  obtain ⟨hat,hblt⟩:=hrowh.out wc (H1.last.last.last)
  have q2:=hat.head.2.2
  dsimp only at q2
  clear hat
  have H1h:=Lib.hid H1
  clear H1
  go_wp2_with fail
  refine (list_any has hRs wc).mono ?_
  rintro e w2 ⟨vl,rfl,hol,hb⟩
  obtain ⟨Al,cl,rfl,_,_⟩:=own_shape hol
  have H2:=(H1h.out.got hb hol).push1 (E:=[_,_]++[_,_])
  replace H2:Hp w0 w2 ([kBox kb (some ⟨tg,0,none⟩) l'.length c' vg,O]++[bsE ⟨has,bA',bc',bs',cA,cc,cols⟩,csE ⟨has,bA',bc',bs',cA,cc,cols⟩]++[.own (.slice Al (listS has).length cl) 3 1 (listS has).length (ints (listS has))]++(cols.map colE++((l'.eraseIdx k).flatMap tabE++E0))):=H2
  have H2h:=Lib.hid H2
  clear H2 H1h hol hb q2 hblt
  go_wp2_with fail
  go_loopw [85] (fun s wr=>∃ j:Nat,j≤(listS has).length∧s=.int .i64 j∧∃ cj:List ColIn,Hid (cj.map ColIn.zs=colsJ has rs rs' j)∧cj.length=cols.length∧Hp w0 wr ([kBox kb (some ⟨tg,0,none⟩) l'.length c' vg,O]++[bsE ⟨has,bA',bc',bs',cA,cc,cols⟩,csE ⟨has,bA',bc',bs',cA,cc,cj⟩]++[.own (.slice Al (listS has).length cl) 3 1 (listS has).length (ints (listS has))]++(cj.map colE++((l'.eraseIdx k).flatMap tabE++E0)))) (fun s _=>(listS has).length-(intOf s).toNat)
  case atStart=>exact ⟨0,by omega,rfl,cols,Lib.hid (by rw [colsJ_zero];exact hcz.out),rfl,H2h.out⟩
  case round=>
   clear H2h
   obtain ⟨j,hj,rfl,cj,hcj,hcjl,H⟩:=hrel
   by_cases hjl:j<(listS has).length
   ·have hjc:j<cj.length:=by have:=hcl0.out;omega
    obtain ⟨cg,rfl⟩:=own_some (H.owns 3 rfl) (by show 0<cj.length;omega)
    obtain ⟨gl,rfl⟩:=own_some (H.owns 4 rfl) (by omega)
    have z4:=H.ownCell 4 j rfl (ints_get hjl)
    obtain ⟨n0,xs0,hOe,hx0⟩:=htOh.out
    have e2:wr.cell? ⟨tg,k*3+2,none⟩=some (.slice (some ⟨cg,0,none⟩) cols.length cc):=H.ownCell 1 (k*3+2) (by rw [hOe];rfl) hx0
    have e3:wr.cell? ⟨cg,j,none⟩=some (colV cj[j]):=H.ownCell 3 j rfl (by simp [hjc])
    have htl:=H.lt1 1 (by rw [hOe];rfl);have hcgl:=H.lt1 3 rfl
    have HF:=H.colF hjc
    have hzs:cj[j].zs=colOf rs (listS has)[j]:=by
     have h1:(cj.map ColIn.zs)[j]?=some (colOf rs (listS has)[j]):=by rw [hcj.out];exact colsJ_at rs rs' hjl
     rw [List.getElem?_map,List.getElem?_eq_getElem hjc] at h1
     exact Option.some.inj h1
    have hzn:cj[j].zs.length=rs.length:=by rw [hzs,colOf_len]
    obtain ⟨hk0,hk8⟩:=listS_range (listS has)[j] (List.getElem_mem hjl)
    have hnew:Hid (insAt cj[j].zs p (rvals.getD (listS has)[j].toNat 0)=colOf rs' (listS has)[j]):=Lib.hid (by rw [hzs,hrs'.out,colOf_ins])
    have hcs0:=@colsJ_succ has rs rs' j hjl
    obtain ⟨hat,hblt⟩:=hrowh.out wr (H.last.last.last)
    have hb1:=hbdh.out.1;have hb2:=hbdh.out.2
    obtain ⟨q,hq⟩:=nat_of hk0
    have hq8:q<8:=by omega
    have v3:=hat.val hq8
    rw [hq,Int.toNat_natCast,getD_get (by rw [r8];exact hq8)] at hnew
    rw [hq] at z4 hcs0
    have hcs:=Lib.hid hcs0
    clear hcs0
    dsimp only at v3
    generalize rvals[q]'(by rw [r8];exact hq8)=z at *
    generalize (listS has)[j]=kk at *
    generalize hcx:cj[j]=X at *
    have hcxh:=Lib.hid hcx
    obtain ⟨zA,zc,zs⟩:=X
    dsimp only at hnew hzn
    replace e3:wr.cell? ⟨cg,j,none⟩=some (.slice zA zs.length zc):=e3
    replace HF:Hp w0 wr ([kBox kb (some ⟨tg,0,none⟩) l'.length c' vg,O]++[bsE ⟨has,bA',bc',bs',some ⟨cg,0,none⟩,cc,cols⟩,csE ⟨has,bA',bc',bs',some ⟨cg,0,none⟩,cc,cj⟩]++[.own (.slice (some ⟨gl,0,none⟩) (listS has).length cl) 3 1 (listS has).length (ints (listS has))]++[colE ⟨zA,zc,zs⟩]++((cj.eraseIdx j).map colE++((l'.eraseIdx k).flatMap tabE++E0))):=HF
    have HN:=(HF.new wr.heap.size rfl 3 [.int .i64 z]).drew
    have hne:(Value.slice zA zs.length zc).ownBlock≠some wr.heap.size:=fun e=>by have:=(Ent.lt (HF.mem (k:=5) rfl) (g:=wr.heap.size) e).2;omega
    have hins:=insI_any zs.length (ints zs) [.int .i64 z] (ints_one zs) (by simp [Value.oneCell']) rfl p (by omega) (by omega) (.slice zA zs.length zc) w0.heap.size wr.heap.size _ HN.bel.size hne (HN.owns 5 rfl) ((Blk.new wr 3 #[.int .i64 z]).drew)
    rw [← ints_ins] at hins
    have hil:Hid ((insAt zs p z).length=zs.length+1):=Lib.hid (insAt_len _ (by omega))
    have hinsh:=Lib.hid hins
    have HNh:=Lib.hid HN;have hcjh:=Lib.hid hcj
    have hstep:Hid (∀ x:ColIn,x.zs=insAt zs p z→(cj.set j x).map ColIn.zs=colsJ has rs rs' (j+1)):=Lib.hid (fun x hx=>by rw [List.map_set,hx,hnew.out,hcj.out,hcs.out])
    have i2:(0:Int)≤(j:Int):=by omega
    have i3:(j:Int)<(cols.length:Int):=by omega
    have i4:(j:Int)<((listS has).length:Int):=by omega
    have i5:(0:Int)≤(q:Int):=by omega
    have i6:(q:Int)<8:=by omega
    have hOeh:=Lib.hid hOe;have hx0h:=Lib.hid hx0
    clear hcx hzs hat HN hne hins HF H hq hk0 hk8 hOe hx0 hcj hnew hb1 hb2 hzn
    go_wp2_with fail
    clear z4
    refine wp_region_mx mixed (by kernel_rfl) (by kernel_rfl) (fun q=>!(q==20)) (tab [.pointer (some ⟨tg,k*3,none⟩),.pointer (some ⟨tg,k*3,none⟩),.pointer (some ⟨tg,k*3+2,none⟩),.slice (some ⟨cg,0,none⟩) cols.length cc,.int .i64 j,.pointer (some ⟨tg,k*3,none⟩),.pointer (some ⟨tg,k*3,none⟩),.pointer (some ⟨tg,k*3+2,none⟩),.slice (some ⟨cg,0,none⟩) cols.length cc,.int .i64 j,.pointer (some ⟨cg,j,none⟩),.slice zA zs.length zc,.int .i64 p,.pointer (some ⟨b,o,none⟩),.int .i64 q,.pointer (some ⟨b,o,none⟩),.pointer (some ⟨b,o+3,none⟩),.pointer (some ⟨b,o+3+q,none⟩),.int .i64 z,.slice (some ⟨wr.heap.size,0,none⟩) 1 1,undef,.pointer (some ⟨cg,j,none⟩),undef]) (fun u vs w'=>(u 22=false→w'.cell? ⟨tg,k*3+2,none⟩=some (.slice (some ⟨cg,0,none⟩) cols.length cc))∧(u 20=false→w'.cell? ⟨cg,j,none⟩=some (.slice zA zs.length zc)∧w'.cell? ⟨b,o+3+q,none⟩=some (.int .i64 z))∧(if u 22 then ∃ A3 c3,Hp w0 w' ([kBox kb (some ⟨tg,0,none⟩) l'.length c' vg,O]++[bsE ⟨has,bA',bc',bs',(some ⟨cg,0,none⟩),cc,cols⟩,csE ⟨has,bA',bc',bs',(some ⟨cg,0,none⟩),cc,cj.set j ⟨A3,c3,insAt zs p z⟩⟩]++[.own (.slice (some ⟨gl,0,none⟩) (listS has).length cl) 3 1 (listS has).length (ints (listS has))]++[.own (.slice A3 (zs.length+1) c3) 3 1 (zs.length+1) (ints (insAt zs p z))]++((cj.eraseIdx j).map colE++((l'.eraseIdx k).flatMap tabE++E0))++[.box wr.heap.size 3 [.int .i64 z]]) else if u 20 then ∃ A3 c3,vs 20=.slice A3 (zs.length+1) c3∧Hp w0 w' ([kBox kb (some ⟨tg,0,none⟩) l'.length c' vg,O]++[bsE ⟨has,bA',bc',bs',(some ⟨cg,0,none⟩),cc,cols⟩,csE ⟨has,bA',bc',bs',(some ⟨cg,0,none⟩),cc,cj⟩]++[.own (.slice (some ⟨gl,0,none⟩) (listS has).length cl) 3 1 (listS has).length (ints (listS has))]++[.own (.slice A3 (zs.length+1) c3) 3 1 (zs.length+1) (ints (insAt zs p z))]++((cj.eraseIdx j).map colE++((l'.eraseIdx k).flatMap tabE++E0))++[.box wr.heap.size 3 [.int .i64 z]]) else if u 19 then w'=(wr.alloc (.cells #[.int .i64 z] 3)).drew else w'=wr.drew)) ?_ ?_ ?_
    ·exact ⟨fun _=>e2,fun _=>⟨e3,v3⟩,rfl⟩
    ·intro vs w' u hJ hl
     rw [putAll_tab _ _ _ _ [(some 90,.pointer (some ⟨tg,k*3,none⟩)),(some 91,.pointer (some ⟨tg,k*3,none⟩)),(some 92,.pointer (some ⟨tg,k*3+2,none⟩)),(some 93,.slice (some ⟨cg,0,none⟩) cols.length cc),(some 94,.int .i64 j),(some 95,.pointer (some ⟨tg,k*3,none⟩)),(some 96,.pointer (some ⟨tg,k*3,none⟩)),(some 97,.pointer (some ⟨tg,k*3+2,none⟩)),(some 98,.slice (some ⟨cg,0,none⟩) cols.length cc),(some 99,.int .i64 j),(some 100,.pointer (some ⟨cg,j,none⟩)),(some 101,.slice zA zs.length zc),(some 102,.int .i64 p),(some 103,.pointer (some ⟨b,o,none⟩)),(some 104,.int .i64 q),(some 105,.pointer (some ⟨b,o,none⟩)),(some 106,.pointer (some ⟨b,o+3,none⟩)),(some 107,.pointer (some ⟨b,o+3+q,none⟩)),(some 108,.int .i64 z),(some 109,.slice (some ⟨wr.heap.size,0,none⟩) 1 1),(some 110,vs 20),(some 111,.pointer (some ⟨cg,j,none⟩)),(none,undef)] rfl]
     simp only [putL_eq,putT,List.set_cons_succ,List.set_cons_zero]
     have l22:u 22=true:=hl 22 (by decide)
     have hJ2:=hJ.2.2
     rw [l22,if_pos rfl] at hJ2
     obtain ⟨A3,c3,H5⟩:=hJ2
     have H6:Hp w0 w' ([kBox kb (some ⟨tg,0,none⟩) l'.length c' vg,O]++[bsE ⟨has,bA',bc',bs',some ⟨cg,0,none⟩,cc,cols⟩,csE ⟨has,bA',bc',bs',some ⟨cg,0,none⟩,cc,cj.set j ⟨A3,c3,insAt zs p z⟩⟩]++[.own (.slice (some ⟨gl,0,none⟩) (listS has).length cl) 3 1 (listS has).length (ints (listS has))]++[colE ⟨A3,c3,insAt zs p z⟩]++((cj.eraseIdx j).map colE++((l'.eraseIdx k).flatMap tabE++E0))):=by
      unfold colE colV
      dsimp only
      rw [hil.out]
      exact H5.sub (List.sublist_append_left _ _)
     have H7:=Lib.hid (H6.colB hjc)
     have hx2:=Lib.hid (hstep.out ⟨A3,c3,insAt zs p z⟩ rfl)
     clear H5 H6 e2 e3 v3 hJ
     go_wp2_with fail
     go_roundw
     case rel=>exact ⟨j+1,by omega,by go_num,cj.set j ⟨A3,c3,insAt zs p z⟩,hx2,by rw [List.length_set];exact hcjl,H7.out⟩
     case measure=>simp [intOf];omega
    ·intro qq op ho u vs act w' hJ hsh hli hd hv hwas K hK
     have hiq:qq<23:=lt_of_some ho
     have s1_:=hwas 1 rfl
     have s6_:=hwas 6 rfl
     have s7_:=hwas 7 rfl
     have s9_:=hwas 9 rfl
     have s10_:=hwas 10 rfl
     simp at s1_ s6_ s7_ s9_ s10_
     match qq,hiq,ho,hli,hK with
     | 0,_,ho,hli,hK=>
      obtain rfl:=sj ho
      clear hv hwas
      go_simp
      exact hK _ _ (fun _=>rfl) hJ
     | 1,_,ho,hli,hK=>
      obtain rfl:=sj ho
      have x90:act.tmps[90]?.getD undef=.pointer (some ⟨tg,k*3,none⟩):=hv 0 90 rfl (rb hd rfl)
      clear hv hwas
      go_simp
      exact hK _ _ (fun _=>rfl) hJ
     | 2,_,ho,hli,hK=>
      obtain rfl:=sj ho
      have x91:act.tmps[91]?.getD undef=.pointer (some ⟨tg,k*3,none⟩):=hv 1 91 rfl (rb hd rfl)
      clear hv hwas
      go_simp
      exact hK _ _ (fun _=>rfl) hJ
     | 3,_,ho,hli,hK=>
      obtain rfl:=sj ho
      have x92:act.tmps[92]?.getD undef=.pointer (some ⟨tg,k*3+2,none⟩):=hv 2 92 rfl (rb hd rfl)
      have g0:=hJ.1 (hsh.not (i:=22) (j:=3) (by rfl) hli)
      clear hv hwas
      go_simp
      exact hK _ _ (fun _=>rfl) hJ
     | 4,_,ho,hli,hK=>
      obtain rfl:=sj ho
      clear hv hwas
      go_simp
      exact hK _ _ (fun _=>rfl) hJ
     | 5,_,ho,hli,hK=>
      obtain rfl:=sj ho
      clear hv hwas
      go_simp
      exact hK _ _ (fun _=>rfl) hJ
     | 6,_,ho,hli,hK=>
      obtain rfl:=sj ho
      have x95:act.tmps[95]?.getD undef=.pointer (some ⟨tg,k*3,none⟩):=hv 5 95 rfl (rb hd rfl)
      clear hv hwas
      go_simp
      exact hK _ _ (fun _=>rfl) hJ
     | 7,_,ho,hli,hK=>
      obtain rfl:=sj ho
      have x96:act.tmps[96]?.getD undef=.pointer (some ⟨tg,k*3,none⟩):=hv 6 96 rfl (rb hd rfl)
      clear hv hwas
      go_simp
      exact hK _ _ (fun _=>rfl) hJ
     | 8,_,ho,hli,hK=>
      obtain rfl:=sj ho
      have x97:act.tmps[97]?.getD undef=.pointer (some ⟨tg,k*3+2,none⟩):=hv 7 97 rfl (rb hd rfl)
      have g0:=hJ.1 (hsh.not (i:=22) (j:=8) (by rfl) hli)
      clear hv hwas
      go_simp
      exact hK _ _ (fun _=>rfl) hJ
     | 9,_,ho,hli,hK=>
      obtain rfl:=sj ho
      clear hv hwas
      go_simp
      exact hK _ _ (fun _=>rfl) hJ
     | 10,_,ho,hli,hK=>
      obtain rfl:=sj ho
      have x98:act.tmps[98]?.getD undef=.slice (some ⟨cg,0,none⟩) cols.length cc:=hv 8 98 rfl (rb hd rfl)
      have x99:act.tmps[99]?.getD undef=.int .i64 j:=hv 9 99 rfl (rb hd rfl)
      clear hv hwas
      go_simp
      exact hK _ _ (fun _=>rfl) hJ
     | 11,_,ho,hli,hK=>
      obtain rfl:=sj ho
      have x100:act.tmps[100]?.getD undef=.pointer (some ⟨cg,j,none⟩):=hv 10 100 rfl (rb hd rfl)
      have n20:=hsh.not (i:=20) (j:=11) (by rfl) hli
      obtain ⟨g0,g1⟩:=hJ.2.1 n20
      clear hv hwas
      go_simp
      exact hK _ _ (fun _=>rfl) hJ
     | 12,_,ho,hli,hK=>
      obtain rfl:=sj ho
      clear hv hwas
      go_simp
      exact hK _ _ (fun _=>rfl) hJ
     | 13,_,ho,hli,hK=>
      obtain rfl:=sj ho
      clear hv hwas
      go_simp
      exact hK _ _ (fun _=>rfl) hJ
     | 14,_,ho,hli,hK=>
      obtain rfl:=sj ho
      clear hv hwas
      go_simp
      exact hK _ _ (fun _=>rfl) hJ
     | 15,_,ho,hli,hK=>
      obtain rfl:=sj ho
      have x103:act.tmps[103]?.getD undef=.pointer (some ⟨b,o,none⟩):=hv 13 103 rfl (rb hd rfl)
      clear hv hwas
      go_simp
      exact hK _ _ (fun _=>rfl) hJ
     | 16,_,ho,hli,hK=>
      obtain rfl:=sj ho
      have x105:act.tmps[105]?.getD undef=.pointer (some ⟨b,o,none⟩):=hv 15 105 rfl (rb hd rfl)
      clear hv hwas
      go_simp
      exact hK _ _ (fun _=>rfl) hJ
     | 17,_,ho,hli,hK=>
      obtain rfl:=sj ho
      have x104:act.tmps[104]?.getD undef=.int .i64 q:=hv 14 104 rfl (rb hd rfl)
      have x106:act.tmps[106]?.getD undef=.pointer (some ⟨b,o+3,none⟩):=hv 16 106 rfl (rb hd rfl)
      clear hv hwas
      go_simp
      exact hK _ _ (fun _=>rfl) hJ
     | 18,_,ho,hli,hK=>
      obtain rfl:=sj ho
      have x107:act.tmps[107]?.getD undef=.pointer (some ⟨b,o+3+q,none⟩):=hv 17 107 rfl (rb hd rfl)
      have n19:=hsh.not (i:=19) (j:=18) (by rfl) hli
      have n20:=hsh.not (i:=20) (j:=19) (by rfl) n19
      obtain ⟨g0,g1⟩:=hJ.2.1 n20
      clear hv hwas
      go_simp
      exact hK _ _ (fun _=>rfl) hJ
     | 19,_,ho,hli,hK=>
      obtain rfl:=sj ho
      have x108:act.tmps[108]?.getD undef=.int .i64 z:=hv 18 108 rfl (rb hd rfl)
      have n20:=hsh.not (i:=20) (j:=19) (by rfl) hli
      have n22:=hsh.not (i:=22) (j:=20) (by rfl) n20
      obtain ⟨hJ0,hJ1,hJ2⟩:=hJ
      simp only [n22,n20,hli,Bool.false_eq_true,if_false] at hJ2
      subst hJ2
      clear hv hwas hJ1 hJ0
      go_simp
      refine hK _ _ (fun _=>rfl) ⟨fun _=>?_,fun _=>⟨?_,?_⟩,by simp [upd,n22,n20]⟩
      ·exact (World.cell?_alloc_lt wr _ _ htl).trans e2
      ·exact (World.cell?_alloc_lt wr _ _ hcgl).trans e3
      ·exact (World.cell?_alloc_lt wr _ _ hblt).trans v3
     | 20,_,ho,hli,hK=>
      obtain rfl:=sj ho
      have x101:act.tmps[101]?.getD undef=.slice zA zs.length zc:=hv 11 101 rfl (rb hd rfl)
      have x102:act.tmps[102]?.getD undef=.int .i64 p:=hv 12 102 rfl (rb hd rfl)
      have x109:act.tmps[109]?.getD undef=.slice (some ⟨wr.heap.size,0,none⟩) 1 1:=hv 19 109 rfl (rb hd rfl)
      have l19:u 19=true:=by simp [Region.binds] at hd;simp [hd]
      have n22:=hsh.not (i:=22) (j:=20) (by rfl) hli
      obtain ⟨hJ0,hJ1,hJ2⟩:=hJ
      simp only [n22,hli,l19,Bool.false_eq_true,if_false,if_true] at hJ2
      subst hJ2
      clear hv hwas hJ1 hJ0
      go_simp
      refine hinsh.out.mono ?_
      rintro e w4 ⟨v4,rfl,hown4,hgr4,hat4⟩
      obtain ⟨A3,c3,rfl,_,_⟩:=own_shape hown4
      have H4:Hp w0 w4 ([kBox kb (some ⟨tg,0,none⟩) l'.length c' vg,O]++[bsE ⟨has,bA',bc',bs',(some ⟨cg,0,none⟩),cc,cols⟩,csE ⟨has,bA',bc',bs',(some ⟨cg,0,none⟩),cc,cj⟩]++[.own (.slice (some ⟨gl,0,none⟩) (listS has).length cl) 3 1 (listS has).length (ints (listS has))]++[.own (.slice A3 (zs.length+1) c3) 3 1 (zs.length+1) (ints (insAt zs p z))]++((cj.eraseIdx j).map colE++((l'.eraseIdx k).flatMap tabE++E0))++[.box wr.heap.size 3 [.int .i64 z]]):=HNh.out.step (p':=.own (.slice A3 (zs.length+1) c3) 3 1 (zs.length+1) _) 5 rfl hgr4 hown4 hat4
      refine hK _ _ (fun h=>by cases h) ⟨fun _=>H4.ownCell 1 (k*3+2) (by rw [hOeh.out];rfl) hx0h.out,fun h=>by simp [upd] at h,?_⟩
      simp only [upd,n22,if_true,Bool.false_eq_true,if_false,show (22:Nat)=20↔False by decide]
      exact ⟨A3,c3,rfl,H4⟩
     | 21,_,ho,hli,hK=>
      obtain rfl:=sj ho
      have x93:act.tmps[93]?.getD undef=.slice (some ⟨cg,0,none⟩) cols.length cc:=hv 3 93 rfl (rb hd rfl)
      have x94:act.tmps[94]?.getD undef=.int .i64 j:=hv 4 94 rfl (rb hd rfl)
      clear hv hwas
      go_simp
      exact hK _ _ (fun _=>rfl) hJ
     | 22,_,ho,hli,hK=>
      obtain rfl:=sj ho
      have x110:act.tmps[110]?.getD undef=vs 20:=hv 20 110 rfl (rb hd rfl)
      have x111:act.tmps[111]?.getD undef=.pointer (some ⟨cg,j,none⟩):=hv 21 111 rfl (rb hd rfl)
      have l21:u 21=true:=by simp [Region.binds] at hd;simp [hd]
      have l20:u 20=true:=hsh 21 20 (by rfl) l21
      obtain ⟨hJ0,hJ1,hJ2⟩:=hJ
      simp only [hli,l20,Bool.false_eq_true,if_false,if_true] at hJ2
      obtain ⟨A3,c3,hv20,H4⟩:=hJ2
      rw [hv20] at x110
      have z0:=H4.ownCell 3 j rfl (u:=.slice zA zs.length zc) (by simp only [List.getElem?_map,List.getElem?_eq_getElem hjc,hcxh.out];rfl)
      have y0:=H4.ownFrozen 3 j rfl
      have H5:=H4.put 3 j (.slice A3 (zs.length+1) c3) rfl
      have H6:Hp w0 (w'.setCell ⟨cg,j,none⟩ (.slice A3 (zs.length+1) c3)) ([kBox kb (some ⟨tg,0,none⟩) l'.length c' vg,O]++[bsE ⟨has,bA',bc',bs',(some ⟨cg,0,none⟩),cc,cols⟩,csE ⟨has,bA',bc',bs',(some ⟨cg,0,none⟩),cc,cj.set j ⟨A3,c3,insAt zs p z⟩⟩]++[.own (.slice (some ⟨gl,0,none⟩) (listS has).length cl) 3 1 (listS has).length (ints (listS has))]++[.own (.slice A3 (zs.length+1) c3) 3 1 (zs.length+1) (ints (insAt zs p z))]++((cj.eraseIdx j).map colE++((l'.eraseIdx k).flatMap tabE++E0))++[.box wr.heap.size 3 [.int .i64 z]]):=by
       unfold csE
       rw [List.length_set,List.map_set,show colV ⟨A3,c3,insAt zs p z⟩=.slice A3 (zs.length+1) c3 by unfold colV;rw [hil.out]]
       exact H5
      clear hv hwas hJ1 hJ0 H5
      go_simp
      refine hK _ _ (fun _=>rfl) ⟨fun h=>by simp [upd] at h,fun h=>by simp [upd,l20] at h,?_⟩
      simp only [upd,if_true]
      exact ⟨A3,c3,H6⟩
   ·obtain rfl:j=(listS has).length:=by omega
    have hall:Hid (cj.map ColIn.zs=(listS has).map (colOf rs')):=Lib.hid (by rw [hcj.out,colsJ_all])
    have hsm:=Lib.hid (hsame.out cj hcjl)
    have H9:=(H.drop1 4)
    replace H9:Hp w0 wr ([kBox kb (some ⟨tg,0,none⟩) l'.length c' vg,O]++[bsE ⟨has,bA',bc',bs',cA,cc,cj⟩,csE ⟨has,bA',bc',bs',cA,cc,cj⟩]++(cj.map colE++((l'.eraseIdx k).flatMap tabE++E0))):=H9
    have H10:=H9.tabB (t:=⟨has,bA',bc',bs',cA,cc,cj⟩) hkl
    have H10h:=Lib.hid H10
    clear H H9 H10 hcjl
    go_wp2_with fail
    go_end0
    refine ⟨rfl,some ⟨tg,0,none⟩,c',l'.set k ⟨has,bA',bc',bs',cA,cc,cj⟩,hfin2.out _ hall.out,?_⟩
    have H11:=H10h.out
    rw [hOh.out] at H11
    unfold outE at H11
    rw [hsm.out,List.length_set] at H11
    unfold kE outE
    rw [List.length_set]
    exact H11
end Go.Proofs.YtefdblaolmckmabGreat
