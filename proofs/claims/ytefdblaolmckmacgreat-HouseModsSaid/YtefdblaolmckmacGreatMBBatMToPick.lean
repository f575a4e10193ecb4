/- Lemmas of the proof. -/
import Derived.Test.YtefdblaolmckmacGreatMBAppOpToBatB
import Derived.Test.YtefdblaolmckmacGreatMBPlainAToHp
import Derived.Test.YtefdblaolmckmacGreatMBRunA7ToRunR
import Derived.Test.YtefdblaolmckmacGreatMBSpecDToHouU
set_option linter.unusedVariables false
set_option linter.unusedSimpArgs false
set_option maxRecDepth 100000
set_option maxHeartbeats 12800000
namespace Go.Proofs.YtefdblaolmckmacGreat
open Go.RowKit
open Brood
def makeV (ss:List BSys):List (List Nat)×(Int×Int):=if (batchWrong ss).1≠0 then ([],batchWrong ss) else (makeRows ss,(0,0))
theorem anyClash_B (l:List SysIn) (x:SysIn) (js:List Nat):anyClash l x js=anyB (sysOf l) x.s js:=by
 unfold anyClash anyB
 congr 1
 funext j
 simp only [sysOf,List.getElem?_map]
 cases l[j]?<;>rfl
def rowsI (rows:List (List Nat)):List (List Int):=rows.map natsI
theorem rowsI_length (rows:List (List Nat)):(rowsI rows).length=rows.length:=by simp [rowsI]
structure MakeSt (w wr:World) (A:Option Addr) (c:Nat) (l:List SysIn):Prop where
 bel:Below w.heap.size w wr
 rd:RdS wr w.heap.size A l
 box:Blk wr w.heap.size 28 #[.slice A l.length c]
 res:Blk wr (w.heap.size+1) 34 #[.int .i64 0,.int .i64 0]
section
variable {w wr wn:World} {A:Option Addr} {c:Nat} {l:List SysIn}
theorem MakeSt.below (h:MakeSt w wr A c l) (hb:Below wr.heap.size wr wn):MakeSt w wn A c l:=
 ⟨grow_below h.bel hb,h.rd.under hb h.bel.size,h.box.below hb h.box.lt,h.res.below hb h.res.lt⟩
theorem MakeSt.alloc (h:MakeSt w wr A c l) (o:Obj):MakeSt w (wr.alloc o) A c l:=h.below ((Below.refl _ _).alloc (Nat.le_refl _) o)
theorem MakeSt.grown {row:Option Nat} (h:MakeSt w wr A c l) (hg:wr.grownBy wn row) (hr:∀ k,row=some k→w.heap.size+2≤k):MakeSt w wn A c l:=by
 have hb:Below (w.heap.size+2) wr wn:=(Below.refl _ _).grown hg (by have:=h.res.lt;omega) hr
 have h1:=h.res.lt
 exact ⟨h.bel.grown hg h.bel.size (fun k e=>by have:=hr k e;omega),h.rd.under hb (by omega),h.box.below hb (by omega),h.res.below hb (by omega)⟩
theorem MakeSt.setCell (h:MakeSt w wr A c l) {p:Addr} (hp:w.heap.size+2≤p.block) (u:Value):MakeSt w (wr.setCell p u) A c l:=
 ⟨h.bel.setCell (by omega) u,h.rd.setCell (by omega) u,h.box.far (by omega) u,h.res.far (by omega) u⟩
end
theorem make_any (l:List SysIn) (A:Option Addr) (c:Nat) (w:World) (hA:RdS w w.heap.size A l) :
  Calls Tryz.prog 93 #[.slice A l.length c] w fun e w'=>
   ∃ v us,e=.returned (.tuple #[v,.agg #[.int .i64 (makeV (sysOf l)).2.1,.int .i64 (makeV (sysOf l)).2.2]])∧OwnLL w' w.heap.size v us (rowsI (makeV (sysOf l)).1)∧Below w.heap.size w w':=by
 have S0:MakeSt w ((w.alloc (.cells #[.slice A l.length c] 28)).alloc (.cells #[.int .i64 0,.int .i64 0] 34)) A c l:=by
  refine ⟨((Below.refl _ _).alloc (Nat.le_refl _) _).alloc (by simp) _,(hA.alloc (Nat.le_refl _) _).alloc (by simp) _,(Blk.new _ _ _).alloc _,?_⟩
  have h:=Blk.new (w.alloc (.cells #[.slice A l.length c] 28)) 34 #[.int .i64 0,.int .i64 0]
  simpa only [World.size_alloc] using h
 have hmf:∀ (fn:Fn) (first cap:Array Value) (w:World),(Instr.makeFunc fn first cap).run Tryz.prog w=.ok (.func fn first cap) w:=fun _ _ _ _=>rfl
 go_enter Tryz.func93,Tryz.ntmps93
 go_wp2_with fail
 refine (bwrong_any l A c _ ((hA.alloc (Nat.le_refl _) _).alloc (by simp) _ |>.more (by simp;omega))).mono ?_
 rintro e w1 ⟨rfl,hb1⟩
 have SW:=S0.below hb1
 have S1:=SW.alloc (.cells #[.int .i64 (batchWrong (sysOf l)).1,.int .i64 (batchWrong (sysOf l)).2] 34)
 have F1:=Blk.new w1 34 #[.int .i64 (batchWrong (sysOf l)).1,.int .i64 (batchWrong (sysOf l)).2]
 clear hb1 S0 hA
 by_cases hw:(batchWrong (sysOf l)).1=0
 case neg=>
  have hmv:Hid (makeV (sysOf l)=([],batchWrong (sysOf l))):=Lib.hid (by simp [makeV,hw])
  have hx':((batchWrong (sysOf l)).1 != 0)=true:=by simpa using hw
  have F0:=SW.res
  have f0:=F1.cell 0;have f1:=F1.cell 1;have z0:=F0.frozen 0;have z1:=F0.frozen 1;have y0:=F0.cell 0;have y1:=F0.cell 1
  simp at f0 f1 y0 y1
  have hlt1:=F0.lt
  go_wp2_with fail
  go_region
  go_wp2_with fail
  have HR:=((F0.set_ 0 (.int .i64 (batchWrong (sysOf l)).1)).set_ 1 (.int .i64 (batchWrong (sysOf l)).2)).alloc (.cells #[.int .i64 (batchWrong (sysOf l)).1,.int .i64 (batchWrong (sysOf l)).2] 34)
  have r0:=HR.cell 0;have r1:=HR.cell 1
  simp at r0 r1
  refine bodyPost_ret (v:=.tuple #[.slice none 0 0,.agg #[.int .i64 (batchWrong (sysOf l)).1,.int .i64 (batchWrong (sysOf l)).2]]) (by simp [results,Tryz.results93,go_sem,r0,r1]) rfl ⟨_,[],by rw [hmv.out],?_,?_⟩
  ·rw [hmv.out];exact OwnLL.nil_ _ _
  ·exact (((SW.bel.setCell (by simp) _).setCell (by simp) _).alloc (by simp;omega) _).drew
 case pos=>
  rw [hw] at S1 F1 ⊢
  have hmv:Hid (makeV (sysOf l)=(makeRows (sysOf l),(0,0))):=Lib.hid (by simp [makeV,hw])
  have hlen:l.length≤12:=by
   rcases Nat.lt_or_ge 12 l.length with h | h
   ·have:batchWrong (sysOf l)=(4,0):=by simp [batchWrong,sysOf_length,h]
    rw [this] at hw;cases hw
   ·exact h
  have hall:∀ y∈l,Right y.s:=by
   intro y hy
   have h:(wrongsFrom 0 (sysOf l)).1=0:=by
    have:¬ 12<(sysOf l).length:=by rw [sysOf_length];omega
    rw [batchWrong,if_neg this] at hw;exact hw
   exact right_of (wrongs_right _ 0 h y.s (List.mem_map.2 ⟨y,hy,rfl⟩))
  have k0:=SW.box.cell 0
  have hk1:=SW.box.lt;have hk2:=SW.res.lt
  simp at k0
  go_wp2_with fail
  clear F1 hk1 hk2
  go_loopw [5,19] (fun v i wr=>∃ (k:Nat) (us:List Value) (rows:List (List Nat)),k≤l.length∧i=.int .i64 k∧Hid (makeRows (sysOf l)=makeFrom (sysOf l) k rows ((sysOf l).drop k))∧Bound k rows∧MakeSt w wr A c l∧OwnLL wr (w.heap.size+2) v us (rowsI rows)) (fun _ i _=>l.length-(intOf i).toNat)
  case atStart=>exact ⟨0,[],[],by omega,rfl,Lib.hid (by simp [makeRows]),⟨by simp,fun r hr=>by cases hr⟩,S1,OwnLL.nil_ _ _⟩
  case round=>
   clear S1 SW k0 hw
   obtain ⟨k,us,rows,hk,rfl,hmk,hbd,S,hown⟩:=hrel
   have hrl:=hbd.1
   by_cases hlt:k<l.length
   ·obtain ⟨b,off,rfl,hb,hc0,hc1,hc2,hc3⟩:=S.rd.at_ hlt
    have hact:=S.rd.acts l[k] (List.getElem_mem hlt)
    have hst:=Lib.hid (sysOf_drop hlt)
    have hx:=hall l[k] (List.getElem_mem hlt)
    generalize l[k]=x at *
    obtain ⟨s,sA,sc⟩:=x
    simp only at hc0 hc1 hc2 hc3 hact hst hx
    have i0:(0:Int)≤(k:Int):=by omega
    have i1:(k:Int)<(l.length:Int):=by omega
    obtain ⟨VA,vc,rfl,hvc,hvm⟩:=hown.shape
    rw [rowsI_length] at hown hvc ⊢
    have s1:=S.box.lt;have s2:=S.res.lt
    go_wp2_with fail
    have S':=S.alloc (.cells #[.int .i64 s.mod,.int .i64 s.all,.int .i64 s.non,.slice sA s.acts.length sc] 51)
    have O':=hown.alloc (.cells #[.int .i64 s.mod,.int .i64 s.all,.int .i64 s.non,.slice sA s.acts.length sc] 51)
    have HX:=Blk.new wr 51 #[.int .i64 s.mod,.int .i64 s.all,.int .i64 s.non,.slice sA s.acts.length sc]
    have hact':RdAB (wr.alloc (.cells #[.int .i64 s.mod,.int .i64 s.all,.int .i64 s.non,.slice sA s.acts.length sc] 51)) w.heap.size sA s.acts:=Rd.alloc hact S.bel.size _
    have hsz:(wr.alloc (.cells #[.int .i64 s.mod,.int .i64 s.all,.int .i64 s.non,.slice sA s.acts.length sc] 51)).heap.size=wr.heap.size+1:=by simp
    clear hc0 hc1 hc2 hc3 hown S hact
    generalize hwo:wr.alloc (.cells #[.int .i64 s.mod,.int .i64 s.all,.int .i64 s.non,.slice sA s.acts.length sc] 51)=wo at *
    generalize wr.heap.size=gx at *
    clear hwo
    go_loopw [8,26] (fun a q wr2=>∃ qn an:Nat,qn≤rows.length∧q=.int .i64 qn∧a=.int .i64 an∧an≤qn∧Hid (makeAt (sysOf l) s rows=atFrom (anyB (sysOf l) s) an qn (rows.drop qn))∧Below wo.heap.size wo wr2) (fun _ q _=>rows.length-(intOf q).toNat)
    case atStart=>exact ⟨0,0,by omega,rfl,rfl,by omega,Lib.hid rfl,Below.refl _ _⟩
    case round=>
     obtain ⟨qn,an,hqn,rfl,rfl,han,hat,hbel2⟩:=hrel
     have S2:=S'.below hbel2
     have O2:=O'.below hbel2
     have HX2:=HX.below hbel2 HX.lt
     have hact2:RdAB _ w.heap.size sA s.acts:=Rd.under hact' hbel2 S'.bel.size
     by_cases hq:qn<rows.length
     ·obtain ⟨g,cap,hv,hg1,hg2,hg3,hcell,hfr⟩:=O2.place (by rw [rowsI_length];omega)
      rw [rowsI_length] at hv hg3 hcell
      injection hv with hv1 hv2 hv3
      subst hv1 hv3
      obtain ⟨u,hu,hrow⟩:=O2.rowAt (k:=qn) (by rw [rowsI_length];exact hq)
      obtain ⟨A',c',rfl,hlen',hRd⟩:=own_at hrow
      have hcq:=hcell qn hq
      rw [hu] at hcq
      have hrq:(rowsI rows)[qn]'(by rw [rowsI_length];exact hq)=natsI rows[qn]:=by simp [rowsI]
      rw [hrq,natsI_length] at hcq
      rw [hrq] at hRd
      have hbr:=hbd.2 rows[qn] (List.getElem_mem hq)
      have hdrop:=drop_cons hq
      have q0:(0:Int)≤(qn:Int):=by omega
      have q1:(qn:Int)<(rows.length:Int):=by omega
      have hcall:=contains_any l ⟨s,sA,sc⟩ hall hx (some ⟨b,off,none⟩) c w.heap.size gx w.heap.size _ ⟨S2.box,HX2,S2.rd,S2.bel.size,hact2⟩ rows[qn] (fun j hj=>by have:=hbr.2 j hj;omega) (by omega) A' c' hRd
      rw [anyClash_B] at hcall
      have hat2:=hat.out
      rw [hdrop,atFrom] at hat2
      generalize rows[qn]=row at *
      clear hcell hfr hrow hu hdrop hbr
      have hat3:=Lib.hid hat2
      clear hat hat2
      go_wp2_with fail
      refine hcall.mono ?_
      rintro e w2 ⟨rfl,hb2⟩
      cases hany:anyB (sysOf l) s row
      case true=>
       rw [hany,if_pos rfl] at hat3
       go_wp2_with fail
       go_roundw
       case rel=>exact ⟨qn+1,qn+1,by omega,by go_num,by go_num,by omega,hat3,grow_below hbel2 hb2⟩
       case measure=>simp [intOf];omega
      case false=>
       rw [hany,if_neg (by decide)] at hat3
       go_wp2_with fail
       go_roundw
       case rel=>exact ⟨qn+1,an,by omega,by go_num,rfl,by omega,hat3,grow_below hbel2 hb2⟩
       case measure=>simp [intOf];omega
     ·obtain rfl:qn=rows.length:=by omega
      have hate:Hid (makeAt (sysOf l) s rows=an):=Lib.hid (by rw [hat.out];simp [atFrom])
      clear S' O' HX hact' hat hact2 HX2
      have ho:=hbel2.size
      clear hbel2
      have hnext:Hid (makeRows (sysOf l)=makeFrom (sysOf l) (k+1) (makeStep (sysOf l) rows k s) ((sysOf l).drop (k+1))):=Lib.hid (by rw [hmk.out,hst.out];rfl)
      have hbd1:=bound_step (sysOf l) s hbd
      have hbr:=bound_roomy (a:=makeAt (sysOf l) s rows) hbd
      have hstep:Hid (makeStep (sysOf l) rows k s=(roomy an rows).set an ((roomy an rows).getD an []++[k])):=Lib.hid (by rw [makeStep,hate.out])
      rw [hate.out] at hbr
      have hbrr:=Lib.hid hbr
      clear hmk hst hate hbr
      obtain ⟨i1',hi1,hz1a,hz1b,hz1c⟩:=info_parts infoInts
      obtain ⟨i0',hi0,hz0a,hz0b,hz0c⟩:=info_parts infoInt
      have hsw:=O2.out.lt
      by_cases hfull:an=rows.length
      ·subst hfull
       have hroom:Hid (roomy rows.length rows=rows++[[]]):=Lib.hid (by simp [roomy])
       have own1:=(O2.alloc (.cells #[.slice none 0 0] 25))
       have ownu:=own1.out
       have hlu:=O2.len
       rw [rowsI_length] at hlu
       rw [hlu] at ownu
       obtain ⟨R,hR⟩:∃ R,R=rows++[[]]:=⟨_,rfl⟩
       have hRl:R.length=rows.length+1:=by rw [hR];simp
       have hRI:rowsI rows++[[]]=rowsI R:=by rw [hR];simp [rowsI,natsI]
       have hu:(us++[Value.slice none 0 0])[rows.length]?=some (.slice none 0 0):=by rw [List.getElem?_append_right (by omega)];simp [hlu]
       go_wp2_with (first
        | (at_builtin;refine wpList_append_own_at _ rfl _ _ 100 rfl (w.heap.size+2) 25 i1' (.slice none 0 0) 1 24 Tryz.underlying100 hi1 hz1a hz1b hz1c rfl (by decide) _ _ _ rfl ownu ⟨wr.heap.size,0,none⟩ 1 1 [.slice none 0 0] rfl rfl ?c1 ?c2 ?c3 ?c4 ?c5 ?_;rotate_left 5;intro v' w3 hown3 hgrow3 _ hat3;have O3:=OwnLL.push own1 (by rw [hlu];exact hown3) hgrow3 hat3;rw [hRI] at O3;have S3:=(S2.alloc (.cells #[.slice none 0 0] 25)).grown hgrow3 (fun q e=>(hsw q e).1);clear hat3 hgrow3 hown3;obtain ⟨g,cap,hv',hg1,hg2,hg3,hcell,hfr⟩:=O3.place (by rw [rowsI_length];omega);subst hv';rw [rowsI_length,hRl] at hg3 hcell ⊢;have hrow:=own_nil w3 (w.heap.size+2) 3 1;have hcq:=hcell rows.length (by omega);rw [hu] at hcq;clear hcell)
        | (at_builtin;refine wpList_append_own_at _ rfl _ _ 25 rfl (w.heap.size+2) 3 i0' (.int .i64 0) 1 8 Tryz.underlying25 hi0 hz0a hz0b hz0c rfl (by decide) _ _ _ rfl (hrow.alloc (.cells #[.int .i64 (k:Int)] 3)) ⟨w3.heap.size,0,none⟩ 1 1 [.int .i64 (k:Int)] rfl rfl ?d1 ?d2 ?d3 ?d4 ?d5 ?_;rotate_left 5;intro v2 w4 hown4 hgrow4 _ hat4;have hko:=(O3.alloc (.cells #[.int .i64 (k:Int)] 3)).keepOut hu hgrow4;have hko1:=hko.1;have hko2:=hko.2;have hown5:=hown4;obtain ⟨A2,c2,hv2,_,_⟩:=own_shape hown4;subst hv2))
       case c1=>exact cell_one_new _ _ _
       case c2=>intro x hx;simp at hx;subst hx;rfl
       case c3=>unfold maxLen;omega
       case c4=>omega
       case c5=>have:=S2.bel.size;have:=S2.res.lt;simp;omega
       case d1=>exact cell_one_new _ _ _
       case d2=>intro x hx;simp at hx;subst hx;rfl
       case d3=>unfold maxLen;omega
       case d4=>omega
       case d5=>have:=S3.bel.size;have:=S3.res.lt;simp;omega
       go_roundw
       case rel=>
        have hput:=OwnLL.put (r':=[(k:Int)]) (O3.alloc (.cells #[.int .i64 (k:Int)] 3)) hu (show (rowsI R)[rows.length]?=some ([]:List Int) from by rw [← hRI,List.getElem?_append_right (by rw [rowsI_length];omega),rowsI_length];simp) (by simpa [ints] using hown5) hgrow4 hat4
        rw [rowsI_length,hRl] at hput
        have e:rowsI (makeStep (sysOf l) rows k s)=(rowsI R).set rows.length ([(k:Int)]):=by
         rw [hstep.out,hroom.out]
         rw [← hR,rowsI,List.map_set]
         have:R.getD rows.length []=[]:=by rw [hR];simp [List.getD_eq_getElem?_getD]
         rw [this]
         rfl
        rw [← e] at hput
        exact ⟨k+1,_,_,by omega,by go_num,hnext,hbd1,((S3.alloc (.cells #[.int .i64 (k:Int)] 3)).grown hgrow4 (fun q e=>by cases e)).setCell (by simp;omega) _,hput⟩
       case measure=>simp [intOf];omega
      ·have hltan:an<rows.length:=by omega
       have hroom:Hid (roomy an rows=rows):=Lib.hid (by simp [roomy,hfull])
       have O3:=O2
       have S3:=S2
       obtain ⟨R,hR⟩:∃ R,R=rows:=⟨_,rfl⟩
       have hRl:R.length=rows.length:=by rw [hR]
       have hnean:¬ ((an:Int)=(rows.length:Int)):=by omega
       obtain ⟨g,cap,hv',hg1,hg2,hg3,hcell,hfr⟩:=O2.place (by rw [rowsI_length];omega)
       rw [rowsI_length] at hv' hg3 hcell
       injection hv' with hv1 hv2 hv3
       subst hv1 hv3
       obtain ⟨u,hu,hrow⟩:=O2.rowAt (k:=an) (by rw [rowsI_length];exact hltan)
       have hrq:(rowsI rows)[an]'(by rw [rowsI_length];exact hltan)=natsI rows[an]:=by simp [rowsI]
       rw [hrq] at hrow
       obtain ⟨A',c',hu',hlen',hRd⟩:=own_at hrow
       subst hu'
       rw [natsI_length] at hrow hu
       have hrl2:rows[an].length≤k:=(hbd.2 rows[an] (List.getElem_mem hltan)).1
       have hgr:R.getD an []=rows[an]:=by rw [hR];simp [List.getD_eq_getElem?_getD,hltan]
       have hr3:(rowsI R)[an]?=some (natsI rows[an]):=by rw [hR,rowsI,List.getElem?_map,List.getElem?_eq_getElem hltan];rfl
       have hcq:=hcell an hltan
       rw [hu] at hcq
       replace O3:OwnLL wr (w.heap.size+2) (.slice (some ⟨g,0,none⟩) (rowsI R).length vc) us (rowsI R):=by rw [rowsI_length,hRl,hR];exact O3
       clear hcell hlen' hRd
       have q0:(0:Int)≤(an:Int):=by omega
       have q1:(an:Int)<(rows.length:Int):=by omega
       generalize hrw:rows[an]=row at *
       go_wp2_with ((at_builtin;refine wpList_append_own_at _ rfl _ _ 25 rfl (w.heap.size+2) 3 i0' (.int .i64 0) 1 8 Tryz.underlying25 hi0 hz0a hz0b hz0c rfl (by decide) _ _ _ rfl (hrow.alloc (.cells #[.int .i64 (k:Int)] 3)) ⟨wr.heap.size,0,none⟩ 1 1 [.int .i64 (k:Int)] rfl rfl ?d1 ?d2 ?d3 ?d4 ?d5 ?_;rotate_left 5;intro v2 w4 hown4 hgrow4 _ hat4;have hko:=(O3.alloc (.cells #[.int .i64 (k:Int)] 3)).keepOut hu hgrow4;have hko1:=hko.1;have hko2:=hko.2;have hown5:=hown4;obtain ⟨A2,c2,hv2,_,_⟩:=own_shape hown4;subst hv2))
       case d2=>rfl
       case d3=>unfold maxLen;omega
       case d4=>omega
       case d5=>have:=S3.bel.size;have:=S3.res.lt;simp;omega
       go_roundw
       case rel=>
        have hput:=OwnLL.put (r':=natsI row++[(k:Int)]) (O3.alloc (.cells #[.int .i64 (k:Int)] 3)) hu hr3 (by rw [List.length_append,natsI_length,← ints_snoc];exact hown5) hgrow4 hat4
        rw [rowsI_length,hRl] at hput
        have e:rowsI (makeStep (sysOf l) rows k s)=(rowsI R).set an (natsI row++[(k:Int)]):=by
         rw [hstep.out,hroom.out]
         rw [← hR,rowsI,List.map_set,hgr]
         simp [natsI,rowsI]
        rw [← e] at hput
        exact ⟨k+1,_,_,by omega,by go_num,hnext,hbd1,((S3.alloc (.cells #[.int .i64 (k:Int)] 3)).grown hgrow4 (fun q e=>(O3.row an _ _ hu hr3 |>.lt q e).1)).setCell (by simp;omega) _,hput⟩
       case measure=>simp [intOf];omega
   ·obtain rfl:k=l.length:=by omega
    have f0:=S.res.cell 0;have f1:=S.res.cell 1;have z0:=S.res.frozen 0;have z1:=S.res.frozen 1
    simp at f0 f1
    have hmk2:Hid (makeRows (sysOf l)=rows):=Lib.hid (by rw [hmk.out,← sysOf_length,List.drop_length];rfl)
    have s2:=S.res.lt
    have HR:=(S.res.set_ 0 (.int .i64 0)).set_ 1 (.int .i64 0)
    have r0:=HR.cell 0;have r1:=HR.cell 1
    simp at r0 r1
    go_wp2_with fail
    refine bodyPost_ret (v:=.tuple #[u5,.agg #[.int .i64 0,.int .i64 0]]) (by simp [results,Tryz.results93,go_sem,r0,r1]) rfl ⟨_,us,by rw [hmv.out],?_,?_⟩
    ·rw [hmv.out,hmk2.out]
     exact ((hown.far (by simp) _).far (by simp) _).lower (by omega)
    ·exact (S.bel.setCell (by simp) _).setCell (by simp) _
open Go.RowKit
open Brood
theorem infoSysP:(Tryz.prog.info? 51).map (fun i=>(i.zero,i.size,i.bytes))=some (some (.agg #[.int .i64 0,.int .i64 0,.int .i64 0,.slice none 0 0]),4,48):=by kernel_rfl
def inAtP (l:List SysIn) (i:Nat):SysIn:=(l[i]?).getD ⟨⟨0,0,0,[]⟩,none,0⟩
theorem inAtP_get {l:List SysIn} {i:Nat} (h:i<l.length):l[i]=inAtP l i:=by unfold inAtP;rw [List.getElem?_eq_getElem h];rfl
theorem inAtP_mem {l:List SysIn} {i:Nat} (h:i<l.length):inAtP l i∈l:=by rw [← inAtP_get h];exact List.getElem_mem h
theorem inAtP_s {l:List SysIn} {i:Nat} (h:i<l.length):(inAtP l i).s=sysAt (sysOf l) i:=by
 unfold inAtP sysAt sysOf
 rw [List.getElem?_map,List.getElem?_eq_getElem h]
 rfl
def pickP (l:List SysIn) (js:List Nat):List SysIn:=js.map (inAtP l)
theorem pickP_sys {l:List SysIn} {js:List Nat} (h:∀ j∈js,j<l.length):sysOf (pickP l js)=js.map (sysAt (sysOf l)):=by
 unfold pickP
 rw [show sysOf (js.map (inAtP l))=(js.map (inAtP l)).map SysIn.s from rfl,List.map_map]
 exact List.map_congr_left fun j hj=>inAtP_s (h j hj)
theorem pickP_snoc (l:List SysIn) (js:List Nat) (j:Nat):pickP l (js++[j])=pickP l js++[inAtP l j]:=by simp [pickP]
theorem pickP_len (l:List SysIn) (js:List Nat):(pickP l js).length=js.length:=by simp [pickP]
theorem rows_leP:∀ (rows:List (List Nat)),(∀ r∈rows,r≠[])→rows.length≤rows.flatten.length
 | [],_=>Nat.le_refl _
 | r::rows,h=>by
  have h1:=rows_leP rows (fun x hx=>h x (by simp [hx]))
  have h2:0<r.length:=List.length_pos_iff.2 (h r (by simp))
  rw [List.flatten_cons,List.length_append,List.length_cons]
  omega
theorem wrongs_none:∀ (l:List BSys) (i:Nat),(∀ s∈l,(sysWrong s).1=0)→wrongsFrom i l=(0,0)
 | [],_,_=>rfl
 | s::l,i,h=>by
  rw [wrongsFrom,if_neg (by simpa using h s (by simp))]
  exact wrongs_none l (i+1) (fun x hx=>h x (List.mem_cons_of_mem _ hx))
theorem make_right {ss:List BSys} (hl:ss.length≤12) (h:∀ s∈ss,(sysWrong s).1=0):makeV ss=(makeRows ss,(0,0)):=by
 have e:batchWrong ss=(0,0):=by
  unfold batchWrong
  rw [if_neg (by omega),wrongs_none ss 0 h]
 simp [makeV,e]
structure RowsOk (n:Nat) (rows:List (List Nat)):Prop where
 lt:∀ j∈rows.flatten,j<n
 len:rows.flatten.length=n
 few:rows.length≤n
theorem make_rows {ss:List BSys}:RowsOk ss.length (makeRows ss):=by
 have hlev:=lev_rows ss
 have h1:(makeRows ss).flatten.length=ss.length:=by have:=hlev.perm.length_eq;rw [List.length_range] at this;exact this
 have h2:=rows_leP (makeRows ss) hlev.ne
 exact ⟨fun j hj=>List.mem_range.1 (hlev.perm.mem_iff.1 hj),h1,by omega⟩
end Go.Proofs.YtefdblaolmckmacGreat
