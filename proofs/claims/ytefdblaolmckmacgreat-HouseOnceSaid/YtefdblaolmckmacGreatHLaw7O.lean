/- Lemmas of the proof. -/
import Derived.Test.YtefdblaolmckmacGreatHBSpecIToSpecL
import Derived.Test.YtefdblaolmckmacGreatHSpecN
import Derived.Test.YtefdblaolmckmacGreatHMapP
set_option linter.unusedVariables false
set_option linter.unusedSimpArgs false
set_option maxRecDepth 100000
set_option maxHeartbeats 12800000
namespace Go.Proofs.YtefdblaolmckmacGreat
open Go.RowKit Go.Maps
open Brood
theorem once_facts (mods:List BMod) (l:List BDo) (h:(playV mods l).f.1=0):(playV mods l).a.length=l.length∧l.length≤80∧(came l (playV mods l).a).Nodup∧∀ p∈came l (playV mods l).a,(0≤p.1∧p.1≤1000)∧(0≤p.2∧p.2≤1000):=by
 obtain ⟨h1,h2,e⟩:=playV_ok h
 rw [e]
 exact ⟨doAll_len _ _,h2,came_once l _ (house0_right h1),came_small l _ (house0_right h1)⟩
theorem small_wf {p:Int×Int} (h:(0≤p.1∧p.1≤1000)∧(0≤p.2∧p.2≤1000)):Wf2 p:=⟨wf_of (by omega) (by omega),wf_of (by omega) (by omega)⟩
theorem doOf_get {l:List DIn} {k:Nat} (h:k<l.length):(doOf l)[k]'(by rw [doOf_length];exact h)=l[k].d:=by simp [doOf]
structure OnceF (l:List DIn) (L:List AnsIn) (k:Nat) (x:DIn) (y:AnsIn):Prop where
 no:¬ (x.d.kind=1∧y.a.err=0)→came ((doOf l).take (k+1)) ((L.map (·.a)).take (k+1))=came ((doOf l).take k) ((L.map (·.a)).take k)
 yes:x.d.kind=1→y.a.err=0→came ((doOf l).take (k+1)) ((L.map (·.a)).take (k+1))=came ((doOf l).take k) ((L.map (·.a)).take k)++[(y.a.i,y.a.g)] ∧
  (came ((doOf l).take k) ((L.map (·.a)).take k)).contains (y.a.i,y.a.g)=false∧Wf2 (y.a.i,y.a.g)
theorem once_at {l:List DIn} {L:List AnsIn} (hn:(came (doOf l) (L.map (·.a))).Nodup) (hs:∀ p∈came (doOf l) (L.map (·.a)),(0≤p.1∧p.1≤1000)∧(0≤p.2∧p.2≤1000)) {k:Nat} (hl:k<l.length) (hL:k<L.length):OnceF l L k l[k] L[k]:=by
 have h1:k<(doOf l).length:=by rw [doOf_length];exact hl
 have h2:k<(L.map (·.a)).length:=by rw [List.length_map];exact hL
 have e1:(doOf l)[k]=l[k].d:=doOf_get hl
 have e2:(L.map (·.a))[k]=L[k].a:=by simp
 have ht:=came_take (doOf l) (L.map (·.a)) k h1 h2
 rw [e1,e2] at ht
 refine ⟨fun h=>?_,fun ha hb=>?_⟩
 ·rw [ht,if_neg h,List.append_nil]
 ·have hw:=came_at h1 h2 (by rw [e1];exact ha) (by rw [e2];exact hb)
  have hc:=came_new hn h1 h2 (by rw [e1];exact ha) (by rw [e2];exact hb)
  rw [e2] at hw hc
  refine ⟨by rw [ht,if_pos ⟨ha,hb⟩],?_,small_wf (hs _ hw)⟩
  cases hh:(came ((doOf l).take k) ((L.map (·.a)).take k)).contains (L[k].a.i,L[k].a.g) with
  | false=>rfl
  | true=>exact absurd (List.contains_iff_mem.1 hh) hc
theorem houseOnce_any (mods:List BMod) (mA:Option Addr) (mc:Nat) (hml:mods.length≤maxLen) (hmn:mA=none→mc=0) (l:List DIn) (dA:Option Addr) (dc:Nat) (hll:l.length≤maxLen) (hln:(∀ x∈l,x.A=none→x.c=0)∧(dA=none→dc=0)) (w:World) (hM:RdM w w.heap.size mA mods) (hD:RdD w w.heap.size dA l) :
  Calls Tryz.prog 8 #[.slice mA mods.length mc,.slice dA l.length dc] w fun e w'=>e=.returned (.bool true)∧Below w.heap.size w w':=by
 have hmm:=@run_makeMap Tryz.prog
 go_enter Tryz.func8,Tryz.ntmps8
 go_wp2_with fail
 refine (alive7_any w).mono ?_
 rintro e w1 ⟨rfl,hb⟩
 have hB:=Lib.hid hb
 clear hb
 have hok:=Lib.hid (once_facts mods (doOf l))
 have hP:=Lib.hid (hplay_any mods mA mc hml hmn l dA dc hll hln.1 w1 (Rd.grow hM hB.out) ((hD.under hB.out (Nat.le_refl _)).more hB.out.size))
 generalize playV mods (doOf l)=P at *
 go_wp2_with fail
 refine hP.out.mono ?_
 rintro e w2 ⟨s,L,A,c,rfl,his,hL,HP⟩
 obtain ⟨ho,ha,f1,f2⟩:=P
 try dsimp only at hL hok ⊢
 have H1:=((Hp.start w).grow hB.out).join HP
 obtain ⟨R,hRe⟩:∃ R,Hp w w2 (pkA A c L::R):=⟨_,H1⟩
 have H2:=(hRe.newL w2.heap.size rfl 30 [.slice s.A s.l.length s.c,.slice s.Ag s.gens.length s.cg,.slice s.Am s.mods.length s.cm,.slice s.As s.sys.length s.cs]).newL (w2.heap.size+1) (by simp) 34 [.int .i64 f1,.int .i64 f2]
 have hH2:=Lib.hid H2;have hLh:=Lib.hid hL
 clear HP H1 hL hP hRe H2 his
 unfold hoVal
 try dsimp only
 go_upto_region 4 with fail
 obtain ⟨w3,hw3,H3⟩:=hH2.out.name
 rw [hw3]
 obtain ⟨g5,hg5⟩:∃ g5,g5=w2.heap.size:=⟨_,rfl⟩
 rw [← hg5] at H3 ⊢
 clear hw3 hg5 hH2
 have ff:=H3.cell 0 0 rfl rfl
 have hH3:=Lib.hid H3
 clear H3
 by_cases hf:f1=0
 case neg=>
  have hf':(f1 != 0)=true:=by simpa using hf
  clear hok hf
  go_wp2_with fail
  go_ret
  exact ⟨rfl,hH3.out.bel⟩
 subst hf
 obtain ⟨k1,k2,k3,k4⟩:=hok.out rfl
 have hLl:L.length=l.length:=by rw [← doOf_length l,← k1,← hLh.out,List.length_map]
 rw [← hLh.out] at k3 k4
 rw [doOf_length] at k2
 have hLlh:=Lib.hid hLl;have k3h:=Lib.hid k3;have k4h:=Lib.hid k4;have k2h:=Lib.hid k2
 have hb0:Below w3.heap.size w3 (w3.alloc (.map #[] 0)):=(Below.refl _ _).alloc (Nat.le_refl _) _
 have hM0:=MapP.made w3
 have hbh:=Lib.hid hb0;have hMh:=Lib.hid hM0
 clear hok k1 k2 k3 k4 hLl hLh hb0 hM0
 go_wp2_with fail
 go_loopw [26] (fun i wr=>∃ k:Nat,k≤l.length∧i=.int .i64 k∧Below w3.heap.size w3 wr∧MapP wr w3.heap.size (came ((doOf l).take k) ((L.map (·.a)).take k))) (fun i _=>l.length-(intOf i).toNat)
 case atStart=>exact ⟨0,by omega,rfl,hbh.out,hMh.out⟩
 case round=>
  clear hbh hMh ff
  obtain ⟨k,hk,rfl,hbel,hM2⟩:=hrel
  by_cases hlt:k<l.length
  ·have hltL:k<L.length:=by rw [hLlh.out];exact hlt
   have hBw:=hH3.out.grow hbel
   have hRd:RdD wr w.heap.size dA l:=hD.under hBw.bel (Nat.le_refl _)
   obtain ⟨db,off,rfl,hdb,p0,p1,p2,p3,p4,p5,p6,p7,p8,p9,p10,p11⟩:=hRd.at_ hlt
   obtain ⟨b,ao,rfl,hab,j0,j1,j2,j3,j4⟩:=pkA_at hBw 2 rfl hltL
   clear j3 j4
   have hF:=Lib.hid (once_at k3h.out k4h.out hlt hltL)
   have hck:Hid ((came ((doOf l).take k) ((L.map (·.a)).take k)).length≤80):=Lib.hid (by
    have h1:=(came_pre (doOf l) (L.map (·.a)) k).length_le
    have h2:=came_len (doOf l) (L.map (·.a))
    rw [doOf_length] at h2
    have:=k2h.out
    omega)
   generalize l[k]=x at *
   generalize L[k]=y at *
   have k80:=k2h.out
   have i0:(0:Int)≤(k:Int):=by omega
   have i1:(k:Int)<(l.length:Int):=by omega
   have i2:(k:Int)<(L.length:Int):=by omega
   have hdb':db<wr.heap.size:=by have:=hBw.bel.size;omega
   have o2:Obj:=.cells #[.int .i64 x.d.kind,.int .i64 x.d.has,.int .i64 x.d.part,.int .i64 x.d.n,.int .i64 x.d.i,.int .i64 x.d.g,.int .i64 x.d.sys.mod,.int .i64 x.d.sys.all,.int .i64 x.d.sys.non,.slice x.A x.d.sys.acts.length x.c,.int .i64 x.d.fa,.int .i64 x.d.fn] 58
   have hal:Below wr.heap.size wr (wr.alloc (.cells #[.int .i64 x.d.kind,.int .i64 x.d.has,.int .i64 x.d.part,.int .i64 x.d.n,.int .i64 x.d.i,.int .i64 x.d.g,.int .i64 x.d.sys.mod,.int .i64 x.d.sys.all,.int .i64 x.d.sys.non,.slice x.A x.d.sys.acts.length x.c,.int .i64 x.d.fa,.int .i64 x.d.fn] 58)):=(Below.refl _ _).alloc (Nat.le_refl _) _
   have hBk:=Blk.new wr 58 #[.int .i64 x.d.kind,.int .i64 x.d.has,.int .i64 x.d.part,.int .i64 x.d.n,.int .i64 x.d.i,.int .i64 x.d.g,.int .i64 x.d.sys.mod,.int .i64 x.d.sys.all,.int .i64 x.d.sys.non,.slice x.A x.d.sys.acts.length x.c,.int .i64 x.d.fa,.int .i64 x.d.fn]
   have hM3:=Lib.hid (hM2.below hal)
   have hbel3:=Lib.hid (hbel.trans (hal.mono hbel.size))
   have q0:=(hal.cell (p:=⟨b,ao+k*5,none⟩) hab).trans j0
   have q1:=(hal.cell (p:=⟨b,ao+k*5+1,none⟩) hab).trans j1
   have q2:=(hal.cell (p:=⟨b,ao+k*5+2,none⟩) hab).trans j2
   have hBkh:=Lib.hid hBk
   clear hRd hBw hbel hM2 hal j0 j1 j2 hab hBk o2 hlt hltL
   go_upto_region 10 with fail
   obtain ⟨w4,hw4⟩:∃ w4:World,w4=wr.alloc (.cells #[.int .i64 x.d.kind,.int .i64 x.d.has,.int .i64 x.d.part,.int .i64 x.d.n,.int .i64 x.d.i,.int .i64 x.d.g,.int .i64 x.d.sys.mod,.int .i64 x.d.sys.all,.int .i64 x.d.sys.non,.slice x.A x.d.sys.acts.length x.c,.int .i64 x.d.fa,.int .i64 x.d.fn] 58):=⟨_,rfl⟩
   rw [← hw4] at hM3 hbel3 q0 q1 q2 hBkh ⊢
   have m0:=hBkh.out.cell 0
   simp at m0
   clear hw4 hBkh p0 p1 p2 p3 p4 p5 p6 p7 p8 p9 p10 p11 hdb hdb'
   by_cases hc:x.d.kind=1
   ·by_cases he:y.a.err=0
    ·obtain ⟨t1,t2,t3⟩:=hF.out.yes hc he
     have hlk:=hM3.out.look t3
     rw [t2] at hlk
     dsimp only at hlk
     have hc':(x.d.kind != 1)=false:=by simpa using hc
     have he':(y.a.err != 0)=false:=by simpa using he
     have t1h:=Lib.hid t1;have t3h:=Lib.hid t3
     obtain ⟨D,n1,n2,n3⟩:=hM3.out
     have n1h:=Lib.hid n1;have n2h:=Lib.hid n2;have n3h:=Lib.hid n3
     have hmx:(came ((doOf l).take k) ((L.map (·.a)).take k)).length<maxLen:=by have:=hck.out;unfold maxLen;omega
     clear n1 n2 n3 t1 t2 t3 hF hc he
     go_wp2_with (at_mapUpdate;refine wpList_mapUpdate_own _ rfl _ _ _ 72 rfl 41 4 keyBe Tryz.underlying72 _ w3.heap.size _ D rfl n1h.out hmx _ _ (beKey (y.a.i,y.a.g)) rfl rfl (keyOf_be t3h.out) (.lit (.bool true)) [] (plainElem_bool Tryz.underlying4 true) ?_;intro w5 hown5 hgrow5)
     have hM5:MapP w5 w3.heap.size (came ((doOf l).take (k+1)) ((L.map (·.a)).take (k+1))):=by
      rw [t1h.out]
      exact MapP.put t3h.out n1h.out n2h.out n3h.out hown5
     refine ⟨⟨k+1,by omega,?hn,hbel3.out.grown hgrow5 hbel3.out.size (fun k e=>by cases e;omega),hM5⟩,?hm⟩
     case hn=>go_num
     case hm=>simp [intOf];omega
    ·have he':(y.a.err != 0)=true:=by simpa using he
     have hc':(x.d.kind != 1)=false:=by simpa using hc
     have e1:=Lib.hid (hF.out.no (fun h=>he h.2))
     clear hF hc he
     go_wp2_with fail
     go_roundw
     case rel=>exact ⟨k+1,by omega,by go_num,hbel3.out,by rw [e1.out];exact hM3.out⟩
     case measure=>simp [intOf];omega
   ·have hc':(x.d.kind != 1)=true:=by simpa using hc
    have e1:=Lib.hid (hF.out.no (fun h=>hc h.1))
    clear hF hc
    go_wp2_with fail
    go_roundw
    case rel=>exact ⟨k+1,by omega,by go_num,hbel3.out,by rw [e1.out];exact hM3.out⟩
    case measure=>simp [intOf];omega
  ·obtain rfl:k=l.length:=by omega
   have hB9:=Lib.hid (hH3.out.grow hbel).bel
   clear hbel hM2
   go_wp2_with fail
   go_ret
   exact ⟨rfl,hB9.out⟩
end Go.Proofs.YtefdblaolmckmacGreat
