/- Lemmas of the proof. -/
import Derived.Lib.AppendZeros
import Derived.Laws.AppendOwnNone
import Derived.Test.YtefdblaolmckmacGreatMBPlainAToHp
import Derived.Test.YtefdblaolmckmacGreatMBSpecDToHouU
import Derived.Test.YtefdblaolmckmacGreatMBBatMToPick
import Derived.Test.YtefdblaolmckmacGreatMBSpecZAToRef3S
set_option linter.unusedVariables false
set_option linter.unusedSimpArgs false
set_option maxRecDepth 100000
set_option maxHeartbeats 12800000
namespace Go.Proofs.YtefdblaolmckmacGreat
open Go.RowKit
structure RdLL (w:World) (B:Nat) (A:Option Addr) (us:List Value) (rows:List (List Int)):Prop where
 len:us.length=rows.length
 out:Rd w B 1 A rows.length us
 row:∀ (k:Nat) (u:Value) (r:List Int),us[k]?=some u→rows[k]?=some r→∃ A' c',u=.slice A' r.length c'∧(A'=none→c'=0)∧r.length≤c'∧Rd w B 1 A' r.length (ints r)
section
variable {w w':World} {B:Nat} {A:Option Addr} {us:List Value} {rows:List (List Int)}
theorem RdLL.under (h:RdLL w B A us rows) {C:Nat} (hb:Below C w w') (hC:B≤C):RdLL w' B A us rows:=
 ⟨h.len,h.out.under hb hC,fun k u r h1 h2=>by obtain ⟨A',c',e,h3,h3',h4⟩:=h.row k u r h1 h2;exact ⟨A',c',e,h3,h3',h4.under hb hC⟩⟩
theorem RdLL.of_own {base:Nat} {c:Nat} (h:OwnLL w base (.slice A rows.length c) us rows):RdLL w w.heap.size A us rows:=by
 refine ⟨h.len,?_,?_⟩
 ·have:=h.out
  rw [h.len] at this
  exact Rd.of_own this
 ·intro k u r h1 h2
  have h3:=h.row k u r h1 h2
  obtain ⟨A',c',rfl,h4,_⟩:=own_shape h3
  refine ⟨A',c',rfl,fun hn=>?_,h4,Rd.of_own h3⟩
  subst hn
  rcases h3.2 with ⟨e,_⟩ | ⟨g,cap,cur,e,_⟩
  ·injection e
  ·cases e
theorem RdLL.at_ (h:RdLL w B A us rows) {k:Nat} (hk:k<rows.length) :
  ∃ b off A' c',A=some ⟨b,off,none⟩∧b<B∧w.cell? ⟨b,off+k,none⟩=some (.slice A' rows[k].length c')∧(A'=none→c'=0)∧rows[k].length≤c'∧Rd w B 1 A' rows[k].length (ints rows[k]):=by
 obtain ⟨b,off,e,hb,hc⟩:=h.out.2 (by omega)
 have hku:k<us.length:=by rw [h.len];exact hk
 obtain ⟨A',c',hu,h0,h1,h2⟩:=h.row k us[k] rows[k] (List.getElem?_eq_getElem hku) (List.getElem?_eq_getElem hk)
 exact ⟨b,off,A',c',e,hb,by rw [hc k us[k] (List.getElem?_eq_getElem hku),hu],h0,h1,h2⟩
end
theorem grow_any (n:Nat) (hn:n≤1000) (w:World) :
  Calls Tryz.prog 147 #[.slice none 0 0,.int .i64 (n:Int)] w fun e w'=>∃ v,e=.returned v∧w'.ownsRow w.heap.size 3 1 v 0 []∧Below w.heap.size w w':=by
 obtain ⟨i0,hi,hz0,hz1,hz2⟩:=info_parts infoInt
 by_cases h0:n=0
 ·subst h0
  go_enter Tryz.func147,Tryz.ntmps147
  go_wp2_with fail
  go_ret
  exact ⟨_,rfl,own_nil _ _ _ _,Below.refl _ _⟩
 ·have hn0:0<n:=by omega
  have hb48:n*i0.bytes≤281474976710656:=by rw [hz2];omega
  have hsz:0<i0.size:=by rw [hz1];decide
  have h63:(n:Int)≤9223372036854775807:=by omega
  have hcg:=grownCap_ge w n 0 3
  have hcm:=grownCap_le_maxLen w n 0 3 (by unfold maxLen;omega)
  go_enter Tryz.func147,Tryz.ntmps147
  go_wp2_with (at_builtin;refine Lib.wpList_append_run _ rfl _ _ 25 3 rfl (.slice none 0 0) (.int .i64 (n:Int)) rfl rfl _ _ (Lib.run_append_nil_zeros _ 25 3 _ 3 i0 (.int .i64 0) .i64 .i64 Tryz.underlying25 Tryz.underlying3 hi hz0 n hn0 hsz h63 hb48) ?_)
  go_ret
  exact ⟨_,rfl,World.ownsRow_made (base:=w.heap.size) (e:=3) (size:=1) w _ (grownCap w n 0 3) (Nat.le_refl _) hcm (by rw [Array.size_append,size_zeroCells,size_zeroCells];simp [Value.cells];omega),((Below.refl _ _).alloc (Nat.le_refl _) _).drew⟩
def flatN (rows:List (List Int)) (k:Nat):Nat:=(rows.take k).flatten.length
theorem take_flat {rows:List (List Int)} {k:Nat} (hk:k<rows.length):(rows.take (k+1)).flatten=(rows.take k).flatten++rows[k]:=by
 rw [List.take_add_one,List.getElem?_eq_getElem hk,List.flatten_append]
 simp only [Option.toList_some,List.flatten_cons,List.flatten_nil,List.append_nil]
theorem flatN_succ {rows:List (List Int)} {k:Nat} (hk:k<rows.length):flatN rows (k+1)=flatN rows k+rows[k].length:=by
 rw [flatN,take_flat hk,List.length_append,flatN]
theorem flatN_le (rows:List (List Int)) (k:Nat):flatN rows k≤rows.flatten.length:=by
 have h:=congrArg (fun l=>l.flatten.length) (List.take_append_drop k rows)
 rw [List.flatten_append,List.length_append] at h
 unfold flatN;omega
theorem flatN_all (rows:List (List Int)):flatN rows rows.length=rows.flatten.length:=by rw [flatN,List.take_length]
theorem ints_append (a b:List Int):ints (a++b)=ints a++ints b:=by simp [ints]
theorem concat_any (A:Option Addr) (c:Nat) (us:List Value) (rows:List (List Int)) (hlen:rows.length≤1000) (htot:rows.flatten.length≤1000) (w:World) (hA:RdLL w w.heap.size A us rows) :
  Calls Tryz.prog 128 #[.slice A rows.length c] w fun e w'=>∃ v,e=.returned v∧w'.ownsRow w.heap.size 3 1 v rows.flatten.length (ints rows.flatten)∧Below w.heap.size w w':=by
 obtain ⟨i0',hi0,hz0a,hz0b,hz0c⟩:=info_parts infoInt
 go_enter Tryz.func128,Tryz.ntmps128
 go_wp2_with fail
 go_loopw [3,11] (fun t i wr=>∃ k:Nat,k≤rows.length∧i=.int .i64 k∧t=.int .i64 (flatN rows k:Nat)∧wr=w) (fun _ i _=>rows.length-(intOf i).toNat)
 case atStart=>exact ⟨0,by omega,rfl,rfl,rfl⟩
 case round=>
  obtain ⟨k,hk,rfl,rfl,rfl⟩:=hrel
  by_cases hlt:k<rows.length
  ·obtain ⟨b,off,A',c',rfl,hb,hc,hcn,hc',hr⟩:=hA.at_ hlt
   have htf:=flatN_succ hlt
   have hle1:=flatN_le rows (k+1)
   generalize hrk:rows[k].length=m at *
   have i0:(0:Int)≤(k:Int):=by omega
   have i1:(k:Int)<(rows.length:Int):=by omega
   go_wp2_with fail
   go_roundw
   case rel=>exact ⟨k+1,by omega,by go_num,by rw [htf];go_num,trivial⟩
   case measure=>simp [intOf];omega
  ·obtain rfl:k=rows.length:=by omega
   have hN:=flatN_all rows
   have hN2:flatN rows rows.length≤1000:=by rw [hN];exact htot
   generalize flatN rows rows.length=N at hN2 hN ⊢
   have hNh:=Lib.hid hN
   clear hN
   go_wp2_with fail
   refine (grow_any N hN2 wr).mono ?_
   rintro e w1 ⟨v,rfl,hown,hb1⟩
   have hA1:=hA.under hb1 (Nat.le_refl _)
   have hB0:wr.heap.size≤w1.heap.size:=hb1.size
   obtain ⟨wz,rfl⟩:∃ wz:World,wz=wr:=⟨_,rfl⟩
   go_wp2_with fail
   go_loopw [6,27] (fun v i wr=>∃ k:Nat,k≤rows.length∧i=.int .i64 k∧wr.ownsRow wz.heap.size 3 1 v (flatN rows k) (ints (rows.take k).flatten)∧Below wz.heap.size wz wr) (fun _ i _=>rows.length-(intOf i).toNat)
   case atStart=>exact ⟨0,by omega,rfl,by simpa [flatN,ints] using hown,hb1⟩
   case round=>
    clear hown hb1 hA1 hB0
    obtain ⟨k,hk,rfl,hown,hbel⟩:=hrel
    by_cases hlt:k<rows.length
    ·have hA2:=hA.under hbel (Nat.le_refl _)
     obtain ⟨b,off,A',c',rfl,hb,hc,hcn,hc',hr⟩:=hA2.at_ hlt
     have htf:=flatN_succ hlt
     have hle1:=flatN_le rows (k+1)
     have hti:=take_flat hlt
     have hsz:=hbel.size
     have i0:(0:Int)≤(k:Int):=by omega
     have i1:(k:Int)<(rows.length:Int):=by omega
     by_cases h0:0<rows[k].length
     ·obtain ⟨b2,off2,rfl,hb2,hc2⟩:=hr.2 h0
      generalize hrk:rows[k]=r at *
      go_wp2_with (at_builtin;refine wpList_append_own _ rfl _ _ 25 rfl wz.heap.size 3 i0' (.int .i64 0) 1 8 Tryz.underlying25 hi0 hz0a hz0b hz0c rfl (by decide) _ _ _ rfl hown ⟨b2,off2,none⟩ r.length c' (ints r) rfl ?c0 ?c1 ?c2 ?c3 ?c4 ?c5 ?_;rotate_left 6;intro v' w1 hown' hgrow _)
      case c0=>simp [ints]
      case c1=>intro j u hu;rw [add_mk];exact hc2 j u hu
      case c2=>exact ints_one _
      case c3=>unfold maxLen;omega
      case c4=>omega
      case c5=>exact hsz
      go_roundw
      case rel=>exact ⟨k+1,by omega,by go_num,by rw [htf,hti,ints_append];exact hown',hbel.grown hgrow hsz (own_block hown)⟩
      case measure=>simp [intOf];omega
     ·have hr0:rows[k]=[]:=List.eq_nil_of_length_eq_zero (by omega)
      rw [hr0] at hc hc' htf hti
      rw [List.append_nil] at hti
      cases A' with
      | none=>
       obtain rfl:=hcn rfl
       go_wp2_with (at_builtin;refine wpList_append_own_none rfl _ _ 25 rfl wz.heap.size 3 i0' 1 Tryz.underlying25 hi0 _ _ _ rfl hown rfl ?_)
       go_roundw
       case rel=>exact ⟨k+1,by omega,by go_num,by rw [htf,hti];exact hown,hbel⟩
       case measure=>simp [intOf];omega
      | some ad=>
       go_wp2_with (at_builtin;refine wpList_append_own _ rfl _ _ 25 rfl wz.heap.size 3 i0' (.int .i64 0) 1 8 Tryz.underlying25 hi0 hz0a hz0b hz0c rfl (by decide) _ _ _ rfl hown ad 0 c' [] rfl ?c0 ?c1 ?c2 ?c3 ?c4 ?c5 ?_;rotate_left 6;intro v' w1 hown' hgrow _)
       case c0=>rfl
       case c1=>intro j u hu;simp at hu
       case c2=>intro u hu;simp at hu
       case c3=>unfold maxLen;omega
       case c4=>omega
       case c5=>exact hsz
       go_roundw
       case rel=>exact ⟨k+1,by omega,by go_num,by rw [htf,hti];rw [List.append_nil] at hown';exact hown',hbel.grown hgrow hsz (own_block hown)⟩
       case measure=>simp [intOf];omega
    ·obtain rfl:k=rows.length:=by omega
     rw [flatN_all,List.take_length] at hown
     go_wp2_with fail
     go_ret
     exact ⟨_,rfl,hown,hbel⟩
theorem order_any (A:Option Addr) (c:Nat) (us:List Value) (rows:List (List Int)) (hlen:rows.length≤1000) (htot:rows.flatten.length≤1000) (w:World) (hA:RdLL w w.heap.size A us rows) :
  Calls Tryz.prog 94 #[.slice A rows.length c] w fun e w'=>∃ v,e=.returned v∧w'.ownsRow w.heap.size 3 1 v rows.flatten.length (ints rows.flatten)∧Below w.heap.size w w':=by
 go_enter Tryz.func94,Tryz.ntmps94
 go_wp2_with fail
 refine (concat_any A c us rows hlen htot w hA).mono ?_
 rintro e w1 ⟨v,rfl,hown,hb⟩
 go_wp2_with fail
 go_ret
 exact ⟨_,rfl,hown,hb⟩
open Go.RowKit
open Brood
theorem rowsI_flat (rows:List (List Nat)):(rowsI rows).flatten=natsI rows.flatten:=by
 unfold rowsI natsI
 rw [List.map_flatten]
def pkE (A:Option Addr) (c:Nat) (L:List SysIn):Ent:=.own (.slice A L.length c) 51 4 L.length (L.flatMap sysCells)
theorem htick_any (mods0:List BMod) (bh:Nat) (s:HIn) (h:BHouse) (his:HIs s h) (hr:HouseR mods0 h) (w0 w:World) (E:List Ent) (H:Hp w0 w (hoE bh s++E)) :
  Calls Tryz.prog 61 #[.pointer (some ⟨bh,0,none⟩)] w fun e w'=>∃ s',e=.returned (ansVal (tickV h).2.err 0 0 none 0 0 (tickV h).2.n)∧HIs s' (tickV h).1∧Hp w0 w' (hoE bh s'++E):=by
 have hrw:=Lib.hid hr.W
 have hlen:s.sys.length≤12:=by have:=hr.len;rw [← his.sys,sysOf_length] at this;exact this
 have hmk:=make_right (ss:=sysOf s.sys) (by rw [sysOf_length];exact hlen) (fun x hx=>(hr.sys x (by rw [← his.sys];exact hx)).1)
 have hro:=make_rows (ss:=sysOf s.sys)
 rw [sysOf_length] at hro
 have hV:Hid (tickV h=if (allM 0 h.W ((makeRows (sysOf s.sys)).flatten.map (sysAt (sysOf s.sys)))).2.1≠0 then (h,ansE (allM 0 h.W ((makeRows (sysOf s.sys)).flatten.map (sysAt (sysOf s.sys)))).2.1)
  else ({ h with W:=(allM 0 h.W ((makeRows (sysOf s.sys)).flatten.map (sysAt (sysOf s.sys)))).1 },ansN ((makeRows (sysOf s.sys)).length:Nat))):=Lib.hid (by rw [his.sys];rfl)
 generalize tickV h=V at *
 have H0:=H.newL w.heap.size rfl 44 [.int .i64 0,.int .i64 0,.int .i64 0,.slice none 0 0,.int .i64 0]
 have hH0:=Lib.hid H0
 clear H H0
 go_enter Tryz.func61,Tryz.ntmps61
 go_upto_region 1 with fail
 obtain ⟨w1,hw1,H0⟩:=hH0.out.name
 rw [hw1]
 obtain ⟨ga,hga⟩:∃ ga,ga=w.heap.size:=⟨_,rfl⟩
 rw [← hga] at H0 ⊢
 clear hw1 hH0 hga
 have b3:=H0.cell 1 3 rfl rfl
 have hmake:=Lib.hid (make_any s.sys s.As s.cs w1 (H0.hoSys (hb:=bh) (s:=s) (fun p hp=>by simp [hp])))
 rw [hmk] at hmake
 generalize makeRows (sysOf s.sys)=rows at *
 have hH0:=Lib.hid H0
 clear H0 hmk
 go_wp2_with fail
 refine hmake.out.mono ?_
 rintro e w2 ⟨v,us,rfl,hO,hb2⟩
 obtain ⟨VA,vc,rfl,_,_⟩:=hO.shape
 rw [rowsI_length] at hO ⊢
 have H1:=(hH0.out.grow hb2).newL w2.heap.size rfl 34 [.int .i64 0,.int .i64 0]
 have hO1:=Lib.hid (hO.alloc (.cells #[.int .i64 0,.int .i64 0] 34))
 have hH1:=Lib.hid H1
 clear H1 hH0 hmake hO b3 hb2
 dsimp only
 go_upto_region 3 with fail
 obtain ⟨w3,hw3,H1⟩:=hH1.out.name
 rw [hw3] at hO1 ⊢
 obtain ⟨gf,hgf⟩:∃ gf,gf=w2.heap.size:=⟨_,rfl⟩
 rw [← hgf] at H1 ⊢
 clear hw3 hH1 hgf
 have hord:=Lib.hid (order_any VA vc us (rowsI rows) (by rw [rowsI_length];have:=hro.few;omega) (by rw [rowsI_flat,natsI_length,hro.len];omega) w3 (RdLL.of_own (c:=vc) (by rw [rowsI_length];exact hO1.out)))
 rw [rowsI_length,rowsI_flat,natsI_length] at hord
 have hH1:=Lib.hid H1
 clear H1
 go_wp2_with fail
 refine hord.out.mono ?_
 rintro e w4 ⟨v,rfl,hown,hb4⟩
 obtain ⟨oA,oc,rfl,_,_⟩:=own_shape hown
 have H2:=((hH1.out.got hb4 hown).perm List.perm_append_comm).nil_ 51 4
 replace H2:=H2.perm List.perm_append_comm
 replace H2:Hp w0 w4 (pkE none 0 (pickP s.sys [])::.own (.slice oA rows.flatten.length oc) 3 1 rows.flatten.length (ints (natsI rows.flatten))::.box gf 34 [.int .i64 0,.int .i64 0]::.box ga 44 [.int .i64 0,.int .i64 0,.int .i64 0,.slice none 0 0,.int .i64 0]::(hoE bh s++E)):=H2
 have hH2:=Lib.hid H2
 have hfl:=hro.len
 have hlt0:=Lib.hid hro.lt
 have hfew:=Lib.hid hro.few
 clear H2 hown hb4 hord hH1 hro hO1
 generalize hflat:rows.flatten=fl at *
 have hflath:=Lib.hid hflat
 clear hflat
 go_wp2_with fail
 go_loopw [5,22] (fun s5 s22 wr=>∃ (k:Nat) (A3:Option Addr) (c3:Nat),k≤fl.length∧s22=.int .i64 k∧s5=.slice A3 (pickP s.sys (fl.take k)).length c3 ∧
  Hp w0 wr (pkE A3 c3 (pickP s.sys (fl.take k))::.own (.slice oA fl.length oc) 3 1 fl.length (ints (natsI fl))::.box gf 34 [.int .i64 0,.int .i64 0]::.box ga 44 [.int .i64 0,.int .i64 0,.int .i64 0,.slice none 0 0,.int .i64 0]::(hoE bh s++E))) (fun _ q _=>fl.length-(intOf q).toNat)
 case atStart=>exact ⟨0,none,0,by omega,rfl,rfl,hH2.out⟩
 case round=>
  clear hH2
  obtain ⟨k,A3,c3,hk,rfl,rfl,H⟩:=hrel
  by_cases hlt:k<fl.length
  ·have hRo:RdI wr oA (natsI fl):=by
    have:=H.rd 1 rfl
    unfold RdI
    rw [natsI_length]
    exact this
   obtain ⟨b2,off2,rfl,hb2,hce⟩:=hRo.at_ (k:=k) (by rw [natsI_length];exact hlt)
   rw [natsI_get hlt] at hce
   have htk:=Lib.hid (List.take_append_getElem hlt)
   have hil:=hlt0.out fl[k] (List.getElem_mem hlt)
   have hRs:=H.hoSys (hb:=bh) (s:=s) (fun p hp=>by simp [hp])
   have g3:=H.cell 4 3 rfl rfl
   generalize fl[k]=i at *
   obtain ⟨b3,off3,eAs,hb3,d0,d1,d2,d3⟩:=hRs.at_ hil
   rw [inAtP_get hil] at d0 d1 d2 d3
   rw [eAs] at g3
   have hxe:=Lib.hid (show inAtP s.sys i=inAtP s.sys i from rfl)
   generalize hX:inAtP s.sys i=X at *
   have hXh:=Lib.hid hX
   obtain ⟨x,xA,xc⟩:=X
   dsimp only at d0 d1 d2 d3
   have hpl:(pickP s.sys (fl.take k)).length≤12:=by rw [pickP_len,List.length_take];omega
   have i0:(0:Int)≤(k:Int):=by omega
   have i1:(k:Int)<(fl.length:Int):=by omega
   have n0:(0:Int)≤(i:Int):=by omega
   have n1:(i:Int)<(s.sys.length:Int):=by omega
   obtain ⟨i0',hi0,hz0a,hz0b,hz0c⟩:=info_parts infoSysP
   have HN:=H.newL wr.heap.size rfl 51 [.int .i64 x.mod,.int .i64 x.all,.int .i64 x.non,.slice xA x.acts.length xc]
   have hHN:=Lib.hid HN
   have hown:=HN.owns 1 rfl
   clear H hRo hRs hX eAs HN
   go_wp2_with (at_builtin;refine wpList_append_own_at _ rfl _ _ 28 rfl w0.heap.size 51 i0' (.agg #[.int .i64 0,.int .i64 0,.int .i64 0,.slice none 0 0]) 4 48 Tryz.underlying28 hi0 hz0a hz0b hz0c rfl (by decide) _ _ _ rfl hown ⟨wr.heap.size,0,none⟩ 1 1 [.int .i64 x.mod,.int .i64 x.all,.int .i64 x.non,.slice xA x.acts.length xc] rfl rfl ?c1 ?c2 ?c3 ?c4 ?c5 ?_;rotate_left 5;intro v' w7 hown7 hgrow7 _ hat7;have H8:=hHN.out.app 1 rfl hgrow7 hown7 (hat7.imp id (fun e g hg=>by rw [e] at hg;injection hg with hg;omega));obtain ⟨A4,c4,rfl,hs1,hs2⟩:=own_shape hown7)
   case c2=>simp [Value.oneCell']
   case c3=>unfold maxLen;omega
   case c4=>omega
   case c5=>simpa using hHN.out.bel.size
   go_roundw
   case rel=>
    have e:pickP s.sys (fl.take (k+1))=pickP s.sys (fl.take k)++[⟨x,xA,xc⟩]:=by rw [← htk.out,pickP_snoc,hXh.out]
    refine ⟨k+1,A4,c4,by omega,by go_num,?_,?_⟩
    ·rw [e];simp
    ·rw [e]
     unfold pkE
     rw [show (pickP s.sys (fl.take k)++[(⟨x,xA,xc⟩:SysIn)]).length=(pickP s.sys (fl.take k)).length+1 by simp,List.flatMap_append,show [(⟨x,xA,xc⟩:SysIn)].flatMap sysCells=[.int .i64 x.mod,.int .i64 x.all,.int .i64 x.non,.slice xA x.acts.length xc] from by simp [sysCells]]
     exact H8.drop1 0
   case measure=>simp [intOf];omega
  ·obtain rfl:k=fl.length:=by omega
   rw [List.take_length] at H ⊢
   have hsm:=right_small (l:=s.l) (gens:=s.gens) (by rw [his.gens];exact hrw.out) his.tabs
   have hSt:=H.hoSt (hb:=bh) (s:=s) (fun p hp=>by simp [hp])
   have hRs:=H.hoSys (hb:=bh) (s:=s) (fun p hp=>by simp [hp])
   have hLS:RdS wr wr.heap.size A3 (pickP s.sys fl):=⟨Rd.of_own (H.owns 0 rfl),fun x hx=>by
    obtain ⟨j,hj,rfl⟩:=List.mem_map.1 hx
    exact hRs.acts _ (inAtP_mem (hlt0.out j hj))⟩
   have hpl:(pickP s.sys fl).length≤12:=by rw [pickP_len];omega
   have hall:=Lib.hid (sall_any s.l s.A s.c s.gens s.Ag s.cg hsm (pickP s.sys fl) A3 c3 (by omega) wr hLS hSt)
   have e:allT (s.l.map tabOf) s.gens (sysOf (pickP s.sys fl))=⟨tabsW (allM 0 h.W (fl.map (sysAt (sysOf s.sys)))).1.rows,(allM 0 h.W (fl.map (sysAt (sysOf s.sys)))).1.gens,(allM 0 h.W (fl.map (sysAt (sysOf s.sys)))).2.1,(allM 0 h.W (fl.map (sysAt (sysOf s.sys)))).2.2⟩:=by
    rw [his.tabs,his.gens,allT_right hrw.out,pickP_sys hlt0.out]
   rw [e] at hall
   clear e hsm hSt hRs hLS
   generalize allM 0 h.W (fl.map (sysAt (sysOf s.sys)))=Q at *
   obtain ⟨⟨qr,qg⟩,qe,qa⟩:=Q
   dsimp only at hV hall
   have g0:=H.cell 4 0 rfl rfl;have g1:=H.cell 4 1 rfl rfl
   have hH:=Lib.hid H
   clear H
   go_wp2_with fail
   refine hall.out.mono ?_
   rintro e w8 ⟨v,rfl,hG⟩
   obtain ⟨A',c',l',Ag',cg',rfl,hl',hN⟩:=hG
   have hl'h:=Lib.hid hl'
   have H6:=hH.out.join hN
   have H7:=(H6.newL w8.heap.size rfl 27 [.slice A' l'.length c',.slice Ag' qg.length cg']).newL (w8.heap.size+1) (by simp) 34 [.int .i64 qe,.int .i64 qa]
   have hH7:=Lib.hid H7
   clear H6 H7 hN hl' hH hall g0 g1
   dsimp only
   go_upto_region 9 with fail
   obtain ⟨w9,hw9,H9⟩:=hH7.out.name
   rw [hw9]
   obtain ⟨gs,hgs⟩:∃ gs,gs=w8.heap.size:=⟨_,rfl⟩
   rw [← hgs] at H9 ⊢
   clear hw9 hgs hH7
   replace H9:Hp w0 w9 (.box (gs+1) 34 [.int .i64 qe,.int .i64 qa]::.box gs 27 [.slice A' l'.length c',.slice Ag' qg.length cg']::pkE A3 c3 (pickP s.sys fl)::.own (.slice oA fl.length oc) 3 1 fl.length (ints (natsI fl))::.box gf 34 [.int .i64 0,.int .i64 0]::.box ga 44 [.int .i64 0,.int .i64 0,.int .i64 0,.slice none 0 0,.int .i64 0] ::
    .box bh 81 [.slice s.A s.l.length s.c,.slice s.Ag s.gens.length s.cg,.slice s.Am s.mods.length s.cm,.slice s.As s.sys.length s.cs]::sysE s::modE s::(((stE s.A s.c s.l s.Ag s.cg s.gens++s.sys.map actE)++E)++stE A' c' l' Ag' cg' qg)):=H9
   have ff:=H9.cell 0 0 rfl rfl
   by_cases hq:qe=0
   case neg=>
    have hq':(qe != 0)=true:=by simpa using hq
    have hE:Hid (V=(h,ansE qe)):=Lib.hid (by rw [hV.out,if_pos hq])
    clear hq hV
    have z0:=H9.frozen 5 0 rfl;have z1:=H9.frozen 5 1 rfl;have z2:=H9.frozen 5 2 rfl;have z3:=H9.frozen 5 3 rfl;have z4:=H9.frozen 5 4 rfl
    have d0:=H9.cell 5 0 rfl rfl;have d1:=H9.cell 5 1 rfl rfl;have d2:=H9.cell 5 2 rfl rfl;have d3:=H9.cell 5 3 rfl rfl;have d4:=H9.cell 5 4 rfl rfl
    have HA:=((((H9.set 5 0 (.int .i64 qe) rfl).set 5 1 (.int .i64 0) rfl).set 5 2 (.int .i64 0) rfl).set 5 3 (.slice none 0 0) rfl).set 5 4 (.int .i64 0) rfl
    have r0:=HA.cell 5 0 rfl rfl;have r1:=HA.cell 5 1 rfl rfl;have r2:=HA.cell 5 2 rfl rfl;have r3:=HA.cell 5 3 rfl rfl;have r4:=HA.cell 5 4 rfl rfl
    have hHA:=Lib.hid HA
    clear H9 HA
    go_wp2_with fail
    refine bodyPost_ret (v:=ansVal qe 0 0 none 0 0 0) (by simp [results,Tryz.results61,go_sem,r0,r1,r2,r3,r4,ansVal]) rfl ⟨s,by rw [hE.out];rfl,by rw [hE.out];exact his,?_⟩
    have HB:Hp w0 _ ((hoE bh s++E)++stE A' c' l' Ag' cg' qg):=(((((hHA.out.drop1 0).drop1 0).drop1 0).drop1 0).drop1 0).drop1 0
    exact HB.sub (List.sublist_append_left _ _)
   subst hq
   have hE:Hid (V=({ h with W:=⟨qr,qg⟩ },ansN ((rows.length:Nat):Int))):=Lib.hid (by rw [hV.out,if_neg (by simp)])
   clear hV
   have x0:=H9.cell 1 0 rfl rfl;have x1:=H9.cell 1 1 rfl rfl
   have y0:=H9.frozen 6 0 rfl;have y1:=H9.frozen 6 1 rfl;have u0:=H9.cell 6 0 rfl rfl;have u1:=H9.cell 6 1 rfl rfl
   have H10:=(H9.set 6 0 (.slice A' l'.length c') rfl).set 6 1 (.slice Ag' qg.length cg') rfl
   have hlb:=H9.lt 6 rfl
   have hH10:=Lib.hid H10
   clear H9 H10
   go_upto_region 12 with fail
   obtain ⟨w10,hw10,H9⟩:=hH10.out.name
   rw [hw10]
   clear hw10 hH10 x0 x1 y0 y1 u0 u1 hlb ff
   replace H9:Hp w0 w10 (.box (gs+1) 34 [.int .i64 0,.int .i64 qa]::.box gs 27 [.slice A' l'.length c',.slice Ag' qg.length cg']::pkE A3 c3 (pickP s.sys fl)::.own (.slice oA fl.length oc) 3 1 fl.length (ints (natsI fl))::.box gf 34 [.int .i64 0,.int .i64 0]::.box ga 44 [.int .i64 0,.int .i64 0,.int .i64 0,.slice none 0 0,.int .i64 0] ::
    .box bh 81 [.slice A' l'.length c',.slice Ag' qg.length cg',.slice s.Am s.mods.length s.cm,.slice s.As s.sys.length s.cs]::sysE s::modE s::(((stE s.A s.c s.l s.Ag s.cg s.gens++s.sys.map actE)++E)++stE A' c' l' Ag' cg' qg)):=H9
   have z0:=H9.frozen 5 0 rfl;have z1:=H9.frozen 5 1 rfl;have z2:=H9.frozen 5 2 rfl;have z3:=H9.frozen 5 3 rfl;have z4:=H9.frozen 5 4 rfl
   have d0:=H9.cell 5 0 rfl rfl;have d1:=H9.cell 5 1 rfl rfl;have d2:=H9.cell 5 2 rfl rfl;have d3:=H9.cell 5 3 rfl rfl;have d4:=H9.cell 5 4 rfl rfl
   have HA:=((((H9.set 5 0 (.int .i64 0) rfl).set 5 1 (.int .i64 0) rfl).set 5 2 (.int .i64 0) rfl).set 5 3 (.slice none 0 0) rfl).set 5 4 (.int .i64 (rows.length:Int)) rfl
   have r0:=HA.cell 5 0 rfl rfl;have r1:=HA.cell 5 1 rfl rfl;have r2:=HA.cell 5 2 rfl rfl;have r3:=HA.cell 5 3 rfl rfl;have r4:=HA.cell 5 4 rfl rfl
   have hHA:=Lib.hid HA
   clear H9 HA
   go_wp2_with fail
   refine bodyPost_ret (v:=ansVal 0 0 0 none 0 0 (rows.length:Int)) (by simp [results,Tryz.results61,go_sem,r0,r1,r2,r3,r4,ansVal]) rfl ⟨{ s with A:=A',c:=c',l:=l',Ag:=Ag',cg:=cg',gens:=qg },by rw [hE.out];rfl,?_,?_⟩
   ·rw [hE.out]
    exact ⟨his.mods,his.sys,hl'h.out,rfl⟩
   ·exact ho_turn ((((((hHA.out.drop1 0).drop1 0).drop1 0).drop1 0).drop1 0).drop1 0)
open Go.RowKit
open Brood
structure DIn where
 d:BDo
 A:Option Addr
 c:Nat
def doCells (x:DIn):List Value:=[.int .i64 x.d.kind,.int .i64 x.d.has,.int .i64 x.d.part,.int .i64 x.d.n,.int .i64 x.d.i,.int .i64 x.d.g,.int .i64 x.d.sys.mod,.int .i64 x.d.sys.all,.int .i64 x.d.sys.non,.slice x.A x.d.sys.acts.length x.c,.int .i64 x.d.fa,.int .i64 x.d.fn]
def DoAt (w:World) (b off:Nat) (x:DIn):Prop:=w.cell? ⟨b,off,none⟩=some (.int .i64 x.d.kind)∧w.cell? ⟨b,off+1,none⟩=some (.int .i64 x.d.has)∧w.cell? ⟨b,off+2,none⟩=some (.int .i64 x.d.part)∧w.cell? ⟨b,off+3,none⟩=some (.int .i64 x.d.n)∧w.cell? ⟨b,off+4,none⟩=some (.int .i64 x.d.i)∧w.cell? ⟨b,off+5,none⟩=some (.int .i64 x.d.g)∧w.cell? ⟨b,off+6,none⟩=some (.int .i64 x.d.sys.mod)∧w.cell? ⟨b,off+7,none⟩=some (.int .i64 x.d.sys.all)∧w.cell? ⟨b,off+8,none⟩=some (.int .i64 x.d.sys.non)∧w.cell? ⟨b,off+9,none⟩=some (.slice x.A x.d.sys.acts.length x.c)∧w.cell? ⟨b,off+10,none⟩=some (.int .i64 x.d.fa)∧w.cell? ⟨b,off+11,none⟩=some (.int .i64 x.d.fn)
structure RdD (w:World) (B:Nat) (A:Option Addr) (l:List DIn):Prop where
 cells:Rd w B 12 A l.length (l.flatMap doCells)
 acts:∀ x∈l,RdAB w B x.A x.d.sys.acts
section
variable {w w':World} {B:Nat} {A:Option Addr} {l:List DIn}
theorem RdD.keep (h:RdD w B A l) (hk:∀ p:Addr,p.block<B→w'.cell? p=w.cell? p):RdD w' B A l:=
 ⟨h.cells.keep hk,fun x hx=>Rd.keep (h.acts x hx) hk⟩
theorem RdD.under (h:RdD w B A l) {C:Nat} (hb:Below C w w') (hC:B≤C):RdD w' B A l:=h.keep fun _ hp=>hb.cell (by omega)
theorem RdD.more (h:RdD w B A l) {C:Nat} (hB:B≤C):RdD w C A l:=⟨h.cells.more hB,fun x hx=>Rd.more (h.acts x hx) hB⟩
theorem RdD.at_ (h:RdD w B A l) {k:Nat} (hk:k<l.length):∃ b off,A=some ⟨b,off,none⟩∧b<B∧DoAt w b (off+k*12) l[k]:=by
 obtain ⟨b,off,e,hb,hc⟩:=h.cells.2 (by omega)
 have hf:∀ x,(doCells x).length=12:=fun _=>rfl
 refine ⟨b,off,e,hb,?_,?_,?_,?_,?_,?_,?_,?_,?_,?_,?_,?_⟩
 ·have:=hc (k*12+0) _ (flat_get hf l k hk 0 (by omega));simpa using this
 ·have:=hc (k*12+1) _ (flat_get hf l k hk 1 (by omega));simpa [Nat.add_assoc] using this
 ·have:=hc (k*12+2) _ (flat_get hf l k hk 2 (by omega));simpa [Nat.add_assoc] using this
 ·have:=hc (k*12+3) _ (flat_get hf l k hk 3 (by omega));simpa [Nat.add_assoc] using this
 ·have:=hc (k*12+4) _ (flat_get hf l k hk 4 (by omega));simpa [Nat.add_assoc] using this
 ·have:=hc (k*12+5) _ (flat_get hf l k hk 5 (by omega));simpa [Nat.add_assoc] using this
 ·have:=hc (k*12+6) _ (flat_get hf l k hk 6 (by omega));simpa [Nat.add_assoc] using this
 ·have:=hc (k*12+7) _ (flat_get hf l k hk 7 (by omega));simpa [Nat.add_assoc] using this
 ·have:=hc (k*12+8) _ (flat_get hf l k hk 8 (by omega));simpa [Nat.add_assoc] using this
 ·have:=hc (k*12+9) _ (flat_get hf l k hk 9 (by omega));simpa [Nat.add_assoc] using this
 ·have:=hc (k*12+10) _ (flat_get hf l k hk 10 (by omega));simpa [Nat.add_assoc] using this
 ·have:=hc (k*12+11) _ (flat_get hf l k hk 11 (by omega));simpa [Nat.add_assoc] using this
end
def doOf (l:List DIn):List BDo:=l.map (·.d)
theorem doOf_length (l:List DIn):(doOf l).length=l.length:=by simp [doOf]
theorem doOf_drop {l:List DIn} {k:Nat} (h:k<l.length):(doOf l).drop k=l[k].d::(doOf l).drop (k+1):=by
 unfold doOf
 rw [← List.map_drop,← List.map_drop,drop_cons h,List.map_cons]
end Go.Proofs.YtefdblaolmckmacGreat
