/- Lemmas of the proof. -/
import Derived.Maps.AppendAt
import Derived.Test.YtefdblaolmckmacGreatMBPlainAToHp
import Derived.Test.YtefdblaolmckmacGreatMBSpecDToHouU
import Derived.Test.YtefdblaolmckmacGreatMHouS
import Derived.Test.YtefdblaolmckmacGreatMMayW
import Derived.Test.YtefdblaolmckmacGreatMBStoBToKg
import Derived.Test.YtefdblaolmckmacGreatMBInsIToMx
import Derived.Test.YtefdblaolmckmacGreatMBRunA7ToRunR
import Derived.Test.YtefdblaolmckmacGreatMRuleA
import Derived.Test.YtefdblaolmckmacGreatMBRowToInv
import Derived.Test.YtefdblaolmckmacGreatMBRuleNToClash
set_option linter.unusedVariables false
set_option linter.unusedSimpArgs false
set_option maxRecDepth 100000
set_option maxHeartbeats 12800000
namespace Go.Proofs.YtefdblaolmckmacGreat
open Go.RowKit
theorem eval_tmp {a:Act} {t:Nat} {v:Value} (h:a.tmps[t]?.getD undef=v):a.eval (.tmp t)=v:=by
 rw [← h]
 simp [Act.eval,Array.getD_eq_getD_getElem?]
theorem oper_append_own {P:Program} {o:Oper} {a:Act} {w:World} {K:Act→World→Prop} {Q:Exit→Act→World→Prop} (s x:Operand) (t:TypeId)
  (ho:o.op=.call { callee:=.builtin .append,args:=#[s,x],argTypes:=#[t,t] })
  (base:Nat) (e:TypeId) (i:TypeInfo) (z:Value) (size bytes:Nat) (ht:P.underlying t=some (.slice e)) (hi:P.info? e=some i) (hz:i.zero=some z)
  (hsize:i.size=size) (hby:i.bytes=bytes) (hzs:z.cells.size=size) (hsz:0<size)
  (v:Value) (n:Nat) (xs:List Value) (hs:a.eval s=v) (hown:w.ownsRow base e size v n xs)
  (ad:Addr) (m c:Nat) (news:List Value) (hx:a.eval x=.slice (some ad) m c) (hl:news.length=m*size) (hnews:∀ j u,news[j]?=some u→w.cell? (ad.add j)=some u) (h1:∀ u∈news,u.oneCell'=true)
  (h63:n+m≤maxLen) (hbytes:(n+m)*bytes≤140737488355328) (hbase:base≤w.heap.size)
  (h:∀ v' w',w'.ownsRow base e size v' (n+m) (xs++news)→w.grownBy w' v.ownBlock→(v'.ownBlock=v.ownBlock∨v'.ownBlock=some w.heap.size)→K (a.put o.dst v') w') :
  o.wp P a w K Q:=by
 obtain ⟨v',w',hr,h2,h3,h4,h5⟩:=run_append_own_at (P:=P) w base t o.type e i z size bytes ht hi hz hsize hby hzs hsz v n xs hown ad m c news hl hnews h1 h63 hbytes hbase
 unfold Oper.wp execOp
 simp only [ho,resolve,invoke,builtin,Sem.run_bind,Sem.run_pure,Result.andThen_ok,List.map_toArray,List.map_cons,List.map_nil,hs,hx,hr]
 exact h v' w' h2 h3 h5
open Go.RowKit
open Brood
theorem infoSys':(Tryz.prog.info? 51).map (fun i=>(i.zero,i.size,i.bytes))=some (some (.agg #[.int .i64 0,.int .i64 0,.int .i64 0,.slice none 0 0]),4,48):=by kernel_rfl
theorem rdA_none {w:World} {B:Nat} {l:List BAct} (h:RdAB w B none l):l=[]:=by
 match l,h with
 | [],_=>rfl
 | a::l,h=>obtain ⟨b,off,e,_⟩:=h.2 (by simp);cases e
def opB (b:Bool) (L:List Ent):List Ent:=if b then L else []
structure J12 (w0:World) (g g6 bh:Nat) (cs:List Value) (v0 v1 v2:Value) (As:Option Addr) (n c:Nat) (xs:List Value) (R:List Ent) (b7 b8 b12:Bool) (v8:Value) (w':World) (A3:Option Addr) (c3:Nat):Prop where
 val:b8=true→v8=.slice A3 (n+1) c3
 size:b7=false→w'.heap.size=g
 hp:Hp w0 w' (opB b7 [.box g 51 cs]++(.box g6 51 cs::.box bh 81 [v0,v1,v2,if b12 then .slice A3 (n+1) c3 else .slice As n c]::.own (if b8 then .slice A3 (n+1) c3 else .slice As n c) 51 4 (if b8 then n+1 else n) (if b8 then xs++cs else xs)::R))
section
variable {w0 w' w9:World} {g g6 bh:Nat} {cs:List Value} {v0 v1 v2:Value} {As:Option Addr} {n c:Nat} {xs:List Value} {R:List Ent} {b7 b8 b12:Bool} {v8:Value} {A3 A4:Option Addr} {c3 c4:Nat}
theorem J12.start (h:Hp w0 w' (.box g6 51 cs::.box bh 81 [v0,v1,v2,.slice As n c]::.own (.slice As n c) 51 4 n xs::R)):J12 w0 w'.heap.size g6 bh cs v0 v1 v2 As n c xs R false false false v8 w' none 0:=
 ⟨(fun h=>by cases h),fun _=>rfl,h⟩
theorem J12.xc (h:J12 w0 g g6 bh cs v0 v1 v2 As n c xs R b7 b8 b12 v8 w' A3 c3) (i:Nat) (u:Value) (hi:cs[i]?=some u):w'.cell? ⟨g6,i,none⟩=some u:=by
 have hb:=h.hp.all (.box g6 51 cs) (by simp)
 rw [hb.2.cell i]
 simpa using hi
theorem J12.sys (h:J12 w0 g g6 bh cs v0 v1 v2 As n c xs R b7 b8 b12 v8 w' A3 c3) (n12:b12=false):w'.cell? ⟨bh,3,none⟩=some (.slice As n c):=by
 subst n12
 have hb:=h.hp.all (.box bh 81 [v0,v1,v2,.slice As n c]) (by simp)
 rw [hb.2.cell 3]
 rfl
theorem J12.build (h:J12 w0 g g6 bh cs v0 v1 v2 As n c xs R b7 b8 b12 v8 w' A3 c3) (n7:b7=false) (n8:b8=false) (n12:b12=false):J12 w0 g g6 bh cs v0 v1 v2 As n c xs R true b8 b12 v8 (w'.alloc (.cells cs.toArray 51)) A3 c3:=by
 subst n7 n8 n12
 exact ⟨(fun h=>by cases h),(fun h=>by cases h),h.hp.newL g (h.size rfl) _ _⟩
theorem J12.at8 (h:J12 w0 g g6 bh cs v0 v1 v2 As n c xs R b7 b8 b12 v8 w' A3 c3) (l7:b7=true) (n8:b8=false) (n12:b12=false):Hp w0 w' (.box g 51 cs::.box g6 51 cs::.box bh 81 [v0,v1,v2,.slice As n c]::.own (.slice As n c) 51 4 n xs::R):=by
 subst l7 n8 n12
 exact h.hp
theorem J12.app (l7:b7=true) (n12:b12=false) (h:Hp w0 w' (.box g 51 cs::.box g6 51 cs::.box bh 81 [v0,v1,v2,.slice As n c]::.own (.slice As n c) 51 4 n xs::R))
  (ho:w9.ownsRow w0.heap.size 51 4 (.slice A4 (n+1) c4) (n+1) (xs++cs)) (hg:w'.grownBy w9 (Value.slice As n c).ownBlock) (hat:(Value.slice A4 (n+1) c4).ownBlock=(Value.slice As n c).ownBlock∨(Value.slice A4 (n+1) c4).ownBlock=some w'.heap.size) :
  J12 w0 g g6 bh cs v0 v1 v2 As n c xs R b7 true b12 (.slice A4 (n+1) c4) w9 A4 c4:=by
 subst l7 n12
 exact ⟨fun _=>rfl,(fun h=>by cases h),h.app (n':=n+1) (xs':=xs++cs) 3 rfl hg ho (hat.imp id (fun e g hg=>by have hg':(Value.slice A4 (n+1) c4).ownBlock=some g:=hg;rw [e] at hg';injection hg' with hg';omega))⟩
theorem J12.st12 (h:J12 w0 g g6 bh cs v0 v1 v2 As n c xs R b7 b8 b12 v8 w' A3 c3) (l7:b7=true) (l8:b8=true) (n12:b12=false):v8=.slice A3 (n+1) c3∧w'.cell? ⟨bh,3,none⟩=some (.slice As n c)∧w'.frozen? ⟨bh,3,none⟩=false ∧
  J12 w0 g g6 bh cs v0 v1 v2 As n c xs R b7 b8 true v8 (w'.setCell ⟨bh,3,none⟩ (.slice A3 (n+1) c3)) A3 c3:=by
 subst l7 l8 n12
 exact ⟨h.val rfl,h.hp.cell 2 3 rfl rfl,h.hp.frozen 2 3 rfl,h.val,(fun h=>by cases h),h.hp.set 2 3 _ rfl⟩
theorem J12.done (h:J12 w0 g g6 bh cs v0 v1 v2 As n c xs R b7 b8 b12 v8 w' A3 c3) (l7:b7=true) (l8:b8=true) (l12:b12=true):Hp w0 w' (.box bh 81 [v0,v1,v2,.slice A3 (n+1) c3]::.own (.slice A3 (n+1) c3) 51 4 (n+1) (xs++cs)::R):=by
 subst l7 l8 l12
 exact (h.hp.drop1 0).drop1 0
end
theorem hsys_close {w0 w:World} {bh:Nat} {s:HIn} {E:List Ent} {x:BSys} {A7 A3:Option Addr} {c7 c3 k:Nat} {ans:Ent} (hk:x.mod=(k:Int)) (H:Hp w0 w (.box bh 81 [.slice s.A s.l.length s.c,.slice s.Ag s.gens.length s.cg,.slice s.Am s.mods.length s.cm,.slice A3 (s.sys.length+1) c3]::.own (.slice A3 (s.sys.length+1) c3) 51 4 (s.sys.length+1) (s.sys.flatMap sysCells++[.int .i64 (k:Int),.int .i64 x.all,.int .i64 x.non,.slice A7 x.acts.length c7]) ::
  ans::((modE s::(stE s.A s.c s.l s.Ag s.cg s.gens++s.sys.map actE)++E)++[.own (.slice A7 x.acts.length c7) 76 4 x.acts.length (x.acts.flatMap actCells)]))):Hp w0 w (hoE bh { s with As:=A3,cs:=c3,sys:=s.sys++[⟨x,A7,c7⟩] }++E):=by
 have e:hoE bh { s with As:=A3,cs:=c3,sys:=s.sys++[⟨x,A7,c7⟩] }++E=.box bh 81 [.slice s.A s.l.length s.c,.slice s.Ag s.gens.length s.cg,.slice s.Am s.mods.length s.cm,.slice A3 (s.sys.length+1) c3]::.own (.slice A3 (s.sys.length+1) c3) 51 4 (s.sys.length+1) (s.sys.flatMap sysCells++[.int .i64 (k:Int),.int .i64 x.all,.int .i64 x.non,.slice A7 x.acts.length c7])::modE s ::
   ((stE s.A s.c s.l s.Ag s.cg s.gens++s.sys.map actE)++([actE ⟨x,A7,c7⟩]++E)):=by
  unfold hoE HIn.box sysE modE
  simp [sysCells,hk]
 rw [e]
 refine (H.drop1 2).perm (.cons _ (.cons _ (.cons _ ?_)))
 show ((stE s.A s.c s.l s.Ag s.cg s.gens++s.sys.map actE)++E++[actE ⟨x,A7,c7⟩]).Perm _
 rw [List.append_assoc]
 exact List.Perm.append_left _ List.perm_append_comm
theorem hsys_any (mods0:List BMod) (bh:Nat) (s:HIn) (h:BHouse) (his:HIs s h) (hr:HouseR mods0 h) (x:SysIn) (sb so:Nat) (w0 w:World) (E:List Ent) (H:Hp w0 w (hoE bh s++E)) (hsb:sb<w0.heap.size) (hxn:x.A=none→x.c=0)
  (c0:w0.cell? ⟨sb,so,none⟩=some (.int .i64 x.s.mod)) (c1:w0.cell? ⟨sb,so+1,none⟩=some (.int .i64 x.s.all)) (c2:w0.cell? ⟨sb,so+2,none⟩=some (.int .i64 x.s.non)) (c3:w0.cell? ⟨sb,so+3,none⟩=some (.slice x.A x.s.acts.length x.c)) (hx:RdAB w0 w0.heap.size x.A x.s.acts) :
  Calls Tryz.prog 60 #[.pointer (some ⟨bh,0,none⟩),.pointer (some ⟨sb,so,none⟩)] w fun e w'=>∃ s',e=.returned (ansVal (hsysV h x.s).2.err 0 0 none 0 0 (hsysV h x.s).2.n)∧HIs s' (hsysV h x.s).1∧Hp w0 w' (hoE bh s'++E):=by
 have hV:Hid (hsysV h x.s=if (sysWrong x.s).1≠0 then (h,ansE (sysWrong x.s).1)
 else if (h.mods.length:Int)≤x.s.mod then (h,ansE 5)
 else if may (modAt h.mods x.s.mod) x.s=false then (h,ansE 8)
 else if h.syss.length=12 then (h,ansE 4)
 else ({ h with syss:=h.syss++[x.s] },ansN ((h.syss.length+1:Nat):Int))):=Lib.hid rfl
 generalize hsysV h x.s=V at *
 have H0:=H.newL w.heap.size rfl 44 [.int .i64 0,.int .i64 0,.int .i64 0,.slice none 0 0,.int .i64 0]
 have hH0:=Lib.hid H0
 have b0:=(H0.bel.cell (p:=⟨sb,so,none⟩) hsb).trans c0;have b1:=(H0.bel.cell (p:=⟨sb,so+1,none⟩) hsb).trans c1;have b2:=(H0.bel.cell (p:=⟨sb,so+2,none⟩) hsb).trans c2;have b3:=(H0.bel.cell (p:=⟨sb,so+3,none⟩) hsb).trans c3
 clear H H0
 go_enter Tryz.func60,Tryz.ntmps60
 go_upto_region 1 with fail
 obtain ⟨w1,hw1,H0⟩:=hH0.out.name
 rw [hw1] at b0 b1 b2 b3 ⊢
 clear hw1 hH0
 have hw:=Lib.hid (wrong_any x.s x.A x.c w1 (RdA.grow (show RdA w0 x.A x.s.acts from hx) H0.bel))
 have hH0:=Lib.hid H0
 clear H0
 go_wp2_with fail
 refine hw.out.mono ?_
 have hrt:Hid ((sysWrong x.s).1=0→Right x.s∧SysOk x.s):=Lib.hid (fun h=>⟨right_of h,sysOk_of h⟩)
 generalize sysWrong x.s=F at *
 obtain ⟨f1,f2⟩:=F
 dsimp only at hV hrt ⊢
 clear hw b0 b1 b2 b3
 rintro e w2 ⟨rfl,hb2⟩
 have H1:=(hH0.out.grow hb2).newL w2.heap.size rfl 34 [.int .i64 f1,.int .i64 f2]
 have hH1:=Lib.hid H1
 clear H1 hH0 hb2
 go_upto_region 2 with fail
 obtain ⟨w3,hw3,H1⟩:=hH1.out.name
 rw [hw3]
 clear hw3 hH1
 have ff:=H1.cell 0 0 rfl rfl
 by_cases hf:f1=0
 case neg=>
  have hf':(f1 != 0)=true:=by simpa using hf
  have hE:Hid (V=(h,ansE f1)):=Lib.hid (by rw [hV.out,if_pos hf])
  have z0:=H1.frozen 1 0 rfl;have z1:=H1.frozen 1 1 rfl;have z2:=H1.frozen 1 2 rfl;have z3:=H1.frozen 1 3 rfl;have z4:=H1.frozen 1 4 rfl
  have d0:=H1.cell 1 0 rfl rfl;have d1:=H1.cell 1 1 rfl rfl;have d2:=H1.cell 1 2 rfl rfl;have d3:=H1.cell 1 3 rfl rfl;have d4:=H1.cell 1 4 rfl rfl
  have H2:=((((H1.set 1 0 (.int .i64 f1) rfl).set 1 1 (.int .i64 0) rfl).set 1 2 (.int .i64 0) rfl).set 1 3 (.slice none 0 0) rfl).set 1 4 (.int .i64 0) rfl
  have r0:=H2.cell 1 0 rfl rfl;have r1:=H2.cell 1 1 rfl rfl;have r2:=H2.cell 1 2 rfl rfl;have r3:=H2.cell 1 3 rfl rfl;have r4:=H2.cell 1 4 rfl rfl
  have hH2:=Lib.hid H2
  clear H1 H2 hV hf
  go_wp2_with fail
  refine bodyPost_ret (v:=ansVal f1 0 0 none 0 0 0) (by simp [results,Tryz.results60,go_sem,r0,r1,r2,r3,r4,ansVal]) rfl ⟨s,by rw [hE.out];rfl,by rw [hE.out];exact his,(hH2.out.drop1 0).drop1 0⟩
 subst hf
 have hRt:=Lib.hid (hrt.out rfl)
 have hlm:s.mods.length=h.mods.length:=congrArg List.length his.mods
 have hlmh:=Lib.hid hlm
 clear hrt hlm
 have b0:=(H1.bel.cell (p:=⟨sb,so,none⟩) hsb).trans c0
 have m0:=H1.cell 2 2 rfl rfl
 have hH1:=Lib.hid H1
 have hlt0:=H1.lt 2 rfl
 have hsb1:sb<w3.heap.size:=Nat.lt_of_lt_of_le hsb H1.bel.size
 clear H1
 go_upto_region 4 with fail
 go_cut [17] (fun sx wx=>sx=.bool (decide ((s.mods.length:Int)≤x.s.mod))∧∃ nd,wx=w3.drewN nd)
 case first=>
  go_quiet (fail)
  go_wp2_with fail
  go_meet
  exact ⟨rfl,_,rfl⟩
 case rest=>
 obtain ⟨rfl,nd,rfl⟩:=hcut
 have H1:=hH1.out.drewN nd
 obtain ⟨w4,hw4⟩:∃ w4,w4=w3.drewN nd:=⟨_,rfl⟩
 rw [← hw4] at H1 ⊢
 clear hw4 hH1 b0 m0 ff hlt0 hsb1
 by_cases hm:(s.mods.length:Int)≤x.s.mod
 case pos=>
  have hm':decide ((s.mods.length:Int)≤x.s.mod)=true:=by simpa using hm
  have hE:Hid (V=(h,ansE 5)):=Lib.hid (by rw [hV.out,if_neg (by simp),if_pos (by rw [← hlmh.out];exact hm)])
  have z0:=H1.frozen 1 0 rfl;have z1:=H1.frozen 1 1 rfl;have z2:=H1.frozen 1 2 rfl;have z3:=H1.frozen 1 3 rfl;have z4:=H1.frozen 1 4 rfl
  have d0:=H1.cell 1 0 rfl rfl;have d1:=H1.cell 1 1 rfl rfl;have d2:=H1.cell 1 2 rfl rfl;have d3:=H1.cell 1 3 rfl rfl;have d4:=H1.cell 1 4 rfl rfl
  have H2:=((((H1.set 1 0 (.int .i64 5) rfl).set 1 1 (.int .i64 0) rfl).set 1 2 (.int .i64 0) rfl).set 1 3 (.slice none 0 0) rfl).set 1 4 (.int .i64 0) rfl
  have r0:=H2.cell 1 0 rfl rfl;have r1:=H2.cell 1 1 rfl rfl;have r2:=H2.cell 1 2 rfl rfl;have r3:=H2.cell 1 3 rfl rfl;have r4:=H2.cell 1 4 rfl rfl
  have hH2:=Lib.hid H2
  clear H1 H2 hV
  rw [hm']
  clear hm hm'
  go_wp2_with fail
  refine bodyPost_ret (v:=ansVal 5 0 0 none 0 0 0) (by simp [results,Tryz.results60,go_sem,r0,r1,r2,r3,r4,ansVal]) rfl ⟨s,by rw [hE.out];rfl,by rw [hE.out];exact his,(hH2.out.drop1 0).drop1 0⟩
 have hsys:=hRt.out.2
 obtain ⟨k,hk⟩:∃ k:Nat,x.s.mod=(k:Int):=⟨x.s.mod.toNat,by have:=hsys.mod0;omega⟩
 have hacts8:=Lib.hid hsys.many
 clear hsys
 rw [hk] at hm c0
 have hkl:k<s.mods.length:=by omega
 have hl6:s.mods.length≤6:=by rw [hlmh.out,hr.same];exact hr.few
 obtain ⟨m,hme⟩:∃ m,s.mods[k]=m:=⟨_,rfl⟩
 have hmat:modAt h.mods x.s.mod=m:=by
  unfold modAt
  rw [hk,Int.toNat_natCast,← his.mods,List.getElem?_eq_getElem hkl,hme]
  rfl
 have hmok:=hr.ok m (by
  rw [← hr.same,← his.mods,← hme]
  exact List.getElem_mem _)
 have hV2:Hid (V=if may m x.s=false then (h,ansE 8) else if h.syss.length=12 then (h,ansE 4) else ({ h with syss:=h.syss++[x.s] },ansN ((h.syss.length+1:Nat):Int))):=Lib.hid (by
  rw [hV.out,if_neg (by simp),if_neg (by rw [← hlmh.out,hk];exact hm),hmat])
 clear hV hm
 have hmay:Hid (∀ w',RdA w' x.A x.s.acts→Calls Tryz.prog 20 #[.agg #[.int .i64 m.reads,.int .i64 m.writes,.bool m.life],.agg #[.int .i64 (k:Int),.int .i64 x.s.all,.int .i64 x.s.non,.slice x.A x.s.acts.length x.c]] w' fun e w''=>e=.returned (.bool (may m x.s))∧Below w'.heap.size w' w''):=Lib.hid (fun w' hA=>by
  have:=may_any m hmok.1 hmok.2 x.s hRt.out.1 x.A x.c w' hA
  rw [hk] at this
  exact this)
 obtain ⟨b,off,eA,hblt,m0,m1,m2⟩:=(H1.hoMod (hb:=bh) (s:=s) (fun p hp=>by simp [hp])).at_ hkl
 rw [hme] at m0 m1 m2
 have q0:=H1.cell 2 2 rfl rfl
 rw [eA] at q0
 have hbh:=H1.lt 2 rfl
 have hsb4:sb<w4.heap.size:=Nat.lt_of_lt_of_le hsb H1.bel.size
 have b0:=(H1.bel.cell (p:=⟨sb,so,none⟩) hsb).trans c0;have b1:=(H1.bel.cell (p:=⟨sb,so+1,none⟩) hsb).trans c1;have b2:=(H1.bel.cell (p:=⟨sb,so+2,none⟩) hsb).trans c2;have b3:=(H1.bel.cell (p:=⟨sb,so+3,none⟩) hsb).trans c3
 have hx4:=Lib.hid (RdA.grow (show RdA w0 x.A x.s.acts from hx) H1.bel)
 have hH1:=Lib.hid H1
 have i0:(0:Int)≤(k:Int):=by omega
 have i1:(k:Int)<(s.mods.length:Int):=by omega
 clear H1 hmat hmok hme
 have hl6':=Lib.hid hl6
 clear hl6
 go_upto_region 6 with fail
 go_cut [30] (fun s30 wx=>s30=.bool (!may m x.s)∧Below w4.heap.size w4 wx)
 case first=>
  refine wp_region_pred mixed (by kernel_rfl) (by kernel_rfl) (fun _=>true) (fun j w' v=>v=tab [.pointer (some ⟨bh,0,none⟩),.pointer (some ⟨bh,0,none⟩),.pointer (some ⟨bh,0,none⟩),.pointer (some ⟨bh,2,none⟩),.slice (some ⟨b,off,none⟩) s.mods.length s.cm,.pointer (some ⟨sb,so,none⟩),.pointer (some ⟨sb,so,none⟩),.pointer (some ⟨sb,so,none⟩),.int .i64 (k:Int),.pointer (some ⟨b,off+k*3,none⟩),.agg #[.int .i64 m.reads,.int .i64 m.writes,.bool m.life],.pointer (some ⟨sb,so,none⟩),.pointer (some ⟨sb,so,none⟩),.agg #[.int .i64 (k:Int),.int .i64 x.s.all,.int .i64 x.s.non,.slice x.A x.s.acts.length x.c],.bool (may m x.s),.bool (!may m x.s),.bool (!may m x.s)] j) ?_ ?_ ?_ ?_ ?_
  ·intro j w' w'' v h hb;exact h
  ·intro q op ho
   have hi:q<17:=lt_of_some ho
   match q,hi,ho with
   | 0,_,ho | 1,_,ho | 2,_,ho | 3,_,ho | 4,_,ho | 5,_,ho | 6,_,ho | 7,_,ho | 8,_,ho | 9,_,ho | 10,_,ho | 11,_,ho | 12,_,ho | 13,_,ho | 14,_,ho | 15,_,ho | 16,_,ho=>
    obtain rfl:=sj ho
    rfl
  ·intro q w' h;cases h
  ·intro vs w' hb hv
   rw [putAll_tab _ _ _ _ [(some 31,vs 0),(some 32,vs 1),(some 33,vs 2),(some 34,vs 3),(some 35,vs 4),(some 36,vs 5),(some 37,vs 6),(some 38,vs 7),(some 39,vs 8),(some 40,vs 9),(some 41,vs 10),(some 42,vs 11),(some 43,vs 12),(some 44,vs 13),(some 45,vs 14),(some 46,vs 15),(some 30,vs 16)] rfl]
   simp only [putL_eq,putT,List.set_cons_succ,List.set_cons_zero]
   have hv16:vs 16=.bool (!may m x.s):=hv 16 (by decide)
   rw [hv16]
   have hb5:=Lib.hid hb
   clear hv hb hv16 hH1 hmay m0 m1 m2 q0 eA b0 b1 b2 b3
   go_wp2_with fail
   go_meet
   exact ⟨rfl,hb5.out⟩
  ·intro q op ho hG act w' hb hv hwas K hK
   have e0:=hwas 0 rfl
   have e1:=hwas 1 rfl
   simp at e0 e1
   have g0:=(hb.cell (p:=⟨bh,2,none⟩) hbh).trans q0
   have g1:=(hb.cell (p:=⟨b,off+k*3,none⟩) hblt).trans m0;have g2:=(hb.cell (p:=⟨b,off+k*3+1,none⟩) hblt).trans m1;have g3:=(hb.cell (p:=⟨b,off+k*3+2,none⟩) hblt).trans m2
   have d0:=(hb.cell (p:=⟨sb,so,none⟩) hsb4).trans b0;have d1:=(hb.cell (p:=⟨sb,so+1,none⟩) hsb4).trans b1;have d2:=(hb.cell (p:=⟨sb,so+2,none⟩) hsb4).trans b2;have d3:=(hb.cell (p:=⟨sb,so+3,none⟩) hsb4).trans b3
   have hi:q<17:=lt_of_some ho
   match q,hi,ho,hG,hK,hv with
   | 0,_,ho,hG,hK,hv=>
    obtain rfl:=sj ho
    clear hv hwas
    go_simp
    exact hK _ _ (Below.refl _ _) rfl
   | 1,_,ho,hG,hK,hv=>
    obtain rfl:=sj ho
    have x31:act.tmps[31]?.getD undef=.pointer (some ⟨bh,0,none⟩):=hv 0 31 rfl rfl
    clear hv hwas
    go_simp
    exact hK _ _ (Below.refl _ _) rfl
   | 2,_,ho,hG,hK,hv=>
    obtain rfl:=sj ho
    have x32:act.tmps[32]?.getD undef=.pointer (some ⟨bh,0,none⟩):=hv 1 32 rfl rfl
    clear hv hwas
    go_simp
    exact hK _ _ (Below.refl _ _) rfl
   | 3,_,ho,hG,hK,hv=>
    obtain rfl:=sj ho
    have x33:act.tmps[33]?.getD undef=.pointer (some ⟨bh,0,none⟩):=hv 2 33 rfl rfl
    clear hv hwas
    go_simp
    exact hK _ _ (Below.refl _ _) rfl
   | 4,_,ho,hG,hK,hv=>
    obtain rfl:=sj ho
    have x34:act.tmps[34]?.getD undef=.pointer (some ⟨bh,2,none⟩):=hv 3 34 rfl rfl
    clear hv hwas
    go_simp
    exact hK _ _ (Below.refl _ _) rfl
   | 5,_,ho,hG,hK,hv=>
    obtain rfl:=sj ho
    clear hv hwas
    go_simp
    exact hK _ _ (Below.refl _ _) rfl
   | 6,_,ho,hG,hK,hv=>
    obtain rfl:=sj ho
    have x36:act.tmps[36]?.getD undef=.pointer (some ⟨sb,so,none⟩):=hv 5 36 rfl rfl
    clear hv hwas
    go_simp
    exact hK _ _ (Below.refl _ _) rfl
   | 7,_,ho,hG,hK,hv=>
    obtain rfl:=sj ho
    have x37:act.tmps[37]?.getD undef=.pointer (some ⟨sb,so,none⟩):=hv 6 37 rfl rfl
    clear hv hwas
    go_simp
    exact hK _ _ (Below.refl _ _) rfl
   | 8,_,ho,hG,hK,hv=>
    obtain rfl:=sj ho
    have x38:act.tmps[38]?.getD undef=.pointer (some ⟨sb,so,none⟩):=hv 7 38 rfl rfl
    clear hv hwas
    go_simp
    exact hK _ _ (Below.refl _ _) rfl
   | 9,_,ho,hG,hK,hv=>
    obtain rfl:=sj ho
    have x35:act.tmps[35]?.getD undef=.slice (some ⟨b,off,none⟩) s.mods.length s.cm:=hv 4 35 rfl rfl
    have x39:act.tmps[39]?.getD undef=.int .i64 (k:Int):=hv 8 39 rfl rfl
    clear hv hwas
    go_simp
    exact hK _ _ (Below.refl _ _) rfl
   | 10,_,ho,hG,hK,hv=>
    obtain rfl:=sj ho
    have x40:act.tmps[40]?.getD undef=.pointer (some ⟨b,off+k*3,none⟩):=hv 9 40 rfl rfl
    clear hv hwas
    go_simp
    exact hK _ _ (Below.refl _ _) rfl
   | 11,_,ho,hG,hK,hv=>
    obtain rfl:=sj ho
    clear hv hwas
    go_simp
    exact hK _ _ (Below.refl _ _) rfl
   | 12,_,ho,hG,hK,hv=>
    obtain rfl:=sj ho
    have x42:act.tmps[42]?.getD undef=.pointer (some ⟨sb,so,none⟩):=hv 11 42 rfl rfl
    clear hv hwas
    go_simp
    exact hK _ _ (Below.refl _ _) rfl
   | 13,_,ho,hG,hK,hv=>
    obtain rfl:=sj ho
    have x43:act.tmps[43]?.getD undef=.pointer (some ⟨sb,so,none⟩):=hv 12 43 rfl rfl
    clear hv hwas
    go_simp
    exact hK _ _ (Below.refl _ _) rfl
   | 14,_,ho,hG,hK,hv=>
    obtain rfl:=sj ho
    have x41:act.tmps[41]?.getD undef=.agg #[.int .i64 m.reads,.int .i64 m.writes,.bool m.life]:=hv 10 41 rfl rfl
    have x44:act.tmps[44]?.getD undef=.agg #[.int .i64 (k:Int),.int .i64 x.s.all,.int .i64 x.s.non,.slice x.A x.s.acts.length x.c]:=hv 13 44 rfl rfl
    clear hv hwas
    go_simp
    refine (hmay.out w' (RdA.grow hx4.out hb)).mono ?_
    rintro e w'' ⟨rfl,hb''⟩
    exact hK _ _ hb'' rfl
   | 15,_,ho,hG,hK,hv=>
    obtain rfl:=sj ho
    have x45:act.tmps[45]?.getD undef=.bool (may m x.s):=hv 14 45 rfl rfl
    clear hv hwas
    go_simp
    exact hK _ _ (Below.refl _ _) rfl
   | 16,_,ho,hG,hK,hv=>
    obtain rfl:=sj ho
    have x46:act.tmps[46]?.getD undef=.bool (!may m x.s):=hv 15 46 rfl rfl
    clear hv hwas
    go_simp
    exact hK _ _ (Below.refl _ _) rfl
 case rest=>
 rename_i Kc hKc
 refine hKc _ _ ?_
 clear hKc
 obtain ⟨rfl,hb5⟩:=hcut
 have H1:=hH1.out.grow hb5
 clear hH1 hmay m0 m1 m2 q0 eA b0 b1 b2 b3
 obtain ⟨w5,hw5⟩:∃ w5,w5=wc:=⟨_,rfl⟩
 rw [← hw5] at H1 hb5 ⊢
 clear hw5
 cases hmy:may m x.s with
 | false=>
  rw [Bool.not_false]
  have hE:Hid (V=(h,ansE 8)):=Lib.hid (by rw [hV2.out,if_pos hmy])
  have z0:=H1.frozen 1 0 rfl;have z1:=H1.frozen 1 1 rfl;have z2:=H1.frozen 1 2 rfl;have z3:=H1.frozen 1 3 rfl;have z4:=H1.frozen 1 4 rfl
  have d0:=H1.cell 1 0 rfl rfl;have d1:=H1.cell 1 1 rfl rfl;have d2:=H1.cell 1 2 rfl rfl;have d3:=H1.cell 1 3 rfl rfl;have d4:=H1.cell 1 4 rfl rfl
  have H2:=((((H1.set 1 0 (.int .i64 8) rfl).set 1 1 (.int .i64 0) rfl).set 1 2 (.int .i64 0) rfl).set 1 3 (.slice none 0 0) rfl).set 1 4 (.int .i64 0) rfl
  have r0:=H2.cell 1 0 rfl rfl;have r1:=H2.cell 1 1 rfl rfl;have r2:=H2.cell 1 2 rfl rfl;have r3:=H2.cell 1 3 rfl rfl;have r4:=H2.cell 1 4 rfl rfl
  have hH2:=Lib.hid H2
  clear H1 H2 hV2
  go_wp2_with fail
  refine bodyPost_ret (v:=ansVal 8 0 0 none 0 0 0) (by simp [results,Tryz.results60,go_sem,r0,r1,r2,r3,r4,ansVal]) rfl ⟨s,by rw [hE.out];rfl,by rw [hE.out];exact his,(hH2.out.drop1 0).drop1 0⟩
 | true=>
  rw [Bool.not_true]
  have hn0:=congrArg List.length his.sys
  rw [sysOf_length] at hn0
  have hn:=Lib.hid hn0
  have hn12:Hid (h.syss.length≤12):=Lib.hid hr.len
  clear hn0
  have g0:=H1.cell 2 3 rfl rfl
  have hbh5:=H1.lt 2 rfl
  have hH1:=Lib.hid H1
  clear H1 hbh hsb4
  by_cases hq:s.sys.length=12
  ·have hE:Hid (V=(h,ansE 4)):=Lib.hid (by rw [hV2.out,if_neg (by rw [hmy];simp),if_pos (by rw [← hn.out];exact hq)])
   have hq':((s.sys.length:Int)==12)=true:=by rw [hq];rfl
   have H1:=hH1.out
   clear hq
   have z0:=H1.frozen 1 0 rfl;have z1:=H1.frozen 1 1 rfl;have z2:=H1.frozen 1 2 rfl;have z3:=H1.frozen 1 3 rfl;have z4:=H1.frozen 1 4 rfl
   have d0:=H1.cell 1 0 rfl rfl;have d1:=H1.cell 1 1 rfl rfl;have d2:=H1.cell 1 2 rfl rfl;have d3:=H1.cell 1 3 rfl rfl;have d4:=H1.cell 1 4 rfl rfl
   have H2:=((((H1.set 1 0 (.int .i64 4) rfl).set 1 1 (.int .i64 0) rfl).set 1 2 (.int .i64 0) rfl).set 1 3 (.slice none 0 0) rfl).set 1 4 (.int .i64 0) rfl
   have r0:=H2.cell 1 0 rfl rfl;have r1:=H2.cell 1 1 rfl rfl;have r2:=H2.cell 1 2 rfl rfl;have r3:=H2.cell 1 3 rfl rfl;have r4:=H2.cell 1 4 rfl rfl
   have hH2:=Lib.hid H2
   clear H1 H2 hV2
   go_wp2_with fail
   refine bodyPost_ret (v:=ansVal 4 0 0 none 0 0 0) (by simp [results,Tryz.results60,go_sem,r0,r1,r2,r3,r4,ansVal]) rfl ⟨s,by rw [hE.out];rfl,by rw [hE.out];exact his,(hH2.out.drop1 0).drop1 0⟩
  have hq':((s.sys.length:Int)==12)=false:=by simp;omega
  have hE:Hid (V=({ h with syss:=h.syss++[x.s] },ansN ((h.syss.length+1:Nat):Int))):=Lib.hid (by rw [hV2.out,if_neg (by rw [hmy];simp),if_neg (by rw [← hn.out];exact hq)])
  have hq12:=Lib.hid (show s.sys.length<12 by have:=hn.out;have:=hn12.out;omega)
  clear hq hV2
  go_upto_region 10 with fail
  obtain ⟨xs,hxs0⟩:∃ xs,xs=s.sys.flatMap sysCells:=⟨_,rfl⟩
  have hxs:=Lib.hid hxs0
  obtain ⟨R,hR0⟩:∃ R,R=modE s::(stE s.A s.c s.l s.Ag s.cg s.gens++s.sys.map actE)++E:=⟨_,rfl⟩
  have hR:=Lib.hid hR0
  clear hR0
  have H1:Hp w0 w5 (.box bh 81 [.slice s.A s.l.length s.c,.slice s.Ag s.gens.length s.cg,.slice s.Am s.mods.length s.cm,.slice s.As s.sys.length s.cs]::.own (.slice s.As s.sys.length s.cs) 51 4 s.sys.length xs::.box w.heap.size 44 [.int .i64 0,.int .i64 0,.int .i64 0,.slice none 0 0,.int .i64 0]::R):=by
   rw [hR.out,hxs0]
   exact (hH1.out.drop1 0).perm (List.perm_append_comm_assoc [_] [_,_] _)
  clear hH1 hxs0 g0
  generalize hnn0:s.sys.length=n at *
  have hnn:=Lib.hid hnn0
  clear hnn0
  have b0:=(H1.bel.cell (p:=⟨sb,so,none⟩) hsb).trans c0;have b1:=(H1.bel.cell (p:=⟨sb,so+1,none⟩) hsb).trans c1;have b2:=(H1.bel.cell (p:=⟨sb,so+2,none⟩) hsb).trans c2;have b3:=(H1.bel.cell (p:=⟨sb,so+3,none⟩) hsb).trans c3
  have H2:=H1.newL w5.heap.size rfl 51 [.int .i64 (k:Int),.int .i64 x.s.all,.int .i64 x.s.non,.slice x.A x.s.acts.length x.c]
  have hH2:=Lib.hid H2
  clear H1 H2
  go_upto_region 11 with fail
  obtain ⟨w6,hw6,H2⟩:=hH2.out.name
  rw [hw6]
  obtain ⟨g6,hg6⟩:∃ g6,g6=w5.heap.size:=⟨_,rfl⟩
  rw [← hg6] at H2 ⊢
  clear hw6 hg6 hH2 b0 b1 b2 b3 hb5 hx4
  have hsb6:sb<w6.heap.size:=Nat.lt_of_lt_of_le hsb H2.bel.size
  have b3:=(H2.bel.cell (p:=⟨sb,so+3,none⟩) hsb).trans c3
  have y3:=H2.frozen 0 3 rfl;have p3:=H2.cell 0 3 rfl rfl
  have hcl:=Lib.hid (cloneA_any x.s.acts x.A x.c (by have:=hacts8.out;omega) (fun e=>⟨hxn e,by have h0:=hx;rw [e] at h0;exact rdA_none h0⟩) w6 (RdA.grow (show RdA w0 x.A x.s.acts from hx) H2.bel))
  have hH2:=Lib.hid H2
  clear H2
  go_wp2_with fail
  refine hcl.out.mono ?_
  rintro e w7 ⟨v,rfl,hown,hb7⟩
  have H3:=hH2.out.got hb7 hown
  obtain ⟨A7,c7,rfl,_,_⟩:=own_shape hown
  clear hown hb7 hH2 hcl b3 y3 p3 hsb6
  have y3:=H3.frozen 0 3 rfl;have p3:=H3.cell 0 3 rfl rfl
  have H4:=H3.set 0 3 (.slice A7 x.s.acts.length c7) rfl
  have hH4:=Lib.hid H4
  clear H3 H4
  go_upto_region 12 with fail
  obtain ⟨w8,hw8,H4⟩:=hH4.out.name
  rw [hw8]
  clear hw8 hH4 y3 p3
  obtain ⟨R2,hR20⟩:∃ R2,R2=(R++[.own (.slice A7 x.s.acts.length c7) 76 4 x.s.acts.length (x.s.acts.flatMap actCells)]):=⟨_,rfl⟩
  replace H4:Hp w0 w8 (.box g6 51 [.int .i64 (k:Int),.int .i64 x.s.all,.int .i64 x.s.non,.slice A7 x.s.acts.length c7]::.box bh 81 [.slice s.A s.l.length s.c,.slice s.Ag s.gens.length s.cg,.slice s.Am s.mods.length s.cm,.slice s.As n s.cs]::.own (.slice s.As n s.cs) 51 4 n xs::(.box w.heap.size 44 [.int .i64 0,.int .i64 0,.int .i64 0,.slice none 0 0,.int .i64 0]::R2)):=by
   rw [hR20];exact H4
  have hR2:=Lib.hid hR20
  clear hR20
  have J0:=Lib.hid (J12.start (c:=s.cs) (v8:=undef) H4.drew)
  clear H4
  go_cut [] (fun wx=>∃ (A3:Option Addr) (c3:Nat),Hp w0 wx (.box bh 81 [.slice s.A s.l.length s.c,.slice s.Ag s.gens.length s.cg,.slice s.Am s.mods.length s.cm,.slice A3 (n+1) c3]::.own (.slice A3 (n+1) c3) 51 4 (n+1) (xs++[.int .i64 (k:Int),.int .i64 x.s.all,.int .i64 x.s.non,.slice A7 x.s.acts.length c7])::(.box w.heap.size 44 [.int .i64 0,.int .i64 0,.int .i64 0,.slice none 0 0,.int .i64 0]::R2)))
  case first=>
   refine wp_region_mx mixed (by kernel_rfl) (by kernel_rfl) (fun q=>!(q==8)) (tab [.pointer (some ⟨bh,0,none⟩),.pointer (some ⟨bh,0,none⟩),.pointer (some ⟨bh,0,none⟩),.pointer (some ⟨bh,0,none⟩),.pointer (some ⟨bh,3,none⟩),.slice s.As n s.cs,.agg #[.int .i64 (k:Int),.int .i64 x.s.all,.int .i64 x.s.non,.slice A7 x.s.acts.length c7],.slice (some ⟨w8.heap.size,0,none⟩) 1 1,undef,.pointer (some ⟨bh,0,none⟩),.pointer (some ⟨bh,0,none⟩),.pointer (some ⟨bh,3,none⟩),undef]) (fun l vs w'=>∃ (A3:Option Addr) (c3:Nat),J12 w0 w8.heap.size g6 bh [.int .i64 (k:Int),.int .i64 x.s.all,.int .i64 x.s.non,.slice A7 x.s.acts.length c7] (.slice s.A s.l.length s.c) (.slice s.Ag s.gens.length s.cg) (.slice s.Am s.mods.length s.cm) s.As n s.cs xs (.box w.heap.size 44 [.int .i64 0,.int .i64 0,.int .i64 0,.slice none 0 0,.int .i64 0]::R2) (l 7) (l 8) (l 12) (vs 8) w' A3 c3) ?_ ?_ ?_
   ·exact ⟨none,0,J0.out⟩
   ·intro vs w' l1 hJ hl
    rw [putAll_tab _ _ _ _ [(some 66,.pointer (some ⟨bh,0,none⟩)),(some 67,.pointer (some ⟨bh,0,none⟩)),(some 68,.pointer (some ⟨bh,0,none⟩)),(some 69,.pointer (some ⟨bh,0,none⟩)),(some 70,.pointer (some ⟨bh,3,none⟩)),(some 71,.slice s.As n s.cs),(some 72,.agg #[.int .i64 (k:Int),.int .i64 x.s.all,.int .i64 x.s.non,.slice A7 x.s.acts.length c7]),(some 73,.slice (some ⟨w8.heap.size,0,none⟩) 1 1),(some 74,vs 8),(some 75,.pointer (some ⟨bh,0,none⟩)),(some 76,.pointer (some ⟨bh,0,none⟩)),(some 77,.pointer (some ⟨bh,3,none⟩)),(none,undef)] rfl]
    simp only [putL_eq,putT,List.set_cons_succ,List.set_cons_zero]
    obtain ⟨A3,c3,hJ⟩:=hJ
    have hF:=Lib.hid (hJ.done (hl 7 (by decide)) (hl 8 (by decide)) (hl 12 (by decide)))
    clear hJ hl
    go_wp2_with fail
    go_meet
    exact ⟨A3,c3,hF.out⟩
   ·intro qq op ho l vs act w' hJ hsh hli hd hv hwas K hK
    have hiq:qq<13:=lt_of_some ho
    have s0_:=hwas 0 rfl
    have s6_:=hwas 6 rfl
    simp at s0_ s6_
    match qq,hiq,ho,hli,hK with
    | 0,_,ho,hli,hK=>
     obtain rfl:=sj ho
     obtain ⟨A3,c3,hJ⟩:=hJ
     clear hv hwas
     go_simp
     exact hK _ _ (fun _=>rfl) ⟨A3,c3,hJ⟩
    | 1,_,ho,hli,hK=>
     obtain rfl:=sj ho
     obtain ⟨A3,c3,hJ⟩:=hJ
     clear hv hwas
     go_simp
     exact hK _ _ (fun _=>rfl) ⟨A3,c3,hJ⟩
    | 2,_,ho,hli,hK=>
     obtain rfl:=sj ho
     have x67:act.tmps[67]?.getD undef=.pointer (some ⟨bh,0,none⟩):=hv 1 67 rfl (rb hd rfl)
     obtain ⟨A3,c3,hJ⟩:=hJ
     clear hv hwas
     go_simp
     exact hK _ _ (fun _=>rfl) ⟨A3,c3,hJ⟩
    | 3,_,ho,hli,hK=>
     obtain rfl:=sj ho
     have x68:act.tmps[68]?.getD undef=.pointer (some ⟨bh,0,none⟩):=hv 2 68 rfl (rb hd rfl)
     obtain ⟨A3,c3,hJ⟩:=hJ
     clear hv hwas
     go_simp
     exact hK _ _ (fun _=>rfl) ⟨A3,c3,hJ⟩
    | 4,_,ho,hli,hK=>
     obtain rfl:=sj ho
     have x69:act.tmps[69]?.getD undef=.pointer (some ⟨bh,0,none⟩):=hv 3 69 rfl (rb hd rfl)
     obtain ⟨A3,c3,hJ⟩:=hJ
     clear hv hwas
     go_simp
     exact hK _ _ (fun _=>rfl) ⟨A3,c3,hJ⟩
    | 5,_,ho,hli,hK=>
     obtain rfl:=sj ho
     have x70:act.tmps[70]?.getD undef=.pointer (some ⟨bh,3,none⟩):=hv 4 70 rfl (rb hd rfl)
     obtain ⟨A3,c3,hJ⟩:=hJ
     have n8:=hsh.not (i:=8) (j:=5) (by rfl) hli
     have n12:=hsh.not (i:=12) (j:=8) (by rfl) n8
     have g0:=hJ.sys n12
     clear hv hwas
     go_simp
     exact hK _ _ (fun _=>rfl) ⟨A3,c3,hJ⟩
    | 6,_,ho,hli,hK=>
     obtain rfl:=sj ho
     obtain ⟨A3,c3,hJ⟩:=hJ
     have g0:=hJ.xc 0 _ rfl;have g1:=hJ.xc 1 _ rfl;have g2:=hJ.xc 2 _ rfl;have g3:=hJ.xc 3 _ rfl
     clear hv hwas
     go_simp
     exact hK _ _ (fun _=>rfl) ⟨A3,c3,hJ⟩
    | 7,_,ho,hli,hK=>
     obtain rfl:=sj ho
     have x72:act.tmps[72]?.getD undef=.agg #[.int .i64 (k:Int),.int .i64 x.s.all,.int .i64 x.s.non,.slice A7 x.s.acts.length c7]:=hv 6 72 rfl (rb hd rfl)
     obtain ⟨A3,c3,hJ⟩:=hJ
     have n8:=hsh.not (i:=8) (j:=7) (by rfl) hli
     have n12:=hsh.not (i:=12) (j:=8) (by rfl) n8
     have hsz:=hJ.size hli
     have hJ2:=hJ.build hli n8 n12
     clear hv hwas hJ
     go_simp
     exact hK _ _ (fun _=>rfl) ⟨A3,c3,hJ2⟩
    | 8,_,ho,hli,hK=>
     obtain rfl:=sj ho
     have x71:act.tmps[71]?.getD undef=.slice s.As n s.cs:=hv 5 71 rfl (rb hd rfl)
     have x73:act.tmps[73]?.getD undef=.slice (some ⟨w8.heap.size,0,none⟩) 1 1:=hv 7 73 rfl (rb hd rfl)
     obtain ⟨A3,c3,hJ⟩:=hJ
     have l7:l 7=true:=by simp [Region.binds] at hd;simp [hd]
     have n12:=hsh.not (i:=12) (j:=8) (by rfl) hli
     have H:=hJ.at8 l7 hli n12
     obtain ⟨i0',hi0,hz0a,hz0b,hz0c⟩:=info_parts infoSys'
     have hH:=Lib.hid H
     have hq13:=hq12.out
     clear hv hwas hJ H
     refine oper_append_own (.tmp 71) (.tmp 73) 28 rfl w0.heap.size 51 i0' (.agg #[.int .i64 0,.int .i64 0,.int .i64 0,.slice none 0 0]) 4 48 Tryz.underlying28 hi0 hz0a hz0b hz0c rfl (by decide) _ n xs (eval_tmp x71) (hH.out.owns 3 rfl) ⟨w8.heap.size,0,none⟩ 1 1 [.int .i64 (k:Int),.int .i64 x.s.all,.int .i64 x.s.non,.slice A7 x.s.acts.length c7] (eval_tmp x73) rfl ?c1 ?c2 ?c3 ?c4 ?c5 ?_
     rotate_left 5
     ·intro v' w9 hown9 hgrow9 hat9
      obtain ⟨A4,c4,rfl,_,_⟩:=own_shape hown9
      exact hK _ _ (fun h=>by cases h) ⟨A4,c4,J12.app l7 n12 hH.out hown9 hgrow9 hat9⟩
     case c1=>exact news_blk (hH.out.blk 0 rfl)
     case c2=>simp [Value.oneCell']
     case c3=>unfold maxLen;omega
     case c4=>omega
     case c5=>exact hH.out.bel.size
    | 9,_,ho,hli,hK=>
     obtain rfl:=sj ho
     have x66:act.tmps[66]?.getD undef=.pointer (some ⟨bh,0,none⟩):=hv 0 66 rfl (rb hd rfl)
     obtain ⟨A3,c3,hJ⟩:=hJ
     clear hv hwas
     go_simp
     exact hK _ _ (fun _=>rfl) ⟨A3,c3,hJ⟩
    | 10,_,ho,hli,hK=>
     obtain rfl:=sj ho
     have x75:act.tmps[75]?.getD undef=.pointer (some ⟨bh,0,none⟩):=hv 9 75 rfl (rb hd rfl)
     obtain ⟨A3,c3,hJ⟩:=hJ
     clear hv hwas
     go_simp
     exact hK _ _ (fun _=>rfl) ⟨A3,c3,hJ⟩
    | 11,_,ho,hli,hK=>
     obtain rfl:=sj ho
     have x76:act.tmps[76]?.getD undef=.pointer (some ⟨bh,0,none⟩):=hv 10 76 rfl (rb hd rfl)
     obtain ⟨A3,c3,hJ⟩:=hJ
     clear hv hwas
     go_simp
     exact hK _ _ (fun _=>rfl) ⟨A3,c3,hJ⟩
    | 12,_,ho,hli,hK=>
     obtain rfl:=sj ho
     have x74:act.tmps[74]?.getD undef=vs 8:=hv 8 74 rfl (rb hd rfl)
     have x77:act.tmps[77]?.getD undef=.pointer (some ⟨bh,3,none⟩):=hv 11 77 rfl (rb hd rfl)
     obtain ⟨A3,c3,hJ⟩:=hJ
     have l8:l 8=true:=by simp [Region.binds] at hd;simp [hd]
     have l7:l 7=true:=hsh 8 7 (by rfl) l8
     obtain ⟨hv8,y3,z3,hQ⟩:=hJ.st12 l7 l8 hli
     rw [hv8] at x74
     clear hv hwas hJ
     go_simp
     exact hK _ _ (fun _=>rfl) ⟨A3,c3,hQ⟩
  case rest=>
  obtain ⟨A3,c3,H5⟩:=hcut
  have g0:=H5.cell 0 3 rfl rfl
  have hlt:=H5.lt 0 rfl
  have z0:=H5.frozen 2 0 rfl;have z1:=H5.frozen 2 1 rfl;have z2:=H5.frozen 2 2 rfl;have z3:=H5.frozen 2 3 rfl;have z4:=H5.frozen 2 4 rfl
  have d0:=H5.cell 2 0 rfl rfl;have d1:=H5.cell 2 1 rfl rfl;have d2:=H5.cell 2 2 rfl rfl;have d3:=H5.cell 2 3 rfl rfl;have d4:=H5.cell 2 4 rfl rfl
  have H6:=((((H5.set 2 0 (.int .i64 0) rfl).set 2 1 (.int .i64 0) rfl).set 2 2 (.int .i64 0) rfl).set 2 3 (.slice none 0 0) rfl).set 2 4 (.int .i64 ((n:Int)+1)) rfl
  have r0:=H6.cell 2 0 rfl rfl;have r1:=H6.cell 2 1 rfl rfl;have r2:=H6.cell 2 2 rfl rfl;have r3:=H6.cell 2 3 rfl rfl;have r4:=H6.cell 2 4 rfl rfl
  have hH6:=Lib.hid H6
  clear H5 H6 J0
  go_wp2_with fail
  refine bodyPost_ret (v:=ansVal 0 0 0 none 0 0 ((n:Int)+1)) (by simp [results,Tryz.results60,go_sem,r0,r1,r2,r3,r4,ansVal]) rfl ⟨{ s with As:=A3,cs:=c3,sys:=s.sys++[⟨x.s,A7,c7⟩] },by rw [hE.out,hn.out];rfl,?_,?_⟩
  ·rw [hE.out]
   exact ⟨his.mods,by show sysOf (s.sys++[⟨x.s,A7,c7⟩])=h.syss++[x.s];rw [← his.sys];unfold sysOf;simp,his.tabs,his.gens⟩
  ·have H7:=hH6.out
   rw [hR2.out,hR.out,hxs.out] at H7
   have hnn1:=hnn.out
   clear r0 r1 r2 r3 r4 z0 z1 z2 z3 z4 d0 d1 d2 d3 d4 hH6
   subst hnn1
   exact hsys_close (x:=x.s) hk H7
open Go.RowKit
open Brood
theorem bwrong_any (l:List SysIn) (A:Option Addr) (c:Nat) (w:World) (hA:RdS w w.heap.size A l) :
  Calls Tryz.prog 125 #[.slice A l.length c] w fun e w'=>
   e=.returned (.agg #[.int .i64 (batchWrong (sysOf l)).1,.int .i64 (batchWrong (sysOf l)).2])∧Below w.heap.size w w':=by
 by_cases hlen:12<l.length
 ·have hr:Hid (batchWrong (sysOf l)=(4,0)):=Lib.hid (by simp [batchWrong,sysOf_length,hlen])
  go_enter Tryz.func125,Tryz.ntmps125
  go_wp2_with fail
  refine bodyPost_ret (v:=.agg #[.int .i64 4,.int .i64 0]) (by simp [results,Tryz.results125,go_sem]) rfl ⟨by rw [hr.out],?_⟩
  exact (Below.refl _ _).alloc (Nat.le_refl _) _
 ·have hr:Hid (batchWrong (sysOf l)=wrongsFrom 0 (sysOf l)):=Lib.hid (by simp [batchWrong,sysOf_length,hlen])
  go_enter Tryz.func125,Tryz.ntmps125
  go_wp2_with fail
  go_loopw [12] (fun i wr=>∃ k:Nat,k≤l.length∧i=.int .i64 k∧Hid (wrongsFrom 0 (sysOf l)=wrongsFrom k ((sysOf l).drop k))∧Below w.heap.size w wr∧RdS wr w.heap.size A l ∧
   Blk wr w.heap.size 34 #[.int .i64 0,.int .i64 0]) (fun i _=>l.length-(intOf i).toNat)
  case atStart=>exact ⟨0,Nat.zero_le _,rfl,Lib.hid (by simp),(Below.refl _ _).alloc (Nat.le_refl _) _,hA.alloc (Nat.le_refl _) _,Blk.new _ _ _⟩
  case round=>
   clear hA
   obtain ⟨k,hk,rfl,heq,hbel,hA,HF⟩:=hrel
   have f0:=HF.cell 0;have f1:=HF.cell 1;have z0:=HF.frozen 0;have z1:=HF.frozen 1
   simp at f0 f1
   have s1:=HF.lt
   have hbs:=hbel.size
   by_cases hlt:k<l.length
   ·obtain ⟨b,off,rfl,hb,hc0,hc1,hc2,hc3⟩:=hA.at_ hlt
    have hact:=hA.acts l[k] (List.getElem_mem hlt)
    have hst:=Lib.hid (sysOf_drop hlt)
    generalize l[k]=x at *
    obtain ⟨s,sA,sc⟩:=x
    simp only at hc0 hc1 hc2 hc3 hact hst
    have i0:(0:Int)≤(k:Int):=by omega
    have i1:(k:Int)<(l.length:Int):=by omega
    go_wp2_with fail
    refine (wrong_any s sA sc _ (Rd.more (Rd.alloc hact hbs _) (by simp;omega))).mono ?_
    rintro e w1 ⟨rfl,hb1⟩
    have HF1:=(HF.alloc (.cells #[.int .i64 s.mod,.int .i64 s.all,.int .i64 s.non,.slice sA s.acts.length sc] 51)).below hb1 (by simp;omega)
    have hA1:=(hA.alloc hbs (.cells #[.int .i64 s.mod,.int .i64 s.all,.int .i64 s.non,.slice sA s.acts.length sc] 51)).under hb1 (by simp;omega)
    have hbel1:=(hbel.alloc hbs (.cells #[.int .i64 s.mod,.int .i64 s.all,.int .i64 s.non,.slice sA s.acts.length sc] 51)).trans (hb1.mono (by simp;omega))
    clear hb1 hc0 hc1 hc2 hc3 f0 f1 z0 z1 hact HF hA hbel
    have f0:=HF1.cell 0;have f1:=HF1.cell 1;have z0:=HF1.frozen 0;have z1:=HF1.frozen 1
    simp at f0 f1
    have s2:=HF1.lt
    cases hx:(decide ((sysWrong s).1=0)) with
    | false=>
     have hx1:=of_decide_eq_false hx
     have hx':((sysWrong s).1 != 0)=true:=by simpa using hx1
     have hx2:=Lib.hid hx1
     clear hx hx1
     have HR:=((HF1.set_ 0 (.int .i64 (sysWrong s).1)).set_ 1 (.int .i64 (k:Int))).alloc (.cells #[.int .i64 (sysWrong s).1,.int .i64 (sysWrong s).2] 34)
     have r0:=HR.cell 0;have r1:=HR.cell 1
     simp at r0 r1
     go_wp2_with fail
     refine bodyPost_ret (v:=.agg #[.int .i64 (sysWrong s).1,.int .i64 (k:Int)]) (by simp [results,r0,r1,Tryz.results125,go_sem,f0,f1,z0,z1]) rfl ⟨?_,?_⟩
     ·rw [hr.out,heq.out,hst.out,wrongsFrom,if_pos hx2.out]
     ·exact ((hbel1.setCell (by simp) _).setCell (by simp) _).alloc (by simp;omega) _
    | true=>
     have hx1:=of_decide_eq_true hx
     have hx':((sysWrong s).1 != 0)=false:=by simpa using hx1
     have hnext:Hid (wrongsFrom 0 (sysOf l)=wrongsFrom (k+1) ((sysOf l).drop (k+1))):=Lib.hid (by rw [heq.out,hst.out,wrongsFrom,if_neg (by simpa using hx1)])
     clear hx hx1
     go_wp2_with fail
     go_roundw
     case rel=>exact ⟨k+1,by omega,by go_num,hnext,hbel1.alloc (by omega) _,hA1.alloc (by omega) _,HF1.alloc _⟩
     case measure=>simp [intOf];omega
   ·obtain rfl:k=l.length:=by omega
    go_wp2_with fail
    refine bodyPost_ret (v:=.agg #[.int .i64 0,.int .i64 0]) (by simp [results,Tryz.results125,go_sem,f0,f1,z0,z1]) rfl ⟨?_,?_⟩
    ·rw [hr.out,heq.out,← sysOf_length,List.drop_length];rfl
    ·exact (hbel.setCell (by simp) _).setCell (by simp) _
open Go.RowKit
open Brood
structure CapSt (w:World) (b1 b2 B:Nat) (A:Option Addr) (c:Nat) (l:List SysIn) (x:SysIn):Prop where
 box:Blk w b1 28 #[.slice A l.length c]
 one:Blk w b2 51 #[.int .i64 x.s.mod,.int .i64 x.s.all,.int .i64 x.s.non,.slice x.A x.s.acts.length x.c]
 rd:RdS w B A l
 low:B≤w.heap.size
 acts:RdAB w B x.A x.s.acts
theorem CapSt.below {w w':World} {b1 b2 B:Nat} {A:Option Addr} {c:Nat} {l:List SysIn} {x:SysIn} (h:CapSt w b1 b2 B A c l x) (hb:Below w.heap.size w w'):CapSt w' b1 b2 B A c l x:=
 ⟨h.box.below hb h.box.lt,h.one.below hb h.one.lt,h.rd.under hb h.low,Nat.le_trans h.low hb.size,Rd.under h.acts hb h.low⟩
theorem make1_any (l:List SysIn) (x:SysIn) (hl:∀ y∈l,Right y.s) (hx:Right x.s) (A:Option Addr) (c b1 b2 B:Nat) (w:World) (h:CapSt w b1 b2 B A c l x) (j:Nat) (hj:j<l.length) :
  Calls Tryz.prog 126 #[.int .i64 (j:Int),.pointer (some ⟨b1,0,none⟩),.pointer (some ⟨b2,0,none⟩)] w fun e w'=>e=.returned (.bool (clash l[j].s x.s))∧Below w.heap.size w w':=by
 obtain ⟨b,off,rfl,hb,hc0,hc1,hc2,hc3⟩:=h.rd.at_ hj
 have hr:=hl l[j] (List.getElem_mem hj)
 have hacts:=h.rd.acts l[j] (List.getElem_mem hj)
 generalize l[j]=y at *
 obtain ⟨s,sA,sc⟩:=y
 obtain ⟨t,tA,tc⟩:=x
 obtain ⟨hbox,hone,hrd,hlow,hxa⟩:=h
 simp only at *
 go_enter Tryz.func126,Tryz.ntmps126
 go_upto_region 1 with fail
 refine wp_region_fixed mixed (by kernel_rfl) (by kernel_rfl) (tab [.slice (some ⟨b,off,none⟩) l.length c,.int .i64 (j:Int),.pointer (some ⟨b,off+j*4,none⟩),.agg #[.int .i64 s.mod,.int .i64 s.all,.int .i64 s.non,.slice sA s.acts.length sc],
  .agg #[.int .i64 t.mod,.int .i64 t.all,.int .i64 t.non,.slice tA t.acts.length tc],.bool (clash s t),.bool (clash s t)]) ?_ ?_
 ·intro w' hb'
  simp only [putAll,tab_zero,tab_succ]
  go_wp2_with fail
  go_ret
  exact ⟨rfl,hb'⟩
 ·intro i o ho act w' hb' hv hwas K hK
  have e0:=hwas 0 rfl;have e1:=hwas 1 rfl;have e2:=hwas 2 rfl
  simp at e0 e1 e2
  have k0:=(hbox.below hb' hbox.lt).cell 0
  have hone':=hone.below hb' hone.lt
  have o0:=hone'.cell 0;have o1:=hone'.cell 1;have o2:=hone'.cell 2;have o3:=hone'.cell 3
  simp at k0 o0 o1 o2 o3
  replace hc0:=(hb'.cell (p:=⟨b,off+j*4,none⟩) (by simp only;omega)).trans hc0
  replace hc1:=(hb'.cell (p:=⟨b,off+j*4+1,none⟩) (by simp only;omega)).trans hc1
  replace hc2:=(hb'.cell (p:=⟨b,off+j*4+2,none⟩) (by simp only;omega)).trans hc2
  replace hc3:=(hb'.cell (p:=⟨b,off+j*4+3,none⟩) (by simp only;omega)).trans hc3
  have i0:(0:Int)≤(j:Int):=by omega
  have i1:(j:Int)<(l.length:Int):=by omega
  have hi:i<7:=lt_of_some ho
  match i,hi,ho with
  | 0,_,ho=>
   obtain rfl:=sj ho
   clear hv hwas
   go_simp
   exact hK _ hb'
  | 1,_,ho=>
   obtain rfl:=sj ho
   clear hv hwas
   go_simp
   exact hK _ hb'
  | 2,_,ho=>
   obtain rfl:=sj ho
   have v0:act.tmps[5]?.getD undef=.slice (some ⟨b,off,none⟩) l.length c:=hv 0 5 rfl rfl
   have v1:act.tmps[6]?.getD undef=.int .i64 (j:Int):=hv 1 6 rfl rfl
   clear hv hwas
   go_simp
   exact hK _ hb'
  | 3,_,ho=>
   obtain rfl:=sj ho
   have v0:act.tmps[7]?.getD undef=.pointer (some ⟨b,off+j*4,none⟩):=hv 2 7 rfl rfl
   clear hv hwas
   go_simp
   exact hK _ hb'
  | 4,_,ho=>
   obtain rfl:=sj ho
   clear hv hwas
   go_simp
   exact hK _ hb'
  | 5,_,ho=>
   obtain rfl:=sj ho
   have v0:act.tmps[8]?.getD undef=.agg #[.int .i64 s.mod,.int .i64 s.all,.int .i64 s.non,.slice sA s.acts.length sc]:=hv 3 8 rfl rfl
   have v1:act.tmps[9]?.getD undef=.agg #[.int .i64 t.mod,.int .i64 t.all,.int .i64 t.non,.slice tA t.acts.length tc]:=hv 4 9 rfl rfl
   clear hv hwas
   go_simp
   refine (clash_any s t hr hx sA tA sc tc w' (Rd.more (Rd.under hacts hb' hlow) (Nat.le_trans hlow hb'.size)) (Rd.more (Rd.under hxa hb' hlow) (Nat.le_trans hlow hb'.size))).mono ?_
   rintro e w'' ⟨rfl,hb''⟩
   exact hK _ (grow_below hb' hb'')
  | 6,_,ho=>
   obtain rfl:=sj ho
   have v0:act.tmps[10]?.getD undef=.bool (clash s t):=hv 5 10 rfl rfl
   clear hv hwas
   go_simp
   exact hK _ hb'
def natsI (js:List Nat):List Int:=js.map fun (j:Nat)=>(j:Int)
theorem natsI_get {js:List Nat} {k:Nat} (hk:k<js.length):(natsI js)[k]'(by simpa [natsI] using hk)=(js[k]:Int):=by simp [natsI]
theorem natsI_length (js:List Nat):(natsI js).length=js.length:=by simp [natsI]
def anyClash (l:List SysIn) (x:SysIn) (js:List Nat):Bool:=js.any fun j=>match l[j]? with | some y=>clash y.s x.s | none=>false
def capV (b1 b2:Nat):Value:=.func (.func 126) #[] #[.pointer (some ⟨b1,0,none⟩),.pointer (some ⟨b2,0,none⟩)]
theorem index_any (l:List SysIn) (x:SysIn) (hl:∀ y∈l,Right y.s) (hx:Right x.s) (A:Option Addr) (c b1 b2 B:Nat) (w:World) (h:CapSt w b1 b2 B A c l x) (js:List Nat) (hjs:∀ j∈js,j<l.length) (hlen:js.length≤1000) (A':Option Addr) (c':Nat) (hA:RdI w A' (natsI js)) :
  Calls Tryz.prog 108 #[.slice A' js.length c',capV b1 b2] w fun e w'=>(∃ z:Int,e=.returned (.int .i64 z)∧(0≤z↔anyClash l x js=true))∧Below w.heap.size w w':=by
 unfold capV
 go_enter Tryz.func108,Tryz.ntmps108
 go_wp2_with fail
 go_loopw [8] (fun i wr=>∃ k:Nat,k≤js.length∧i=.int .i64 k∧Hid (anyClash l x js=anyClash l x (js.drop k))∧Below w.heap.size w wr) (fun i _=>js.length-(intOf i).toNat)
 case atStart=>exact ⟨0,by omega,rfl,Lib.hid (by simp),Below.refl _ _⟩
 case round=>
  obtain ⟨k,hk,rfl,hany,hbel⟩:=hrel
  by_cases hlt:k<js.length
  ·have hA1:RdI wr A' (natsI js):=hA.grow hbel
   obtain ⟨b,off,rfl,hb,hc⟩:=hA1.at_ (k:=k) (by rw [natsI_length];exact hlt)
   rw [natsI_get hlt] at hc
   have hj:=hjs js[k] (List.getElem_mem hlt)
   have hst:Hid (anyClash l x (js.drop k)=(clash l[js[k]].s x.s || anyClash l x (js.drop (k+1)))):=Lib.hid (by rw [drop_cons hlt,anyClash,List.any_cons,List.getElem?_eq_getElem hj];rfl)
   have hcall:=make1_any l x hl hx A c b1 b2 B wr (h.below hbel) js[k] hj
   generalize js[k]=j at *
   have i0:(0:Int)≤(k:Int):=by omega
   have i1:(k:Int)<(js.length:Int):=by omega
   go_wp2_with fail
   refine hcall.mono ?_
   rintro e w1 ⟨rfl,hb1⟩
   have hcl:l[j]'hj=l[j]:=rfl
   cases hq:clash l[j].s x.s
   case true=>
    have hyes:Hid (anyClash l x js=true):=Lib.hid (by rw [hany.out,hst.out,hq];rfl)
    go_wp2_with fail
    go_ret
    exact ⟨⟨_,rfl,by rw [hyes.out];simp⟩,grow_below hbel hb1⟩
   case false=>
    have hnext:Hid (anyClash l x js=anyClash l x (js.drop (k+1))):=Lib.hid (by rw [hany.out,hst.out,hq];rfl)
    go_wp2_with fail
    go_roundw
    case rel=>exact ⟨k+1,by omega,by go_num,hnext,grow_below hbel hb1⟩
    case measure=>simp [intOf];omega
  ·obtain rfl:k=js.length:=by omega
   have hno:Hid (anyClash l x js=false):=Lib.hid (by rw [hany.out];simp [anyClash])
   go_wp2_with fail
   go_ret
   exact ⟨⟨_,rfl,by rw [hno.out];decide⟩,hbel⟩
theorem contains_any (l:List SysIn) (x:SysIn) (hl:∀ y∈l,Right y.s) (hx:Right x.s) (A:Option Addr) (c b1 b2 B:Nat) (w:World) (h:CapSt w b1 b2 B A c l x) (js:List Nat) (hjs:∀ j∈js,j<l.length) (hlen:js.length≤1000) (A':Option Addr) (c':Nat) (hA:RdI w A' (natsI js)) :
  Calls Tryz.prog 77 #[.slice A' js.length c',capV b1 b2] w fun e w'=>e=.returned (.bool (anyClash l x js))∧Below w.heap.size w w':=by
 have hcall:=index_any l x hl hx A c b1 b2 B w h js hjs hlen A' c' hA
 go_enter Tryz.func77,Tryz.ntmps77
 go_wp2_with fail
 refine hcall.mono ?_
 rintro e w1 ⟨⟨z,rfl,hz⟩,hb1⟩
 by_cases h0:0≤z
 ·have he:=hz.1 h0
  go_wp2_with fail
  go_ret
  exact ⟨ret_bool he.symm,hb1⟩
 ·have he:anyClash l x js=false:=by
   cases q:anyClash l x js
   ·rfl
   ·exact absurd (hz.2 q) h0
  go_wp2_with fail
  go_ret
  exact ⟨ret_bool he.symm,hb1⟩
end Go.Proofs.YtefdblaolmckmacGreat
