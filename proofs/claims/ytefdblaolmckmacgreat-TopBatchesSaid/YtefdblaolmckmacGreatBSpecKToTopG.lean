/- What the house answers, over whatever numbers: who has a speed moves; who may not read learns nothing; all age, and go. The walk of TopAges. -/
import Derived.Test.YtefdblaolmckmacGreatBSpecIToTopC
set_option linter.unusedVariables false
set_option linter.unusedSimpArgs false
namespace Go.Proofs.YtefdblaolmckmacGreat
open Brood
theorem doAll_append:∀ (l m:List BDo) (h:BHouse),(doAll h (l++m)).1=(doAll (doAll h l).1 m).1∧(doAll h (l++m)).2=(doAll h l).2++(doAll (doAll h l).1 m).2
 | [],m,h=>⟨rfl,rfl⟩
 | d::l,m,h=>by
  have ih:=doAll_append l m (doV h d).1
  exact ⟨ih.1,congrArg (fun x=>(doV h d).2::x) ih.2⟩
theorem doAll_add {l m:List BDo} {h h' h'':BHouse} {a b:List BAns} (e1:doAll h l=(h',a)) (e2:doAll h' m=(h'',b)):doAll h (l++m)=(h'',a++b):=by
 have h1:=doAll_append l m h
 rw [e1] at h1
 dsimp only at h1
 rw [e2] at h1
 exact Prod.ext h1.1 h1.2
theorem doAll_one {h h':BHouse} {d:BDo} {a:BAns} (e:doV h d=(h',a)):doAll h [d]=(h',[a]):=by
 show ((doAll (doV h d).1 []).1,(doV h d).2::(doAll (doV h d).1 []).2)=_
 rw [e];rfl
theorem tick_one {ms:List BMod} {x:BSys} {W:BWorld} (hw:RightB W) (hx:(sysWrong x).1=0) (hl:(needs x).life=false) (hT:tickL ⟨ms,[x],W⟩=[x]) (hm:(makeRows [x]).length=1) :
  RightB ⟨W.rows.map (rowAct x),W.gens⟩∧tickV ⟨ms,[x],W⟩=(⟨ms,[x],⟨W.rows.map (rowAct x),W.gens⟩⟩,ansN 1):=by
 obtain ⟨h1,h2⟩:=run_rows hw hx hl
 refine ⟨h1,?_⟩
 have e:allM 0 W [x]=(⟨W.rows.map (rowAct x),W.gens⟩,(0,0)):=by
  rw [allM,if_neg (by rw [h2];simp),h2]
  rfl
 unfold tickV
 dsimp only
 rw [hT,e,if_neg (by simp),hm]
 rfl
def rowsN (x:BSys):Nat→List BRow→List BRow
 | 0,l=>l
 | n+1,l=>rowsN x n (l.map (rowAct x))
theorem tick_doV (h:BHouse):doV h tickD=tickV h:=rfl
theorem ticks_one {ms:List BMod} {x:BSys} (hx:(sysWrong x).1=0) (hl:(needs x).life=false) (hT:∀ W,tickL ⟨ms,[x],W⟩=[x]) (hm:(makeRows [x]).length=1):∀ (t:Nat) {W:BWorld},RightB W →
  RightB ⟨rowsN x t W.rows,W.gens⟩∧doAll ⟨ms,[x],W⟩ (List.replicate t tickD)=(⟨ms,[x],⟨rowsN x t W.rows,W.gens⟩⟩,List.replicate t (ansN 1))
 | 0,W,hw=>⟨hw,rfl⟩
 | t+1,W,hw=>by
  obtain ⟨h1,h2⟩:=tick_one (ms:=ms) hw hx hl (hT W) hm
  obtain ⟨h3,h4⟩:=ticks_one hx hl hT hm t h1
  refine ⟨h3,?_⟩
  rw [List.replicate_succ,List.replicate_succ]
  show ((doAll (doV _ tickD).1 _).1,(doV _ tickD).2::(doAll (doV _ tickD).1 _).2)=_
  rw [tick_doV,h2]
  dsimp only
  rw [h4]
  rfl
theorem clip_in {z:Int} (h:-1000000≤z∧z≤1000000):clip z=z:=by
 unfold clip
 rw [if_neg (by omega),if_neg (by omega)]
theorem spawn_do {ms:List BMod} {ss:List BSys} {W:BWorld} {has n i g:Int} (hw:RightB W) (hs:isSet has=true) (hv:isVal n=true) (hn:nextV W.rows W.gens=(i,g,0)) :
  RightB ⟨insRow W.rows (posOf i W.rows) (newRow i g has n),gensPut W.gens i g⟩∧doV ⟨ms,ss,W⟩ (spawnD has n)=(⟨ms,ss,⟨insRow W.rows (posOf i W.rows) (newRow i g has n),gensPut W.gens i g⟩⟩,⟨0,i,g,[],0⟩):=by
 have e:spawnV W.rows W.gens has n=⟨insRow W.rows (posOf i W.rows) (newRow i g has n),gensPut W.gens i g,i,g,0⟩:=by
  unfold spawnV
  rw [if_neg (by simpa using (right_iff W.rows W.gens).2 hw),if_neg (by rw [hs,hv];simp),hn,if_neg (by simp)]
 refine ⟨?_,?_⟩
 ·have:=(spawn_ok (rows:=W.rows) (gens:=W.gens) (has:=has) (n:=n) (by rw [e])).is
  rw [e] at this
  exact this
 ·show (setW ⟨ms,ss,W⟩ ⟨(spawnV W.rows W.gens has n).rows,(spawnV W.rows W.gens has n).gens,(spawnV W.rows W.gens has n).err⟩,(⟨(spawnV W.rows W.gens has n).err,(spawnV W.rows W.gens has n).i,(spawnV W.rows W.gens has n).g,[],0⟩:BAns))=_
  rw [e]
  rfl
theorem row_eq {r s:BRow} (h1:r.idx=s.idx) (h2:r.gen=s.gen) (h3:r.has=s.has) (h4:r.vals=s.vals):r=s:=by
 cases r;cases s;simp_all
def okRow (i g has:Int) (a b c:Int):BRow:=⟨i,g,has,[a,b,c,0,0,0,0,0],rfl⟩
def putD (i g part n:Int):BDo:=⟨3,0,part,n,i,g,⟨0,0,0,[]⟩,0,0⟩
def mvS:BSys:=⟨0,3,0,[⟨3,0,1,0⟩]⟩
def moveL (a v:Int) (t:Nat):List BDo:=[spawnD 1 a,spawnD 1 a,putD 0 1 1 v,sysD 3 [⟨3,0,1,0⟩]]++List.replicate t tickD
theorem mv_row {a v:Int} (h:-1000000≤a+v∧a+v≤1000000):rowAct mvS (okRow 0 1 3 a v 0)=okRow 0 1 3 (a+v) v 0:=by
 unfold rowAct
 rw [if_pos (by show meetsB 3 0 3=true;decide)]
 show (putF 0 (clip (a+v)) (okRow 0 1 3 a v 0)).1=_
 rw [clip_in h]
 unfold putF
 rw [if_pos (by rw [show isVal (a+v)=true from isVal_iff.2 h];rfl)]
 exact row_eq rfl rfl (show withS 3 0=3 by decide) rfl
theorem mv_still (a:Int):rowAct mvS (okRow 1 1 1 a 0 0)=okRow 1 1 1 a 0 0:=by
 unfold rowAct
 exact if_neg (show ¬ meetsB 3 0 1=true by decide)
theorem mv_rows (b v:Int) (hv:-1000≤v∧v≤1000) (t:Nat):∀ a:Int,t≤30→(-40000+(t:Int)*1000≤a∧a≤40000-(t:Int)*1000)→rowsN mvS t [okRow 0 1 3 a v 0,okRow 1 1 1 b 0 0]=[okRow 0 1 3 (a+(t:Int)*v) v 0,okRow 1 1 1 b 0 0]:=by
 induction t with
 | zero=>intro a _ _;show [okRow 0 1 3 a v 0,okRow 1 1 1 b 0 0]=_;simp
 | succ t ih=>
  intro a ht ha
  have e1:[okRow 0 1 3 a v 0,okRow 1 1 1 b 0 0].map (rowAct mvS)=[okRow 0 1 3 (a+v) v 0,okRow 1 1 1 b 0 0]:=by
   rw [List.map_cons,List.map_cons,List.map_nil,mv_row (by omega),mv_still]
  have e2:rowsN mvS (t+1) [okRow 0 1 3 a v 0,okRow 1 1 1 b 0 0]=rowsN mvS t ([okRow 0 1 3 a v 0,okRow 1 1 1 b 0 0].map (rowAct mvS)):=rfl
  rw [e2,e1,ih (a+v) (by omega) (by omega)]
  rw [show a+v+(t:Int)*v=a+((t+1:Nat):Int)*v by rw [Int.natCast_add,Int.add_mul];omega]
theorem new_one (i g n:Int):newRow i g 1 n=okRow i g 1 n 0 0:=row_eq rfl rfl rfl (by kernel_rfl)
set_option maxHeartbeats 1600000 in
theorem mv_start {a v:Int} (ha:-1000≤a∧a≤1000) (hv:-1000≤v∧v≤1000) :
  RightB ⟨[okRow 0 1 3 a v 0,okRow 1 1 1 a 0 0],[1,1]⟩∧∃ al:List BAns,al.length=4∧doAll (house0 allMods) [spawnD 1 a,spawnD 1 a,putD 0 1 1 v,sysD 3 [⟨3,0,1,0⟩]]=(⟨allMods,[mvS],⟨[okRow 0 1 3 a v 0,okRow 1 1 1 a 0 0],[1,1]⟩⟩,al):=by
 have hva:isVal a=true:=isVal_iff.2 (by omega)
 have hvv:isVal v=true:=isVal_iff.2 (by omega)
 obtain ⟨r1,e1⟩:=spawn_do (ms:=allMods) (ss:=[]) right_nil (show isSet 1=true by decide) hva (show nextV [] []=(0,1,0) by decide)
 rw [new_one] at r1 e1
 replace r1:RightB ⟨[okRow 0 1 1 a 0 0],[1]⟩:=r1
 replace e1:doV (house0 allMods) (spawnD 1 a)=(⟨allMods,[],⟨[okRow 0 1 1 a 0 0],[1]⟩⟩,⟨0,0,1,[],0⟩):=e1
 obtain ⟨r2,e2⟩:=spawn_do (ms:=allMods) (ss:=[]) r1 (show isSet 1=true by decide) hva (show nextV [okRow 0 1 1 a 0 0] [1]=(1,1,0) by rfl)
 rw [new_one] at r2 e2
 replace r2:RightB ⟨[okRow 0 1 1 a 0 0,okRow 1 1 1 a 0 0],[1,1]⟩:=r2
 replace e2:doV ⟨allMods,[],⟨[okRow 0 1 1 a 0 0],[1]⟩⟩ (spawnD 1 a)=(⟨allMods,[],⟨[okRow 0 1 1 a 0 0,okRow 1 1 1 a 0 0],[1,1]⟩⟩,⟨0,1,1,[],0⟩):=e2
 have hp:(putF 1 v (okRow 0 1 1 a 0 0))=(okRow 0 1 3 a v 0,0):=by
  unfold putF
  rw [if_pos (by rw [hvv];rfl)]
  exact Prod.ext (row_eq rfl rfl (show withS 1 1=3 by decide) rfl) rfl
 have ep:putV [okRow 0 1 1 a 0 0,okRow 1 1 1 a 0 0] [1,1] 0 1 1 v=⟨[okRow 0 1 3 a v 0,okRow 1 1 1 a 0 0],[1,1],0⟩:=by
  unfold putV
  rw [change_mk (putF 1 v) r2 (k:=0) (r:=okRow 0 1 1 a 0 0) rfl rfl,hp,if_neg (by simp)]
  rfl
 have r3:RightB ⟨[okRow 0 1 3 a v 0,okRow 1 1 1 a 0 0],[1,1]⟩:=by
  have:=(done_ok (rows:=[okRow 0 1 1 a 0 0,okRow 1 1 1 a 0 0]) (gens:=[1,1]) (i:=0) (g:=1) (has:=0) (part:=1) (n:=v) 2 (by show (putV _ _ _ _ _ _).err=0;rw [ep])).is
  have e:doneV [okRow 0 1 1 a 0 0,okRow 1 1 1 a 0 0] [1,1] 0 1 0 1 v 2=⟨[okRow 0 1 3 a v 0,okRow 1 1 1 a 0 0],[1,1],0⟩:=ep
  rw [e] at this
  exact this
 have e3:doV ⟨allMods,[],⟨[okRow 0 1 1 a 0 0,okRow 1 1 1 a 0 0],[1,1]⟩⟩ (putD 0 1 1 v)=(⟨allMods,[],⟨[okRow 0 1 3 a v 0,okRow 1 1 1 a 0 0],[1,1]⟩⟩,ansE 0):=by
  show (setW ⟨allMods,[],⟨[okRow 0 1 1 a 0 0,okRow 1 1 1 a 0 0],[1,1]⟩⟩ (putV [okRow 0 1 1 a 0 0,okRow 1 1 1 a 0 0] [1,1] 0 1 1 v),ansE (putV [okRow 0 1 1 a 0 0,okRow 1 1 1 a 0 0] [1,1] 0 1 1 v).err)=_
  rw [ep]
  rfl
 have e4:∀ W,doV ⟨allMods,[],W⟩ (sysD 3 [⟨3,0,1,0⟩])=(⟨allMods,[mvS],W⟩,ansN 1):=fun W=>by
  show hsysV ⟨allMods,[],W⟩ mvS=_
  unfold hsysV
  rw [if_neg (by decide +kernel),if_neg (by show ¬ ((1:Nat):Int)≤0;decide),if_neg (by show ¬ may (modAt allMods 0) mvS=false;decide +kernel),if_neg (by show ¬ ([]:List BSys).length=12;decide)]
  rfl
 exact ⟨r3,_,rfl,doAll_add (doAll_one e1) (doAll_add (doAll_one e2) (doAll_add (doAll_one e3) (doAll_one (e4 _))))⟩
set_option maxHeartbeats 1600000 in
theorem moves_is {a v:Int} {t:Nat} (ha:-1000≤a∧a≤1000) (hv:-1000≤v∧v≤1000) (ht:t≤30) :
  (playV allMods (moveL a v t)).f=(0,0)∧(playV allMods (moveL a v t)).h=⟨allMods,[mvS],⟨[okRow 0 1 3 (a+(t:Int)*v) v 0,okRow 1 1 1 a 0 0],[1,1]⟩⟩:=by
 obtain ⟨hr,al,_,e1⟩:=mv_start ha hv
 obtain ⟨_,e2⟩:=ticks_one (ms:=allMods) (x:=mvS) (by decide +kernel) (by decide +kernel) (fun W=>rfl) (by decide +kernel) t hr
 dsimp only at e2
 rw [mv_rows a v hv t a ht (by omega)] at e2
 have e:=doAll_add e1 e2
 rw [playV_at (by decide +kernel) (by unfold moveL;rw [List.length_append,List.length_replicate];simp;omega)]
 refine ⟨rfl,?_⟩
 show (doAll (house0 allMods) (moveL a v t)).1=_
 unfold moveL
 rw [e]
def ageS:BSys:=⟨0,4,0,[⟨4,2,0,1⟩]⟩
def goS:BSys:=⟨0,4,0,[⟨6,0,0,0⟩]⟩
def ageRows (n:Nat) (v:Int):List BRow:=(List.range n).map fun (i:Nat)=>okRow (i:Int) 1 4 0 0 v
theorem age_row (i v:Int) (h:0≤v∧v≤1000):rowAct ageS (okRow i 1 4 0 0 v)=okRow i 1 4 0 0 (1+v):=by
 unfold rowAct
 rw [if_pos (by show meetsB 4 0 4=true;decide)]
 show (putF 2 (clip (1+v)) (okRow i 1 4 0 0 v)).1=_
 rw [clip_in (by omega)]
 unfold putF
 rw [if_pos (by rw [show isVal (1+v)=true from isVal_iff.2 (by omega)];rfl)]
 exact row_eq rfl rfl (show withS 4 2=4 by decide) rfl
theorem age_rows (n:Nat):∀ (t:Nat) (v:Int),0≤v→(t:Int)+v≤100→rowsN ageS t (ageRows n v)=ageRows n ((t:Int)+v)
 | 0,v,_,_=>by show ageRows n v=_;simp
 | t+1,v,h0,h=>by
  show rowsN ageS t ((ageRows n v).map (rowAct ageS))=_
  have e:(ageRows n v).map (rowAct ageS)=ageRows n (1+v):=by
   unfold ageRows
   rw [List.map_map]
   exact List.map_congr_left fun i _=>age_row (i:Int) v (by omega)
  rw [e,age_rows n t (1+v) (by omega) (by omega)]
  congr 1
  omega
set_option maxRecDepth 100000 in
theorem age_start:∀ n∈List.range 21,(doAll (house0 allMods) (List.replicate n (spawnD 4 0))).1.W.rows=ageRows n 0:=by decide +kernel
theorem spawns_keep (has v:Int):∀ (n:Nat) (h:BHouse),(doAll h (List.replicate n (spawnD has v))).1.mods=h.mods∧(doAll h (List.replicate n (spawnD has v))).1.syss=h.syss
 | 0,h=>⟨rfl,rfl⟩
 | n+1,h=>by
  rw [List.replicate_succ]
  show (doAll (doV h (spawnD has v)).1 _).1.mods=_∧(doAll (doV h (spawnD has v)).1 _).1.syss=_
  obtain ⟨h1,h2⟩:=spawns_keep has v n (doV h (spawnD has v)).1
  have e:(doV h (spawnD has v)).1=setW h (stepK h (spawnD has v) 0):=rfl
  rw [h1,h2,e]
  unfold setW
  split<;>exact ⟨rfl,rfl⟩
theorem kill_besM:∀ (l:List BRow) (gens:List Int),RightB ⟨l,gens⟩→besM [⟨6,0,0,0⟩] l (⟨l,gens⟩,0)=((⟨[],gens⟩,0),false)
 | [],gens,_=>rfl
 | b::l,gens,hw=>by
  have hk:changeV (b::l) gens b.idx b.gen keepF=⟨b::l,gens,0⟩:=by
   have hb:isB b.idx b.gen b=true:=isB_iff.2 ⟨rfl,rfl⟩
   have hf:findR b.idx b.gen (b::l)=some 0:=by rw [findR,if_pos hb]
   rw [change_mk keepF hw hf (r:=b) rfl]
   rfl
  have hrest:keepR (isB b.idx b.gen) (b::l)=l:=by
   unfold keepR
   rw [List.filter_cons,if_neg (by rw [isB_iff.2 ⟨rfl,rfl⟩];simp)]
   refine List.filter_eq_self.2 fun r hr=>?_
   have:=(rise_cons.1 hw.rise).1 r hr
   rw [isB_false.2 (by omega)]
   rfl
  have e:killV (b::l) gens b.idx b.gen=⟨l,gens,0⟩:=by
   unfold killV
   rw [hk]
   dsimp only
   rw [if_pos rfl,hrest]
  have hw':RightB ⟨l,gens⟩:=by
   have:=(kill_ok (rows:=b::l) (gens:=gens) (i:=b.idx) (g:=b.gen) (by rw [e])).is
   rw [e] at this
   exact this
  have h1:actsM b.idx b.gen [⟨6,0,0,0⟩] (⟨b::l,gens⟩,0)=((⟨l,gens⟩,0),false):=by
   rw [actsM,if_pos rfl]
   unfold oneM keepE stepV
   rw [if_pos rfl]
   dsimp only
   rw [e]
   rfl
  rw [besM,h1,if_neg (by simp)]
  exact kill_besM l gens hw'
theorem kill_all {W:BWorld} (hw:RightB W) (hm:matchV 4 0 W.rows=W.rows):runM W goS=⟨[],W.gens,0⟩:=by
 have h:=kill_besM W.rows W.gens hw
 unfold runM
 have e:besM goS.acts (matchV goS.all goS.non W.rows) (W,0)=((⟨[],W.gens⟩,0),false):=by
  show besM [⟨6,0,0,0⟩] (matchV 4 0 W.rows) (W,0)=_
  rw [hm]
  exact h
 rw [if_neg (by decide +kernel),e]
 rfl
theorem sum_same {part v:Int} {rows:List BRow}:∀ l:List BRow,(∀ b∈l,(getP b.idx b.gen rows part).1=v)→sumV part rows l=(l.length:Int)*v
 | [],_=>by simp [sumV]
 | b::l,h=>by
  rw [sumV,h b (by simp),sum_same l (fun c hc=>h c (List.mem_cons_of_mem _ hc)),List.length_cons,Int.natCast_add,Int.add_mul]
  omega
theorem match_age (n:Nat) (v:Int):matchV 4 0 (ageRows n v)=ageRows n v:=by
 unfold matchV
 refine List.filter_eq_self.2 fun r hr=>?_
 unfold ageRows at hr
 obtain ⟨i,_,rfl⟩:=List.mem_map.1 hr
 show meetsB 4 0 4=true
 decide
theorem ask_age {n:Nat} {v:Int} {ms:List BMod} {ss:List BSys} {gens:List Int} (hw:RightB ⟨ageRows n v,gens⟩):(askV ⟨ms,ss,⟨ageRows n v,gens⟩⟩ (askD 4 2)).n=(n:Int)*v∧(askV ⟨ms,ss,⟨ageRows n v,gens⟩⟩ (askD 4 2)).bs.length=n:=by
 unfold askV
 rw [if_neg (by show ¬ (!isSet 4 || !isSet 0 || !isPart 2)=true;decide)]
 show sumV 2 (ageRows n v) (matchV 4 0 (ageRows n v))=_∧((matchV 4 0 (ageRows n v)).map beOf).length=_
 rw [match_age]
 have hl:(ageRows n v).length=n:=by unfold ageRows;simp
 refine ⟨?_,by rw [List.length_map,hl]⟩
 rw [sum_same (v:=v),hl]
 intro b hb
 have hro:rowOf b.idx b.gen (ageRows n v)=some b:=(rowOf_some_iff hw.rise).2 ⟨hb,rfl,rfl⟩
 rw [getP_val hro (hw.row b hb) (by decide)]
 unfold ageRows at hb
 obtain ⟨i,_,rfl⟩:=List.mem_map.1 hb
 rfl
def agesL (n t:Nat):List BDo:=List.replicate n (spawnD 4 0)++([sysD 4 [⟨4,2,0,1⟩]]++(List.replicate t tickD++[askD 4 2,sysD 4 [⟨6,0,0,0⟩],tickD,askD 0 2]))
theorem ages_is {n t:Nat} (hn:n≤20) (ht:t≤20):(playV allMods (agesL n t)).f=(0,0)∧((playV allMods (agesL n t)).a[n+1+t]?).map (fun a=>(a.n,a.bs.length))=some (((n:Int)*(t:Int)),n) ∧
  ((playV allMods (agesL n t)).a[n+1+t+3]?).map (fun a=>a.bs.length)=some 0:=by
 have hlen:(agesL n t).length≤80:=by unfold agesL;simp;omega
 rw [playV_at (by decide +kernel) hlen]
 obtain ⟨gens,e1⟩:∃ gens,(doAll (house0 allMods) (List.replicate n (spawnD 4 0))).1=⟨allMods,[],⟨ageRows n 0,gens⟩⟩:=by
  obtain ⟨k1,k2⟩:=spawns_keep 4 0 n (house0 allMods)
  have hr:=age_start n (List.mem_range.2 (by omega))
  generalize (doAll (house0 allMods) (List.replicate n (spawnD 4 0))).1=h at *
  obtain ⟨m,s,r,g⟩:=h
  dsimp only at k1 k2 hr
  subst hr
  exact ⟨g,by rw [k1,k2];rfl⟩
 have hH:HouseR allMods ⟨allMods,[],⟨ageRows n 0,gens⟩⟩:=by rw [← e1];exact HouseR.all_ _ (house0_right (by decide +kernel))
 have hw0:RightB ⟨ageRows n 0,gens⟩:=hH.W
 have e2:∀ W,doV ⟨allMods,[],W⟩ (sysD 4 [⟨4,2,0,1⟩])=(⟨allMods,[ageS],W⟩,ansN 1):=fun W=>by
  show hsysV ⟨allMods,[],W⟩ ageS=_
  unfold hsysV
  rw [if_neg (by decide +kernel),if_neg (by show ¬ ((1:Nat):Int)≤0;decide),if_neg (by show ¬ may (modAt allMods 0) ageS=false;decide +kernel),if_neg (by show ¬ ([]:List BSys).length=12;decide)]
  rfl
 obtain ⟨hw1,e3⟩:=ticks_one (ms:=allMods) (x:=ageS) (by decide +kernel) (by decide +kernel) (fun W=>rfl) (by decide +kernel) t hw0
 dsimp only at hw1 e3
 rw [age_rows n t 0 (by omega) (by omega),Int.add_zero] at hw1 e3
 obtain ⟨a1,a2⟩:=ask_age (ms:=allMods) (ss:=[ageS]) hw1
 have e5:∀ W,doV ⟨allMods,[ageS],W⟩ (sysD 4 [⟨6,0,0,0⟩])=(⟨allMods,[ageS,goS],W⟩,ansN 2):=fun W=>by
  show hsysV ⟨allMods,[ageS],W⟩ goS=_
  unfold hsysV
  rw [if_neg (by decide +kernel),if_neg (by show ¬ ((1:Nat):Int)≤0;decide),if_neg (by show ¬ may (modAt allMods 0) goS=false;decide +kernel),if_neg (by show ¬ ([ageS]:List BSys).length=12;decide)]
  rfl
 have e6:∃ a6,doV ⟨allMods,[ageS,goS],⟨ageRows n (t:Int),gens⟩⟩ tickD=(⟨allMods,[ageS,goS],⟨[],gens⟩⟩,a6):=by
  rw [tick_doV]
  obtain ⟨hw2,hr2⟩:=run_rows (x:=ageS) hw1 (by decide +kernel) (by decide +kernel)
  have em:(ageRows n (t:Int)).map (rowAct ageS)=ageRows n (1+(t:Int)):=by
   unfold ageRows
   rw [List.map_map]
   exact List.map_congr_left fun i _=>age_row (i:Int) t (by omega)
  rw [em] at hw2 hr2
  have hT:tickL ⟨allMods,[ageS,goS],⟨ageRows n (t:Int),gens⟩⟩=[ageS,goS]:=rfl
  have hk:=kill_all hw2 (match_age n _)
  have hall:allM 0 ⟨ageRows n (t:Int),gens⟩ [ageS,goS]=(⟨[],gens⟩,(0,0)):=by
   rw [allM,if_neg (by rw [hr2];simp),hr2]
   show allM 1 ⟨ageRows n (1+(t:Int)),gens⟩ [goS]=_
   rw [allM,if_neg (by rw [hk];simp),hk]
   rfl
  unfold tickV
  rw [hT]
  dsimp only
  rw [hall,if_neg (by simp)]
  exact ⟨_,rfl⟩
 obtain ⟨a6,e6⟩:=e6
 have e4:doV ⟨allMods,[ageS],⟨ageRows n (t:Int),gens⟩⟩ (askD 4 2)=(⟨allMods,[ageS],⟨ageRows n (t:Int),gens⟩⟩,askV ⟨allMods,[ageS],⟨ageRows n (t:Int),gens⟩⟩ (askD 4 2)):=rfl
 have e7:doV ⟨allMods,[ageS,goS],⟨[],gens⟩⟩ (askD 0 2)=(⟨allMods,[ageS,goS],⟨[],gens⟩⟩,askV ⟨allMods,[ageS,goS],⟨[],gens⟩⟩ (askD 0 2)):=rfl
 have a7:(askV ⟨allMods,[ageS,goS],⟨[],gens⟩⟩ (askD 0 2)).bs.length=0:=rfl
 have e0:doAll (house0 allMods) (List.replicate n (spawnD 4 0))=(⟨allMods,[],⟨ageRows n 0,gens⟩⟩,(doAll (house0 allMods) (List.replicate n (spawnD 4 0))).2):=Prod.ext e1 rfl
 have hl0:(doAll (house0 allMods) (List.replicate n (spawnD 4 0))).2.length=n:=by rw [doAll_len,List.length_replicate]
 have e:=doAll_add e0 (doAll_add (doAll_one (e2 _)) (doAll_add e3 (doAll_add (doAll_one e4) (doAll_add (doAll_one (e5 _)) (doAll_add (doAll_one e6) (doAll_one e7))))))
 have e':doAll (house0 allMods) (agesL n t)=_:=e
 rw [e']
 generalize (doAll (house0 allMods) (List.replicate n (spawnD 4 0))).2=A0 at *
 subst hl0
 refine ⟨rfl,?_,?_⟩
 ·dsimp only
  rw [show A0.length+1+t=A0.length+(1+t) by omega,List.getElem?_append_right (by omega),show A0.length+(1+t)-A0.length=1+t by omega,List.getElem?_append_right (by simp),show 1+t - [ansN 1].length=t by simp,List.getElem?_append_right (by simp),List.length_replicate,Nat.sub_self]
  show some ((askV _ (askD 4 2)).n,(askV _ (askD 4 2)).bs.length)=_
  rw [a1,a2]
 ·dsimp only
  rw [show A0.length+1+t+3=A0.length+(1+(t+3)) by omega,List.getElem?_append_right (by omega),show A0.length+(1+(t+3))-A0.length=1+(t+3) by omega,List.getElem?_append_right (by simp),show 1+(t+3) - [ansN 1].length=t+3 by simp,List.getElem?_append_right (by simp),List.length_replicate,show t+3-t=3 by omega]
  show some (askV _ (askD 0 2)).bs.length=_
  rw [a7]
open Go.RowKit
open Brood
theorem pkD_app {w0 w:World} {A:Option Addr} {c:Nat} {L M:List DIn} {b:Ent} {E:List Ent} (h:Hp w0 w (b::.own (.slice A (L.length+M.length) c) 58 12 (L.length+M.length) (L.flatMap doCells++M.flatMap doCells)::E)):Hp w0 w (pkD A c (L++M)::E):=by
 have e:pkD A c (L++M)=.own (.slice A (L.length+M.length) c) 58 12 (L.length+M.length) (L.flatMap doCells++M.flatMap doCells):=by
  unfold pkD
  simp
 rw [e]
 exact h.drop1 0
theorem ag_dos (n t gb gk:Nat):doOf (((List.replicate n (plain (spawnD 4 0))++[⟨sysD 4 [⟨4,2,0,1⟩],some ⟨gb,0,none⟩,1⟩])++List.replicate t tickI)++[plain (askD 4 2),⟨sysD 4 [⟨6,0,0,0⟩],some ⟨gk,0,none⟩,1⟩,tickI,plain (askD 0 2)])=agesL n t:=by
 rw [doOf_append,doOf_append,doOf_append,doOf_ticks]
 unfold agesL
 simp [doOf,plain,tickI]
set_option maxRecDepth 20000 in
set_option maxHeartbeats 6400000 in
theorem topAges_any (n t:Int) (w:World):Calls Tryz.prog 9 #[.int .i64 n,.int .i64 t] w fun e w'=>e=.returned (.bool true)∧Below w.heap.size w w':=by
 go_enter Tryz.func9,Tryz.ntmps9
 go_wp2_with fail
 refine (alivet_any w).mono ?_
 rintro e w1 ⟨rfl,hb⟩
 have hB:=Lib.hid hb
 clear hb
 by_cases g0:n<0
 ·go_wp2_with fail
  go_ret
  exact ⟨rfl,hB.out⟩
 by_cases g1:20<n
 ·go_wp2_with fail
  go_ret
  exact ⟨rfl,hB.out⟩
 by_cases g2:t<0
 ·go_wp2_with fail
  go_ret
  exact ⟨rfl,hB.out⟩
 by_cases g3:20<t
 ·go_wp2_with fail
  go_ret
  exact ⟨rfl,hB.out⟩
 go_upto_region 3 with fail
 go_cut [25] (fun s wx=>s=.bool false∧w1=wx)
 case first=>
  go_wp2_with fail
  go_meet
  exact ⟨by simp [g0,g1,g2,g3],rfl⟩
 case rest=>
 rename_i Kc hKc
 refine hKc _ _ ?_
 clear hKc
 obtain ⟨rfl,rfl⟩:=hcut
 obtain ⟨N,rfl⟩:∃ N:Nat,n=(N:Int):=⟨n.toNat,by omega⟩
 obtain ⟨T,rfl⟩:∃ T:Nat,t=(T:Int):=⟨t.toNat,by omega⟩
 have hN:N≤20:=by omega
 have hT:T≤20:=by omega
 go_upto_region 6 with fail
 clear g0 g1 g2 g3
 have H0:=((Hp.start w).grow hB.out).nil_ 58 12
 have H1:Hp w w1 [pkD none 0 (List.replicate 0 (plain (spawnD 4 0)))]:=H0
 have hH1:=Lib.hid H1
 clear H0 H1
 go_wp2_with fail
 go_loopw [5,27] (fun s5 q wr=>∃ (k:Nat) (A3:Option Addr) (c3:Nat),k≤N∧q=.int .i64 k∧s5=.slice A3 (List.replicate k (plain (spawnD 4 0))).length c3∧Hp w wr [pkD A3 c3 (List.replicate k (plain (spawnD 4 0)))]) (fun _ q _=>N-(intOf q).toNat)
 case atStart=>exact ⟨0,none,0,by omega,rfl,rfl,hH1.out⟩
 case round=>
  clear hH1
  obtain ⟨k,A3,c3,hk,rfl,rfl,H⟩:=hrel
  by_cases hlt:k<N
  ·have e2:Hid (List.replicate (k+1) (plain (spawnD 4 0))=List.replicate k (plain (spawnD 4 0))++[plain (spawnD 4 0)]):=Lib.hid (List.replicate_succ' ..)
   have hlen:(List.replicate k (plain (spawnD 4 0))).length=k:=by simp
   generalize List.replicate k (plain (spawnD 4 0))=L at *
   have i0:(0:Int)≤(k:Int):=by omega
   have i1:(k:Int)<(N:Int):=by omega
   have hHr:=Lib.hid H
   clear H
   go_wp2_with fail
   refine (spawn_do_any 4 0 wr).mono ?_
   rintro e w2 ⟨rfl,hb2⟩
   have H:=hHr.out.grow hb2
   clear hHr hb2
   simp only [doVal,spawnD,List.length_nil]
   obtain ⟨i0',hi0,hz0a,hz0b,hz0c⟩:=info_parts infoDo
   have HN:=H.newL w2.heap.size rfl 58 [.int .i64 1,.int .i64 4,.int .i64 0,.int .i64 0,.int .i64 0,.int .i64 0,.int .i64 0,.int .i64 0,.int .i64 0,.slice none 0 0,.int .i64 0,.int .i64 0]
   have hHN:=Lib.hid HN
   have hown:=HN.owns 1 rfl
   clear H HN
   go_wp2_with (at_builtin;refine wpList_append_own_at _ rfl _ _ 23 rfl w.heap.size 58 i0' (.agg #[.int .i64 0,.int .i64 0,.int .i64 0,.int .i64 0,.int .i64 0,.int .i64 0,.int .i64 0,.int .i64 0,.int .i64 0,.slice none 0 0,.int .i64 0,.int .i64 0]) 12 112 Tryz.underlying23 hi0 hz0a hz0b hz0c rfl (by decide) _ _ _ rfl hown ⟨w2.heap.size,0,none⟩ 1 1 [.int .i64 1,.int .i64 4,.int .i64 0,.int .i64 0,.int .i64 0,.int .i64 0,.int .i64 0,.int .i64 0,.int .i64 0,.slice none 0 0,.int .i64 0,.int .i64 0] rfl rfl ?c1 ?c2 ?c3 ?c4 ?c5 ?_;rotate_left 5;intro v' w8 hown8 hgrow8 _ hat8;have H8:=hHN.out.app 1 rfl hgrow8 hown8 (hat8.imp id (fun e g hg=>by rw [e] at hg;injection hg with hg;exact Nat.le_of_eq hg));obtain ⟨A4,c4,rfl,hs1,hs2⟩:=own_shape hown8)
   case c1=>exact news_blk (hHN.out.blk 0 rfl)
   case c2=>simp [Value.oneCell']
   case c3=>unfold maxLen;omega
   case c4=>omega
   case c5=>simpa using hHN.out.bel.size
   have hH8:=Lib.hid H8
   clear H8
   go_roundw
   case rel=>
    have h9:=pkD_snoc (L:=L) (x:=plain (spawnD 4 0)) hH8.out
    rw [← e2.out] at h9
    first
    | (refine ⟨_,_,_,_,_,_,_,_,?_,rfl⟩;refine ⟨k+1,A4,c4,by omega,by go_num,?_,h9⟩;rw [e2.out,List.length_append,hlen];rfl)
    | (refine ⟨k+1,A4,c4,by omega,by go_num,?_,h9⟩;rw [e2.out,List.length_append,hlen];rfl)
   case measure=>simp [intOf];omega
  ·obtain rfl:k=N:=by omega
   have hlen:Hid ((List.replicate k (plain (spawnD 4 0))).length=k):=Lib.hid (by simp)
   obtain ⟨L1,hL1e⟩:∃ L1,L1=List.replicate k (plain (spawnD 4 0)):=⟨_,rfl⟩
   rw [← hL1e] at hlen H ⊢
   have hL1:=Lib.hid hL1e
   have hH:=Lib.hid H
   clear H hL1e
   have H2:=(hH.out.newL wr.heap.size rfl 76 [.int .i64 4,.int .i64 2,.int .i64 0,.int .i64 1]).perm (List.Perm.swap _ _ _)
   have hH2:=Lib.hid H2
   clear H2 hH
   go_wp2_with fail
   obtain ⟨w2,hw2,H2⟩:=hH2.out.name
   rw [hw2]
   obtain ⟨gb,hgb⟩:∃ gb,gb=wr.heap.size:=⟨_,rfl⟩
   rw [← hgb] at H2 ⊢
   clear hw2 hH2 hgb
   refine (system_do_any 4 [⟨4,2,0,1⟩] (some ⟨gb,0,none⟩) 1 w2).mono ?_
   rintro e w3 ⟨rfl,hb3⟩
   have H:=H2.grow hb3
   clear H2 hb3
   simp only [doVal,sysD,List.length_cons,List.length_nil]
   have hlen1:=hlen.out
   obtain ⟨i0',hi0,hz0a,hz0b,hz0c⟩:=info_parts infoDo
   have HN:=H.newL w3.heap.size rfl 58 [.int .i64 5,.int .i64 0,.int .i64 0,.int .i64 0,.int .i64 0,.int .i64 0,.int .i64 0,.int .i64 4,.int .i64 0,.slice (some ⟨gb,0,none⟩) 1 1,.int .i64 0,.int .i64 0]
   have hHN:=Lib.hid HN
   have hown:=HN.owns 1 rfl
   clear H HN
   go_wp2_with (at_builtin;refine wpList_append_own_at _ rfl _ _ 23 rfl w.heap.size 58 i0' (.agg #[.int .i64 0,.int .i64 0,.int .i64 0,.int .i64 0,.int .i64 0,.int .i64 0,.int .i64 0,.int .i64 0,.int .i64 0,.slice none 0 0,.int .i64 0,.int .i64 0]) 12 112 Tryz.underlying23 hi0 hz0a hz0b hz0c rfl (by decide) _ _ _ rfl hown ⟨w3.heap.size,0,none⟩ 1 1 [.int .i64 5,.int .i64 0,.int .i64 0,.int .i64 0,.int .i64 0,.int .i64 0,.int .i64 0,.int .i64 4,.int .i64 0,.slice (some ⟨gb,0,none⟩) 1 1,.int .i64 0,.int .i64 0] rfl rfl ?c1 ?c2 ?c3 ?c4 ?c5 ?_;rotate_left 5;intro v' w8 hown8 hgrow8 _ hat8;have H8:=hHN.out.app 1 rfl hgrow8 hown8 (hat8.imp id (fun e g hg=>by rw [e] at hg;injection hg with hg;exact Nat.le_of_eq hg));obtain ⟨A4,c4,rfl,hs1,hs2⟩:=own_shape hown8)
   case c1=>exact news_blk (hHN.out.blk 0 rfl)
   case c2=>simp [Value.oneCell']
   case c3=>unfold maxLen;omega
   case c4=>omega
   case c5=>simpa using hHN.out.bel.size
   have hH8:=Lib.hid H8
   clear H8
   clear hlen1
   obtain ⟨w4,hw4⟩:∃ w4:World,w4=w8:=⟨_,rfl⟩
   have h9:=pkD_snoc (L:=L1) (x:=⟨sysD 4 [⟨4,2,0,1⟩],some ⟨gb,0,none⟩,1⟩) hH8.out
   rw [← hw4] at h9 ⊢
   clear hw4 hH8 hHN hown
   have h9':Hp w w4 (pkD A4 c4 ((L1++[⟨sysD 4 [⟨4,2,0,1⟩],some ⟨gb,0,none⟩,1⟩])++List.replicate 0 tickI)::[.box gb 76 [.int .i64 4,.int .i64 2,.int .i64 0,.int .i64 1]]):=by rw [List.replicate_zero,List.append_nil];exact h9
   have hH9:=Lib.hid h9'
   have hlen2:Hid ((L1++[(⟨sysD 4 [⟨4,2,0,1⟩],some ⟨gb,0,none⟩,1⟩:DIn)]).length=k+1):=Lib.hid (by rw [List.length_append,hlen.out];rfl)
   clear h9 h9'
   have e1:(L1.length+1)=(L1++[(⟨sysD 4 [⟨4,2,0,1⟩],some ⟨gb,0,none⟩,1⟩:DIn)]++List.replicate 0 tickI).length:=by simp
   go_upto_region 12 with fail
   clear e1
   obtain ⟨L2,hL2e⟩:∃ L2,L2=L1++[(⟨sysD 4 [⟨4,2,0,1⟩],some ⟨gb,0,none⟩,1⟩:DIn)]:=⟨_,rfl⟩
   rw [← hL2e] at hlen2 hH9
   have hL2:=Lib.hid hL2e
   clear hL2e
   go_loopw [5,41] (fun s5 q wr=>∃ (j:Nat) (A3:Option Addr) (c3:Nat),j≤T∧q=.int .i64 j∧s5=.slice A3 (L2++List.replicate j tickI).length c3∧Hp w wr (pkD A3 c3 (L2++List.replicate j tickI)::[.box gb 76 [.int .i64 4,.int .i64 2,.int .i64 0,.int .i64 1]])) (fun _ q _=>T-(intOf q).toNat)
   case atStart=>exact ⟨0,A4,c4,by omega,rfl,by rw [List.replicate_zero,List.append_nil,hlen2.out],hH9.out⟩
   case round=>
    clear hH9
    obtain ⟨j,A3,c3,hj,rfl,rfl,H⟩:=hrel
    by_cases hlt:j<T
    ·have e2:Hid (L2++List.replicate (j+1) tickI=(L2++List.replicate j tickI)++[tickI]):=Lib.hid (by rw [List.replicate_succ',List.append_assoc])
     have hlen:(L2++List.replicate j tickI).length=k+1+j:=by rw [List.length_append,hlen2.out,List.length_replicate]
     generalize L2++List.replicate j tickI=L at *
     have i0:(0:Int)≤(j:Int):=by omega
     have i1:(j:Int)<(T:Int):=by omega
     obtain ⟨i0',hi0,hz0a,hz0b,hz0c⟩:=info_parts infoDo
     have HN:=H.newL wr.heap.size rfl 58 [.int .i64 6,.int .i64 0,.int .i64 0,.int .i64 0,.int .i64 0,.int .i64 0,.int .i64 0,.int .i64 0,.int .i64 0,.slice none 0 0,.int .i64 0,.int .i64 0]
     have hHN:=Lib.hid HN
     have hown:=HN.owns 1 rfl
     clear H HN
     go_wp2_with (at_builtin;refine wpList_append_own_at _ rfl _ _ 23 rfl w.heap.size 58 i0' (.agg #[.int .i64 0,.int .i64 0,.int .i64 0,.int .i64 0,.int .i64 0,.int .i64 0,.int .i64 0,.int .i64 0,.int .i64 0,.slice none 0 0,.int .i64 0,.int .i64 0]) 12 112 Tryz.underlying23 hi0 hz0a hz0b hz0c rfl (by decide) _ _ _ rfl hown ⟨wr.heap.size,0,none⟩ 1 1 [.int .i64 6,.int .i64 0,.int .i64 0,.int .i64 0,.int .i64 0,.int .i64 0,.int .i64 0,.int .i64 0,.int .i64 0,.slice none 0 0,.int .i64 0,.int .i64 0] rfl rfl ?c1 ?c2 ?c3 ?c4 ?c5 ?_;rotate_left 5;intro v' w8 hown8 hgrow8 _ hat8;have H8:=hHN.out.app 1 rfl hgrow8 hown8 (hat8.imp id (fun e g hg=>by rw [e] at hg;injection hg with hg;exact Nat.le_of_eq hg));obtain ⟨A4,c4,rfl,hs1,hs2⟩:=own_shape hown8)
     case c1=>exact news_blk (hHN.out.blk 0 rfl)
     case c2=>simp [Value.oneCell']
     case c3=>unfold maxLen;omega
     case c4=>omega
     case c5=>simpa using hHN.out.bel.size
     have hH8:=Lib.hid H8
     clear H8
     go_roundw
     case rel=>
      have h9:=pkD_snoc (L:=L) (x:=tickI) hH8.out
      rw [← e2.out] at h9
      first
      | (refine ⟨_,_,_,_,_,_,_,_,?_,rfl⟩;refine ⟨j+1,A4,c4,by omega,by go_num,?_,h9⟩;rw [e2.out,List.length_append,hlen];rfl)
      | (refine ⟨j+1,A4,c4,by omega,by go_num,?_,h9⟩;rw [e2.out,List.length_append,hlen];rfl)
     case measure=>simp [intOf];omega
    ·obtain rfl:j=T:=by omega
     have hlen:Hid ((L2++List.replicate j tickI).length=k+1+j):=Lib.hid (by rw [List.length_append,hlen2.out,List.length_replicate])
     have hL3:Hid (L2++List.replicate j tickI=(List.replicate k (plain (spawnD 4 0))++[⟨sysD 4 [⟨4,2,0,1⟩],some ⟨gb,0,none⟩,1⟩])++List.replicate j tickI):=Lib.hid (by rw [hL2.out,hL1.out])
     generalize L2++List.replicate j tickI=L3 at *
     have hH:=Lib.hid H
     clear H
     go_wp2_with fail
     refine (ask_do_any 4 2 wr).mono ?_
     rintro e w5 ⟨rfl,hb5⟩
     have H2:=((hH.out.grow hb5).newL w5.heap.size rfl 76 [.int .i64 6,.int .i64 0,.int .i64 0,.int .i64 0]).perm (List.Perm.swap _ _ _)
     have hH2:=Lib.hid H2
     clear H2 hH hb5
     go_wp2_with fail
     obtain ⟨w6,hw6,H2⟩:=hH2.out.name
     rw [hw6]
     obtain ⟨gk,hgk⟩:∃ gk,gk=w5.heap.size:=⟨_,rfl⟩
     rw [← hgk] at H2 ⊢
     clear hw6 hH2 hgk
     refine (system_do_any 4 [⟨6,0,0,0⟩] (some ⟨gk,0,none⟩) 1 w6).mono ?_
     rintro e w7 ⟨rfl,hb7⟩
     have hH3:=Lib.hid (H2.grow hb7)
     clear H2 hb7
     go_wp2_with fail
     refine (ask_do_any 0 2 w7).mono ?_
     rintro e w8' ⟨rfl,hb8⟩
     have H:=hH3.out.grow hb8
     clear hH3 hb8
     simp only [doVal,sysD,askD,List.length_cons,List.length_nil]
     have hlen1:=hlen.out
     obtain ⟨i0',hi0,hz0a,hz0b,hz0c⟩:=info_parts infoDo
     have HN:=H.newL w8'.heap.size rfl 58 [.int .i64 7,.int .i64 0,.int .i64 2,.int .i64 0,.int .i64 0,.int .i64 0,.int .i64 0,.int .i64 0,.int .i64 0,.slice none 0 0,.int .i64 4,.int .i64 0,.int .i64 5,.int .i64 0,.int .i64 0,.int .i64 0,.int .i64 0,.int .i64 0,.int .i64 0,.int .i64 4,.int .i64 0,.slice (some ⟨gk,0,none⟩) 1 1,.int .i64 0,.int .i64 0,.int .i64 6,.int .i64 0,.int .i64 0,.int .i64 0,.int .i64 0,.int .i64 0,.int .i64 0,.int .i64 0,.int .i64 0,.slice none 0 0,.int .i64 0,.int .i64 0,.int .i64 7,.int .i64 0,.int .i64 2,.int .i64 0,.int .i64 0,.int .i64 0,.int .i64 0,.int .i64 0,.int .i64 0,.slice none 0 0,.int .i64 0,.int .i64 0]
     have hHN:=Lib.hid HN
     have hown:=HN.owns 1 rfl
     clear H HN
     go_wp2_with (at_builtin;refine wpList_append_own_at _ rfl _ _ 23 rfl w.heap.size 58 i0' (.agg #[.int .i64 0,.int .i64 0,.int .i64 0,.int .i64 0,.int .i64 0,.int .i64 0,.int .i64 0,.int .i64 0,.int .i64 0,.slice none 0 0,.int .i64 0,.int .i64 0]) 12 112 Tryz.underlying23 hi0 hz0a hz0b hz0c rfl (by decide) _ _ _ rfl hown ⟨w8'.heap.size,0,none⟩ 4 4 [.int .i64 7,.int .i64 0,.int .i64 2,.int .i64 0,.int .i64 0,.int .i64 0,.int .i64 0,.int .i64 0,.int .i64 0,.slice none 0 0,.int .i64 4,.int .i64 0,.int .i64 5,.int .i64 0,.int .i64 0,.int .i64 0,.int .i64 0,.int .i64 0,.int .i64 0,.int .i64 4,.int .i64 0,.slice (some ⟨gk,0,none⟩) 1 1,.int .i64 0,.int .i64 0,.int .i64 6,.int .i64 0,.int .i64 0,.int .i64 0,.int .i64 0,.int .i64 0,.int .i64 0,.int .i64 0,.int .i64 0,.slice none 0 0,.int .i64 0,.int .i64 0,.int .i64 7,.int .i64 0,.int .i64 2,.int .i64 0,.int .i64 0,.int .i64 0,.int .i64 0,.int .i64 0,.int .i64 0,.slice none 0 0,.int .i64 0,.int .i64 0] rfl rfl ?c1 ?c2 ?c3 ?c4 ?c5 ?_;rotate_left 5;intro v' w8 hown8 hgrow8 _ hat8;have H8:=hHN.out.app 1 rfl hgrow8 hown8 (hat8.imp id (fun e g hg=>by rw [e] at hg;injection hg with hg;exact Nat.le_of_eq hg));obtain ⟨A4,c4,rfl,hs1,hs2⟩:=own_shape hown8)
     case c2=>simp [Value.oneCell']
     case c3=>unfold maxLen;omega
     case c4=>omega
     case c5=>simpa using hHN.out.bel.size
     have hH8:=Lib.hid H8
     clear H8
     clear hlen1
     obtain ⟨w9,hw9⟩:∃ w9:World,w9=w8:=⟨_,rfl⟩
     have h9:=pkD_app (L:=L3) (M:=[plain (askD 4 2),⟨sysD 4 [⟨6,0,0,0⟩],some ⟨gk,0,none⟩,1⟩,tickI,plain (askD 0 2)]) hH8.out
     rw [← hw9] at h9 ⊢
     clear hw9 hH8 hHN hown
     have hdos:Hid (doOf (L3++[plain (askD 4 2),⟨sysD 4 [⟨6,0,0,0⟩],some ⟨gk,0,none⟩,1⟩,tickI,plain (askD 0 2)])=agesL k j):=Lib.hid (by rw [hL3.out];exact ag_dos k j gb gk)
     have hlen4:Hid ((L3++[plain (askD 4 2),⟨sysD 4 [⟨6,0,0,0⟩],some ⟨gk,0,none⟩,1⟩,tickI,plain (askD 0 2)]).length=k+1+j+4):=Lib.hid (by rw [List.length_append,hlen.out];rfl)
     have hmem:Hid (∀ x∈L3++[plain (askD 4 2),⟨sysD 4 [⟨6,0,0,0⟩],some ⟨gk,0,none⟩,1⟩,tickI,plain (askD 0 2)],(x.A=none∧x.c=0∧x.d.sys.acts=[])∨(x.A=some ⟨gb,0,none⟩∧x.d.sys.acts=[⟨4,2,0,1⟩])∨(x.A=some ⟨gk,0,none⟩∧x.d.sys.acts=[⟨6,0,0,0⟩])):=Lib.hid (by
      intro x hx
      rw [hL3.out] at hx
      rcases List.mem_append.1 hx with hx | hx
      ·rcases List.mem_append.1 hx with hx | hx
       ·rcases List.mem_append.1 hx with hx | hx
        ·rw [List.eq_of_mem_replicate hx]
         exact .inl ⟨rfl,rfl,rfl⟩
        ·rw [List.mem_singleton.1 hx]
         exact .inr (.inl ⟨rfl,rfl⟩)
       ·rw [List.eq_of_mem_replicate hx]
        exact .inl ⟨rfl,rfl,rfl⟩
      ·simp only [List.mem_cons,List.not_mem_nil,or_false] at hx
       rcases hx with rfl | rfl | rfl | rfl
       ·exact .inl ⟨rfl,rfl,rfl⟩
       ·exact .inr (.inr ⟨rfl,rfl⟩)
       ·exact .inl ⟨rfl,rfl,rfl⟩
       ·exact .inl ⟨rfl,rfl,rfl⟩)
     have hag:=ages_is hN hT
     have hag2:(playV allMods (agesL k j)).a.length=(agesL k j).length:=by
      rw [playV_at (by decide +kernel) (by unfold agesL;simp;omega)]
      exact doAll_len _ _
     generalize L3++[plain (askD 4 2),⟨sysD 4 [⟨6,0,0,0⟩],some ⟨gk,0,none⟩,1⟩,tickI,plain (askD 0 2)]=L at *
     have hH:=Lib.hid h9
     clear h9
     go_wp2_with fail
     refine (all_any w9).mono ?_
     rintro e w10 ⟨rfl,rfl⟩
     have H5:=hH.out.newL w9.heap.size rfl 55 [.int .i64 255,.int .i64 255,.bool true]
     obtain ⟨w10,hw10,H6⟩:=H5.name
     rw [hw10]
     obtain ⟨gm,hgm⟩:∃ gm,gm=w9.heap.size:=⟨_,rfl⟩
     rw [← hgm] at H6 ⊢
     clear H5 hw10 hgm hH
     have hM:RdM w10 w10.heap.size (some ⟨gm,0,none⟩) allMods:=rdM_blk (H6.blk 0 rfl)
     have hAk:RdAB w10 w10.heap.size (some ⟨gk,0,none⟩) [⟨6,0,0,0⟩]:=rdAB_blk (H6.blk 2 rfl)
     have hAb:RdAB w10 w10.heap.size (some ⟨gb,0,none⟩) [⟨4,2,0,1⟩]:=rdAB_blk (H6.blk 3 rfl)
     have hD:RdD w10 w10.heap.size A4 L:=pkD_rd H6 1 rfl (by
      intro x hx
      rcases hmem.out x hx with ⟨h1,_,h2⟩ | ⟨h1,h2⟩ | ⟨h1,h2⟩
      ·rw [h1,h2];exact rdAB_nil
      ·rw [h1,h2];exact hAb
      ·rw [h1,h2];exact hAk)
     have hpl:=Lib.hid (hplay_any allMods (some ⟨gm,0,none⟩) 1 (by decide) (fun h=>by cases h) L A4 c4 (by have:=hlen4.out;unfold maxLen;omega) (fun x hx h=>by
      rcases hmem.out x hx with ⟨_,h1,_⟩ | ⟨h1,_⟩ | ⟨h1,_⟩
      ·exact h1
      ·rw [h1] at h;cases h
      ·rw [h1] at h;cases h) w10 hM hD)
     rw [hdos.out,hlen4.out] at hpl
     have hH6:=Lib.hid H6
     clear H6 hM hAb hAk hD hmem
     go_wp2_with fail
     refine hpl.out.mono ?_
     rintro e w11 ⟨s,La,A,c,rfl,_,hL,HP⟩
     rw [hag.1]
     rw [← hL] at hag hag2
     have hagl:(agesL k j).length=k+1+j+4:=by unfold agesL;simp;omega
     rw [List.length_map,hagl] at hag2
     obtain ⟨_,hx1,hx3⟩:=hag
     have l1:k+1+j<La.length:=by omega
     have l3:k+1+j+3<La.length:=by omega
     rw [List.getElem?_map,List.getElem?_eq_getElem l1] at hx1
     rw [List.getElem?_map,List.getElem?_eq_getElem l3] at hx3
     simp only [Option.map_some,Option.some.injEq,Prod.mk.injEq] at hx1 hx3
     obtain ⟨b,off,rfl,hbl,j1,j2,j3,y3,y4⟩:=pkA_at HP 0 rfl l1
     clear j1 j2 j3
     obtain ⟨b',off',e',hbl',j1,j2,j3,v3,j4⟩:=pkA_at HP 0 rfl l3
     clear j1 j2 j3 j4
     injection e' with e'
     injection e' with e1 e2
     subst e1 e2
     rw [hx1.1] at y4
     rw [hx1.2] at y3
     rw [hx3] at v3
     have H8:=(HP.newL w11.heap.size rfl 30 [.slice s.A s.l.length s.c,.slice s.Ag s.gens.length s.cg,.slice s.Am s.mods.length s.cm,.slice s.As s.sys.length s.cs]).newL (w11.heap.size+1) (by simp) 34 [.int .i64 0,.int .i64 0]
     have hbel:Below w11.heap.size w11 _:=((Below.refl w11.heap.size w11).alloc (Nat.le_refl _) (.cells #[.slice s.A s.l.length s.c,.slice s.Ag s.gens.length s.cg,.slice s.Am s.mods.length s.cm,.slice s.As s.sys.length s.cs] 30)).alloc (by simp) (.cells #[.int .i64 0,.int .i64 0] 34)
     have x3:=(hbel.cell (p:=⟨b,off+(k+1+j)*5+3,none⟩) hbl).trans y3
     have x4:=(hbel.cell (p:=⟨b,off+(k+1+j)*5+4,none⟩) hbl).trans y4
     have z3:=(hbel.cell (p:=⟨b,off+(k+1+j+3)*5+3,none⟩) hbl).trans v3
     have hH8:=Lib.hid H8
     have hB8:=Lib.hid (hH6.out.bel.trans (H8.bel.mono hH6.out.bel.size))
     have hkj:k*j≤400:=Nat.le_trans (Nat.mul_le_mul hN hT) (by decide)
     have hw0:IntKind.i64.wrap ((k:Int)*(j:Int))=(k:Int)*(j:Int):=by
      have e:(k:Int)*(j:Int)=((k*j:Nat):Int):=by rw [Int.natCast_mul]
      rw [e,IntKind.wrap_i64]
      omega
     generalize hi1:k+1+j=i1 at *
     generalize hi3:i1+3=i3 at *
     have hla:La.length=i1+4:=by omega
     have hw1:IntKind.i64.wrap (((i1+4:Nat):Int)-4)=(i1:Int):=by rw [IntKind.wrap_i64];omega
     have hw3:IntKind.i64.wrap (((i1+4:Nat):Int)-1)=(i3:Int):=by rw [IntKind.wrap_i64];omega
     have q0:(0:Int)≤(i1:Int):=by omega
     have q1:(i1:Int)<(La.length:Int):=by omega
     have q2:(0:Int)≤(i3:Int):=by omega
     have q3:(i3:Int)<(La.length:Int):=by omega
     obtain ⟨Len,hLen⟩:∃ Len,Len=i1+4:=⟨_,rfl⟩
     rw [← hLen] at hw1 hw3 ⊢
     generalize La[i1].A=A1 at x3
     generalize La[i1].c=c1 at x3
     generalize La[i3].A=A2 at z3
     generalize La[i3].c=c2 at z3
     clear H8 HP y3 y4 v3 hbl hbl' hbel hL hx1 hx3 hag2 hagl l1 l3 hpl hH6 hkj hlen4 hdos hi1 hi3 hla hLen
     generalize La.length=nl at *
     unfold hoVal
     dsimp only
     go_upto_region 17 with fail
     obtain ⟨w12,hw12,H8⟩:=hH8.out.name
     rw [hw12] at hB8 x3 x4 z3 ⊢
     have ff:=H8.cell 0 0 rfl rfl
     clear hw12 hH8 H8
     go_wp2_with fail
     go_ret
     exact ⟨rfl,hB8.out⟩
end Go.Proofs.YtefdblaolmckmacGreat
