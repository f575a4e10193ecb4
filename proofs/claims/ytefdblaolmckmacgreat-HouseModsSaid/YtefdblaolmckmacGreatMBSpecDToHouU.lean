/- Lemmas of the proof. -/
import Derived.Laws.AppendOwnNone
import Derived.Test.YtefdblaolmckmacGreatMBRunA7ToRunR
import Derived.Test.YtefdblaolmckmacGreatMBSpecZAToRef3S
import Derived.Test.YtefdblaolmckmacGreatMBSpecSToSpecU
import Derived.Test.YtefdblaolmckmacGreatMHouS
import Derived.Test.YtefdblaolmckmacGreatMBRowToInv
import Derived.Test.YtefdblaolmckmacGreatMBSpecVToStoA
import Derived.Test.YtefdblaolmckmacGreatMBSortTRToStoO
import Derived.Test.YtefdblaolmckmacGreatMCloneA
set_option linter.unusedVariables false
set_option linter.unusedSimpArgs false
set_option maxRecDepth 100000
set_option maxHeartbeats 12800000
namespace Brood
def At (rows:List (List Nat)) (q i:Nat):Prop:=∃ r,rows[q]?=some r∧i∈r
def clashAt (ss:List BSys) (j i:Nat):Bool:=match ss[j]?,ss[i]? with | some y,some s=>clash y s | _,_=>false
theorem atFrom_spec (p:List Nat→Bool):∀ (bs:List (List Nat)) (a0 k:Nat),a0≤k →
  (∀ q b,bs[q]?=some b→p b=true→k+q<atFrom p a0 k bs)∧(atFrom p a0 k bs=a0∨∃ q b,bs[q]?=some b∧p b=true∧atFrom p a0 k bs=k+q+1)∧a0≤atFrom p a0 k bs:=by
 intro bs
 induction bs with
 | nil=>intro a0 k h;exact ⟨fun q b hb=>by simp at hb,.inl rfl,Nat.le_refl _⟩
 | cons b bs ih=>
  intro a0 k h
  rw [atFrom]
  have h':=ih (if p b then k+1 else a0) (k+1) (by split<;>omega)
  obtain ⟨h1,h2,h3⟩:=h'
  refine ⟨?_,?_,?_⟩
  ·intro q c hc hp
   cases q with
   | zero=>
    simp at hc
    subst hc
    rw [if_pos hp] at h3 ⊢
    omega
   | succ q=>
    have:=h1 q c (by simpa using hc) hp
    omega
  ·rcases h2 with h2 | ⟨q,c,hc,hp,h2⟩
   ·by_cases hp:p b=true
    ·rw [if_pos hp] at h2 ⊢
     exact .inr ⟨0,b,rfl,hp,by omega⟩
    ·rw [if_neg hp] at h2 ⊢
     exact .inl h2
   ·exact .inr ⟨q+1,c,by simpa using hc,hp,by omega⟩
  ·by_cases hp:p b=true
   ·rw [if_pos hp] at h3 ⊢;omega
   ·rw [if_neg hp] at h3 ⊢;omega
theorem anyB_iff (ss:List BSys) (s:BSys) (js:List Nat):anyB ss s js=true↔∃ j∈js,∃ y,ss[j]?=some y∧clash y s=true:=by
 unfold anyB
 rw [List.any_eq_true]
 constructor
 ·rintro ⟨j,hj,h⟩
  cases hy:ss[j]? with
  | none=>rw [hy] at h;cases h
  | some y=>rw [hy] at h;exact ⟨j,hj,y,hy,h⟩
 ·rintro ⟨j,hj,y,hy,h⟩
  exact ⟨j,hj,by rw [hy];exact h⟩
theorem set_flat (l:List (List Nat)) (k:Nat):∀ a,a<l.length→((l.set a (l.getD a []++[k])).flatten).Perm (k::l.flatten):=by
 induction l with
 | nil=>intro a h;simp at h
 | cons r l ih=>
  intro a h
  cases a with
  | zero=>
   simp only [List.set_cons_zero,List.flatten_cons,List.getD_cons_zero,List.append_assoc]
   exact List.perm_middle
  | succ a=>
   simp only [List.set_cons_succ,List.flatten_cons,List.getD_cons_succ]
   exact ((ih a (by simpa using h)).append_left r).trans List.perm_middle
theorem roomy_flat (a:Nat) (rows:List (List Nat)):(roomy a rows).flatten=rows.flatten:=by
 unfold roomy;split<;>simp
theorem step_at {ss:List BSys} {rows:List (List Nat)} {k:Nat} {s:BSys} (q i:Nat) :
  At (makeStep ss rows k s) q i↔At rows q i∨(q=makeAt ss s rows∧i=k):=by
 have hle:=makeAt_le ss s rows
 have hlt:=roomy_lt ss s rows
 have hold:∀ q i,At (roomy (makeAt ss s rows) rows) q i↔At rows q i:=by
  intro q i
  unfold roomy
  split
  ·constructor
   ·rintro ⟨r,hr,hi⟩
    by_cases hq:q<rows.length
    ·rw [List.getElem?_append_left hq] at hr;exact ⟨r,hr,hi⟩
    ·rw [List.getElem?_append_right (by omega)] at hr
     have:r=[]:=by have:=List.mem_of_getElem? hr;simpa using this
     subst this;cases hi
   ·rintro ⟨r,hr,hi⟩
    exact ⟨r,by rw [List.getElem?_append_left (List.getElem?_eq_some_iff.1 hr).1];exact hr,hi⟩
  ·rfl
 rw [← hold]
 unfold makeStep
 generalize roomy (makeAt ss s rows) rows=R at *
 generalize makeAt ss s rows=a at *
 have hg:R.getD a []=R[a]:=by simp [List.getD_eq_getElem?_getD,hlt]
 rw [hg]
 constructor
 ·rintro ⟨r,hr,hi⟩
  by_cases hq:q=a
  ·subst hq
   rw [List.getElem?_set_self hlt] at hr
   obtain rfl:=Option.some.inj hr
   rcases List.mem_append.1 hi with hi | hi
   ·exact .inl ⟨R[q],List.getElem?_eq_getElem hlt,hi⟩
   ·exact .inr ⟨rfl,by simpa using hi⟩
  ·rw [List.getElem?_set_ne (by omega)] at hr
   exact .inl ⟨r,hr,hi⟩
 ·rintro (⟨r,hr,hi⟩ | ⟨rfl,rfl⟩)
  ·by_cases hq:q=a
   ·subst hq
    rw [List.getElem?_eq_getElem hlt] at hr
    obtain rfl:=Option.some.inj hr
    exact ⟨_,List.getElem?_set_self hlt,List.mem_append_left _ hi⟩
   ·exact ⟨r,by rw [List.getElem?_set_ne (by omega)];exact hr,hi⟩
  ·exact ⟨_,List.getElem?_set_self hlt,by simp⟩
structure LevInv (ss:List BSys) (k:Nat) (rows:List (List Nat)):Prop where
 perm:rows.flatten.Perm (List.range k)
 ne:∀ r∈rows,r≠[]
 up:∀ q q' j i,At rows q j→At rows q' i→j<i→clashAt ss j i=true→q<q'
 held:∀ q i,At rows q i→q=0∨∃ j,At rows (q-1) j∧j<i∧clashAt ss j i=true
theorem LevInv.lt {ss:List BSys} {k:Nat} {rows:List (List Nat)} (h:LevInv ss k rows) {q i:Nat} (hi:At rows q i):i<k:=by
 obtain ⟨r,hr,hi⟩:=hi
 have:i∈rows.flatten:=List.mem_flatten.2 ⟨r,List.mem_of_getElem? hr,hi⟩
 exact List.mem_range.1 (h.perm.mem_iff.1 this)
theorem lev_step {ss:List BSys} {k:Nat} {rows:List (List Nat)} {s:BSys} (hs:ss[k]?=some s) (h:LevInv ss k rows):LevInv ss (k+1) (makeStep ss rows k s):=by
 have hsp:=atFrom_spec (anyB ss s) rows 0 0 (Nat.le_refl _)
 have hat:makeAt ss s rows=atFrom (anyB ss s) 0 0 rows:=rfl
 rw [← hat] at hsp
 obtain ⟨h1,h2,_⟩:=hsp
 have hcl:∀ j y,ss[j]?=some y→clashAt ss j k=clash y s:=by intro j y hy;simp [clashAt,hy,hs]
 have hlt:=roomy_lt ss s rows
 have hle:=makeAt_le ss s rows
 refine ⟨?_,?_,?_,?_⟩
 ·have:=set_flat (roomy (makeAt ss s rows) rows) k _ hlt
  rw [roomy_flat] at this
  refine List.Perm.trans this ?_
  rw [List.range_succ]
  exact ((h.perm.cons k).trans (List.perm_append_singleton k (List.range k)).symm)
 ·intro r hr hr0
  subst hr0
  unfold makeStep at hr
  obtain ⟨q,hq⟩:=List.getElem?_of_mem hr
  by_cases e:q=makeAt ss s rows
  ·subst e
   rw [List.getElem?_set_self hlt] at hq
   simp at hq
  ·rw [List.getElem?_set_ne (by omega)] at hq
   unfold roomy at hq
   split at hq
   ·by_cases hq':q<rows.length
    ·rw [List.getElem?_append_left hq'] at hq
     exact h.ne [] (List.mem_of_getElem? hq) rfl
    ·rw [List.getElem?_append_right (by omega)] at hq
     have:=(List.getElem?_eq_some_iff.1 hq).1
     simp at this
     omega
   ·exact h.ne [] (List.mem_of_getElem? hq) rfl
 ·intro q q' j i hj hi hji hc
  rw [step_at] at hj hi
  rcases hi with hi | ⟨rfl,rfl⟩
  ·rcases hj with hj | ⟨rfl,rfl⟩
   ·exact h.up q q' j i hj hi hji hc
   ·have:=h.lt hi;omega
  ·rcases hj with hj | ⟨rfl,rfl⟩
   ·obtain ⟨r,hr,hjr⟩:=hj
    cases hy:ss[j]? with
    | none=>simp [clashAt,hy] at hc
    | some y=>
     rw [hcl j y hy] at hc
     have:=h1 q r hr ((anyB_iff ss s r).2 ⟨j,hjr,y,hy,hc⟩)
     omega
   ·omega
 ·intro q i hi
  rw [step_at] at hi
  rcases hi with hi | ⟨rfl,rfl⟩
  ·rcases h.held q i hi with h' | ⟨j,hj,hji,hc⟩
   ·exact .inl h'
   ·exact .inr ⟨j,(step_at _ _).2 (.inl hj),hji,hc⟩
  ·rcases h2 with h2 | ⟨q,b,hb,hp,h2⟩
   ·exact .inl h2
   ·obtain ⟨j,hj,y,hy,hc⟩:=(anyB_iff ss s b).1 hp
    have hA:At rows q j:=⟨b,hb,hj⟩
    refine .inr ⟨j,(step_at _ _).2 (.inl ?_),h.lt hA,by rw [hcl j y hy];exact hc⟩
    have:makeAt ss s rows-1=q:=by omega
    rw [this];exact hA
theorem lev_from (ss:List BSys):∀ (l:List BSys) (k:Nat) (rows:List (List Nat)),l=ss.drop k→k≤ss.length→LevInv ss k rows→LevInv ss ss.length (makeFrom ss k rows l):=by
 intro l
 induction l with
 | nil=>
  intro k rows h hk hi
  have:k=ss.length:=by
   have:=congrArg List.length h
   simp at this
   omega
  subst this
  exact hi
 | cons s l ih=>
  intro k rows h hk hi
  have hlt:k<ss.length:=by
   have:=congrArg List.length h
   simp at this
   omega
  rw [List.drop_eq_getElem_cons hlt] at h
  injection h with h1 h2
  refine ih (k+1) _ h2 hlt (lev_step ?_ hi)
  rw [List.getElem?_eq_getElem hlt,h1]
theorem lev_rows (ss:List BSys):LevInv ss ss.length (makeRows ss):=
 lev_from ss ss 0 [] (by simp) (Nat.zero_le _) ⟨List.Perm.refl _,(fun r hr=>by cases hr),(fun q q' j i hj _ _ _=>by obtain ⟨r,hr,_⟩:=hj;cases hr),(fun q i hi=>by obtain ⟨r,hr,_⟩:=hi;cases hr)⟩
section
variable (ss:List BSys) (rows:List (List Nat))
end
section
variable {ss:List BSys} {rows:List (List Nat)}
end
end Brood
namespace Go.Proofs.YtefdblaolmckmacGreat
open Brood
def allE:BWorld→List BSys→BWorld×Int
 | W,[]=>(W,0)
 | W,x::l=>if (runM W x).err≠0 then (⟨[],[]⟩,(runM W x).err) else allE (bw (runM W x)) l
theorem allM_E:∀ (l:List BSys) (i:Nat) (W:BWorld),(allM i W l).1=(allE W l).1∧(allM i W l).2.1=(allE W l).2
 | [],_,_=>⟨rfl,rfl⟩
 | x::l,i,W=>by
  rw [allM,allE]
  split
  ·exact ⟨rfl,rfl⟩
  ·exact allM_E l _ _
theorem allE_right:∀ (l:List BSys) (W:BWorld),RightB W→(allE W l).2=0→RightB (allE W l).1
 | [],W,hw,_=>hw
 | x::l,W,hw,h=>by
  rw [allE] at h ⊢
  split at h
  ·rename_i h1;exact absurd h h1
  ·rename_i h1
   rw [if_neg h1]
   exact allE_right l _ (runM_right (by simpa using h1) hw) h
def sysAt (ss:List BSys) (i:Nat):BSys:=(ss[i]?).getD ⟨0,0,0,[]⟩
open Brood
def doneV (rows:List BRow) (gens:List Int) (i g has part n:Int) (k:Nat):Changed:=
 match k with
 | 0=>⟨(spawnV rows gens has n).rows,(spawnV rows gens has n).gens,(spawnV rows gens has n).err⟩
 | 1=>killV rows gens i g
 | 2=>putV rows gens i g part n
 | _=>dropV rows gens i g part
structure DoneOk (rows:List BRow) (gens:List Int) (i g:Int) (E:Changed):Prop where
 is:RightW E.rows E.gens
 stay:∀ (i' g':Int) (p:BRow),¬ (i'=i∧g'=g)→rowOf i' g' rows=some p→rowOf i' g' E.rows=some p
theorem done_ok {rows:List BRow} {gens:List Int} {i g has part n:Int} (k:Nat) (h:(doneV rows gens i g has part n k).err=0):DoneOk rows gens i g (doneV rows gens i g has part n k):=by
 match k with
 | 0=>
  have hS:=spawn_ok (rows:=rows) (gens:=gens) (has:=has) (n:=n) h
  exact ⟨hS.is,fun i' g' p _ hp=>hS.stay hp⟩
 | 1=>
  have hK:=kill_ok (rows:=rows) (gens:=gens) (i:=i) (g:=g) h
  exact ⟨hK.is,fun i' g' p hne hp=>(hK.rest hne).trans hp⟩
 | 2=>
  obtain ⟨k,r,hC⟩:=change_ok (rows:=rows) (gens:=gens) (i:=i) (g:=g) (fr:=putF part n) h
  exact ⟨hC.is (putF_ok part n),fun i' g' p hne hp=>(hC.rest (putF_ok part n) hne).trans hp⟩
 | k+3=>
  obtain ⟨k,r,hC⟩:=change_ok (rows:=rows) (gens:=gens) (i:=i) (g:=g) (fr:=dropF part) h
  exact ⟨hC.is (dropF_ok part),fun i' g' p hne hp=>(hC.rest (dropF_ok part) hne).trans hp⟩
open Brood
structure BDo where
 kind:Int
 has:Int
 part:Int
 n:Int
 i:Int
 g:Int
 sys:BSys
 fa:Int
 fn:Int
structure BHouse where
 mods:List BMod
 syss:List BSys
 W:BWorld
structure BAns where
 err:Int
 i:Int
 g:Int
 bs:List (Int×Int)
 n:Int
def ansE (e:Int):BAns:=⟨e,0,0,[],0⟩
def ansN (n:Int):BAns:=⟨0,0,0,[],n⟩
def modAt (l:List BMod) (k:Int):BMod:=(l[k.toNat]?).getD ⟨0,0,false⟩
def modBad (m:BMod):Bool:=!isSet m.reads || !isSet m.writes
def modsFrom:Nat→List BMod→Int×Int
 | _,[]=>(0,0)
 | i,m::l=>if modBad m=true then (3,(i:Int)) else modsFrom (i+1) l
def modsErr (l:List BMod):Int×Int:=if 6<l.length then (4,0) else modsFrom 0 l
def setW (h:BHouse) (E:Changed):BHouse:=if E.err=0 then { h with W:=bw E } else h
def hsysV (h:BHouse) (s:BSys):BHouse×BAns:=
 if (sysWrong s).1≠0 then (h,ansE (sysWrong s).1)
 else if (h.mods.length:Int)≤s.mod then (h,ansE 5)
 else if may (modAt h.mods s.mod) s=false then (h,ansE 8)
 else if h.syss.length=12 then (h,ansE 4)
 else ({ h with syss:=h.syss++[s] },ansN ((h.syss.length+1:Nat):Int))
def tickL (h:BHouse):List BSys:=(makeRows h.syss).flatten.map (sysAt h.syss)
def tickV (h:BHouse):BHouse×BAns:=
 if (allM 0 h.W (tickL h)).2.1≠0 then (h,ansE (allM 0 h.W (tickL h)).2.1)
 else ({ h with W:=(allM 0 h.W (tickL h)).1 },ansN ((makeRows h.syss).length:Nat))
def sumV (part:Int) (rows:List BRow):List BRow→Int
 | []=>0
 | b::l=>(getP b.idx b.gen rows part).1+sumV part rows l
def askV (h:BHouse) (d:BDo):BAns:=
 if (!isSet d.fa || !isSet d.fn || !isPart d.part)=true then ansE 3
 else ⟨0,0,0,(matchV d.fa d.fn h.W.rows).map beOf,sumV d.part h.W.rows (matchV d.fa d.fn h.W.rows)⟩
def stepK (h:BHouse) (d:BDo) (k:Nat):Changed:=doneV h.W.rows h.W.gens d.i d.g d.has d.part d.n k
def doV (h:BHouse) (d:BDo):BHouse×BAns:=
 if d.kind=1 then (setW h (stepK h d 0),⟨(stepK h d 0).err,(spawnV h.W.rows h.W.gens d.has d.n).i,(spawnV h.W.rows h.W.gens d.has d.n).g,[],0⟩)
 else if d.kind=2 then (setW h (stepK h d 1),ansE (stepK h d 1).err)
 else if d.kind=3 then (setW h (stepK h d 2),ansE (stepK h d 2).err)
 else if d.kind=4 then (setW h (stepK h d 3),ansE (stepK h d 3).err)
 else if d.kind=5 then hsysV h d.sys
 else if d.kind=6 then tickV h
 else if d.kind=7 then (h,askV h d)
 else (h,ansE 1)
def doAll:BHouse→List BDo→BHouse×List BAns
 | h,[]=>(h,[])
 | h,d::l=>((doAll (doV h d).1 l).1,(doV h d).2::(doAll (doV h d).1 l).2)
def house0 (mods:List BMod):BHouse:=⟨mods,[],⟨[],[]⟩⟩
structure Played where
 h:BHouse
 a:List BAns
 f:Int×Int
def playV (mods:List BMod) (l:List BDo):Played:=
 if (modsErr mods).1≠0 then ⟨⟨[],[],⟨[],[]⟩⟩,[],modsErr mods⟩
 else if 80<l.length then ⟨⟨[],[],⟨[],[]⟩⟩,[],(4,0)⟩
 else ⟨(doAll (house0 mods) l).1,(doAll (house0 mods) l).2,(0,0)⟩
structure HouseR (mods:List BMod) (h:BHouse):Prop where
 same:h.mods=mods
 few:mods.length≤6
 ok:∀ m∈mods,isSet m.reads=true∧isSet m.writes=true
 W:RightB h.W
 len:h.syss.length≤12
 sys:∀ s∈h.syss,(sysWrong s).1=0∧s.mod<(mods.length:Int)∧may (modAt mods s.mod) s=true
theorem mods_ok:∀ {l:List BMod} {i:Nat},(modsFrom i l).1=0→∀ m∈l,isSet m.reads=true∧isSet m.writes=true
 | [],_,_,m,hm=>by cases hm
 | x::l,i,h,m,hm=>by
  rw [modsFrom] at h
  by_cases hb:modBad x=true
  ·rw [if_pos hb] at h
   cases h
  ·rw [if_neg hb] at h
   rcases List.mem_cons.1 hm with rfl | hm
   ·unfold modBad at hb
    simp at hb
    exact hb
   ·exact mods_ok h m hm
theorem mods_right {l:List BMod} (h:(modsErr l).1=0):l.length≤6∧∀ m∈l,isSet m.reads=true∧isSet m.writes=true:=by
 unfold modsErr at h
 by_cases hl:6<l.length
 ·rw [if_pos hl] at h
  cases h
 ·rw [if_neg hl] at h
  exact ⟨by omega,mods_ok h⟩
theorem right_nil:RightB ⟨[],[]⟩:=(right_iff [] []).1 rfl
theorem house0_right {mods:List BMod} (h:(modsErr mods).1=0):HouseR mods (house0 mods):=
 ⟨rfl,(mods_right h).1,(mods_right h).2,right_nil,Nat.zero_le _,fun s hs=>by cases hs⟩
section
variable {mods:List BMod} {h:BHouse}
theorem HouseR.setW (H:HouseR mods h) {E:Changed} (hE:E.err=0→RightW E.rows E.gens):HouseR mods (setW h E):=by
 unfold Go.Proofs.YtefdblaolmckmacGreat.setW
 split
 ·rename_i he
  exact ⟨H.same,H.few,H.ok,hE he,H.len,H.sys⟩
 ·exact H
theorem HouseR.hsys (H:HouseR mods h) (s:BSys):HouseR mods (hsysV h s).1:=by
 unfold hsysV
 split
 ·exact H
 ·rename_i h1
  split
  ·exact H
  ·rename_i h2
   split
   ·exact H
   ·rename_i h3
    split
    ·exact H
    ·rename_i h4
     have hl:=H.len
     refine ⟨H.same,H.few,H.ok,H.W,?_,?_⟩
     ·show (h.syss++[s]).length≤12
      rw [List.length_append,List.length_singleton]
      omega
     ·intro t ht
      rcases List.mem_append.1 ht with ht | ht
      ·exact H.sys t ht
      ·have:t=s:=by simpa using ht
       subst this
       rw [H.same] at h2 h3
       exact ⟨by simpa using h1,by omega,by simpa using h3⟩
theorem HouseR.tick (H:HouseR mods h):HouseR mods (tickV h).1:=by
 unfold tickV
 split
 ·exact H
 ·rename_i h1
  refine ⟨H.same,H.few,H.ok,?_,H.len,H.sys⟩
  have h2:=allM_E (tickL h) 0 h.W
  show RightB (allM 0 h.W (tickL h)).1
  rw [h2.1]
  exact allE_right _ _ H.W (by rw [← h2.2];simpa using h1)
theorem HouseR.do_ (H:HouseR mods h) (d:BDo):HouseR mods (doV h d).1:=by
 unfold doV
 have hk:∀ k,HouseR mods (Go.Proofs.YtefdblaolmckmacGreat.setW h (stepK h d k)):=fun k=>H.setW (fun he=>(done_ok k he).is)
 split
 ·exact hk 0
 ·split
  ·exact hk 1
  ·split
   ·exact hk 2
   ·split
    ·exact hk 3
    ·split
     ·exact H.hsys d.sys
     ·split
      ·exact H.tick
      ·split<;>exact H
end
theorem HouseR.all_ {mods:List BMod}:∀ (l:List BDo) {h:BHouse},HouseR mods h→HouseR mods (doAll h l).1
 | [],_,H=>H
 | d::l,_,H=>HouseR.all_ l (H.do_ d)
open Go.RowKit
open Brood
def modCells (m:BMod):List Value:=[.int .i64 m.reads,.int .i64 m.writes,.bool m.life]
def RdM (w:World) (B:Nat) (A:Option Addr) (l:List BMod):Prop:=Rd w B 3 A l.length (l.flatMap modCells)
theorem RdM.at_ {w:World} {B:Nat} {A:Option Addr} {l:List BMod} (h:RdM w B A l) {k:Nat} (hk:k<l.length) :
  ∃ b off,A=some ⟨b,off,none⟩∧b<B∧w.cell? ⟨b,off+k*3,none⟩=some (.int .i64 l[k].reads)∧w.cell? ⟨b,off+k*3+1,none⟩=some (.int .i64 l[k].writes)∧w.cell? ⟨b,off+k*3+2,none⟩=some (.bool l[k].life):=by
 obtain ⟨b,off,e,hb,hc⟩:=h.2 (by omega)
 have hf:∀ x,(modCells x).length=3:=fun _=>rfl
 refine ⟨b,off,e,hb,?_,?_,?_⟩
 ·have:=hc (k*3+0) _ (flat_get hf l k hk 0 (by omega));simpa using this
 ·have:=hc (k*3+1) _ (flat_get hf l k hk 1 (by omega));simpa [Nat.add_assoc] using this
 ·have:=hc (k*3+2) _ (flat_get hf l k hk 2 (by omega));simpa [Nat.add_assoc] using this
theorem hwrong_any (l:List BMod) (A:Option Addr) (c:Nat) (hlen:l.length≤maxLen) (w:World) (hA:RdM w w.heap.size A l) :
  Calls Tryz.prog 14 #[.slice A l.length c] w fun e w'=>e=.returned (.agg #[.int .i64 (modsErr l).1,.int .i64 (modsErr l).2])∧Below w.heap.size w w':=by
 have hM:Hid (modsErr l=if 6<l.length then (4,0) else modsFrom 0 l):=Lib.hid rfl
 generalize modsErr l=M at *
 have H0:=(Hp.start w).newL w.heap.size rfl 34 [.int .i64 0,.int .i64 0]
 have hH0:=Lib.hid H0
 clear H0
 go_enter Tryz.func14,Tryz.ntmps14
 go_upto_region 1 with fail
 obtain ⟨w1,hw1,H0⟩:=hH0.out.name
 rw [hw1]
 clear hw1 hH0
 have z0:=H0.frozen 0 0 rfl;have z1:=H0.frozen 0 1 rfl;have d0:=H0.cell 0 0 rfl rfl;have d1:=H0.cell 0 1 rfl rfl
 by_cases h6:6<l.length
 ·have i6:(6:Int)<(l.length:Int):=by omega
  have hE:Hid (M=(4,0)):=Lib.hid (by rw [hM.out,if_pos h6])
  have H1:=(H0.set 0 0 (.int .i64 4) rfl).set 0 1 (.int .i64 0) rfl
  have r0:=H1.cell 0 0 rfl rfl;have r1:=H1.cell 0 1 rfl rfl
  have hH1:=Lib.hid H1
  clear H0 H1 hM
  go_wp2_with fail
  refine bodyPost_ret (v:=.agg #[.int .i64 4,.int .i64 0]) (by simp [results,Tryz.results14,go_sem,r0,r1]) rfl ⟨by rw [hE.out],hH1.out.bel⟩
 ·have i6:¬ (6:Int)<(l.length:Int):=by omega
  have hE0:Hid (M=modsFrom 0 l):=Lib.hid (by rw [hM.out,if_neg h6])
  have hH0:=Lib.hid H0
  clear H0 hM z0 z1 d0 d1
  go_wp2_with fail
  go_loopw [11] (fun q wr=>∃ k:Nat,k≤l.length∧q=.int .i64 k∧Hp w wr [.box w.heap.size 34 [.int .i64 0,.int .i64 0]]∧Hid (M=modsFrom k (l.drop k))) (fun q _=>l.length-(intOf q).toNat)
  case atStart=>exact ⟨0,by omega,rfl,hH0.out,Lib.hid (by rw [hE0.out];rfl)⟩
  case round=>
   clear hH0 hE0
   obtain ⟨k,hk,rfl,H,hE⟩:=hrel
   by_cases hlt:k<l.length
   ·have hR:RdM wr w.heap.size A l:=Rd.under hA H.bel (Nat.le_refl _)
    obtain ⟨b,off,rfl,hb,c0,c1,c2⟩:=hR.at_ hlt
    have hst:Hid (M=if modBad l[k]=true then (3,(k:Int)) else modsFrom (k+1) (l.drop (k+1))):=Lib.hid (by rw [hE.out,List.drop_eq_getElem_cons hlt,modsFrom])
    generalize l[k]=m at *
    obtain ⟨mr,mw,ml⟩:=m
    have i0:(0:Int)≤(k:Int):=by omega
    have i1:(k:Int)<(l.length:Int):=by omega
    dsimp only at c0 c1 c2
    have H1:=H.new wr.heap.size rfl 55 [.int .i64 mr,.int .i64 mw,.bool ml]
    have hH1:=Lib.hid H1
    clear H H1 hE hR
    go_upto_region 6 with fail
    obtain ⟨w2,hw2,H1⟩:=hH1.out.name
    rw [hw2]
    obtain ⟨b4,hb4⟩:∃ b4,b4=wr.heap.size:=⟨_,rfl⟩
    rw [← hb4] at H1 ⊢
    clear hw2 hH1 c0 c1 c2 hb4
    have e0:=H1.cell 1 0 rfl rfl;have e1:=H1.cell 1 1 rfl rfl
    have z0:=H1.frozen 0 0 rfl;have z1:=H1.frozen 0 1 rfl;have d0:=H1.cell 0 0 rfl rfl;have d1:=H1.cell 0 1 rfl rfl
    have hH1:=Lib.hid H1
    clear H1
    have bad:modBad ⟨mr,mw,ml⟩=(!isSet mr || !isSet mw):=rfl
    rw [bad] at hst
    clear bad
    cases h1:isSet mr with
    | false=>
     have hE:Hid (M=(3,(k:Int))):=Lib.hid (by rw [hst.out,h1];rfl)
     have H2:=(hH1.out.set 0 0 (.int .i64 3) rfl).set 0 1 (.int .i64 (k:Int)) rfl
     have r0:=H2.cell 0 0 rfl rfl;have r1:=H2.cell 0 1 rfl rfl
     have hH2:=Lib.hid H2
     clear H2 hst
     go_wp2_with fail
     refine (set_any mr w2).mono ?_
     rw [h1]
     rintro e w3 ⟨rfl,rfl⟩
     go_wp2_with fail
     refine bodyPost_ret (v:=.agg #[.int .i64 3,.int .i64 (k:Int)]) (by simp [results,Tryz.results14,go_sem,r0,r1]) rfl ⟨by rw [hE.out],hH2.out.bel⟩
    | true=>
     cases h2:isSet mw with
     | false=>
      have hE:Hid (M=(3,(k:Int))):=Lib.hid (by rw [hst.out,h1,h2];rfl)
      have H2:=(hH1.out.set 0 0 (.int .i64 3) rfl).set 0 1 (.int .i64 (k:Int)) rfl
      have r0:=H2.cell 0 0 rfl rfl;have r1:=H2.cell 0 1 rfl rfl
      have hH2:=Lib.hid H2
      clear H2 hst
      go_wp2_with fail
      refine (set_any mr w2).mono ?_
      rw [h1]
      rintro e w3 ⟨rfl,rfl⟩
      go_wp2_with fail
      refine (set_any mw w2).mono ?_
      rw [h2]
      rintro e w3 ⟨rfl,rfl⟩
      go_wp2_with fail
      refine bodyPost_ret (v:=.agg #[.int .i64 3,.int .i64 (k:Int)]) (by simp [results,Tryz.results14,go_sem,r0,r1]) rfl ⟨by rw [hE.out],hH2.out.bel⟩
     | true=>
      have hE:Hid (M=modsFrom (k+1) (l.drop (k+1))):=Lib.hid (by rw [hst.out,h1,h2];rfl)
      clear hst
      go_wp2_with fail
      refine (set_any mr w2).mono ?_
      rw [h1]
      rintro e w3 ⟨rfl,rfl⟩
      go_wp2_with fail
      refine (set_any mw w2).mono ?_
      rw [h2]
      rintro e w3 ⟨rfl,rfl⟩
      go_wp2_with fail
      go_roundw
      case rel=>exact ⟨k+1,by omega,by go_num,hH1.out.drop1 1,hE⟩
      case measure=>simp [intOf];omega
   ·obtain rfl:k=l.length:=by omega
    have hE2:Hid (M=(0,0)):=Lib.hid (by rw [hE.out,List.drop_length];rfl)
    have z0:=H.frozen 0 0 rfl;have z1:=H.frozen 0 1 rfl;have d0:=H.cell 0 0 rfl rfl;have d1:=H.cell 0 1 rfl rfl
    have H2:=(H.set 0 0 (.int .i64 0) rfl).set 0 1 (.int .i64 0) rfl
    have r0:=H2.cell 0 0 rfl rfl;have r1:=H2.cell 0 1 rfl rfl
    have hH2:=Lib.hid H2
    clear H2 H hE
    go_wp2_with fail
    refine bodyPost_ret (v:=.agg #[.int .i64 0,.int .i64 0]) (by simp [results,Tryz.results14,go_sem,r0,r1]) rfl ⟨by rw [hE2.out],hH2.out.bel⟩
open Go.RowKit
open Brood
theorem mods_one (l:List BMod):∀ u∈l.flatMap modCells,u.oneCell'=true:=by
 intro u hu
 obtain ⟨x,_,hu⟩:=List.mem_flatMap.1 hu
 simp [modCells] at hu
 rcases hu with rfl | rfl | rfl<;>rfl
theorem infoMod:(Tryz.prog.info? 55).map (fun i=>(i.zero,i.size,i.bytes))=some (some (.agg #[.int .i64 0,.int .i64 0,.bool false]),3,24):=by kernel_rfl
theorem sl_some_m (ad:Addr) (n c:Nat) (w:World):(binOp .eql 22 (.slice (some ad) n c) (.slice none 0 0)).run Tryz.prog w=.ok (.bool false) w:=by kernel_rfl
theorem sl_none_m (n c:Nat) (w:World):(binOp .eql 22 (.slice none n c) (.slice none 0 0)).run Tryz.prog w=.ok (.bool true) w:=by kernel_rfl
theorem cloneM_any (zs:List BMod) (A:Option Addr) (c:Nat) (hlen:zs.length*24≤140737488355328) (hn:A=none→c=0∧zs=[]) (w:World) (hA:RdM w w.heap.size A zs) :
  Calls Tryz.prog 32 #[.slice A zs.length c] w fun e w'=>∃ v,e=.returned v∧w'.ownsRow w.heap.size 55 3 v zs.length (zs.flatMap modCells)∧Below w.heap.size w w':=by
 obtain ⟨i0',hi0,hz0a,hz0b,hz0c⟩:=info_parts infoMod
 have hs1:=sl_some_m
 have hs2:=sl_none_m
 cases A with
 | none=>
  obtain ⟨rfl,rfl⟩:=hn rfl
  go_enter Tryz.func32,Tryz.ntmps32
  go_wp2_with fail
  go_ret
  exact ⟨_,rfl,own_nil _ _ _ _,Below.refl _ _⟩
 | some ad=>
  have hown0:(w.alloc (.cells #[] 55)).ownsRow w.heap.size 55 3 (.slice (some ⟨w.heap.size,0,none⟩) 0 0) 0 []:=World.ownsRow_lit w #[] 0 (Nat.le_refl _) (by unfold maxLen;omega) (by simp)
  have hA':=Rd.alloc hA (Nat.le_refl _) (.cells #[] 55)
  have hce:∀ j u,(zs.flatMap modCells)[j]?=some u→(w.alloc (.cells #[] 55)).cell? (ad.add j)=some u:=by
   intro j u hu
   have h0:0<zs.length:=by
    rcases Nat.eq_zero_or_pos zs.length with e | e
    ·have:zs=[]:=List.eq_nil_of_length_eq_zero e
     subst this
     simp [ints] at hu
    ·exact e
   obtain ⟨b,off,he,_,hc⟩:=hA'.2 h0
   obtain rfl:=Option.some.inj he
   rw [add_mk]
   exact hc j u hu
  have hcl:(zs.flatMap modCells).length=zs.length*3:=hA.1
  go_enter Tryz.func32,Tryz.ntmps32
  go_wp2_with (at_builtin;refine wpList_append_own _ rfl _ _ 22 rfl w.heap.size 55 i0' (.agg #[.int .i64 0,.int .i64 0,.bool false]) 3 24 Tryz.underlying22 hi0 hz0a hz0b hz0c rfl (by decide) _ _ _ rfl hown0 ad zs.length c (zs.flatMap modCells) rfl hcl hce (mods_one _) ?c3 ?c4 ?c5 ?_;rotate_left 3;intro v' w1 hown' hgrow _)
  case c3=>unfold maxLen;omega
  case c4=>omega
  case c5=>simp
  go_ret
  exact ⟨_,rfl,by simpa using hown',((Below.refl _ _).alloc (Nat.le_refl _) _).grown hgrow (by simp) (fun k e=>by cases e;exact Nat.le_refl _)⟩
open Go.RowKit
open Brood
def actE (x:SysIn):Ent:=.own (.slice x.A x.s.acts.length x.c) 76 4 x.s.acts.length (x.s.acts.flatMap actCells)
structure HIn where
 A:Option Addr
 c:Nat
 l:List TabIn
 Ag:Option Addr
 cg:Nat
 gens:List Int
 Am:Option Addr
 cm:Nat
 mods:List BMod
 As:Option Addr
 cs:Nat
 sys:List SysIn
def HIn.box (hb:Nat) (s:HIn):Ent:=.box hb 81 [.slice s.A s.l.length s.c,.slice s.Ag s.gens.length s.cg,.slice s.Am s.mods.length s.cm,.slice s.As s.sys.length s.cs]
def sysE (s:HIn):Ent:=.own (.slice s.As s.sys.length s.cs) 51 4 s.sys.length (s.sys.flatMap sysCells)
def modE (s:HIn):Ent:=.own (.slice s.Am s.mods.length s.cm) 55 3 s.mods.length (s.mods.flatMap modCells)
def hoE (hb:Nat) (s:HIn):List Ent:=s.box hb::sysE s::modE s::(stE s.A s.c s.l s.Ag s.cg s.gens++s.sys.map actE)
section
variable {w0 w:World} {hb:Nat} {s:HIn} {E:List Ent}
theorem Hp.hoSt (h:Hp w0 w E) (hs:∀ p∈hoE hb s,p∈E):RdSt w w.heap.size ⟨s.A,s.c,s.l,s.Ag,s.cg,s.gens⟩:=
 h.stRd (fun p hp=>hs p (by unfold hoE;simp [hp]))
theorem Hp.hoSys (h:Hp w0 w E) (hs:∀ p∈hoE hb s,p∈E):RdS w w.heap.size s.As s.sys:=by
 refine ⟨Rd.of_own (h.all (sysE s) (hs _ (by unfold hoE;simp))),fun x hx=>?_⟩
 exact Rd.of_own (h.all (actE x) (hs _ (by
  unfold hoE
  refine List.mem_cons_of_mem _ (List.mem_cons_of_mem _ (List.mem_cons_of_mem _ (List.mem_append_right _ (List.mem_map.2 ⟨x,hx,rfl⟩)))))))
theorem Hp.hoMod (h:Hp w0 w E) (hs:∀ p∈hoE hb s,p∈E):RdM w w.heap.size s.Am s.mods:=
 Rd.of_own (h.all (modE s) (hs _ (by unfold hoE;simp)))
end
open Go.RowKit
open Brood
theorem ho_turn {w0 w:World} {bh:Nat} {s:HIn} {E:List Ent} {A':Option Addr} {c':Nat} {l':List TabIn} {Ag':Option Addr} {cg':Nat} {gens':List Int}
  (H:Hp w0 w (.box bh 81 [.slice A' l'.length c',.slice Ag' gens'.length cg',.slice s.Am s.mods.length s.cm,.slice s.As s.sys.length s.cs]::sysE s::modE s::(((stE s.A s.c s.l s.Ag s.cg s.gens++s.sys.map actE)++E)++stE A' c' l' Ag' cg' gens'))) :
  Hp w0 w (hoE bh { s with A:=A',c:=c',l:=l',Ag:=Ag',cg:=cg',gens:=gens' }++E):=by
 have H2:Hp w0 w (.box bh 81 [.slice A' l'.length c',.slice Ag' gens'.length cg',.slice s.Am s.mods.length s.cm,.slice s.As s.sys.length s.cs]::sysE s::modE s::((s.sys.map actE++E)++stE A' c' l' Ag' cg' gens')):=by
  refine H.sub (.cons_cons _ (.cons_cons _ (.cons_cons _ ?_)))
  rw [List.append_assoc (stE s.A s.c s.l s.Ag s.cg s.gens)]
  exact List.Sublist.append_right (List.sublist_append_right _ _) _
 have e:hoE bh { s with A:=A',c:=c',l:=l',Ag:=Ag',cg:=cg',gens:=gens' }++E=.box bh 81 [.slice A' l'.length c',.slice Ag' gens'.length cg',.slice s.Am s.mods.length s.cm,.slice s.As s.sys.length s.cs]::sysE s::modE s::(stE A' c' l' Ag' cg' gens'++(s.sys.map actE++E)):=by
  unfold hoE HIn.box
  simp [sysE,modE]
 rw [e]
 exact H2.perm (.cons _ (.cons _ (.cons _ List.perm_append_comm)))
structure HIs (s:HIn) (h:BHouse):Prop where
 mods:s.mods=h.mods
 sys:sysOf s.sys=h.syss
 tabs:s.l.map tabOf=tabsW h.W.rows
 gens:s.gens=h.W.gens
def ansVal (e i g:Int) (A:Option Addr) (n c:Nat) (z:Int):Value:=.agg #[.int .i64 e,.int .i64 i,.int .i64 g,.slice A n c,.int .i64 z]
end Go.Proofs.YtefdblaolmckmacGreat
