/- Lemmas of the proof. -/
import Derived.Maps.AppendAt
import Derived.Test.YtefdblaolmckmabGreatRBRef2MRToNumB
import Derived.Test.YtefdblaolmckmabGreatRBSpecOToSpecR
import Derived.Test.YtefdblaolmckmabGreatRBSpecVToStoA
import Derived.Test.YtefdblaolmckmabGreatRBPlainAToHp
set_option linter.unusedVariables false
set_option linter.unusedSimpArgs false
set_option maxRecDepth 100000
set_option maxHeartbeats 12800000
namespace Go.Proofs.YtefdblaolmckmabGreat
open Go.RowKit
open Brood
open Brood
def grpAt (rows:List BRow) (k:Nat):Grp:=⟨(k:Int),rows.filter (fun r=>r.has==(k:Int))⟩
def upG (rows:List BRow):Nat→List Grp
 | 0=>[]
 | k+1=>upG rows k++(if (grpAt rows k).rs=[] then [] else [grpAt rows k])
theorem upG_mem {rows:List BRow}:∀ {k:Nat} {g:Grp},g∈upG rows k↔∃ j,j<k∧g=grpAt rows j∧(grpAt rows j).rs≠[]
 | 0,g=>by simp [upG]
 | k+1,g=>by
  rw [upG,List.mem_append,upG_mem]
  constructor
  ·rintro (⟨j,h1,h2,h3⟩ | h)
   ·exact ⟨j,by omega,h2,h3⟩
   ·split at h
    ·cases h
    ·rename_i hn
     exact ⟨k,by omega,List.mem_singleton.1 h,hn⟩
  ·rintro ⟨j,h1,h2,h3⟩
   by_cases e:j=k
   ·subst e
    refine .inr ?_
    rw [if_neg h3,h2]
    exact List.mem_singleton.2 rfl
   ·exact .inl ⟨j,by omega,h2,h3⟩
theorem upG_up {rows:List BRow}:∀ k,(upG rows k).Pairwise (fun a b=>a.h<b.h)
 | 0=>List.Pairwise.nil
 | k+1=>by
  rw [upG,List.pairwise_append]
  refine ⟨upG_up k,?_,fun a ha b hb=>?_⟩
  ·split<;>simp
  ·obtain ⟨j,h1,rfl,_⟩:=upG_mem.1 ha
   split at hb
   ·cases hb
   ·rw [List.mem_singleton.1 hb]
    show (j:Int)<(k:Int)
    omega
theorem flat_upG {rows:List BRow}:∀ k,(flatG (upG rows k)).Perm (rows.filter (fun r=>decide (0≤r.has∧r.has<(k:Int))))
 | 0=>by
  have:rows.filter (fun r=>decide (0≤r.has∧r.has<((0:Nat):Int)))=[]:=by
   rw [List.filter_eq_nil_iff]
   intro r _
   simp<;>omega
  rw [this]
  exact List.Perm.refl _
 | k+1=>by
  have ih:=flat_upG (rows:=rows) k
  have e1:flatG (upG rows (k+1))=flatG (upG rows k)++(grpAt rows k).rs:=by
   rw [upG]
   unfold flatG
   rw [List.flatMap_append]
   congr 1
   split
   ·rename_i h
    rw [h];rfl
   ·simp
  rw [e1]
  refine (ih.append_right _).trans ?_
  unfold grpAt
  dsimp only
  clear ih e1
  induction rows with
  | nil=>simp
  | cons r l ih=>
   simp only [List.filter_cons]
   by_cases h1:0≤r.has∧r.has<(k:Int)
   ·have h2:¬ r.has=(k:Int):=by omega
    have h3:0≤r.has∧r.has<((k+1:Nat):Int):=by omega
    simp only [h1,h2,h3,decide_true,if_true,beq_eq_false_iff_ne.2 h2,and_self,Bool.false_eq_true,if_false,List.cons_append]
    exact ih.cons r
   ·by_cases h2:r.has=(k:Int)
    ·have h3:0≤r.has∧r.has<((k+1:Nat):Int):=by omega
     have h1':decide (0≤r.has∧r.has<(k:Int))=false:=decide_eq_false h1
     have h3':decide (0≤r.has∧r.has<((k+1:Nat):Int))=true:=decide_eq_true h3
     have h2':(r.has==(k:Int))=true:=beq_iff_eq.2 h2
     rw [h1',h3',h2']
     simp only [Bool.false_eq_true,if_false,if_true]
     exact List.perm_middle.trans (ih.cons r)
    ·have h3:¬ (0≤r.has∧r.has<((k+1:Nat):Int)):=by omega
     have h1':decide (0≤r.has∧r.has<(k:Int))=false:=decide_eq_false h1
     have h3':decide (0≤r.has∧r.has<((k+1:Nat):Int))=false:=decide_eq_false h3
     have h2':(r.has==(k:Int))=false:=beq_eq_false_iff_ne.2 h2
     rw [h1',h3',h2']
     simp only [Bool.false_eq_true,if_false]
     exact ih
theorem upG_all {rows:List BRow} {gens:List Int} (h:RightW rows gens):upG rows 256=ofG rows:=by
 refine Rep.uniq (rows:=rows) ⟨⟨upG_up 256,?_,?_,?_,?_⟩,?_,h.rise⟩ h.rep
 ·intro g hg
  obtain ⟨j,_,rfl,hn⟩:=upG_mem.1 hg
  exact hn
 ·intro g hg r hr
  obtain ⟨j,_,rfl,_⟩:=upG_mem.1 hg
  exact beq_iff_eq.1 (List.mem_filter.1 hr).2
 ·intro g hg
  obtain ⟨j,_,rfl,_⟩:=upG_mem.1 hg
  exact rise_sub h.rise List.filter_sublist
 ·intro g hg r hr
  obtain ⟨j,_,rfl,_⟩:=upG_mem.1 hg
  exact h.row r (List.mem_filter.1 hr).1
 ·have h1:=flat_upG (rows:=rows) 256
  have h2:rows.filter (fun r=>decide (0≤r.has∧r.has<((256:Nat):Int)))=rows:=by
   rw [List.filter_eq_self]
   intro r hr
   have:=isSet_iff.1 (h.set_ r hr)
   exact decide_eq_true (by omega)
  rw [h2] at h1
  exact h1
open Go.RowKit
theorem eval_tmp {a:Act} {t:Nat} {v:Value} (h:a.tmps[t]?.getD undef=v):a.eval (.tmp t)=v:=by
 rw [← h]
 simp [Act.eval,Array.getD_eq_getD_getElem?]
theorem oper_append_own {P:Program} {o:Oper} {a:Act} {w:World} {K:Act→World→Prop} {Q:Exit→Act→World→Prop} (s x:Operand) (t:TypeId)
  (ho:o.op=.call { callee:=.builtin .append,args:=#[s,x],argTypes:=#[t,t] })
  (base:Nat) (e:TypeId) (i:TypeInfo) (z:Value) (size bytes:Nat) (ht:P.underlying t=some (.slice e)) (hi:P.info? e=some i) (hz:i.zero=some z)
  (hsize:i.size=size) (hby:i.bytes=bytes) (hzs:z.cells.size=size) (hsz:0<size)
  (v:Value) (n:Nat) (xs:List Value) (hs:a.eval s=v) (hown:w.ownsRow base e size v n xs)
  (ad:Addr) (m c:Nat) (news:List Value) (hx:a.eval x=.slice (some ad) m c) (hl:news.length=m*size) (hnews:∀ j u,news[j]?=some u→w.cell? (ad.add j)=some u) (h1:∀ u∈news,u.oneCell'=true)
  (h63:n+m≤maxLen) (hbytes:(n+m)*bytes≤140737488355328) (hbase:base≤w.heap.size)
  (h:∀ v' w',w'.ownsRow base e size v' (n+m) (xs++news)→w.grownBy w' v.ownBlock→(v'.ownBlock=v.ownBlock∨v'.ownBlock=some w.heap.size)→K (a.put o.dst v') w') :
  o.wp P a w K Q:=by
 obtain ⟨v',w',hr,h2,h3,h4,h5⟩:=run_append_own_at (P:=P) w base t o.type e i z size bytes ht hi hz hsize hby hzs hsz v n xs hown ad m c news hl hnews h1 h63 hbytes hbase
 unfold Oper.wp execOp
 simp only [ho,resolve,invoke,builtin,Sem.run_bind,Sem.run_pure,Result.andThen_ok,List.map_toArray,List.map_cons,List.map_nil,hs,hx,hr]
 exact h v' w' h2 h3 h5
end Go.Proofs.YtefdblaolmckmabGreat
