/- Lemmas of the proof. -/
import Derived.Deep.RegionLaw
import Derived.Lib.Overlaps
import Derived.Lib.AppendZerosOnto
import Derived.Laws.IdiomCopy
import Derived.Laws.NewBlocks
import Derived.Laws.Externs
import Derived.Laws.StructEq
import Derived.Test.YtefdblaolmckmabGreatRBPlainAToHp
import Derived.Test.YtefdblaolmckmabGreatRRuleA
import Derived.Test.YtefdblaolmckmabGreatRBRowToInv
set_option linter.unusedVariables false
set_option linter.unusedSimpArgs false
set_option maxRecDepth 100000
set_option maxHeartbeats 12800000
namespace Go.Proofs.YtefdblaolmckmabGreat
open Go.RowKit Go.Maps
open Brood
def isB (i g:Int) (r:BRow):Bool:=r.idx==i && r.gen==g
def findR (i g:Int):List BRow→Option Nat
 | []=>none
 | r::l=>if isB i g r then some 0 else (findR i g l).map (·+1)
def rowV (r:BRow):Value:=.agg (rowCells r).toArray
def getP (i g:Int) (rows:List BRow) (part:Int):Int×Bool:=
 match findR i g rows with
 | some k=>match rows[k]? with
  | some r=>if hasB r.has part then (r.vals.getD part.toNat 0,true) else (0,false)
  | none=>(0,false)
 | none=>(0,false)
theorem findR_lt {i g:Int}:∀ {rows:List BRow} {k:Nat},findR i g rows=some k→k<rows.length
 | [],k,h=>by simp [findR] at h
 | r::l,k,h=>by
  rw [findR] at h
  split at h
  ·have:=Option.some.inj h;simp;omega
  ·cases h':findR i g l with
   | none=>rw [h'] at h;cases h
   | some q=>
    rw [h'] at h
    have h2:=findR_lt h'
    have h3:q+1=k:=Option.some.inj h
    simp only [List.length_cons]
    omega
structure OwnW (w:World) (base:Nat) (vr vg:Value) (rows:List BRow) (gens:List Int):Prop where
 rows_:w.ownsRow base 114 11 vr rows.length (rows.flatMap rowCells)
 gens_:w.ownsRow base 3 1 vg gens.length (ints gens)
theorem zeroBool (w:World):(zeroValue 4).run Tryz.prog w=.ok (.bool false) w:=by kernel_rfl
def MapU (w:World) (b:Nat) (zs:List Int):Prop:=
 ∃ D:DataW Unit,w.ownsMap Tryz.prog 3 (plainElem Tryz.prog 4) b zs.length D∧∀ k:Int,D.atKey (.int .i64 k) (.lit (.bool false))=.lit (.bool (zs.contains k))
theorem plainElem_bool_inv {P:Program} {e:TypeId} (he:P.underlying e=some .bool) {v:Value} {z:DataW Unit×List MemPlace} (h:plainElem P e v=some z):∃ x,v=.bool x∧z=(.lit (.bool x),[]):=by
 unfold plainElem at h
 rw [he] at h
 cases v<;>simp at h
 exact ⟨_,rfl,h.symm⟩
section
variable {w w':World} {b:Nat} {zs:List Int}
theorem MapU.lt (h:MapU w b zs):b<w.heap.size:=by obtain ⟨D,h1,_⟩:=h;exact h1.lt
theorem MapU.below (h:MapU w b zs) (hb:Below w.heap.size w w'):MapU w' b zs:=by
 have hlt:=h.lt
 obtain ⟨D,⟨es',clock,h1,h2⟩,h3⟩:=h
 exact ⟨D,⟨es',clock,(hb.block b hlt).trans h1,h2⟩,h3⟩
theorem MapU.alloc (h:MapU w b zs) (o:Obj):MapU (w.alloc o) b zs:=h.below ((Below.refl _ _).alloc (Nat.le_refl _) o)
theorem MapU.far (h:MapU w b zs) {a:Addr} (ha:b≠a.block) (u:Value):MapU (w.setCell a u) b zs:=by
 obtain ⟨D,h1,h2⟩:=h
 exact ⟨D,h1.setCell ha u,h2⟩
theorem MapU.made (w:World):MapU (w.alloc (.map #[] 0)) w.heap.size []:=
 ⟨.map [],World.ownsMap_made _ _ _ _,fun k=>rfl⟩
theorem MapU.look (h:MapU w b zs) {k:Int} (hk:(Lit.int .i64 k).wf=true):(Instr.lookup 159 (.map (some b)) (.int .i64 k) false).run Tryz.prog w=.ok (.bool (zs.contains k)) w:=by
 obtain ⟨D,h1,h2⟩:=h
 obtain ⟨v,ps,hrun,hv⟩:=h1.lookup keyInt Tryz.underlying159 (zeroBool w) (plainElem_bool Tryz.underlying4 false) (keyOf_int_mk Tryz.underlying3 hk)
 obtain ⟨c,rfl,hc⟩:=plainElem_bool_inv Tryz.underlying4 hv
 rw [h2] at hc
 simp only [Prod.mk.injEq,DataW.lit.injEq,Lit.bool.injEq] at hc
 rw [hrun,hc.1]
theorem MapU.put {z:Int} {D:DataW Unit} (h1:w.ownsMap Tryz.prog 3 (plainElem Tryz.prog 4) b zs.length D) (h2:∀ k:Int,D.atKey (.int .i64 k) (.lit (.bool false))=.lit (.bool (zs.contains k)))
  (hown:w'.ownsMap Tryz.prog 3 (plainElem Tryz.prog 4) b (zs.length+1) (D.put (.int .i64 z) (.lit (.bool true)))):MapU w' b (zs++[z]):=by
 have ht:=h1.tidy keyInt
 refine ⟨_,by simpa using hown,fun j=>?_⟩
 by_cases hj:j=z
 ·subst hj
  rw [atKey_put_same ht.isMap (int_key _)]
  simp
 ·have:(Lit.int .i64 j)≠Lit.int .i64 z:=by
   intro e;injection e with _ e;exact hj e
  rw [atKey_put_other this,h2]
  simp [hj]
end
def nextFrom (used:List Int):Nat→List Int→Option (Int×Int)
 | _,[]=>none
 | i,n::l=>if !used.contains (i:Int) && decide (n<1000) then some ((i:Int),n+1) else nextFrom used (i+1) l
def nextV (rows:List BRow) (gens:List Int):Int×Int×Int:=
 match nextFrom (rows.map (·.idx)) 0 gens with
 | some p=>(p.1,p.2,0)
 | none=>if 60≤gens.length then (0,0,4) else ((gens.length:Int),1,0)
theorem wf_of {z:Int} (h1:-9223372036854775808≤z) (h2:z<9223372036854775808):(Lit.int .i64 z).wf=true:=by
 have e:IntKind.i64.wrap z=z:=by rw [IntKind.wrap_i64];omega
 rw [← e];exact wf_wrap _ _
def patch:Array Value→Nat→List Value→Array Value
 | cs,_,[]=>cs
 | cs,o,v::r=>patch (cs.setIfInBounds o v) (o+1) r
theorem patch_size:∀ (vs:List Value) (cs:Array Value) (o:Nat),(patch cs o vs).size=cs.size
 | [],_,_=>rfl
 | v::r,cs,o=>by rw [patch,patch_size r];simp
theorem patch_out:∀ (vs:List Value) (cs:Array Value) (o j:Nat),(j<o∨o+vs.length≤j)→(patch cs o vs)[j]?=cs[j]?
 | [],_,_,_,_=>rfl
 | v::r,cs,o,j,h=>by
  rw [patch,patch_out r _ (o+1) j (by simp at h;omega),Array.getElem?_setIfInBounds_ne (by simp at h;omega)]
theorem patch_in:∀ (vs:List Value) (cs:Array Value) (o j:Nat),j<vs.length→o+vs.length≤cs.size→(patch cs o vs)[o+j]?=vs[j]?
 | v::r,cs,o,0,_,hs=>by
  simp at hs
  rw [Nat.add_zero,patch,patch_out r _ (o+1) o (by omega),Array.getElem?_setIfInBounds_self_of_lt (by omega)]
  rfl
 | v::r,cs,o,j+1,h,hs=>by
  simp at h hs
  have:=patch_in r (cs.setIfInBounds o v) (o+1) j h (by simp;omega)
  rw [patch,show o+(j+1)=o+1+j by omega,this]
  rfl
theorem Blk.sets {t:TypeId} {g:Nat}:∀ (vs:List Value) {w:World} {cs:Array Value} (o:Nat),Blk w g t cs→Blk (w.setCells g o vs) g t (patch cs o vs)
 | [],_,_,_,h=>h
 | v::r,_,_,o,h=>Blk.sets r (o+1) (h.set_ o v)
theorem grown_sets (g:Nat):∀ (vs:List Value) (w:World) (o:Nat),w.grownBy (w.setCells g o vs) (some g)
 | [],w,_=>⟨rfl,rfl,rfl,Nat.le_refl _,fun _ _ _=>rfl⟩
 | v::r,w,o=>by
  have h:=grown_sets g r (w.setCell ⟨g,o,none⟩ v) (o+1)
  refine ⟨h.os,h.tape,h.output,Nat.le_trans (by simp) h.size,fun i hi hne=>?_⟩
  rw [World.setCells,h.block i (by simpa using hi) hne]
  exact Below.heap_setCell w _ v i (fun e=>hne (by simp at e;rw [e]))
theorem run_copy_sz {P:Program} (w:World) (dT sT ty elem:TypeId) (b o dLen dCap:Nat) (a:Addr) (sLen sCap sz:Nat) (cs:List Value)
  (hu:P.underlying dT=some (.slice elem)) (hs:(P.info? elem).map (·.size)=some sz) (hn:cs.length=Nat.min sLen dLen*sz)
  (hsrc:∀ j v,cs[j]?=some v→w.cell? (a.add j)=some v) (hc:∀ j,j<cs.length→(w.cell? ⟨b,o+j,none⟩).isSome=true) (hf:∀ j,j<cs.length→w.frozen? ⟨b,o+j,none⟩=false) (h1:∀ v∈cs,v.oneCell'=true) :
  (Builtin.copy_ #[dT,sT] ty #[.slice (some ⟨b,o,none⟩) dLen dCap,.slice (some a) sLen sCap]).run P w=.ok (goInt (Nat.min sLen dLen)) (w.setCells b o cs):=by
 have hl:=run_loadCells_list (P:=P) w a cs hsrc
 have hst:=run_storeCells_cells (P:=P) b o cs 0 w (by simpa using hc) (by simpa using hf) h1
 cases hq:P.info? elem with
 | none=>simp [hq] at hs
 | some i=>
  have hi:i.size=sz:=by simpa [hq] using hs
  simp [Builtin.copy_,run_underlying hu,Builtin.lenOf,Builtin.firstCells,sizeOf,typeInfo,hq,hi,← hn,hl,hst]
theorem ins_cells {xs rs ys:List Value} {cs:Array Value} {p q n:Nat} (hp:p≤xs.length) (hr:rs.length=q) (hn:n=xs.length+q) (hy:ys=xs.take p++rs++xs.drop p) (hcs:n≤cs.size)
  (h0:∀ j,j<p→cs[j]?=xs[j]?) (h1:∀ j,j<q→cs[p+j]?=rs[j]?) (h2:∀ j,j<xs.length-p→cs[p+q+j]?=xs[p+j]?):cs.toList.take n=ys:=by
 apply List.ext_getElem?
 intro j
 rw [List.getElem?_take,hy]
 by_cases hj:j<n
 ·rw [if_pos hj,Array.getElem?_toList]
  rcases Nat.lt_or_ge j p with h | h
  ·rw [h0 j h,List.append_assoc,List.getElem?_append_left (by rw [List.length_take];omega),List.getElem?_take,if_pos h]
  ·rcases Nat.lt_or_ge j (p+q) with h' | h'
   ·have:=h1 (j-p) (by omega)
    rw [show p+(j-p)=j by omega] at this
    rw [this,List.append_assoc,List.getElem?_append_right (by rw [List.length_take];omega),List.length_take,Nat.min_eq_left hp,List.getElem?_append_left (by omega)]
   ·have:=h2 (j-(p+q)) (by omega)
    rw [show p+q+(j-(p+q))=j by omega] at this
    rw [this,List.getElem?_append_right (by rw [List.length_append,List.length_take];omega),List.length_append,List.length_take,Nat.min_eq_left hp,List.getElem?_drop,hr]
 ·rw [if_neg hj,List.getElem?_eq_none]
  simp only [List.length_append,List.length_take,List.length_drop]
  omega
theorem rowCells_one (r:BRow):∀ u∈rowCells r,u.oneCell'=true:=by
 intro u hu
 simp only [rowCells,List.mem_append,List.mem_cons,List.not_mem_nil,or_false] at hu
 rcases hu with (rfl | rfl | rfl) | h
 ·rfl
 ·rfl
 ·rfl
 ·exact ints_one _ u h
def insRow (rows:List BRow) (k:Nat) (r:BRow):List BRow:=rows.take k++r::rows.drop k
theorem insRow_length {rows:List BRow} {k:Nat} (hk:k≤rows.length) (r:BRow):(insRow rows k r).length=rows.length+1:=by
 simp [insRow];omega
def cmpI (a b:Int):Int:=if a<b then -1 else if b<a then 1 else 0
def posOf (x:Int):List BRow→Nat
 | []=>0
 | r::l=>if r.idx<x then posOf x l+1 else 0
theorem posOf_le (x:Int):∀ rows:List BRow,posOf x rows≤rows.length
 | []=>Nat.le_refl _
 | r::l=>by
  have:=posOf_le x l
  rw [posOf,List.length_cons]
  split<;>omega
theorem posOf_eq {x:Int}:∀ {rows:List BRow} {i:Nat},i≤rows.length→(∀ t (ht:t<rows.length),t<i→rows[t].idx<x)→(∀ t (ht:t<rows.length),i≤t→¬ rows[t].idx<x)→posOf x rows=i
 | [],i,h,_,_=>by simp at h;subst h;rfl
 | r::l,0,_,_,h2=>by
  have:=h2 0 (by simp) (Nat.le_refl _)
  rw [posOf,if_neg (by simpa using this)]
 | r::l,i+1,h,h1,h2=>by
  have h0:=h1 0 (by simp) (by omega)
  rw [posOf,if_pos (by simpa using h0),posOf_eq (i:=i) (by simpa using h) (fun t ht hti=>h1 (t+1) (by simp;omega) (by omega)) (fun t ht hti=>h2 (t+1) (by simp;omega) (by omega))]
def Rise (rows:List BRow):Prop:=∀ i j (hi:i<rows.length) (hj:j<rows.length),i<j→rows[i].idx<rows[j].idx
def GotW (w:World) (base:Nat) (v:Value) (rows:List BRow) (gens:List Int):Prop:=∃ vr vg,v=.agg #[vr,vg]∧OwnW w base vr vg rows gens
theorem GotW.zero (w:World) (base:Nat):GotW w base (.agg #[.slice none 0 0,.slice none 0 0]) [] []:=⟨_,_,rfl,own_nil _ _ _ _,own_nil _ _ _ _⟩
def putF (part n:Int) (r:BRow):BRow×Int:=
 if isPart part && isVal n then (⟨r.idx,r.gen,withS r.has part,r.vals.set part.toNat n,by rw [List.length_set];exact r.h8⟩,0) else (r,3)
def dropF (part:Int) (r:BRow):BRow×Int:=
 if hasB r.has part then (⟨r.idx,r.gen,withoutS r.has part,r.vals.set part.toNat 0,by rw [List.length_set];exact r.h8⟩,0) else (r,5)
def keepF (r:BRow):BRow×Int:=(r,0)
def RowIn (cur:Array Value) (o:Nat) (r:BRow):Prop:=∀ j u,(rowCells r)[j]?=some u→cur[o+j]?=some u
theorem RowIn.has {cur:Array Value} {o:Nat} {r:BRow} (h:RowIn cur o r):cur[o+2]?=some (.int .i64 r.has):=h 2 _ rfl
theorem RowIn.val {cur:Array Value} {o:Nat} {r:BRow} (h:RowIn cur o r) {k:Nat} (hk:k<8):cur[o+3+k]?=some (.int .i64 (r.vals[k]'(by rw [r.h8];exact hk))):=by
 have:=h (3+k) (.int .i64 (r.vals[k]'(by rw [r.h8];exact hk))) (by
  unfold rowCells
  rw [List.getElem?_append_right (by simp),show 3+k - [Value.int IntKind.i64 r.idx,Value.int IntKind.i64 r.gen,Value.int IntKind.i64 r.has].length=k by simp]
  exact ints_get (by rw [r.h8];exact hk))
 rwa [← Nat.add_assoc] at this
theorem patch_row {cur:Array Value} {o:Nat} {r:BRow} (h:RowIn cur o r) (s z:Int) {q:Nat} (hq:q<8) (h8:(r.vals.set q z).length=8) :
  (cur.setIfInBounds (o+2) (.int .i64 s)).setIfInBounds (o+3+q) (.int .i64 z)=patch cur o (rowCells ⟨r.idx,r.gen,s,r.vals.set q z,h8⟩):=by
 have hsz:o+10<cur.size:=by
  obtain ⟨idx,gen,has,vals,e8⟩:=r
  obtain ⟨a0,a1,a2,a3,a4,a5,a6,a7,rfl⟩:=vals_eight e8
  have:=h 10 _ rfl
  exact (Array.getElem?_eq_some_iff.1 this).1
 apply Array.ext_getElem?
 intro j
 by_cases hj:j<o∨o+11≤j
 ·rw [patch_out _ _ _ _ (by rw [rowCells_length];exact hj),Array.getElem?_setIfInBounds_ne (by omega),Array.getElem?_setIfInBounds_ne (by omega)]
 ·obtain ⟨d,rfl⟩:∃ d,j=o+d:=⟨j-o,by omega⟩
  have hd:d<11:=by omega
  rw [patch_in _ _ _ _ (by rw [rowCells_length];exact hd) (by rw [rowCells_length];omega)]
  have hrd:(rowCells r)[d]?=cur[o+d]?:=by
   obtain ⟨u,hu⟩:∃ u,(rowCells r)[d]?=some u:=⟨_,List.getElem?_eq_getElem (by rw [rowCells_length];exact hd)⟩
   rw [hu,h d u hu]
  by_cases h2:d=3+q
  ·subst h2
   rw [← Nat.add_assoc,Array.getElem?_setIfInBounds_self_of_lt (by simp;omega)]
   unfold rowCells
   rw [List.getElem?_append_right (by simp),show 3+q-([Value.int IntKind.i64 r.idx,Value.int IntKind.i64 r.gen,Value.int IntKind.i64 s]:List Value).length=q by simp]
   simp [ints,r.h8,hq]
  ·rw [Array.getElem?_setIfInBounds_ne (by omega)]
   by_cases h3:d=2
   ·subst h3
    rw [Array.getElem?_setIfInBounds_self_of_lt (by omega)]
    rfl
   ·rw [Array.getElem?_setIfInBounds_ne (by omega),← hrd]
    unfold rowCells
    by_cases h4:d<3
    ·rw [List.getElem?_append_left (by simpa using h4),List.getElem?_append_left (by simpa using h4)]
     match d,h4 with
     | 0,_=>rfl
     | 1,_=>rfl
     | 2,_=>exact absurd rfl h3
    ·rw [List.getElem?_append_right (by simp;omega),List.getElem?_append_right (by simp;omega)]
     simp only [ints,List.getElem?_map,List.length_cons,List.length_nil]
     rw [List.getElem?_set_ne (by omega)]
theorem patch_same {cur:Array Value} {o:Nat} {r:BRow} (h:RowIn cur o r):patch cur o (rowCells r)=cur:=by
 apply Array.ext_getElem?
 intro j
 by_cases hj:j<o∨o+11≤j
 ·rw [patch_out _ _ _ _ (by rw [rowCells_length];exact hj)]
 ·have hsz:o+10<cur.size:=by
   obtain ⟨idx,gen,has,vals,e8⟩:=r
   obtain ⟨a0,a1,a2,a3,a4,a5,a6,a7,rfl⟩:=vals_eight e8
   have:=h 10 _ rfl
   exact (Array.getElem?_eq_some_iff.1 this).1
  obtain ⟨d,rfl⟩:∃ d,j=o+d:=⟨j-o,by omega⟩
  rw [patch_in _ _ _ _ (by rw [rowCells_length];omega) (by rw [rowCells_length];omega)]
  obtain ⟨u,hu⟩:∃ u,(rowCells r)[d]?=some u:=⟨_,List.getElem?_eq_getElem (by rw [rowCells_length];omega)⟩
  rw [hu,h d u hu]
theorem grown_refl (w:World) (row:Option Nat):w.grownBy w row:=⟨rfl,rfl,rfl,Nat.le_refl _,fun _ _ _=>rfl⟩
structure Changed where
 rows:List BRow
 gens:List Int
 err:Int
def changeV (rows:List BRow) (gens:List Int) (i g:Int) (fr:BRow→BRow×Int):Changed:=
 if (worldErr ⟨rows,gens⟩).1≠0 then ⟨[],[],(worldErr ⟨rows,gens⟩).1⟩
 else match findR i g rows with
  | none=>⟨[],[],5⟩
  | some k=>match rows[k]? with
   | none=>⟨[],[],5⟩
   | some r=>if (fr r).2≠0 then ⟨[],[],(fr r).2⟩ else ⟨rows.set k (fr r).1,gens,0⟩
theorem grown_then {w w1 w2:World} {g:Option Nat} (h:w.grownBy w1 g) (h2:Below w1.heap.size w1 w2):w.grownBy w2 g:=
 ⟨h2.os.trans h.os,h2.tape.trans h.tape,h2.output.trans h.output,Nat.le_trans h.size h2.size,fun k hk hne=>(h2.block k (Nat.lt_of_lt_of_le hk h.size)).trans (h.block k hk hne)⟩
theorem grown_grown {w w1 w2:World} {g:Option Nat} (h:w.grownBy w1 g) (h2:w1.grownBy w2 g):w.grownBy w2 g:=
 ⟨h2.os.trans h.os,h2.tape.trans h.tape,h2.output.trans h.output,Nat.le_trans h.size h2.size,fun k hk hne=>(h2.block k (Nat.lt_of_lt_of_le hk h.size) hne).trans (h.block k hk hne)⟩
theorem run_clear_sz {P:Program} (w:World) (t e ty:TypeId) (z:Value) (sz:Nat) (b o n c:Nat) (ht:P.underlying t=some (.slice e)) (hv:∀ w,(zeroValue e).run P w=.ok z w) (hz:z.cells.size=sz) (h1:∀ u∈(Builtin.zeroCells z.cells n).toList,u.oneCell'=true) (hn:0<n)
  (hc:∀ j,j<n*sz→(w.cell? ⟨b,o+j,none⟩).isSome=true) (hf:∀ j,j<n*sz→w.frozen? ⟨b,o+j,none⟩=false) :
  (Builtin.clear_ #[t] ty #[.slice (some ⟨b,o,none⟩) n c]).run P w=.ok (.tuple #[]) (w.setCells b o (Builtin.zeroCells z.cells n).toList):=by
 have hl:(Builtin.zeroCells z.cells n).toList.length=n*sz:=by rw [Array.length_toList,size_zeroCells,hz]
 have hst:=run_storeCells_cells (P:=P) b o (Builtin.zeroCells z.cells n).toList 0 w (by rw [hl];simpa using hc) (by rw [hl];simpa using hf) h1
 simp only [Nat.add_zero] at hst
 obtain ⟨m,rfl⟩:∃ m,n=m+1:=⟨n-1,by omega⟩
 simp [Builtin.clear_,run_underlying ht,hv,hst]
theorem zeroCells_one {z:Array Value} {n:Nat} (h:∀ u∈z.toList,u.oneCell'=true):∀ u∈(Builtin.zeroCells z n).toList,u.oneCell'=true:=by
 intro u hu
 obtain ⟨i,hi⟩:=List.getElem?_of_mem hu
 rw [Array.getElem?_toList] at hi
 obtain ⟨hlt,he⟩:=Array.getElem?_eq_some_iff.1 hi
 rw [size_zeroCells] at hlt
 have hz:0<z.size:=by
  rcases Nat.eq_zero_or_pos z.size with h0 | h0
  ·rw [h0] at hlt;omega
  ·exact h0
 simp only [Builtin.zeroCells] at he
 simp at he
 rw [← he]
 refine h _ ?_
 rw [Array.mem_toList_iff,getElem!_pos z _ (Nat.mod_lt _ hz)]
 exact Array.getElem_mem _
def keepR (p:BRow→Bool) (rows:List BRow):List BRow:=rows.filter fun r=>!p r
theorem keepR_take {p:BRow→Bool} {rows:List BRow} {j:Nat} (hj:j<rows.length):keepR p (rows.take (j+1))=keepR p (rows.take j)++(if p rows[j] then [] else [rows[j]]):=by
 rw [List.take_add_one,List.getElem?_eq_getElem hj,Option.toList_some]
 unfold keepR
 rw [List.filter_append]
 congr 1
 cases h:p rows[j]<;>simp [List.filter_cons,h]
theorem keepR_all {p:BRow→Bool} {rows:List BRow} (h:∀ r∈rows,p r=false):keepR p rows=rows:=by
 unfold keepR
 rw [List.filter_eq_self]
 intro r hr
 rw [h r hr];rfl
structure DelSt (p:BRow→Bool) (rows cur:List BRow) (i j:Nat):Prop where
 len:cur.length=rows.length
 lt:i<j
 le:j≤rows.length
 head:cur.take i=keepR p (rows.take j)
 tail:cur.drop j=rows.drop j
section
variable {p:BRow→Bool} {rows cur:List BRow} {i j:Nat}
theorem DelSt.at_ (h:DelSt p rows cur i j) (hj:j<rows.length):cur[j]'(by rw [h.len];exact hj)=rows[j]:=by
 have:=congrArg (fun l=>l[0]?) h.tail
 simp only [List.getElem?_drop,Nat.add_zero] at this
 rw [List.getElem?_eq_getElem (by rw [h.len];exact hj),List.getElem?_eq_getElem hj] at this
 exact Option.some.inj this
theorem DelSt.keep (h:DelSt p rows cur i j) (hj:j<rows.length) (hp:p rows[j]=false):DelSt p rows (cur.set i rows[j]) (i+1) (j+1):=by
 have hil:i<cur.length:=by rw [h.len];have:=h.lt;omega
 refine ⟨by rw [List.length_set];exact h.len,by have:=h.lt;omega,by omega,?_,?_⟩
 ·rw [keepR_take hj,hp,List.take_add_one,List.getElem?_eq_getElem (by rw [List.length_set];exact hil),Option.toList_some,List.getElem_set_self,List.take_set_of_le (Nat.le_refl i),h.head]
  simp
 ·rw [List.drop_set_of_lt (by have:=h.lt;omega),← List.drop_drop,← List.drop_drop,h.tail]
theorem DelSt.first {k:Nat} (hk:k<rows.length) (h1:p rows[k]=true) (h2:∀ j (hj:j<k),p (rows[j]'(by omega))=false):DelSt p rows rows k (k+1):=by
 refine ⟨rfl,by omega,by omega,?_,rfl⟩
 rw [keepR_take hk,if_pos h1,List.append_nil,keepR_all]
 intro r hr
 obtain ⟨q,hq,rfl⟩:=List.getElem_of_mem hr
 rw [List.length_take] at hq
 rw [List.getElem_take]
 exact h2 q (by omega)
end
def putV (rows:List BRow) (gens:List Int) (i g part n:Int):Changed:=changeV rows gens i g (putF part n)
def dropV (rows:List BRow) (gens:List Int) (i g part:Int):Changed:=changeV rows gens i g (dropF part)
def killV (rows:List BRow) (gens:List Int) (i g:Int):Changed:=
 let c:=changeV rows gens i g keepF
 if c.err=0 then ⟨keepR (isB i g) c.rows,c.gens,0⟩ else c
structure WIn (w:World) (B:Nat) (v:Value) (rows:List BRow) (gens:List Int) (Ar:Option Addr) (cr:Nat) (Ag:Option Addr) (cg:Nat):Prop where
 val:v=.agg #[.slice Ar rows.length cr,.slice Ag gens.length cg]
 row:RdR w B Ar rows
 gen:RdG w B Ag gens
 nr:Ar=none→cr=0∧rows=[]
 ng:Ag=none→cg=0∧gens=[]
theorem own_none {w:World} {base:Nat} {e:TypeId} {sz n c:Nat} {xs:List Value} (h:w.ownsRow base e sz (.slice none n c) n xs):c=0∧n=0:=by
 rcases h.2 with ⟨hv,hn⟩ | ⟨g,cap,cur,hv,_⟩
 ·injection hv with _ _ h3
  exact ⟨h3,hn⟩
 ·cases hv
theorem GotW.open_ {w:World} {base:Nat} {v:Value} {rows:List BRow} {gens:List Int} (h:GotW w base v rows gens):∃ Ar cr Ag cg,WIn w w.heap.size v rows gens Ar cr Ag cg:=by
 obtain ⟨vr,vg,rfl,hO⟩:=h
 obtain ⟨Ar,cr,rfl,_,_⟩:=own_shape hO.rows_
 obtain ⟨Ag,cg,rfl,_,_⟩:=own_shape hO.gens_
 refine ⟨Ar,cr,Ag,cg,rfl,Rd.of_own hO.rows_,Rd.of_own hO.gens_,?_,?_⟩
 ·rintro rfl
  have h:=own_none hO.rows_
  exact ⟨h.1,List.eq_nil_of_length_eq_zero h.2⟩
 ·rintro rfl
  have h:=own_none hO.gens_
  exact ⟨h.1,List.eq_nil_of_length_eq_zero h.2⟩
theorem WIn.under {w w':World} {B:Nat} {v:Value} {rows:List BRow} {gens:List Int} {Ar:Option Addr} {cr:Nat} {Ag:Option Addr} {cg:Nat} (h:WIn w B v rows gens Ar cr Ag cg) {C:Nat} (hb:Below C w w') (hC:B≤C):WIn w' B v rows gens Ar cr Ag cg:=
 ⟨h.val,Rd.under h.row hb hC,Rd.under h.gen hb hC,h.nr,h.ng⟩
theorem WIn.more {w:World} {B B':Nat} {v:Value} {rows:List BRow} {gens:List Int} {Ar:Option Addr} {cr:Nat} {Ag:Option Addr} {cg:Nat} (h:WIn w B v rows gens Ar cr Ag cg) (hB:B≤B'):WIn w B' v rows gens Ar cr Ag cg:=
 ⟨h.val,Rd.more h.row hB,Rd.more h.gen hB,h.nr,h.ng⟩
theorem WIn.grow {w w':World} {v:Value} {rows:List BRow} {gens:List Int} {Ar:Option Addr} {cr:Nat} {Ag:Option Addr} {cg:Nat} (h:WIn w w.heap.size v rows gens Ar cr Ag cg) (hb:Below w.heap.size w w'):WIn w' w'.heap.size v rows gens Ar cr Ag cg:=
 (h.under hb (Nat.le_refl _)).more hb.size
theorem WIn.zero (w:World) (B:Nat):WIn w B (.agg #[.slice none 0 0,.slice none 0 0]) [] [] none 0 none 0:=
 ⟨rfl,Rd.nil_,Rd.nil_,fun _=>⟨rfl,rfl⟩,fun _=>⟨rfl,rfl⟩⟩
def rowOf (i g:Int) (rows:List BRow):Option BRow:=rows.find? (isB i g)
def ptrAt (A:Option Addr) (o:Option Nat) (k:Nat):Value:=
 match o with
 | none=>.pointer none
 | some j=>.pointer (A.map fun a=>⟨a.block,a.off+(k+j)*11,none⟩)
def rowPtr (A:Option Addr) (i g:Int) (rows:List BRow):Value:=ptrAt A (findR i g rows) 0
theorem ptr_drop {A:Option Addr} {i g:Int} {rows:List BRow} {k:Nat} (h:k<rows.length):ptrAt A (findR i g (rows.drop k)) k=if isB i g rows[k] then ptrAt A (some 0) k else ptrAt A (findR i g (rows.drop (k+1))) (k+1):=by
 rw [drop_cons h,findR]
 split
 ·rfl
 ·cases findR i g (rows.drop (k+1)) with
  | none=>rfl
  | some j=>
   show ptrAt A (some (j+1)) k=_
   simp only [ptrAt]
   rw [show k+(j+1)=k+1+j by omega]
theorem findR_rowOf {i g:Int}:∀ {rows:List BRow},rowOf i g rows=(findR i g rows).bind fun k=>rows[k]?
 | []=>rfl
 | r::l=>by
  unfold rowOf
  rw [List.find?_cons,findR]
  cases h:isB i g r
  ·simp only
   rw [if_neg (by simp)]
   have:=findR_rowOf (i:=i) (g:=g) (rows:=l)
   unfold rowOf at this
   rw [this]
   cases findR i g l<;>rfl
  ·simp
def withFrom (r:BRow):Bool→List BRow→List BRow
 | D,[]=>if D then [] else [r]
 | D,x::l=>(if !D && decide (r.idx≤x.idx) then [r] else [])++((if x.idx != r.idx then [x] else [])++withFrom r (D || decide (r.idx≤x.idx)) l)
def withV (r:BRow) (rows:List BRow):List BRow:=withFrom r false rows
theorem flat_snoc (l:List BRow) (r:BRow):(l++[r]).flatMap rowCells=l.flatMap rowCells++rowCells r:=by simp
def matchV (fa fn:Int) (rows:List BRow):List BRow:=rows.filter fun r=>meetsB fa fn r.has
def beCells (r:BRow):List Value:=[.int .i64 r.idx,.int .i64 r.gen]
theorem match_take {fa fn:Int} {rows:List BRow} {k:Nat} (hk:k<rows.length):matchV fa fn (rows.take (k+1))=matchV fa fn (rows.take k)++(if meetsB fa fn rows[k].has then [rows[k]] else []):=by
 unfold matchV
 rw [List.take_add_one,List.getElem?_eq_getElem hk,Option.toList_some,List.filter_append]
 congr 1
 rw [List.filter_cons]
 cases meetsB fa fn rows[k].has<;>rfl
theorem infoBe:(Tryz.prog.info? 24).map (fun i=>(i.zero,i.size,i.bytes))=some (some (.agg #[.int .i64 0,.int .i64 0]),2,16):=by kernel_rfl
def RdB (w:World) (B:Nat) (A:Option Addr) (l:List BRow):Prop:=Rd w B 2 A l.length (l.flatMap beCells)
theorem RdB.at_ {w:World} {B:Nat} {A:Option Addr} {l:List BRow} (h:RdB w B A l) {k:Nat} (hk:k<l.length) :
  ∃ b off,A=some ⟨b,off,none⟩∧b<B∧w.cell? ⟨b,off+k*2,none⟩=some (.int .i64 l[k].idx)∧w.cell? ⟨b,off+k*2+1,none⟩=some (.int .i64 l[k].gen):=by
 obtain ⟨b,off,e,hb,hc⟩:=h.2 (by omega)
 have hl:∀ r:BRow,(beCells r).length=2:=fun _=>rfl
 refine ⟨b,off,e,hb,hc (k*2) _ ((flat_get hl l k hk 0 (by omega)).trans rfl),?_⟩
 have:=hc (k*2+1) _ ((flat_get hl l k hk 1 (by omega)).trans rfl)
 rwa [← Nat.add_assoc] at this
open Go.RowKit
open Brood
theorem eqIn_being (i g i' g':Int) (w:World):(Op.equalIn 10000 24 (.agg #[.int .i64 i,.int .i64 g]) (.agg #[.int .i64 i',.int .i64 g'])).run Tryz.prog w=.ok (i==i' && g==g') w:=by
 rw [run_equalIn_struct _ _ _ _ _ (by kernel_rfl) (by kernel_rfl)]
 simp [go_sem,Op.eqFields]
 (repeat' split)<;>simp_all
theorem eqBeing (i g i' g':Int) (w:World):(binOp .eql 24 (.agg #[.int .i64 i,.int .i64 g]) (.agg #[.int .i64 i',.int .i64 g'])).run Tryz.prog w=.ok (.bool (i==i' && g==g')) w:=by
 rw [run_eql_struct,eqIn_being]
 rfl
theorem neBeing (i g i' g':Int) (w:World):(binOp .neq 24 (.agg #[.int .i64 i,.int .i64 g]) (.agg #[.int .i64 i',.int .i64 g'])).run Tryz.prog w=.ok (.bool (!(i==i' && g==g'))) w:=by
 rw [run_neq_struct,eqIn_being]
 rfl
open Go.RowKit
open Brood
open Go.ChangeShapes Go.WideShapes Go.ChangeAt Go.RowKit Go.Deep
open Brood
section
variable {H:Type} {enc:TypeId×Value→H} {w:World} {base:Nat} {spare:Nat→Bool} {held:Bool}
theorem cActs:Tryz.prog.cellsOf 27=1:=by kernel_rfl
theorem open_acts {fuel:Nat} {cs:List Value} {x:DataW H×List MemPlace} (h:DataW.trod enc Tryz.prog w base spare held fuel 27 cs=some x) :
  ∃ (A:Option Addr) (cap:Nat) (l:List BAct),cs=[.slice A l.length cap]∧l.length≤cap∧cap≤maxLen∧RdAB w w.heap.size A l:=by
 obtain ⟨A,len,cap,l,css,rfl,hl,hcl,h1,h2,_,hR,hrd⟩:=open_list (m:=4) (α:=BAct) ⟨0,0,0,0⟩ (fun c a=>c=actCells a) Tryz.underlying27 (by kernel_rfl) (by omega) (by
  intro n cs' y hlen hy
  obtain ⟨xs,n',_,_,_,hxl,hf⟩:=DataW.trod_struct Tryz.underlying35 hy
  match cs',hlen with
  | [c0,c1,c2,c3],_=>
   have f0:=fld hf 0 _ rfl 3 0 1 rfl rfl cInt;have f1:=fld hf 1 _ rfl 3 1 1 rfl rfl cInt;have f2:=fld hf 2 _ rfl 3 2 1 rfl rfl cInt;have f3:=fld hf 3 _ rfl 3 3 1 rfl rfl cInt
   match xs,hxl with
   | [y0,y1,y2,y3],_=>
    obtain ⟨a0,e0,_,_⟩:=DataW.trod_int Tryz.underlying3 f0
    obtain ⟨a1,e1,_,_⟩:=DataW.trod_int Tryz.underlying3 f1
    obtain ⟨a2,e2,_,_⟩:=DataW.trod_int Tryz.underlying3 f2
    obtain ⟨a3,e3,_,_⟩:=DataW.trod_int Tryz.underlying3 f3
    simp at e0 e1 e2 e3
    subst e0 e1 e2 e3
    exact ⟨⟨a0,a1,a2,a3⟩,rfl⟩) h
 subst hl
 exact ⟨A,cap,l,rfl,h1,h2,by unfold RdAB;rw [← flat_of hcl hR];exact hrd⟩
end
open Brood
structure RightW (rows:List BRow) (gens:List Int):Prop where
 len:gens.length≤60
 gen:∀ n∈gens,1≤n∧n≤1000
 row:∀ r∈rows,rowErr r=0
 idx:∀ r∈rows,0≤r.idx∧r.idx<(gens.length:Int)
 fit:∀ r∈rows,r.gen=gens.getD r.idx.toNat 0
 rise:Rise rows
theorem gensFrom_iff:∀ (l:List Int) (i:Nat),(gensFrom i l).1=0↔∀ n∈l,1≤n∧n≤1000
 | [],_=>by simp [gensFrom]
 | n::l,i=>by
  rw [gensFrom]
  split
  ·rename_i h
   simp only [List.mem_cons,forall_eq_or_imp]
   constructor
   ·intro h';simp at h'
   ·rintro ⟨h',_⟩;omega
  ·rename_i h
   rw [gensFrom_iff l (i+1)]
   simp only [List.mem_cons,forall_eq_or_imp]
   constructor
   ·intro h';exact ⟨by omega,h'⟩
   ·exact fun h'=>h'.2
theorem gensErr_iff (l:List Int):(gensErr l).1=0↔l.length≤60∧∀ n∈l,1≤n∧n≤1000:=by
 unfold gensErr
 split
 ·constructor
  ·intro h;simp at h
  ·rintro ⟨h,_⟩;omega
 ·rw [gensFrom_iff]
  constructor
  ·exact fun h=>⟨by omega,h⟩
  ·exact fun h=>h.2
theorem rise_cons {r:BRow} {l:List BRow}:Rise (r::l)↔(∀ q∈l,r.idx<q.idx)∧Rise l:=by
 constructor
 ·intro h
  refine ⟨fun q hq=>?_,fun i j hi hj hij=>h (i+1) (j+1) (by simpa using hi) (by simpa using hj) (by omega)⟩
  obtain ⟨k,hk,rfl⟩:=List.getElem_of_mem hq
  exact h 0 (k+1) (by simp) (by simpa using hk) (by omega)
 ·rintro ⟨h1,h2⟩ i j hi hj hij
  match i,j with
  | 0,0=>omega
  | 0,j+1=>exact h1 _ (List.getElem_mem (by simpa using hj))
  | i+1,0=>omega
  | i+1,j+1=>exact h2 i j (by simpa using hi) (by simpa using hj) (by omega)
theorem rowsFrom_iff (gens:List Int):∀ (l:List BRow) (i:Nat) (p:Option Int),(rowsFrom gens i p l).1=0 ↔
  (∀ r∈l,rowErr r=0)∧(∀ r∈l,0≤r.idx∧r.idx<(gens.length:Int))∧(∀ r∈l,r.gen=gens.getD r.idx.toNat 0)∧Rise l∧(∀ q,p=some q→∀ r∈l,q<r.idx)
 | [],_,_=>by simp [rowsFrom,Rise]
 | r::l,i,p=>by
  rw [rowsFrom]
  split
  ·rename_i h
   constructor
   ·intro h';exact absurd h' h
   ·rintro ⟨h',_⟩;exact absurd (h' r (by simp)) h
  ·rename_i h
   split
   ·rename_i h2
    constructor
    ·intro h';simp at h'
    ·rintro ⟨_,h',_⟩;have:=h' r (by simp);omega
   ·rename_i h2
    split
    ·rename_i h3
     constructor
     ·intro h';simp at h'
     ·rintro ⟨_,_,_,_,h'⟩
      cases p with
      | none=>simp [prevGe] at h3
      | some q=>simp [prevGe] at h3;have:=h' q rfl r (by simp);omega
    ·rename_i h3
     split
     ·rename_i h4
      constructor
      ·intro h';simp at h'
      ·rintro ⟨_,_,h',_⟩;exact absurd (h' r (by simp)) h4
     ·rename_i h4
      rw [rowsFrom_iff gens l (i+1) (some r.idx),rise_cons]
      simp only [List.mem_cons,forall_eq_or_imp]
      have hp:∀ q,p=some q→q<r.idx:=by
       rintro q rfl
       simp [prevGe] at h3
       exact h3
      constructor
      ·rintro ⟨a,b,c,d,e⟩
       exact ⟨⟨by simpa using h,a⟩,⟨by omega,b⟩,⟨by simpa using h4,c⟩,⟨e r.idx rfl,d⟩,fun q hq=>⟨hp q hq,fun x hx=>by have:=hp q hq;have:=e r.idx rfl x hx;omega⟩⟩
      ·rintro ⟨⟨_,a⟩,⟨_,b⟩,⟨_,c⟩,⟨e,d⟩,_⟩
       exact ⟨a,b,c,d,fun q hq x hx=>by injection hq with hq;subst hq;exact e x hx⟩
theorem right_iff (rows:List BRow) (gens:List Int):(worldErr ⟨rows,gens⟩).1=0↔RightW rows gens:=by
 unfold worldErr
 by_cases h:(gensErr gens).1=0
 ·simp only [h,ne_eq,not_true_eq_false,if_false]
  rw [rowsFrom_iff]
  rw [gensErr_iff] at h
  constructor
  ·rintro ⟨a,b,c,d,_⟩;exact ⟨h.1,h.2,a,b,c,d⟩
  ·rintro ⟨_,_,a,b,c,d⟩;exact ⟨a,b,c,d,fun q hq=>by cases hq⟩
 ·rw [if_pos h]
  constructor
  ·intro h';exact absurd h' h
  ·intro h';exact absurd ((gensErr_iff gens).2 ⟨h'.len,h'.gen⟩) h
theorem rise_len {rows:List BRow} (hr:Rise rows):∀ k (hk:k<rows.length) (h0:∀ r∈rows,0≤r.idx),(k:Int)≤rows[k].idx:=by
 intro k hk h0
 induction k with
 | zero=>exact h0 _ (List.getElem_mem hk)
 | succ k ih=>
  have h1:=ih (by omega)
  have h2:=hr k (k+1) (by omega) hk (by omega)
  omega
theorem RightW.rows_le {rows:List BRow} {gens:List Int} (h:RightW rows gens):rows.length≤gens.length:=by
 rcases Nat.eq_zero_or_pos rows.length with h0 | h0
 ·omega
 ·have h1:=rise_len h.rise (rows.length-1) (by omega) (fun r hr=>(h.idx r hr).1)
  have h2:=(h.idx _ (List.getElem_mem (show rows.length-1<rows.length by omega))).2
  omega
theorem RightW.set_ {rows:List BRow} {gens:List Int} (h:RightW rows gens):∀ r∈rows,isSet r.has=true:=by
 intro r hr
 have:=h.row r hr
 unfold rowErr at this
 split at this
 ·rename_i h';rw [Bool.and_eq_true] at h';exact h'.1
 ·simp at this
theorem RightW.wfr {rows:List BRow} {gens:List Int} (h:RightW rows gens):∀ r∈rows,(Lit.int .i64 r.idx).wf=true:=by
 intro r hr
 have:=h.idx r hr
 have:=h.len
 exact wf_of (by omega) (by omega)
def zeros8:List Int:=[0,0,0,0,0,0,0,0]
def valsTo (has n:Int) (j:Nat):List Int:=((listS has).take j).foldl (fun vs k=>vs.set k.toNat n) zeros8
theorem fold_len (n:Int):∀ (l:List Int) (vs:List Int),(l.foldl (fun vs k=>vs.set k.toNat n) vs).length=vs.length
 | [],_=>rfl
 | k::l,vs=>by rw [List.foldl_cons,fold_len n l];simp
theorem valsTo_len (has n:Int) (j:Nat):(valsTo has n j).length=8:=by unfold valsTo;rw [fold_len];rfl
theorem valsTo_succ {has:Int} (n:Int) {j:Nat} (hj:j<(listS has).length):valsTo has n (j+1)=(valsTo has n j).set (listS has)[j].toNat n:=by
 unfold valsTo
 rw [List.take_add_one,List.getElem?_eq_getElem hj,Option.toList_some,List.foldl_append]
 rfl
def rowL (i g has:Int) (vs:List Int):List Value:=[.int .i64 i,.int .i64 g,.int .i64 has]++ints vs
theorem rowL_set (i g has:Int) (vs:List Int) (k:Nat) (n:Int):(rowL i g has vs).set (3+k) (.int .i64 n)=rowL i g has (vs.set k n):=by
 rw [Nat.add_comm]
 simp [rowL,ints,List.map_set]
theorem listS_range {s:Int}:∀ k∈listS s,0≤k∧k<8:=by
 intro k hk
 simp only [listS,listN,List.mem_map,List.mem_filter,List.mem_range] at hk
 obtain ⟨m,⟨hm,_⟩,rfl⟩:=hk
 omega
theorem listS_len (s:Int):(listS s).length≤8:=by
 unfold listS listN
 rw [List.length_map]
 exact Nat.le_trans (List.length_filter_le _ _) (by simp)
theorem newRow_cells (i g has n:Int):rowL i g has (valsTo has n (listS has).length)=rowCells ⟨i,g,has,valsTo has n (listS has).length,valsTo_len _ _ _⟩:=rfl
def newRow (i g has n:Int):BRow:=⟨i,g,has,valsTo has n (listS has).length,valsTo_len _ _ _⟩
def gensPut (gens:List Int) (i g:Int):List Int:=(if i=(gens.length:Int) then gens++[0] else gens).set i.toNat g
structure Spawned where
 rows:List BRow
 gens:List Int
 i:Int
 g:Int
 err:Int
def spawnV (rows:List BRow) (gens:List Int) (has n:Int):Spawned:=
 if (worldErr ⟨rows,gens⟩).1≠0 then ⟨[],[],0,0,(worldErr ⟨rows,gens⟩).1⟩
 else if isSet has=false∨isVal n=false then ⟨[],[],0,0,3⟩
 else if (nextV rows gens).2.2≠0 then ⟨[],[],0,0,(nextV rows gens).2.2⟩
 else ⟨insRow rows (posOf (nextV rows gens).1 rows) (newRow (nextV rows gens).1 (nextV rows gens).2.1 has n),gensPut gens (nextV rows gens).1 (nextV rows gens).2.1,(nextV rows gens).1,(nextV rows gens).2.1,0⟩
theorem nextFrom_some {used:List Int}:∀ {l:List Int} {i:Nat} {p:Int×Int},nextFrom used i l=some p→∃ k,∃ hk:k<l.length,p.1=((i+k:Nat):Int)∧p.2=l[k]+1∧l[k]<1000∧used.contains p.1=false
 | [],_,_,h=>by cases h
 | n::l,i,p,h=>by
  rw [nextFrom] at h
  split at h
  ·rename_i h'
   injection h with h
   subst h
   simp only [Bool.and_eq_true,Bool.not_eq_true',decide_eq_true_eq] at h'
   exact ⟨0,by simp,by simp,by simp,by simpa using h'.2,h'.1⟩
  ·obtain ⟨k,hk,h1,h2,h3,h4⟩:=nextFrom_some h
   exact ⟨k+1,by simpa using hk,by rw [h1];congr 1;omega,by simpa using h2,by simpa using h3,h4⟩
theorem nextV_ok {rows:List BRow} {gens:List Int} (h:(nextV rows gens).2.2=0) :
  ((∃ k,∃ hk:k<gens.length,(nextV rows gens).1=(k:Int)∧(nextV rows gens).2.1=gens[k]+1∧gens[k]<1000∧(rows.map (·.idx)).contains (k:Int)=false) ∨
   ((nextV rows gens).1=(gens.length:Int)∧(nextV rows gens).2.1=1∧gens.length<60)):=by
 unfold nextV at h ⊢
 cases hn:nextFrom (rows.map (·.idx)) 0 gens with
 | some p=>
  obtain ⟨k,hk,h1,h2,h3,h4⟩:=nextFrom_some hn
  rw [Nat.zero_add] at h1
  rw [h1] at h4
  exact .inl ⟨k,hk,h1,h2,h3,h4⟩
 | none=>
  rw [hn] at h
  simp only at h ⊢
  split at h
  ·simp at h
  ·rename_i h60
   rw [if_neg h60]
   exact .inr ⟨rfl,rfl,by omega⟩
open Brood
theorem valsBad_iff (has:Int):∀ (vs:List Int) (k:Nat),valsBad has k vs=false↔∀ j (hj:j<vs.length),isVal vs[j]=true∧(vs[j]≠0→hasB has ((k+j:Nat):Int)=true)
 | [],k=>by simp [valsBad]
 | v::l,k=>by
  rw [valsBad,Bool.or_eq_false_iff,valsBad_iff has l (k+1)]
  have hv:valBad has k v=false↔isVal v=true∧(v≠0→hasB has (k:Int)=true):=by
   unfold valBad
   rw [Bool.or_eq_false_iff]
   simp
  rw [hv]
  constructor
  ·rintro ⟨h0,h1⟩ j hj
   cases j with
   | zero=>exact h0
   | succ j=>
    have:=h1 j (by simpa using hj)
    rw [show k+(j+1)=k+1+j by omega]
    exact this
  ·intro h
   refine ⟨h 0 (by simp),fun j hj=>?_⟩
   have:=h (j+1) (by simpa using hj)
   rw [show k+(j+1)=k+1+j by omega] at this
   exact this
theorem getD_get {l:List Int} {j:Nat} (h:j<l.length):l.getD j 0=l[j]:=by simp [List.getD_eq_getElem?_getD,h]
theorem rowErr_iff (r:BRow):rowErr r=0↔isSet r.has=true∧∀ j:Nat,j<8→isVal (r.vals.getD j 0)=true∧(r.vals.getD j 0≠0→hasB r.has (j:Int)=true):=by
 unfold rowErr
 have h:=valsBad_iff r.has r.vals 0
 have h8:=r.h8
 constructor
 ·intro h'
  split at h'
  ·rename_i hc
   rw [Bool.and_eq_true] at hc
   refine ⟨hc.1,fun j hj=>?_⟩
   have:=h.1 (by simpa using hc.2) j (by omega)
   rw [getD_get (by omega)]
   simpa using this
  ·simp at h'
 ·rintro ⟨h1,h2⟩
  rw [if_pos]
  rw [Bool.and_eq_true]
  refine ⟨h1,?_⟩
  have:=h.2 (fun j hj=>by
   have:=h2 j (by omega)
   rw [getD_get (by omega)] at this
   simpa using this)
  rw [this];rfl
theorem isB_iff {i g:Int} {r:BRow}:isB i g r=true↔r.idx=i∧r.gen=g:=by simp [isB]
theorem isB_false {i g:Int} {r:BRow}:isB i g r=false↔¬ (r.idx=i∧r.gen=g):=by rw [← isB_iff];simp
theorem findR_spec {i g:Int} {rows:List BRow} {k:Nat} (h:findR i g rows=some k):∃ hk:k<rows.length,isB i g rows[k]=true:=by
 have hk:=findR_lt h
 refine ⟨hk,?_⟩
 have h2:=findR_rowOf (i:=i) (g:=g) (rows:=rows)
 rw [h] at h2
 simp only [Option.bind_some,List.getElem?_eq_getElem hk] at h2
 exact List.find?_some h2
theorem findR_none {i g:Int} {rows:List BRow} (h:findR i g rows=none):rowOf i g rows=none:=by rw [findR_rowOf,h];rfl
theorem rowOf_none_iff {i g:Int} {rows:List BRow}:rowOf i g rows=none↔∀ r∈rows,isB i g r=false:=by
 unfold rowOf
 rw [List.find?_eq_none]
 simp
theorem rise_inj {rows:List BRow} (hr:Rise rows) {p q:BRow} (hp:p∈rows) (hq:q∈rows) (h:p.idx=q.idx):p=q:=by
 obtain ⟨i,hi,rfl⟩:=List.getElem_of_mem hp
 obtain ⟨j,hj,rfl⟩:=List.getElem_of_mem hq
 rcases Nat.lt_trichotomy i j with h' | h' | h'
 ·have:=hr i j hi hj h';omega
 ·subst h';rfl
 ·have:=hr j i hj hi h';omega
theorem rowOf_some_iff {i g:Int} {rows:List BRow} (hr:Rise rows) {p:BRow}:rowOf i g rows=some p↔p∈rows∧p.idx=i∧p.gen=g:=by
 constructor
 ·intro h
  exact ⟨List.mem_of_find?_eq_some h,isB_iff.1 (List.find?_some h)⟩
 ·rintro ⟨h1,h2,h3⟩
  cases hq:rowOf i g rows with
  | none=>
   have:=rowOf_none_iff.1 hq p h1
   rw [isB_iff.2 ⟨h2,h3⟩] at this
   cases this
  | some q=>
   have h4:=List.mem_of_find?_eq_some hq
   have h5:=isB_iff.1 (List.find?_some hq)
   rw [rise_inj hr h1 h4 (by rw [h2,h5.1])]
theorem posOf_spec {x:Int}:∀ {rows:List BRow},Rise rows→(∀ r∈rows.take (posOf x rows),r.idx<x)∧(∀ r∈rows.drop (posOf x rows),x≤r.idx)
 | [],_=>by simp
 | r::l,h=>by
  have h':=rise_cons.1 h
  have ih:=posOf_spec (x:=x) h'.2
  rw [posOf]
  split
  ·rename_i hlt
   refine ⟨?_,?_⟩
   ·intro q hq
    rw [List.take_succ_cons] at hq
    rcases List.mem_cons.1 hq with rfl | hq
    ·exact hlt
    ·exact ih.1 q hq
   ·intro q hq
    rw [List.drop_succ_cons] at hq
    exact ih.2 q hq
  ·rename_i hge
   refine ⟨by simp,?_⟩
   intro q hq
   rw [List.drop_zero] at hq
   rcases List.mem_cons.1 hq with rfl | hq
   ·omega
   ·have:=h'.1 q hq;omega
theorem rise_append {l m:List BRow}:Rise (l++m)↔Rise l∧Rise m∧∀ p∈l,∀ q∈m,p.idx<q.idx:=by
 induction l with
 | nil=>simp [Rise]
 | cons r l ih=>
  rw [List.cons_append,rise_cons,rise_cons,ih]
  constructor
  ·rintro ⟨h1,h2,h3,h4⟩
   refine ⟨⟨fun q hq=>h1 q (by simp [hq]),h2⟩,h3,fun p hp q hq=>?_⟩
   rcases List.mem_cons.1 hp with rfl | hp
   ·exact h1 q (by simp [hq])
   ·exact h4 p hp q hq
  ·rintro ⟨⟨h1,h2⟩,h3,h4⟩
   refine ⟨fun q hq=>?_,h2,h3,fun p hp q hq=>h4 p (by simp [hp]) q hq⟩
   rcases List.mem_append.1 hq with hq | hq
   ·exact h1 q hq
   ·exact h4 r (by simp) q hq
theorem mem_insRow {rows:List BRow} {k:Nat} {r q:BRow}:q∈insRow rows k r↔q=r∨q∈rows:=by
 unfold insRow
 rw [List.mem_append,List.mem_cons]
 constructor
 ·rintro (h | h | h)
  ·exact .inr (List.mem_of_mem_take h)
  ·exact .inl h
  ·exact .inr (List.mem_of_mem_drop h)
 ·rintro (h | h)
  ·exact .inr (.inl h)
  ·rw [← List.take_append_drop k rows] at h
   rcases List.mem_append.1 h with h | h
   ·exact .inl h
   ·exact .inr (.inr h)
theorem rise_ins {rows:List BRow} (hr:Rise rows) {r:BRow} (hne:∀ q∈rows,q.idx≠r.idx):Rise (insRow rows (posOf r.idx rows) r):=by
 have hs:=posOf_spec (x:=r.idx) hr
 have hr2:=hr
 rw [← List.take_append_drop (posOf r.idx rows) rows,rise_append] at hr2
 unfold insRow
 rw [rise_append,rise_cons]
 refine ⟨hr2.1,⟨fun q hq=>?_,hr2.2.1⟩,fun p hp q hq=>?_⟩
 ·have:=hs.2 q hq
  have:=hne q (List.mem_of_mem_drop hq)
  omega
 ·rcases List.mem_cons.1 hq with rfl | hq
  ·exact hs.1 p hp
  ·exact hr2.2.2 p hp q hq
theorem vals_valsTo (n:Int):∀ (l:List Int) (vs:List Int),vs.length=8→(∀ k∈l,0≤k∧k<8)→∀ j:Nat,j<8→(l.foldl (fun vs k=>vs.set k.toNat n) vs).getD j 0=if (j:Int)∈l then n else vs.getD j 0:=by
 intro l
 induction l with
 | nil=>intro vs h _ j hj;simp
 | cons k l ih=>
  intro vs h hk j hj
  obtain ⟨k0,k8⟩:=hk k (by simp)
  rw [List.foldl_cons,ih _ (by simp [h]) (fun q hq=>hk q (by simp [hq])) j hj]
  by_cases h1:(j:Int)∈l
  ·rw [if_pos h1,if_pos (by simp [h1])]
  ·rw [if_neg h1]
   by_cases h2:(j:Int)=k
   ·rw [if_pos (by simp [h2])]
    have e:k.toNat=j:=by omega
    rw [e]
    simp [List.getD_eq_getElem?_getD,h,hj]
   ·rw [if_neg (by simp [h1,h2])]
    simp only [List.getD_eq_getElem?_getD]
    rw [List.getElem?_set_ne (by omega)]
theorem mem_listS {s k:Int} (hs:isSet s=true):k∈listS s↔hasB s k=true:=by
 simp only [listS,listN,List.mem_map,List.mem_filter,List.mem_range,hasB,Bool.and_eq_true,isPart_iff]
 constructor
 ·rintro ⟨m,⟨hm,hb⟩,rfl⟩
  exact ⟨by omega,by simpa using hb⟩
 ·rintro ⟨⟨h0,h8⟩,hb⟩
  exact ⟨k.toNat,⟨by omega,hb⟩,by omega⟩
theorem newRow_val {i g has n:Int} (hs:isSet has=true) {j:Nat} (hj:j<8):(newRow i g has n).vals.getD j 0=if hasB has (j:Int)=true then n else 0:=by
 show (valsTo has n (listS has).length).getD j 0=_
 unfold valsTo
 rw [List.take_length,vals_valsTo n _ _ rfl listS_range j hj]
 have hz:zeros8.getD j 0=0:=by
  match j,hj with
  | 0,_=>rfl
  | 1,_=>rfl
  | 2,_=>rfl
  | 3,_=>rfl
  | 4,_=>rfl
  | 5,_=>rfl
  | 6,_=>rfl
  | 7,_=>rfl
 rw [hz]
 by_cases h:(j:Int)∈listS has
 ·rw [if_pos h,if_pos ((mem_listS hs).1 h)]
 ·rw [if_neg h,if_neg (fun h'=>h ((mem_listS hs).2 h'))]
theorem newRow_ok {i g has n:Int} (hs:isSet has=true) (hv:isVal n=true):rowErr (newRow i g has n)=0:=by
 rw [rowErr_iff]
 refine ⟨hs,fun j hj=>?_⟩
 rw [newRow_val hs hj]
 by_cases hb:hasB has (j:Int)=true
 ·rw [if_pos hb];exact ⟨hv,fun _=>hb⟩
 ·rw [if_neg hb];exact ⟨by decide,fun h=>absurd rfl h⟩
theorem gp_len (gens:List Int) (k:Nat) (g:Int):(gensPut gens (k:Int) g).length=if k=gens.length then gens.length+1 else gens.length:=by
 unfold gensPut
 rw [List.length_set]
 by_cases h:k=gens.length
 ·rw [if_pos (by omega),if_pos h];simp
 ·rw [if_neg (by omega),if_neg h]
theorem gp_get (gens:List Int) {k:Nat} (hk:k≤gens.length) (g:Int) (j:Nat):(gensPut gens (k:Int) g).getD j 0=if j=k then g else gens.getD j 0:=by
 unfold gensPut
 rw [Int.toNat_natCast]
 simp only [List.getD_eq_getElem?_getD]
 by_cases h:k=gens.length
 ·rw [if_pos (by omega)]
  by_cases hj:j=k
  ·rw [if_pos hj,hj,List.getElem?_set_self (by simp;omega)];rfl
  ·rw [if_neg hj,List.getElem?_set_ne (by omega)]
   by_cases hl:j<gens.length
   ·rw [List.getElem?_append_left hl]
   ·rw [List.getElem?_eq_none (by simp;omega),List.getElem?_eq_none (by omega)]
 ·rw [if_neg (by omega)]
  by_cases hj:j=k
  ·rw [if_pos hj,hj,List.getElem?_set_self (by omega)];rfl
  ·rw [if_neg hj,List.getElem?_set_ne (by omega)]
theorem gp_mem {gens:List Int} {k:Nat} {g x:Int} (h:x∈gensPut gens (k:Int) g) (hk:k≤gens.length):x=g∨x∈gens:=by
 unfold gensPut at h
 rw [Int.toNat_natCast] at h
 by_cases h':k=gens.length
 ·rw [if_pos (by omega),h',List.set_append_right _ _ (by omega),Nat.sub_self] at h
  simp at h
  exact h.symm
 ·rw [if_neg (by omega)] at h
  exact (List.mem_or_eq_of_mem_set h).symm
structure SpawnOk (rows:List BRow) (gens:List Int) (has n:Int) (E:Spawned):Prop where
 was:RightW rows gens
 set_:isSet has=true
 val:isVal n=true
 pos:∃ k:Nat,E.i=(k:Int)∧k≤gens.length
 gens_:E.gens=gensPut gens E.i E.g
 gen:(E.i<(gens.length:Int)→E.g=gens.getD E.i.toNat 0+1)∧(E.i=(gens.length:Int)→E.g=1)
 new:∀ r∈rows,r.idx≠E.i
 rows_:E.rows=insRow rows (posOf E.i rows) (newRow E.i E.g has n)
 is:RightW E.rows E.gens
theorem spawn_ok {rows:List BRow} {gens:List Int} {has n:Int} (h:(spawnV rows gens has n).err=0):SpawnOk rows gens has n (spawnV rows gens has n):=by
 unfold spawnV at h ⊢
 by_cases h1:(worldErr ⟨rows,gens⟩).1=0
 ·rw [if_neg (by simpa using h1)] at h ⊢
  have hw:=(right_iff rows gens).1 h1
  by_cases h2:isSet has=false∨isVal n=false
  ·rw [if_pos h2] at h;cases h
  ·rw [if_neg h2] at h ⊢
   by_cases h3:(nextV rows gens).2.2=0
   ·rw [if_neg (by simpa using h3)] at h ⊢
    have hs:isSet has=true:=by cases h':isSet has<;>simp_all
    have hv:isVal n=true:=by cases h':isVal n<;>simp_all
    have hn:=nextV_ok h3
    generalize (nextV rows gens).1=i at *
    generalize (nextV rows gens).2.1=g at *
    have hpos:∃ k:Nat,i=(k:Int)∧k≤gens.length:=by
     rcases hn with ⟨k,hk,h1,_⟩ | ⟨h1,_⟩
     ·exact ⟨k,h1,by omega⟩
     ·exact ⟨_,h1,Nat.le_refl _⟩
    have hgen:(i<(gens.length:Int)→g=gens.getD i.toNat 0+1)∧(i=(gens.length:Int)→g=1):=by
     rcases hn with ⟨k,hk,rfl,rfl,_⟩ | ⟨h1,h2,_⟩
     ·exact ⟨fun _=>by rw [Int.toNat_natCast,getD_get hk],fun h=>by omega⟩
     ·exact ⟨fun h=>by omega,fun _=>h2⟩
    have hnew:∀ r∈rows,r.idx≠i:=by
     rcases hn with ⟨k,hk,rfl,_,_,hc⟩ | ⟨h1,_⟩
     ·intro r hr he
      have:(k:Int)∈rows.map (·.idx):=by rw [← he];exact List.mem_map_of_mem hr
      simp at hc
      exact hc r hr he
     ·intro r hr
      have:=(hw.idx r hr).2
      omega
    have hg1:1≤g∧g≤1000:=by
     rcases hn with ⟨k,hk,_,rfl,h4,_⟩ | ⟨_,rfl,_⟩
     ·have:=hw.gen _ (List.getElem_mem hk);omega
     ·omega
    have hl60:i=(gens.length:Int)→gens.length<60:=by
     rcases hn with ⟨k,hk,rfl,_⟩ | ⟨_,_,h⟩
     ·intro h;omega
     ·exact fun _=>h
    obtain ⟨k,rfl,hk⟩:=hpos
    refine ⟨hw,hs,hv,⟨k,rfl,hk⟩,rfl,hgen,hnew,rfl,?_⟩
    have hlen:=gp_len gens k g
    refine ⟨?_,?_,?_,?_,?_,?_⟩
    ·dsimp only
     rw [hlen]
     have:=hw.len
     split
     ·rename_i h;have:=hl60 (by omega);omega
     ·omega
    ·intro x hx
     rcases gp_mem hx hk with rfl | hx
     ·exact hg1
     ·exact hw.gen x hx
    ·intro r hr
     rcases mem_insRow.1 hr with rfl | hr
     ·exact newRow_ok hs hv
     ·exact hw.row r hr
    ·intro r hr
     dsimp only
     rw [hlen]
     rcases mem_insRow.1 hr with rfl | hr
     ·show 0≤(k:Int)∧(k:Int)<_
      split<;>omega
     ·have:=hw.idx r hr
      split<;>omega
    ·intro r hr
     dsimp only
     rcases mem_insRow.1 hr with rfl | hr
     ·show g=(gensPut gens (k:Int) g).getD (k:Int).toNat 0
      rw [Int.toNat_natCast,gp_get gens hk,if_pos rfl]
     ·have h1:=hw.idx r hr
      have h2:=hnew r hr
      rw [gp_get gens hk,if_neg (by omega)]
      exact hw.fit r hr
    ·exact rise_ins (r:=newRow (k:Int) g has n) hw.rise hnew
   ·rw [if_pos h3] at h
    exact absurd h h3
 ·rw [if_pos h1] at h
  exact absurd h h1
section
variable {rows:List BRow} {gens:List Int} {has n:Int} {E:Spawned}
theorem SpawnOk.there (h:SpawnOk rows gens has n E):rowOf E.i E.g E.rows=some (newRow E.i E.g has n):=by
 rw [rowOf_some_iff h.is.rise,h.rows_]
 exact ⟨mem_insRow.2 (.inl rfl),rfl,rfl⟩
theorem SpawnOk.len (h:SpawnOk rows gens has n E):E.rows.length=rows.length+1:=by
 rw [h.rows_]
 exact insRow_length (posOf_le _ _) _
theorem SpawnOk.stay (h:SpawnOk rows gens has n E) {i g:Int} {p:BRow} (hp:rowOf i g rows=some p):rowOf i g E.rows=some p:=by
 rw [rowOf_some_iff h.was.rise] at hp
 rw [rowOf_some_iff h.is.rise,h.rows_]
 exact ⟨mem_insRow.2 (.inr hp.1),hp.2⟩
end
end Go.Proofs.YtefdblaolmckmabGreat
