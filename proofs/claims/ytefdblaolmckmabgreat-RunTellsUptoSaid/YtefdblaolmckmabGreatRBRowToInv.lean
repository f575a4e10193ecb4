/- Lemmas of the proof. -/
import Derived.Test.YtefdblaolmckmabGreatRows
import Derived.WalkKit
import Derived.ProofKit
import Derived.OpenShut
import Derived.ChangeOld
import Derived.Below
import Derived.JoinedCond
import Derived.Deep.CondSized
import Derived.Test.YtefdblaolmckmabGreatProg
import Derived.WalkSpells
import Derived.WalkLawsBesides
import Derived.Lib.Hide
import Derived.Laws.OwnMore
import Derived.Deep.AppendLies
import Derived.Deep.Draws
import Derived.Deep.Slices
import Derived.Orders
set_option linter.unusedVariables false
set_option linter.unusedSimpArgs false
set_option maxRecDepth 100000
set_option maxHeartbeats 12800000
namespace Go.Proofs.YtefdblaolmckmabGreat
open Go.ChangeShapes Go.WideShapes Go.ChangeAt Go.RowKit
theorem own:ownKnob Tryz.prog.godebug=none:=by kernel_rfl
theorem laidOut:laidOutB Tryz.prog=true:=by kernel_rfl
theorem boolT:Tryz.prog.underlying 4=some .bool:=Tryz.underlying4
section
variable {H:Type} {enc:TypeId×Value→H} {W W':World}
theorem below_all:∀ (ts:List TypeId) (vs:List Value) (ds:List (DataW H)) (p:List MemPlace),
  (∀ t∈ts,Tryz.prog.readableRec t=true∧t<Tryz.prog.types.size) →
  DataW.TrodAll enc Tryz.prog W 0 (fun _=>true) true ts vs ds p→Below W.heap.size W W'→(∀ x∈p,x.block<W.heap.size) →
  DataW.TrodAll enc Tryz.prog W' 0 (fun b=>decide (b<W.heap.size)) true ts vs ds p:=by
 intro ts
 induction ts with
 | nil=>
  intro vs ds p _ h _ _
  obtain ⟨rfl,rfl,rfl⟩:=trodAll_nil h
  exact trodAll_mk0
 | cons t ts ih=>
  intro vs ds p hr h hb hlt
  obtain ⟨v,vs',d,ds',p1,q1,rfl,rfl,rfl,h0,r0⟩:=trodAll_cons h
  have ht:=hr t (by simp)
  exact trodAll_cons_mk (Below.trod laidOut ht.1 ht.2 h0 hb (fun x hx=>hlt x (by simp [hx]))) (ih _ _ _ (fun u hu=>hr u (by simp [hu])) r0 hb (fun x hx=>hlt x (by simp [hx])))
theorem lt_all:∀ (ts:List TypeId) (vs:List Value) (ds:List (DataW H)) (p:List MemPlace),
  DataW.TrodAll enc Tryz.prog W 0 (fun _=>true) true ts vs ds p→∀ x∈p,x.block<W.heap.size:=by
 intro ts
 induction ts with
 | nil=>
  intro vs ds p h
  obtain ⟨rfl,rfl,rfl⟩:=trodAll_nil h
  simp
 | cons t ts ih=>
  intro vs ds p h
  obtain ⟨v,vs',d,ds',p1,q1,rfl,rfl,rfl,h0,r0⟩:=trodAll_cons h
  intro x hx
  rcases List.mem_append.1 hx with hx | hx
  ·obtain ⟨m,hm⟩:=h0
   exact DataW.trod_lt m _ _ _ hm x hx
  ·exact ih _ _ _ r0 x hx
theorem len_all:∀ (ts:List TypeId) (vs:List Value) (ds:List (DataW H)) (p:List MemPlace) {base:Nat} {sp:Nat→Bool} {hd:Bool},
  DataW.TrodAll enc Tryz.prog W base sp hd ts vs ds p→ds.length=ts.length:=by
 intro ts
 induction ts with
 | nil=>
  intro vs ds p _ _ _ h
  obtain ⟨rfl,rfl,rfl⟩:=trodAll_nil h
  rfl
 | cons t ts ih=>
  intro vs ds p _ _ _ h
  obtain ⟨v,vs',d,ds',p1,q1,rfl,rfl,rfl,h0,r0⟩:=trodAll_cons h
  simp [ih _ _ _ r0]
theorem law_post {f:Func} {s:ChangeSpec} {args:Array Value} {ds gs:List (DataW H)} {before:List MemPlace}
  (hv:s.vars=[]) (hr:f.resultTypes=#[4]) (hrd:∀ t∈f.params.toList,Tryz.prog.readableRec t=true∧t<Tryz.prog.types.size)
  (hs:∀ ds:List (DataW H),ds.length=f.params.toList.length→s.fn H ds={ results:=[.lit (.bool true)],args:=ds })
  (hW:DataW.Whole enc Tryz.prog f.params.toList s.vars false W args.toList ds gs before) (hb:Below W.heap.size W W') :
  s.post enc Tryz.prog f false true false false W args (.bool true) W':=by
 have hW':=hW
 obtain ⟨p,q,hA,hV,rfl,hfz,hnd⟩:=hW
 rw [hv] at hV
 obtain ⟨rfl,rfl⟩:=trodVars_none hV
 have hl:=len_all _ _ _ _ hA
 have e:s.fn H (ds++[])={ results:=[.lit (.bool true)],args:=ds }:=by rw [List.append_nil];exact hs ds hl
 refine ⟨ds,[],p++[],[],p,[],hW',?_,?_,?_,hb.frame _,fun h=>by cases h⟩
 ·rw [e,hr]
  exact trodAll_mk1 (shut_bool boolT _)
 ·rw [e]
  exact below_all _ _ _ _ hrd hA hb (lt_all _ _ _ _ hA)
 ·rw [hv,e]
  exact rfl
end
open Go.RowKit
theorem ret_bool {a b:Bool} (h:a=b):Ending.returned (.bool a)=.returned (.bool b):=by rw [h]
theorem ret_int {k:IntKind} {a b:Int} (h:a=b):Ending.returned (.int k a)=.returned (.int k b):=by rw [h]
def Rd (w:World) (B sz:Nat) (A:Option Addr) (n:Nat) (xs:List Value):Prop:=
 xs.length=n*sz∧(0<n→∃ b off,A=some ⟨b,off,none⟩∧b<B∧∀ j u,xs[j]?=some u→w.cell? ⟨b,off+j,none⟩=some u)
theorem add_mk (b off j:Nat):(Addr.mk b off none).add j=⟨b,off+j,none⟩:=by
 unfold Addr.add;split<;>simp_all
section
variable {w w':World} {B B' sz n:Nat} {A:Option Addr} {xs:List Value}
theorem Rd.nil_:Rd w B sz A 0 []:=⟨by simp,fun h=>absurd h (by omega)⟩
theorem Rd.keep (h:Rd w B sz A n xs) (hk:∀ p:Addr,p.block<B→w'.cell? p=w.cell? p):Rd w' B sz A n xs:=
 ⟨h.1,fun hn=>by
  obtain ⟨b,off,e,hb,hc⟩:=h.2 hn
  exact ⟨b,off,e,hb,fun j u hu=>(hk _ hb).trans (hc j u hu)⟩⟩
theorem Rd.more (h:Rd w B sz A n xs) (hB:B≤B'):Rd w B' sz A n xs:=
 ⟨h.1,fun hn=>by
  obtain ⟨b,off,e,hb,hc⟩:=h.2 hn
  exact ⟨b,off,e,by omega,hc⟩⟩
theorem Rd.below (h:Rd w B sz A n xs) (hb:Below B w w'):Rd w' B sz A n xs:=h.keep fun _ hp=>hb.cell hp
theorem Rd.under (h:Rd w B sz A n xs) {C:Nat} (hb:Below C w w') (hC:B≤C):Rd w' B sz A n xs:=h.keep fun _ hp=>hb.cell (by omega)
theorem Rd.alloc (h:Rd w B sz A n xs) (hB:B≤w.heap.size) (o:Obj):Rd (w.alloc o) B sz A n xs:=h.keep fun p hp=>World.cell?_alloc_lt w o p (by omega)
theorem Rd.setCell (h:Rd w B sz A n xs) {p:Addr} (hB:B≤p.block) (u:Value):Rd (w.setCell p u) B sz A n xs:=
 h.keep fun q hq=>World.cell?_setCell_other w p q u (fun e=>by subst e;omega)
theorem Rd.of_own {base:Nat} {e:TypeId} {c:Nat} (h:w.ownsRow base e sz (.slice A n c) n xs):Rd w w.heap.size sz A n xs:=by
 refine ⟨h.1,fun hn=>?_⟩
 obtain ⟨g,cap,hv,_,hlt⟩:=h.form hn
 have hA:A=some ⟨g,0,none⟩:=by injection hv
 subst hA
 refine ⟨g,0,rfl,hlt,fun j u hu=>?_⟩
 have:=h.cells (g:=g) rfl j u hu
 rwa [add_mk] at this
end
theorem infoInt:(Tryz.prog.info? 3).map (fun i=>(i.zero,i.size,i.bytes))=some (some (.int .i64 0),1,8):=by kernel_rfl
def ints (zs:List Int):List Value:=zs.map (Value.int .i64)
theorem ints_length (zs:List Int):(ints zs).length=zs.length:=by simp [ints]
theorem ints_one (zs:List Int):∀ u∈ints zs,u.oneCell'=true:=by
 intro u hu
 simp only [ints,List.mem_map] at hu
 obtain ⟨z,_,rfl⟩:=hu
 rfl
theorem ints_snoc (zs:List Int) (z:Int):ints zs++[Value.int .i64 z]=ints (zs++[z]):=by simp [ints]
theorem ints_get {zs:List Int} {k:Nat} (hk:k<zs.length):(ints zs)[k]?=some (.int .i64 zs[k]):=by simp [ints,hk]
theorem Rd.grow {w w':World} {sz n:Nat} {A:Option Addr} {xs:List Value} (h:Rd w w.heap.size sz A n xs) (hb:Below w.heap.size w w'):Rd w' w'.heap.size sz A n xs:=
 (h.below hb).more hb.size
theorem Rd.alloc_ {w:World} {sz n:Nat} {A:Option Addr} {xs:List Value} (h:Rd w w.heap.size sz A n xs) (o:Obj):Rd (w.alloc o) (w.alloc o).heap.size sz A n xs:=
 (h.alloc (Nat.le_refl _) o).more (by simp)
def RdI (w:World) (A:Option Addr) (zs:List Int):Prop:=Rd w w.heap.size 1 A zs.length (ints zs)
theorem RdI.at_ {w:World} {A:Option Addr} {zs:List Int} (h:RdI w A zs) {k:Nat} (hk:k<zs.length) :
  ∃ b off,A=some ⟨b,off,none⟩∧b<w.heap.size∧w.cell? ⟨b,off+k,none⟩=some (.int .i64 zs[k]):=by
 obtain ⟨b,off,e,hb,hc⟩:=h.2 (by omega)
 exact ⟨b,off,e,hb,hc k _ (ints_get hk)⟩
theorem RdI.grow {w w':World} {A:Option Addr} {zs:List Int} (h:RdI w A zs) (hb:Below w.heap.size w w'):RdI w' A zs:=Rd.grow h hb
theorem RdI.alloc {w:World} {A:Option Addr} {zs:List Int} (h:RdI w A zs) (o:Obj):RdI (w.alloc o) A zs:=Rd.alloc_ h o
theorem RdI.drew {w:World} {A:Option Addr} {zs:List Int} (h:RdI w A zs):RdI w.drew A zs:=h
theorem RdI.drewN {w:World} {A:Option Addr} {zs:List Int} (h:RdI w A zs) (n:Nat):RdI (w.drewN n) A zs:=h
theorem below_drewN {B:Nat} {a w:World} (h:Below B a w) (n:Nat):Below B a (w.drewN n):=⟨h.os,h.tape,h.output,h.size,h.block⟩
theorem RdI.of_own {w:World} {base c:Nat} {e:TypeId} {A:Option Addr} {zs:List Int} (h:w.ownsRow base e 1 (.slice A zs.length c) zs.length (ints zs)):RdI w A zs:=Rd.of_own h
theorem grow_below {w w1 w2:World} (h:Below w.heap.size w w1) (k:Below w1.heap.size w1 w2):Below w.heap.size w w2:=
 h.trans (k.mono h.size)
theorem own_nil (w:World) (base:Nat) (e:TypeId) (sz:Nat):w.ownsRow base e sz (.slice none 0 0) 0 []:=⟨by simp,.inl ⟨rfl,rfl⟩⟩
theorem own_shape {w:World} {base:Nat} {e:TypeId} {sz:Nat} {v:Value} {n:Nat} {xs:List Value} (h:w.ownsRow base e sz v n xs) :
  ∃ A c,v=.slice A n c∧n≤c∧c≤maxLen:=by
 rcases h.2 with ⟨rfl,rfl⟩ | ⟨g,cap,cur,rfl,_,_,h1,h2,_⟩
 ·exact ⟨none,0,rfl,Nat.le_refl _,Nat.zero_le _⟩
 ·exact ⟨_,cap,rfl,h1,h2⟩
theorem own_block {w:World} {base:Nat} {e:TypeId} {sz:Nat} {v:Value} {n:Nat} {xs:List Value} (h:w.ownsRow base e sz v n xs) :
  ∀ k,v.ownBlock=some k→base≤k:=by
 intro k hk
 rcases h.2 with ⟨rfl,rfl⟩ | ⟨g,cap,cur,rfl,hb,_⟩
 ·simp [Value.ownBlock] at hk
 ·simp [Value.ownBlock] at hk;omega
theorem quiet_same {P:Program} {f:FuncId} {args:Array Value} {w:World} {n:Nat} {v:Value}
  (h:Calls P f args (w.drewN n) fun e w'=>e=.returned v∧w.drewN n=w'):Calls P f args (w.drewN n) fun e w''=>e=.returned v∧∃ m,w''=w.drewN m:=
 h.mono fun _ _ ⟨he,hm⟩=>⟨he,n,hm.symm⟩
def Blk (w:World) (g:Nat) (t:TypeId) (cs:Array Value):Prop:=w.heap[g]?=some (.cells cs t (0,0))
section
variable {w w':World} {g:Nat} {t:TypeId} {cs:Array Value}
theorem Blk.lt (h:Blk w g t cs):g<w.heap.size:=by
 unfold Blk at h
 exact (Array.getElem?_eq_some_iff.1 h).1
theorem Blk.cell (h:Blk w g t cs) (i:Nat):w.cell? ⟨g,i,none⟩=cs[i]?:=by
 unfold Blk at h
 simp [World.cell?,h]
theorem Blk.frozen (h:Blk w g t cs) (i:Nat):w.frozen? ⟨g,i,none⟩=false:=by
 unfold Blk at h
 simp [World.frozen?,h]
theorem Blk.new (w:World) (t:TypeId) (cs:Array Value):Blk (w.alloc (.cells cs t)) w.heap.size t cs:=heap_alloc_new w _
theorem Blk.drew (h:Blk w g t cs):Blk w.drew g t cs:=h
theorem Blk.drewN (h:Blk w g t cs) (n:Nat):Blk (w.drewN n) g t cs:=h
theorem Blk.alloc (h:Blk w g t cs) (o:Obj):Blk (w.alloc o) g t cs:=(Below.heap_alloc w o g h.lt).trans h
theorem Blk.set_ (h:Blk w g t cs) (i:Nat) (u:Value):Blk (w.setCell ⟨g,i,none⟩ u) g t (cs.setIfInBounds i u):=by
 unfold Blk at h ⊢
 simp [World.setCell,Array.getElem?_modify,h]
theorem Blk.far (h:Blk w g t cs) {p:Addr} (hp:g≠p.block) (u:Value):Blk (w.setCell p u) g t cs:=(Below.heap_setCell w p u g hp).trans h
theorem Blk.below {B:Nat} (h:Blk w g t cs) (hb:Below B w w') (hg:g<B):Blk w' g t cs:=(hb.block g hg).trans h
theorem Blk.grown {row:Option Nat} (h:Blk w g t cs) (hb:w.grownBy w' row) (hg:some g≠row):Blk w' g t cs:=(hb.block g h.lt hg).trans h
end
open Go.ChangeShapes Go.WideShapes Go.ChangeAt Go.RowKit Go.Deep
section
variable {H:Type} {enc:TypeId×Value→H} {w:World} {base:Nat} {spare:Nat→Bool} {held:Bool}
theorem addr_add (a:Addr) (h:a.spot=none) (i:Nat):a.add i=⟨a.block,a.off+i,none⟩:=by
 obtain ⟨b,o,s⟩:=a
 simp only at h
 subst h
 exact add_mk b o i
theorem open_list {α:Type} (d0:α) (R:List Value→α→Prop) {t e:TypeId} {m:Nat} {fuel:Nat} {cs:List Value} {x:DataW H×List MemPlace}
  (ht:Tryz.prog.underlying t=some (.slice e)) (hm:Tryz.prog.cellsOf e=m) (hm0:0<m)
  (hread:∀ (n:Nat) (cs':List Value) (y:DataW H×List MemPlace),cs'.length=m→DataW.trod enc Tryz.prog w base spare held n e cs'=some y→∃ a,R cs' a)
  (h:DataW.trod enc Tryz.prog w base spare held fuel t cs=some x) :
  ∃ (A:Option Addr) (len cap:Nat) (l:List α) (css:List (List Value)),cs=[.slice A len cap]∧l.length=len∧css.length=len∧len≤cap∧cap≤maxLen ∧
   (∀ c∈css,c.length=m)∧(∀ (i:Nat) (c:List Value) (a:α),css[i]?=some c→l[i]?=some a→R c a)∧Rd w w.heap.size m A len css.flatten:=by
 rcases open_slice ht h with ⟨rfl,_⟩ | ⟨a,len,cap,k,n,D,Pl,rfl,hb,hl,hc,hk,_,hi⟩
 ·exact ⟨none,0,0,[],[],rfl,rfl,rfl,Nat.le_refl _,Nat.zero_le _,by simp,by simp,Rd.nil_⟩
 ·have hkl:len≤k:=by rw [hk];split<;>omega
  have hex:∀ i,∃ p:List Value×α,i<len→p.1.length=m∧(∀ j,j<m→w.cell? ((a.add (i*m)).add j)=p.1[j]?)∧R p.1 p.2:=by
   intro i
   by_cases hlt:i<len
   ·obtain ⟨cs',h1,h2⟩:=hi i (by omega)
    rw [hm] at h1
    obtain ⟨_,hlen,hcell⟩:=World.cells?_some h1
    obtain ⟨y,hy⟩:=hread n cs' _ hlen h2
    exact ⟨(cs',y),fun _=>⟨hlen,hcell,hy⟩⟩
   ·exact ⟨([],d0),fun h=>absurd h hlt⟩
  obtain ⟨p,hp⟩:=Classical.axiomOfChoice hex
  refine ⟨some a,len,cap,(List.range len).map fun i=>(p i).2,(List.range len).map fun i=>(p i).1,rfl,by simp,by simp,hl,hc,?_,?_,?_,?_⟩
  ·intro c hc
   simp only [List.mem_map,List.mem_range] at hc
   obtain ⟨i,hi,rfl⟩:=hc
   exact (hp i hi).1
  ·intro i c a' h1 h2
   by_cases hlt:i<len
   ·simp [hlt] at h1 h2
    subst h1 h2
    exact (hp i hlt).2.2
   ·simp [hlt] at h1
  ·have hf:∀ q,q≤len→((List.range q).map fun i=>(p i).1).flatten.length=q*m:=by
    intro q
    induction q with
    | zero=>intro _;simp
    | succ q ih=>
     intro hq
     rw [List.range_succ,List.map_append,List.flatten_append,List.length_append,ih (by omega)]
     simp [(hp q (by omega)).1,Nat.succ_mul]
   exact hf len (Nat.le_refl _)
  ·intro hn
   have hc0:=(hp 0 hn).2.1 0 hm0
   have hsome:∃ u,(p 0).1[0]?=some u:=⟨_,List.getElem?_eq_getElem (by rw [(hp 0 hn).1];exact hm0)⟩
   obtain ⟨u,hu⟩:=hsome
   rw [hu] at hc0
   have ha0:(a.add (0*m)).add 0=a:=by simp [Addr.add]
   rw [ha0] at hc0
   have hspot:a.spot=none:=World.cell?_spot hc0
   have hblk:a.block<w.heap.size:=by
    rcases Nat.lt_or_ge a.block w.heap.size with h | h
    ·exact h
    ·exfalso
     have:w.cell? a=none:=by simp [World.cell?,Array.getElem?_eq_none h]
     rw [this] at hc0
     cases hc0
   refine ⟨a.block,a.off,by obtain ⟨b,o,s⟩:=a;simp only at hspot;subst hspot;rfl,hblk,?_⟩
   intro j u hu
   have key:∀ q,q≤len→∀ j u,((List.range q).map fun i=>(p i).1).flatten[j]?=some u→w.cell? ⟨a.block,a.off+j,none⟩=some u:=by
    have hfl:∀ q,q≤len→((List.range q).map fun i=>(p i).1).flatten.length=q*m:=by
     intro q
     induction q with
     | zero=>intro _;simp
     | succ q ih=>
      intro hq
      rw [List.range_succ,List.map_append,List.flatten_append,List.length_append,ih (by omega)]
      simp [(hp q (by omega)).1,Nat.succ_mul]
    intro q
    induction q with
    | zero=>intro _ j u h;simp at h
    | succ q ih=>
     intro hq j u h
     rw [List.range_succ,List.map_append,List.flatten_append] at h
     by_cases hj:j<q*m
     ·rw [List.getElem?_append_left (by rw [hfl q (by omega)];exact hj)] at h
      exact ih (by omega) j u h
     ·rw [List.getElem?_append_right (by rw [hfl q (by omega)];omega),hfl q (by omega)] at h
      simp only [List.map_cons,List.map_nil,List.flatten_cons,List.flatten_nil,List.append_nil] at h
      have hjm:j-q*m<m:=by
       have:=(List.getElem?_eq_some_iff.1 h).1
       rw [(hp q (by omega)).1] at this
       exact this
      have hcell:=(hp q (by omega)).2.1 (j-q*m) hjm
      rw [h,addr_add a hspot,add_mk] at hcell
      have e:a.off+q*m+(j-q*m)=a.off+j:=by omega
      rw [e] at hcell
      exact hcell
   exact key len (Nat.le_refl _) j u hu
theorem flat_of {α:Type} {f:α→List Value}:∀ {l:List α} {css:List (List Value)},css.length=l.length→(∀ (i:Nat) (c:List Value) (a:α),css[i]?=some c→l[i]?=some a→c=f a)→css.flatten=l.flatMap f:=by
 intro l
 induction l with
 | nil=>intro css h _;simp at h;subst h;rfl
 | cons a l ih=>
  intro css h hr
  cases css with
  | nil=>simp at h
  | cons c css=>
   have h0:=hr 0 c a rfl rfl
   subst h0
   rw [List.flatten_cons,List.flatMap_cons,ih (by simpa using h) (fun i c b h1 h2=>hr (i+1) c b (by simpa using h1) (by simpa using h2))]
theorem fld {n:Nat} {fs:Array Field} {cs:List Value} {xs:List (DataW H×List MemPlace)} (hf:∀ (i:Nat) (f:Field),fs[i]?=some f→DataW.trod enc Tryz.prog w base spare held n f.type (List.take (Tryz.prog.cellsOf f.type) (List.drop f.offset cs))=xs[i]?)
  (i:Nat) (f:Field) (h:fs[i]?=some f) (T off k:Nat) (hT:f.type=T) (ho:f.offset=off) (hk:Tryz.prog.cellsOf T=k):DataW.trod enc Tryz.prog w base spare held n T (List.take k (List.drop off cs))=xs[i]?:=by
 subst hT ho hk
 exact hf i f h
theorem cInt:Tryz.prog.cellsOf 3=1:=by kernel_rfl
theorem cFilter:Tryz.prog.cellsOf 26=2:=by kernel_rfl
end
end Go.Proofs.YtefdblaolmckmabGreat
namespace Brood
def tb (s k:Nat):Bool:=s.testBit k
def numUp (b:Nat→Bool):Nat→Nat
 | 0=>0
 | i+1=>2*numUp b i+if b (7-i) then 1 else 0
def numB (b:Nat→Bool):Nat:=numUp b 8
def isSet (n:Int):Bool:=decide (0≤n∧n≤255)
def isPart (n:Int):Bool:=decide (0≤n∧n<8)
def isVal (n:Int):Bool:=decide (-1000000≤n∧n≤1000000)
def hasB (s k:Int):Bool:=isPart k && s.toNat.testBit k.toNat
def withS (s k:Int):Int:=if isPart k then ((s.toNat ||| 2 ^ k.toNat:Nat):Int) else s
def withoutS (s k:Int):Int:=if hasB s k then s-((2 ^ k.toNat:Nat):Int) else s
def listN (s:Nat) (m:Nat):List Nat:=(List.range m).filter fun k=>s.testBit k
def listS (s:Int):List Int:=(listN s.toNat 8).map fun (k:Nat)=>(k:Int)
def countS (s:Int):Int:=((listN s.toNat 8).length:Int)
def meetsB (a n h:Int):Bool:=(h.toNat &&& a.toNat==a.toNat) && (h.toNat &&& n.toNat==0)
def clip (n:Int):Int:=if n > 1000000 then 1000000 else if n < -1000000 then -1000000 else n
theorem isSet_iff {n:Int}:isSet n=true↔0≤n∧n≤255:=by simp [isSet]
theorem isPart_iff {n:Int}:isPart n=true↔0≤n∧n<8:=by simp [isPart]
theorem isVal_iff {n:Int}:isVal n=true↔-1000000≤n∧n≤1000000:=by simp [isVal]
theorem isPart_false {n:Int}:isPart n=false↔n<0∨8≤n:=by simp [isPart];omega
theorem nat_of {n:Int} (h:0≤n):∃ m:Nat,n=m:=⟨n.toNat,by omega⟩
theorem without_set {s k:Int} (hs:isSet s=true):isSet (withoutS s k)=true:=by
 rw [isSet_iff] at *
 unfold withoutS
 split
 ·rename_i h
  simp only [hasB,Bool.and_eq_true] at h
  have:=Nat.ge_two_pow_of_testBit h.2
  have h2:(2 ^ k.toNat:Nat)≤s.toNat:=this
  have h3:0<2 ^ k.toNat:=Nat.pos_of_ne_zero (by simp)
  omega
 ·exact hs
theorem with_set {s k:Int} (hs:isSet s=true):isSet (withS s k)=true:=by
 rw [isSet_iff] at *
 unfold withS
 split
 ·rename_i h
  rw [isPart_iff] at h
  have h1:s.toNat<2 ^ 8:=by omega
  have h2:2 ^ k.toNat<2 ^ 8:=Nat.pow_lt_pow_right (by omega) (by omega)
  have:=Nat.or_lt_two_pow h1 h2
  omega
 ·exact hs
theorem has_with {s k j:Int}:hasB (withS s k) j=(hasB s j || (decide (j=k) && isPart k)):=by
 unfold hasB withS
 by_cases hk:isPart k=true
 ·rw [if_pos hk]
  by_cases hj:isPart j=true
  ·rw [isPart_iff] at hk hj
   have:isPart k=true:=isPart_iff.2 hk
   simp only [Int.toNat_natCast,Nat.testBit_or,Nat.testBit_two_pow,this,isPart_iff.2 hj,Bool.true_and,Bool.and_true]
   congr 1
   rw [decide_eq_decide]
   omega
  ·have hj':isPart j=false:=by simpa using hj
   have:¬ j=k:=by rintro rfl;exact hj hk
   simp [hj',this]
 ·have hk':isPart k=false:=by simpa using hk
  rw [if_neg hk]
  simp [hk']
theorem has_without {s k j:Int} (hs:isSet s=true):hasB (withoutS s k) j=(hasB s j && !decide (j=k)):=by
 by_cases hk:hasB s k=true
 ·have hk0:=hk
  unfold withoutS
  rw [if_pos hk]
  simp only [hasB,Bool.and_eq_true] at hk
  rw [isSet_iff] at hs
  obtain ⟨m,rfl⟩:=nat_of hs.1
  have hp:=isPart_iff.1 hk.1
  obtain ⟨q,rfl⟩:=nat_of hp.1
  simp only [Int.toNat_natCast] at hk ⊢
  have hge:=Nat.ge_two_pow_of_testBit hk.2
  unfold hasB
  by_cases hj:isPart j=true
  ·have hjp:=isPart_iff.1 hj
   obtain ⟨r,rfl⟩:=nat_of hjp.1
   have hm:m<256:=by omega
   have hq:q<8:=by omega
   have hr:r<8:=by omega
   have key:∀ m,m<256→∀ q,q<8→∀ r,r<8→m.testBit q=true→(m-2 ^ q).testBit r=(m.testBit r && !decide (r=q)):=by decide +kernel
   have e:((m:Int)-((2 ^ q:Nat):Int)).toNat=m-2 ^ q:=by omega
   have e2:decide ((r:Int)=(q:Int))=decide (r=q):=by rw [decide_eq_decide];omega
   rw [e,hj,Int.toNat_natCast,key m hm q hq r hr hk.2,e2]
   simp
  ·simp [hj]
 ·have hk':hasB s k=false:=by simpa using hk
  unfold withoutS
  rw [if_neg hk]
  by_cases hj:j=k
  ·subst hj;simp [hk']
  ·simp [hj]
-- the plain laws
structure BRow where
 idx:Int
 gen:Int
 has:Int
 vals:List Int
 h8:vals.length=8
instance:DecidableEq BRow:=fun a b=>decidable_of_iff (a.idx=b.idx∧a.gen=b.gen∧a.has=b.has∧a.vals=b.vals) (by cases a;cases b;simp)
structure BWorld where
 rows:List BRow
 gens:List Int
def gensFrom:Nat→List Int→Int×Int
 | _,[]=>(0,0)
 | i,n::l=>if n<1∨1000<n then (3,(i:Int)) else gensFrom (i+1) l
def gensErr (l:List Int):Int×Int:=if 60<l.length then (4,0) else gensFrom 0 l
def valBad (has:Int) (k:Nat) (v:Int):Bool:=!isVal v || (decide (v≠0) && !hasB has (k:Int))
def valsBad (has:Int):Nat→List Int→Bool
 | _,[]=>false
 | k,v::l=>valBad has k v || valsBad has (k+1) l
def rowErr (r:BRow):Int:=if isSet r.has && !valsBad r.has 0 r.vals then 0 else 3
def prevGe (p:Option Int) (i:Int):Bool:=match p with | some q=>decide (i≤q) | none=>false
def rowsFrom (gens:List Int):Nat→Option Int→List BRow→Int×Int
 | _,_,[]=>(0,0)
 | i,p,r::l=>
  if rowErr r≠0 then (rowErr r,(i:Int))
  else if r.idx<0∨(gens.length:Int)≤r.idx then (3,(i:Int))
  else if prevGe p r.idx=true then (2,(i:Int))
  else if r.gen≠gens.getD r.idx.toNat 0 then (7,(i:Int))
  else rowsFrom gens (i+1) (some r.idx) l
def worldErr (w:BWorld):Int×Int:=if (gensErr w.gens).1≠0 then gensErr w.gens else rowsFrom w.gens 0 none w.rows
theorem valsBad_drop (has:Int) {l:List Int} {k:Nat} (h:k<l.length):valsBad has k (l.drop k)=(valBad has k l[k] || valsBad has (k+1) (l.drop (k+1))):=by
 rw [List.drop_eq_getElem_cons h,valsBad]
end Brood
namespace Go.Proofs.YtefdblaolmckmabGreat
open Go.RowKit
open Brood
theorem set_any (n:Int) (w:World) :
  Calls Tryz.prog 43 #[.int .i64 n] w fun e w'=>e=.returned (.bool (isSet n))∧w=w':=by
 go_enter Tryz.func43,Tryz.ntmps43
 go_wp2
 all_goals go_ret
 all_goals exact ⟨ret_bool (by simp [isSet];omega),rfl⟩
theorem part_any (n:Int) (w:World) :
  Calls Tryz.prog 59 #[.int .i64 n] w fun e w'=>e=.returned (.bool (isPart n))∧w=w':=by
 go_enter Tryz.func59,Tryz.ntmps59
 go_wp2
 all_goals go_ret
 all_goals exact ⟨ret_bool (by simp [isPart];omega),rfl⟩
theorem value_any (n:Int) (w:World) :
  Calls Tryz.prog 44 #[.int .i64 n] w fun e w'=>e=.returned (.bool (isVal n))∧w=w':=by
 go_enter Tryz.func44,Tryz.ntmps44
 go_wp2
 all_goals go_ret
 all_goals exact ⟨ret_bool (by simp [isVal];omega),rfl⟩
theorem bits_has:∀ s,s<256→∀ k,k<8→(bits .and .i64 (((s:Nat):Int) / 2 ^ k) 1==1)=s.testBit k:=by decide +kernel
theorem bits_with:∀ s,s<256→∀ k,k<8→bits .or .i64 ((s:Nat):Int) (wrap64 (2 ^ k))=((s ||| 2 ^ k:Nat):Int):=by decide +kernel
theorem bits_without:∀ s,s<256→∀ k,k<8→bits .andNot .i64 ((s:Nat):Int) (wrap64 (2 ^ k))=if s.testBit k then ((s:Nat):Int)-((2 ^ k:Nat):Int) else s:=by decide +kernel
theorem bits_hasB {s k:Int} (hs:0≤s∧s≤255) (h0:0≤k) (h1:k<8):(bits .and .i64 (s / 2 ^ k.toNat) 1==1)=hasB s k:=by
 obtain ⟨s,rfl⟩:=nat_of hs.1
 obtain ⟨k,rfl⟩:=nat_of h0
 rw [Int.toNat_natCast,bits_has s (by omega) k (by omega)]
 simp [hasB,isPart,h0,h1]
theorem bits_withS {s k:Int} (hs:0≤s∧s≤255) (h0:0≤k) (h1:k<8):bits .or .i64 s (wrap64 (2 ^ k.toNat))=withS s k:=by
 obtain ⟨s,rfl⟩:=nat_of hs.1
 obtain ⟨k,rfl⟩:=nat_of h0
 rw [Int.toNat_natCast,bits_with s (by omega) k (by omega)]
 simp [withS,isPart,h0,h1]
theorem bits_withoutS {s k:Int} (hs:0≤s∧s≤255) (h0:0≤k) (h1:k<8):bits .andNot .i64 s (wrap64 (2 ^ k.toNat))=withoutS s k:=by
 obtain ⟨s,rfl⟩:=nat_of hs.1
 obtain ⟨k,rfl⟩:=nat_of h0
 rw [Int.toNat_natCast,bits_without s (by omega) k (by omega)]
 simp [withoutS,hasB,isPart,h0,h1]
theorem withS_out {s k:Int} (h:isPart k=false):withS s k=s:=by simp [withS,h]
theorem withoutS_out {s k:Int} (h:isPart k=false):withoutS s k=s:=by simp [withoutS,hasB,h]
theorem clip_any (n:Int) (w:World) :
  Calls Tryz.prog 109 #[.int .i64 n] w fun e w'=>e=.returned (.int .i64 (clip n))∧w=w':=by
 go_enter Tryz.func109,Tryz.ntmps109
 go_wp2
 all_goals go_ret
 all_goals exact ⟨ret_int (by simp only [clip];(repeat' split)<;>simp_all<;>omega),rfl⟩
theorem has_any (s k:Int) (hs:isSet s=true) (w:World) :
  Calls Tryz.prog 36 #[.int .i64 s,.int .i64 k] w fun e w'=>e=.returned (.bool (hasB s k))∧w=w':=by
 have hs':=isSet_iff.1 hs
 clear hs
 by_cases hk:isPart k=true
 ·have hk':=isPart_iff.1 hk
  go_enter Tryz.func36,Tryz.ntmps36
  go_wp2_with (go_at_call 59;refine (part_any _ _).mono ?_;rintro e w' ⟨rfl,rfl⟩)
  go_ret
  exact ⟨ret_bool (bits_hasB hs' hk'.1 hk'.2),rfl⟩
 ·have hk':isPart k=false:=by simpa using hk
  go_enter Tryz.func36,Tryz.ntmps36
  go_wp2_with (go_at_call 59;refine (part_any _ _).mono ?_;rintro e w' ⟨rfl,rfl⟩)
  go_ret
  exact ⟨ret_bool (by simp [hasB,hk']),rfl⟩
theorem with_any (s k:Int) (hs:isSet s=true) (w:World) :
  Calls Tryz.prog 60 #[.int .i64 s,.int .i64 k] w fun e w'=>e=.returned (.int .i64 (withS s k))∧w=w':=by
 have hs':=isSet_iff.1 hs
 clear hs
 by_cases hk:isPart k=true
 ·have hk':=isPart_iff.1 hk
  go_enter Tryz.func60,Tryz.ntmps60
  go_wp2_with (go_at_call 59;refine (part_any _ _).mono ?_;rintro e w' ⟨rfl,rfl⟩)
  go_ret
  exact ⟨ret_int (bits_withS hs' hk'.1 hk'.2),rfl⟩
 ·have hk':isPart k=false:=by simpa using hk
  go_enter Tryz.func60,Tryz.ntmps60
  go_wp2_with (go_at_call 59;refine (part_any _ _).mono ?_;rintro e w' ⟨rfl,rfl⟩)
  go_ret
  exact ⟨ret_int (withS_out hk').symm,rfl⟩
theorem without_any (s k:Int) (hs:isSet s=true) (w:World) :
  Calls Tryz.prog 63 #[.int .i64 s,.int .i64 k] w fun e w'=>e=.returned (.int .i64 (withoutS s k))∧w=w':=by
 have hs':=isSet_iff.1 hs
 clear hs
 by_cases hk:isPart k=true
 ·have hk':=isPart_iff.1 hk
  go_enter Tryz.func63,Tryz.ntmps63
  go_wp2_with (go_at_call 59;refine (part_any _ _).mono ?_;rintro e w' ⟨rfl,rfl⟩)
  go_ret
  exact ⟨ret_int (bits_withoutS hs' hk'.1 hk'.2),rfl⟩
 ·have hk':isPart k=false:=by simpa using hk
  go_enter Tryz.func63,Tryz.ntmps63
  go_wp2_with (go_at_call 59;refine (part_any _ _).mono ?_;rintro e w' ⟨rfl,rfl⟩)
  go_ret
  exact ⟨ret_int (withoutS_out hk').symm,rfl⟩
theorem bits_255:∀ s,s<256→IntKind.u64.wrap (bits .and .i64 ((s:Nat):Int) 255)=((s:Nat):Int):=by decide +kernel
theorem ones_any (m:Nat) (hm:m<256) (w:World) :
  Calls Tryz.prog 159 #[.int .u64 (m:Int)] w fun e w'=>e=.returned (.int .i64 (countS m))∧w=w':=by
 go_enter Tryz.func159,Tryz.ntmps159
 go_wp2
 all_goals go_ret
 all_goals refine ⟨ret_int ?_,rfl⟩
 all_goals (revert hm;revert m;decide +kernel)
theorem ones_all (m:Nat) (hm:m<256) (w:World) :
  Calls Tryz.prog 130 #[.int .u64 (m:Int)] w fun e w'=>e=.returned (.int .i64 (countS m))∧w=w':=by
 go_enter Tryz.func130,Tryz.ntmps130
 go_wp2_with (go_at_call 159;refine (ones_any m hm _).mono ?_;rintro e w' ⟨rfl,rfl⟩)
 all_goals go_ret
 all_goals exact ⟨rfl,rfl⟩
theorem count_any (s:Int) (hs:isSet s=true) (w:World) :
  Calls Tryz.prog 88 #[.int .i64 s] w fun e w'=>e=.returned (.int .i64 (countS s))∧w=w':=by
 have hs':=isSet_iff.1 hs
 clear hs
 obtain ⟨m,rfl⟩:=nat_of hs'.1
 have hm:m<256:=by omega
 have hb:=Lib.hid (bits_255 m hm)
 go_enter Tryz.func88,Tryz.ntmps88
 go_wp2_with fail
 rw [hb.out]
 refine (ones_all m hm _).mono ?_
 rintro e w' ⟨rfl,rfl⟩
 go_wp2_with fail
 all_goals go_ret
 all_goals exact ⟨rfl,rfl⟩
theorem i64_and_nat (a b:Nat) (ha:a<9223372036854775808) (hb:b<9223372036854775808):bits .and .i64 (a:Int) (b:Int)=((a &&& b:Nat):Int):=by
 have ofInt_i64:∀ (a:Nat),a<9223372036854775808→(BitVec.ofInt 64 (a:Int)).toNat=a:=by
  intro a ha
  rw [BitVec.ofInt_natCast,BitVec.toNat_ofNat];exact Nat.mod_eq_of_lt (by omega)
 have hx:a &&& b<2 ^ 63:=Nat.and_lt_two_pow _ (by omega)
 show IntKind.i64.wrap ((BitVec.ofInt 64 (a:Int) &&& BitVec.ofInt 64 (b:Int)).toNat:Int)=_
 rw [BitVec.toNat_and,ofInt_i64 a ha,ofInt_i64 b hb,IntKind.wrap_i64]
 omega
theorem bits_and_set {a b:Int} (ha:0≤a∧a≤255) (hb:0≤b∧b≤255):bits .and .i64 a b=((a.toNat &&& b.toNat:Nat):Int):=by
 obtain ⟨a,rfl⟩:=nat_of ha.1
 obtain ⟨b,rfl⟩:=nat_of hb.1
 rw [i64_and_nat a b (by omega) (by omega)]
 simp
theorem meets_t {a n h:Int} (ha:0≤a∧a≤255) (hn:0≤n∧n≤255) (hh:0≤h∧h≤255) (e:bits .and .i64 h a=a):(bits .and .i64 h n==0)=meetsB a n h:=by
 rw [bits_and_set hh ha] at e
 rw [bits_and_set hh hn]
 have e':h.toNat &&& a.toNat=a.toNat:=by omega
 rw [Bool.eq_iff_iff]
 simp [meetsB,e']
theorem meets_f {a n h:Int} (ha:0≤a∧a≤255) (hh:0≤h∧h≤255) (e:¬ bits .and .i64 h a=a):false=meetsB a n h:=by
 rw [bits_and_set hh ha] at e
 have e':¬ h.toNat &&& a.toNat=a.toNat:=by omega
 simp [meetsB,e']
theorem meets_any (a n h:Int) (ha:isSet a=true) (hn:isSet n=true) (hh:isSet h=true) (w:World) :
  Calls Tryz.prog 81 #[.agg #[.int .i64 a,.int .i64 n],.int .i64 h] w fun e w'=>e=.returned (.bool (meetsB a n h))∧Below w.heap.size w w':=by
 have ha':=isSet_iff.1 ha
 have hn':=isSet_iff.1 hn
 have hh':=isSet_iff.1 hh
 clear ha hn hh
 go_enter Tryz.func81,Tryz.ntmps81
 go_wp2
 all_goals go_ret
 ·exact ⟨ret_bool (meets_t ha' hn' hh' (by assumption)),(Below.refl _ _).alloc (Nat.le_refl _) _⟩
 ·exact ⟨ret_bool (meets_f ha' hh' (by assumption)),(Below.refl _ _).alloc (Nat.le_refl _) _⟩
open Go.RowKit
open Brood
def upS (s:Int) (k:Nat):List Int:=(listN s.toNat k).map fun (k:Nat)=>(k:Int)
theorem upS_yes {s:Int} {k:Nat} (hk:k<8) (h:hasB s k=true):upS s (k+1)=upS s k++[(k:Int)]:=by
 have h':s.toNat.testBit k=true:=by
  have hk':(k:Int)<8:=by omega
  simpa [hasB,isPart,hk'] using h
 simp [upS,listN,List.range_succ,List.filter_append,h']
theorem upS_no {s:Int} {k:Nat} (hk:k<8) (h:hasB s k=false):upS s (k+1)=upS s k:=by
 have h':s.toNat.testBit k=false:=by
  have hk':(k:Int)<8:=by omega
  simpa [hasB,isPart,hk'] using h
 simp [upS,listN,List.range_succ,List.filter_append,h']
theorem upS_le (s:Int) (k:Nat):(upS s k).length≤k:=by
 have:=List.length_filter_le (fun j=>s.toNat.testBit j) (List.range k)
 simpa [upS,listN] using this
theorem list_any (s:Int) (hs:isSet s=true) (w:World) :
  Calls Tryz.prog 38 #[.int .i64 s] w fun e w'=>∃ v,e=.returned v∧w'.ownsRow w.heap.size 3 1 v (listS s).length (ints (listS s))∧Below w.heap.size w w':=by
 obtain ⟨i0,hi,hz0,hz1,hz2⟩:=info_parts infoInt
 go_enter Tryz.func38,Tryz.ntmps38
 go_wp2_with fail
 go_loopw [3,5] (fun v i wr=>∃ k:Nat,k≤8∧i=.int .i64 k∧wr.ownsRow w.heap.size 3 1 v (upS s k).length (ints (upS s k))∧Below w.heap.size w wr) (fun _ i _=>8-(intOf i).toNat)
 case atStart=>exact ⟨0,by omega,rfl,own_nil _ _ _ _,Below.refl _ _⟩
 case round=>
  obtain ⟨k,hk,rfl,hown,hbel⟩:=hrel
  by_cases hlt:k<8
  ·cases hh:hasB s k with
   | true=>
    have hup:=Lib.hid (upS_yes hlt hh)
    have hle:=upS_le s k
    have hsz:=hbel.size
    go_wp2_with (first
     | (go_at_call 36;refine (has_any s k hs _).mono ?_;rintro e w' ⟨rfl,rfl⟩)
     | (at_builtin;refine wpList_append_own _ rfl _ _ 38 rfl w.heap.size 3 i0 (.int .i64 0) 1 8 Tryz.underlying38 hi hz0 hz1 hz2 rfl (by decide) _ _ _ rfl (hown.alloc _) ⟨wr.heap.size,0,none⟩ 1 1 [.int .i64 (k:Int)] rfl rfl ?c1 ?c2 ?c3 ?c4 ?c5 ?_;rotate_left 5;intro v' w1 hown' hgrow _))
    case c1=>exact cell_one_new _ _ _
    case c2=>intro u hu;simp at hu;subst hu;rfl
    case c3=>unfold maxLen;omega
    case c4=>omega
    case c5=>simp;omega
    go_roundw
    case rel=>
     refine ⟨k+1,by omega,by go_num,?_,?_⟩
     ·rw [hup.out,List.length_append,← ints_snoc];exact hown'
     ·exact (hbel.alloc hsz _).grown hgrow (by simp;omega) (own_block hown)
    case measure=>simp [intOf];omega
   | false=>
    have hup:=Lib.hid (upS_no hlt hh)
    go_wp2_with (first
     | (go_at_call 36;refine (has_any s k hs _).mono ?_;rintro e w' ⟨rfl,rfl⟩))
    go_roundw
    case rel=>exact ⟨k+1,by omega,by go_num,by rw [hup.out];exact hown,hbel⟩
    case measure=>simp [intOf];omega
  ·obtain rfl:k=8:=by omega
   go_wp2_with fail
   go_ret
   exact ⟨_,rfl,hown,hbel⟩
end Go.Proofs.YtefdblaolmckmabGreat
namespace Brood
structure BAct where
 kind:Int
 part:Int
 src:Int
 n:Int
structure BSys where
 mod:Int
 all:Int
 non:Int
 acts:List BAct
structure BNeed where
 reads:Int
 writes:Int
 moves:Bool
 life:Bool
def isFrom (a:BAct):Bool:=decide (a.kind=2) || decide (a.kind=3)
def isOwn (a:BAct):Bool:=decide (a.kind=3) || decide (a.kind=4)
def isWrite (k:Int):Bool:=decide (1≤k∧k≤5)
def actErr (all:Int) (a:BAct):Int:=
 if a.kind=6 then 0
 else if a.kind=7 then (if !isSet a.part || !isVal a.n then 3 else 0)
 else if isWrite a.kind then
  (if !isPart a.part || (isFrom a && !isPart a.src) || (!isFrom a && !decide (a.kind=5) && !isVal a.n) then 3
   else if (isFrom a && !hasB all a.src) || (isOwn a && !hasB all a.part) then 7
   else 0)
 else 1
def goneErr (g:Int) (a:BAct):Bool:=(isFrom a && hasB g a.src) || (isOwn a && hasB g a.part)
def goneNext (g:Int) (a:BAct):Int:=
 if a.kind=5 then withS g a.part else if a.kind=1∨a.kind=2 then withoutS g a.part else g
def wrongFrom (all:Int):Int→Nat→List BAct→Int×Int
 | _,_,[]=>(0,0)
 | g,i,a::l=>if actErr all a≠0 then (actErr all a,(i:Int)) else if goneErr g a then (7,(i:Int)) else wrongFrom all (goneNext g a) (i+1) l
def sysHead (s:BSys):Bool:=decide (0≤s.mod) && decide (s.mod<6) && isSet s.all && isSet s.non
def sysWrong (s:BSys):Int×Int:=
 if sysHead s then (if 8<s.acts.length then (4,0) else wrongFrom s.all 0 0 s.acts) else (3,0)
def orS (s t:Int):Int:=((s.toNat ||| t.toNat:Nat):Int)
def needAct (all:Int) (n:BNeed) (a:BAct):BNeed:=
 if a.kind=6 then { n with life:=true }
 else if a.kind=7 then { n with life:=true,writes:=orS n.writes a.part }
 else
  { reads:=(if isOwn a then withS (if isFrom a then withS n.reads a.src else n.reads) a.part else (if isFrom a then withS n.reads a.src else n.reads)),writes:=withS n.writes a.part,moves:=n.moves || decide (a.kind=5) || !hasB all a.part,life:=n.life }
def needs (s:BSys):BNeed:=s.acts.foldl (needAct s.all) ⟨0,0,false,false⟩
end Brood
namespace Go.Proofs.YtefdblaolmckmabGreat
open Go.RowKit
theorem count_step (L:Array Bool) (i:Nat) (h:L.getD i true=false):(L.setIfInBounds i true).toList.count false+1=L.toList.count false:=by
 obtain ⟨l⟩:=L
 have hl:l[i]?=some false:=by
  cases hh:l[i]? with
  | none=>simp [Array.getD_eq_getD_getElem?,hh] at h
  | some b=>simp [Array.getD_eq_getD_getElem?,hh] at h;simp [h]
 simp only [List.setIfInBounds_toArray]
 clear h
 induction l generalizing i with
 | nil=>simp at hl
 | cons b l ih=>
  cases i with
  | zero=>simp at hl;subst hl;simp
  | succ i=>
   simp only [List.getElem?_cons_succ] at hl
   have:=ih i hl
   simp only [List.set_cons_succ,List.count_cons]
   omega
section
variable {P:Program} {ops:Array Oper} {Q:Exit→Act→World→Prop} {md:Region.Mode}
theorem mem_ready' {L:Array Bool} {i:Nat} (h:i∈Region.ready md ops L) :
  i<ops.size∧L.getD i true=false∧((ops[i]?).map (·.after.all fun e=>!Region.binds md e || L.getD e.on false)).getD false=true:=by
 unfold Region.ready at h
 rw [List.mem_filter,List.mem_range,Bool.and_eq_true] at h
 exact ⟨h.1,by simpa using h.2.1,h.2.2⟩
theorem ready_nil {L:Array Bool} (h:L.toList.count false=0) (hs:L.size=ops.size):Region.ready md ops L=[]:=by
 unfold Region.ready
 rw [List.filter_eq_nil_iff]
 intro i hi
 rw [List.mem_range] at hi
 rw [List.count_eq_zero] at h
 have hb:L[i]?=some true:=by
  have:L[i]?=some L[i]:=Array.getElem?_eq_getElem (by omega)
  cases hh:L[i] with
  | true=>rw [this,hh]
  | false=>exfalso;apply h;rw [← hh];exact Array.mem_toList_iff.2 (Array.getElem_mem _)
 simp [Array.getD_eq_getD_getElem?,hb]
theorem ready_out {L:Array Bool} (h:Region.ready md ops L=[]) (i:Nat) (hi:i<ops.size) (hd:((ops[i]?).map (·.after.all fun e=>!Region.binds md e || L.getD e.on false)).getD false=true):L.getD i true=true:=by
 cases hh:L.getD i true with
 | true=>rfl
 | false=>
  have:i∈Region.ready md ops L:=by
   unfold Region.ready
   rw [List.mem_filter,List.mem_range,Bool.and_eq_true]
   exact ⟨hi,by rw [hh];rfl,hd⟩
  rw [h] at this
  cases this
theorem wpAny_inv (I:Array Bool→Act→World→Prop)
  (hend:∀ L a w,I L a w→Region.ready md ops L=[]→Q .normal a w)
  (hstep:∀ L a w i,I L a w→i<ops.size→L.getD i true=false→((ops[i]?).map (·.after.all fun e=>!Region.binds md e || L.getD e.on false)).getD false=true →
   wpOp P ops Q i (fun a' w'=>I (L.setIfInBounds i true) a' w') a w) :
  ∀ fuel L a w,I L a w→L.size=ops.size→L.toList.count false≤fuel→wpAny P md ops Q fuel L a w:=by
 intro fuel
 induction fuel with
 | zero=>intro L a w hI hs hc;exact ⟨ready_nil (by omega) hs,hend L a w hI (ready_nil (by omega) hs)⟩
 | succ fuel ih=>
  intro L a w hI hs hc
  refine ⟨hend L a w hI,fun i hi=>?_⟩
  obtain ⟨h1,h2,h3⟩:=mem_ready' hi
  refine wpOp_mono (fun a' w' h=>ih _ _ _ h (by simpa using hs) ?_) (hstep L a w i hI h1 h2 h3)
  have:=count_step L i h2
  omega
theorem wp_region_inv {id:Nat} {a:Act} {w:World} (hm:P.follows .mixedOrders=true) (I:Array Bool→Act→World→Prop)
  (h0:I (Array.replicate ops.size false) a w.drew)
  (hend:∀ L a w,I L a w→Region.ready .any ops L=[]→Q .normal a w)
  (hstep:∀ L a w i,I L a w→i<ops.size→L.getD i true=false→((ops[i]?).map (·.after.all fun e=>!Region.binds .any e || L.getD e.on false)).getD false=true →
   wpOp P ops Q i (fun a' w'=>I (L.setIfInBounds i true) a' w') a w):(Code.region id ops true).wp P Q a w:=
 wp_region_any hm (wpAny_inv I hend hstep _ _ _ _ h0 (by simp) (by simp))
end
theorem wpOp_of {P:Program} {ops:Array Oper} {Q:Exit→Act→World→Prop} {i:Nat} {o:Oper} {a:Act} {w:World} {J:Act→World→Prop}
  (h:ops[i]?=some o) (hg:o.guard=none) (h':∀ K:Act→World→Prop,(∀ a w,J a w→K a w)→o.wp P a w K Q):wpOp P ops Q i J a w:=by
 unfold wpOp
 simp only [h,Region.wanted,hg,if_true]
 exact .inl (h' J fun _ _ h=>h)
theorem mixed:Tryz.prog.follows .mixedOrders=true:=by kernel_rfl
end Go.Proofs.YtefdblaolmckmabGreat
namespace Go.Proofs.YtefdblaolmckmabGreat
open Go.RowKit
theorem rb {es:Array Edge} {l:Nat→Bool} {j:Nat} (hd:(es.all fun e=>!Region.binds .any e||l e.on)=true) (h:(es.toList.any fun e=>e.on==j&&Region.binds .any e)=true):l j=true:=by
 obtain ⟨q,hq,h2⟩:=List.any_eq_true.1 h
 rw [Bool.and_eq_true,beq_iff_eq] at h2
 have:=(Array.all_eq_true_iff_forall_mem.1 hd) _ (Array.mem_toList_iff.1 hq)
 rw [h2.2,h2.1] at this
 simpa using this
theorem sj {α:Type} {a b:α} (h:some a=some b):a=b:=Option.some.inj h
end Go.Proofs.YtefdblaolmckmabGreat
