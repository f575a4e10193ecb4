/- Lemmas of the proof. -/
import Derived.Laws.AppendOwnNone
import Derived.Test.YtefdblaolmckmacGreatMBSpecIToSpecL
set_option linter.unusedVariables false
set_option linter.unusedSimpArgs false
set_option maxRecDepth 100000
set_option maxHeartbeats 12800000
namespace Go.Proofs.YtefdblaolmckmacGreat
open Go.RowKit
open Brood
structure TwoP (mods:List BMod) (n:Nat) (P P':Played):Prop where
 h:P'.h=(tickV P.h).1
 a:P'.a=P.a++[(tickV P.h).2]
 len:P.a.length=n
 r:HouseR mods P.h
theorem two_cases (mods:List BMod) {l:List BDo} (h:l.length<80):((playV mods l).f.1≠0∧(playV mods (l++[tickD])).f=(playV mods l).f) ∨
  ((playV mods l).f=(0,0)∧(playV mods (l++[tickD])).f=(0,0)∧TwoP mods l.length (playV mods l) (playV mods (l++[tickD]))):=by
 by_cases hm:(modsErr mods).1=0
 ·obtain ⟨h1,h2,h3,h4,h5,h6⟩:=play_tick hm h
  exact .inr ⟨h1,h2,h3,h4,h5,h6⟩
 ·obtain ⟨h1,h2⟩:=play_err (l:=l) (m:=l++[tickD]) hm
  exact .inl ⟨by rw [h1];exact hm,by rw [h1,h2]⟩
theorem eqFault (i g:Int) (w:World):(binOp .eql 34 (.agg #[.int .i64 i,.int .i64 g]) (.agg #[.int .i64 i,.int .i64 g])).run Tryz.prog w=.ok (.bool true) w:=by
 rw [run_eql_struct,run_equalIn_struct _ _ _ _ _ (by kernel_rfl) (by kernel_rfl)]
 simp [go_sem,Op.eqFields]
theorem rdD_none {w:World} {B:Nat} {l:List DIn} (h:RdD w B none l):l=[]:=by
 match l,h with
 | [],_=>rfl
 | a::l,h=>obtain ⟨b,off,e,_⟩:=h.cells.2 (by simp);cases e
theorem dnil {w:World} {B:Nat} {A:Option Addr} {c:Nat} {l:List DIn} (hD:RdD w B A l) (h:A=none→c=0) (hA:A=none):l.length=0∧c=0:=by
 subst hA
 exact ⟨by rw [rdD_none hD];rfl,h rfl⟩
theorem do_one (l:List DIn):∀ u∈l.flatMap doCells,u.oneCell'=true:=by
 intro u hu
 obtain ⟨x,_,hx⟩:=List.mem_flatMap.1 hu
 unfold doCells at hx
 simp only [List.mem_cons,List.not_mem_nil,or_false] at hx
 rcases hx with rfl | rfl | rfl | rfl | rfl | rfl | rfl | rfl | rfl | rfl | rfl | rfl<;>rfl
theorem pkD_lit0 {w0 w:World} {E:List Ent} (h:Hp w0 w E):Hp w0 (w.alloc (.cells #[] 58)) (pkD (some ⟨w.heap.size,0,none⟩) 0 []::E):=
 h.more (World.grownBy_alloc w _ _) (own_lower (World.ownsRow_lit w #[] 0 (Nat.le_refl _) (by unfold maxLen;omega) (by simp)) h.bel.size) (fun g hg=>by
  have:w.heap.size=g:=by simpa [pkD,Ent.blk,Value.ownBlock] using hg
  omega)
theorem pkD_all {w0 w:World} {A:Option Addr} {c:Nat} {L:List DIn} {E:List Ent} (h:Hp w0 w (.own (.slice A (0+L.length) c) 58 12 (0+L.length) ([]++L.flatMap doCells)::E)):Hp w0 w (pkD A c L::E):=by
 rw [Nat.zero_add,List.nil_append] at h
 exact h
theorem wpList_append_own_or {P:Program} {w:World} {ops:Array Oper} {rest:List Oper} {o:Oper} {a:Act} {Q:Exit→Act→World→Prop} (hgd:o.guard=none) (s x:Operand) (t:TypeId)
  (ho:o.op=.call { callee:=.builtin .append,args:=#[s,x],argTypes:=#[t,t] })
  (base:Nat) (e:TypeId) (i:TypeInfo) (z:Value) (size bytes:Nat) (ht:P.underlying t=some (.slice e)) (hi:P.info? e=some i) (hz:i.zero=some z)
  (hsize:i.size=size) (hby:i.bytes=bytes) (hzs:z.cells.size=size) (hsz:0<size)
  (v:Value) (n:Nat) (xs:List Value) (hs:a.eval s=v) (hown:w.ownsRow base e size v n xs)
  (A:Option Addr) (m c:Nat) (news:List Value) (hx:a.eval x=.slice A m c) (hnil:A=none→m=0∧c=0) (hl:news.length=m*size) (hnews:∀ ad,A=some ad→∀ j u,news[j]?=some u→w.cell? (ad.add j)=some u) (h1:∀ u∈news,u.oneCell'=true)
  (h63:n+m≤maxLen) (hbytes:(n+m)*bytes≤140737488355328) (hbase:base≤w.heap.size)
  (h:∀ v' w',w'.ownsRow base e size v' (n+m) (xs++news)→w.grownBy w' v.ownBlock→(v'.ownBlock=v.ownBlock∨v'.ownBlock=some w.heap.size)→wpList P ops Q rest (a.put o.dst v') w') :
  wpList P ops Q (o::rest) a w:=by
 cases A with
 | none=>
  obtain ⟨rfl,rfl⟩:=hnil rfl
  obtain rfl:news=[]:=List.eq_nil_of_length_eq_zero (by rw [hl];simp)
  refine wpList_append_own_none hgd s x t ho base e i size ht hi v n xs hs hown hx ?_
  exact h v w (by simpa using hown) ⟨rfl,rfl,rfl,Nat.le_refl _,fun _ _ _=>rfl⟩ (.inl rfl)
 | some ad=>exact wpList_append_own_at w hgd s x t ho base e i z size bytes ht hi hz hsize hby hzs hsz v n xs hs hown ad m c news hx hl (hnews ad rfl) h1 h63 hbytes hbase (fun v' w' a1 a2 _ a4=>h v' w' a1 a2 a4)
end Go.Proofs.YtefdblaolmckmacGreat
