/- Lemmas of the proof. -/
import Derived.RegionTactic
import Derived.Test.YtefdblaolmckmabGreatRBSortTBToRefW
import Derived.Test.YtefdblaolmckmabGreatRBRowToInv
set_option linter.unusedVariables false
set_option linter.unusedSimpArgs false
set_option maxRecDepth 100000
set_option maxHeartbeats 12800000
namespace Go.Proofs.YtefdblaolmckmabGreat
open Go.RowKit
open Brood
def roundB (x y z:Bool):Bool:=!(x && !z || y && z)
def meetsTo (a n h:Nat):Nat→Bool
 | 0=>true
 | k+1=>meetsTo a n h k && roundB (tb a k) (tb n k) (tb h k)
theorem meetsTo_succ (a n h k:Nat):meetsTo a n h (k+1)=(meetsTo a n h k && roundB (tb a k) (tb n k) (tb h k)):=rfl
theorem meetsTo_iff (a n h:Nat):∀ k,meetsTo a n h k=true↔∀ j,j<k→roundB (tb a j) (tb n j) (tb h j)=true:=by
 intro k
 induction k with
 | zero=>simp [meetsTo]
 | succ k ih=>
  rw [meetsTo_succ,Bool.and_eq_true,ih]
  constructor
  ·rintro ⟨h1,h2⟩ j hj
   rcases Nat.lt_succ_iff_lt_or_eq.1 hj with h | h
   ·exact h1 j h
   ·rw [h];exact h2
  ·intro h1
   exact ⟨fun j hj=>h1 j (by omega),h1 k (by omega)⟩
theorem meets_iff {a n h:Nat} (ha:a<256) (hn:n<256):meetsB a n h=true↔∀ j,j<8→roundB (tb a j) (tb n j) (tb h j)=true:=by
 simp only [meetsB,Int.toNat_natCast,Bool.and_eq_true,beq_iff_eq]
 constructor
 ·rintro ⟨h1,h2⟩ j _
  have e1:=congrArg (fun x=>x.testBit j) h1
  have e2:=congrArg (fun x=>x.testBit j) h2
  simp only [Nat.testBit_and,Nat.zero_testBit] at e1 e2
  unfold roundB tb
  revert e1 e2
  cases a.testBit j<;>cases n.testBit j<;>cases h.testBit j<;>simp
 ·intro hj
  have hb:∀ x:Nat,x<256→∀ i,8≤i→x.testBit i=false:=fun x hx i hi=>Nat.testBit_lt_two_pow (Nat.lt_of_lt_of_le hx (show 2 ^ 8≤2 ^ i from Nat.pow_le_pow_right (by omega) hi))
  constructor
  ·apply Nat.eq_of_testBit_eq
   intro i
   rw [Nat.testBit_and]
   by_cases hi:i<8
   ·have:=hj i hi
    unfold roundB tb at this
    revert this
    cases a.testBit i<;>cases n.testBit i<;>cases h.testBit i<;>simp
   ·simp [hb a ha i (by omega)]
  ·apply Nat.eq_of_testBit_eq
   intro i
   rw [Nat.testBit_and,Nat.zero_testBit]
   by_cases hi:i<8
   ·have:=hj i hi
    unfold roundB tb at this
    revert this
    cases a.testBit i<;>cases n.testBit i<;>cases h.testBit i<;>simp
   ·simp [hb n hn i (by omega)]
theorem meets_no {a n h:Nat} (ha:a<256) (hn:n<256) {k:Nat} (hk:k<8) (e:roundB (tb a k) (tb n k) (tb h k)=false):meetsB a n h=false:=by
 cases hm:meetsB a n h with
 | false=>rfl
 | true=>rw [(meets_iff ha hn).1 hm k hk] at e;cases e
theorem meets_yes {a n h:Nat} (ha:a<256) (hn:n<256) (e:meetsTo a n h 8=true):meetsB a n h=true:=
 (meets_iff ha hn).2 ((meetsTo_iff a n h 8).1 e)
def ptr (g:Nat):Value:=.pointer (some ⟨g,0,none⟩)
def MeetsFr (a n h H:Nat) (u5 u6 u7 u9 u10 u11 u12 u13 u14 u15 u16:Value):Act:=
 { tmps:=#[.agg #[.int .i64 (a:Int),.int .i64 (n:Int)],.int .i64 (h:Int),.pointer (some ⟨H,0,none⟩),undef,.bool false,u5,u6,u7,undef,u9,u10,u11,u12,u13,u14,u15,u16,undef,undef,undef,undef,undef,undef,undef,undef,undef,undef,undef,undef,undef,undef,undef,undef,undef,undef,undef,undef,undef,undef,undef],defers:=[] }
def MeetsI (w:World) (a n h:Nat) (L:Array Bool) (act:Act) (w':World):Prop:=
 ∃ (l0 l1 l2 l3 l4 l5 l6 l7 l8 l9 l10 l11 l12 l13:Bool) (g5 g6 g7:Nat) (u5 u6 u7 u9 u10 u11 u12 u13 u14 u15 u16:Value),
  L=#[l0,l1,l2,l3,l4,l5,l6,l7,l8,l9,l10,l11,l12,l13]∧act=MeetsFr a n h w.heap.size u5 u6 u7 u9 u10 u11 u12 u13 u14 u15 u16 ∧
  Below w.heap.size w w'∧w.heap.size<w'.heap.size∧Blk w' w.heap.size 26 #[.int .i64 (a:Int),.int .i64 (n:Int)] ∧
  (l0=true→u9=ptr w.heap.size)∧(l1=true→u10=.int .i64 (a:Int))∧(l2=true→u11=bitsV a) ∧
  (l3=true→u12=.pointer (some ⟨w.heap.size,1,none⟩))∧(l4=true→u13=.int .i64 (n:Int))∧(l5=true→u14=bitsV n) ∧
  (l6=true→u15=.int .i64 (h:Int))∧(l7=true→u16=bitsV h) ∧
  (l8=true→u5=ptr g5∧w.heap.size<g5∧Blk w' g5 174 (if l11 then arr8 (tb a) else arr8 fun _=>false)) ∧
  (l9=true→u6=ptr g6∧w.heap.size<g6∧Blk w' g6 174 (if l12 then arr8 (tb n) else arr8 fun _=>false)) ∧
  (l10=true→u7=ptr g7∧w.heap.size<g7∧Blk w' g7 174 (if l13 then arr8 (tb h) else arr8 fun _=>false)) ∧
  (l8=true→l9=true→g5≠g6)∧(l8=true→l10=true→g5≠g7)∧(l9=true→l10=true→g6≠g7) ∧
  (l11=true→l8=true)∧(l12=true→l9=true)∧(l13=true→l10=true)
def set8 (w:World) (g:Nat) (b:Nat→Bool):World:=
 (((((((w.setCell ⟨g,0,none⟩ (.bool (b 0))).setCell ⟨g,1,none⟩ (.bool (b 1))).setCell ⟨g,2,none⟩ (.bool (b 2))).setCell ⟨g,3,none⟩ (.bool (b 3))).setCell ⟨g,4,none⟩ (.bool (b 4))).setCell ⟨g,5,none⟩ (.bool (b 5))).setCell ⟨g,6,none⟩ (.bool (b 6))).setCell ⟨g,7,none⟩ (.bool (b 7))
theorem arr8_set (f b:Nat→Bool):((((((((arr8 f).setIfInBounds 0 (.bool (b 0))).setIfInBounds 1 (.bool (b 1))).setIfInBounds 2 (.bool (b 2))).setIfInBounds 3 (.bool (b 3))).setIfInBounds 4 (.bool (b 4))).setIfInBounds 5 (.bool (b 5))).setIfInBounds 6 (.bool (b 6))).setIfInBounds 7 (.bool (b 7))=arr8 b:=by
 simp [arr8]
theorem Blk.set8_ {w:World} {g:Nat} {t:TypeId} {f:Nat→Bool} (h:Blk w g t (arr8 f)) (b:Nat→Bool):Blk (set8 w g b) g t (arr8 b):=by
 have h1:=(((((((h.set_ 0 (.bool (b 0))).set_ 1 (.bool (b 1))).set_ 2 (.bool (b 2))).set_ 3 (.bool (b 3))).set_ 4 (.bool (b 4))).set_ 5 (.bool (b 5))).set_ 6 (.bool (b 6))).set_ 7 (.bool (b 7))
 rw [arr8_set] at h1
 exact h1
theorem Blk.far8 {w:World} {g g':Nat} {t:TypeId} {cs:Array Value} (h:Blk w g t cs) (hne:g≠g') (b:Nat→Bool):Blk (set8 w g' b) g t cs:=
 (((((((h.far (p:=⟨g',0,none⟩) hne _).far (p:=⟨g',1,none⟩) hne _).far (p:=⟨g',2,none⟩) hne _).far (p:=⟨g',3,none⟩) hne _).far (p:=⟨g',4,none⟩) hne _).far (p:=⟨g',5,none⟩) hne _).far (p:=⟨g',6,none⟩) hne _).far (p:=⟨g',7,none⟩) hne _
theorem below_set8 {B:Nat} {a w:World} (h:Below B a w) {g:Nat} (hg:B≤g) (b:Nat→Bool):Below B a (set8 w g b):=
 (((((((h.setCell (p:=⟨g,0,none⟩) hg _).setCell (p:=⟨g,1,none⟩) hg _).setCell (p:=⟨g,2,none⟩) hg _).setCell (p:=⟨g,3,none⟩) hg _).setCell (p:=⟨g,4,none⟩) hg _).setCell (p:=⟨g,5,none⟩) hg _).setCell (p:=⟨g,6,none⟩) hg _).setCell (p:=⟨g,7,none⟩) hg _
theorem size_set8 (w:World) (g:Nat) (b:Nat→Bool):(set8 w g b).heap.size=w.heap.size:=by simp [set8]
theorem rmeets_any (a n h:Nat) (ha:a<256) (hn:n<256) (hh:h<256) (w:World) :
  Calls Tryz.prog 145 #[.agg #[.int .i64 (a:Int),.int .i64 (n:Int)],.int .i64 (h:Int)] w fun e w'=>e=.returned (.bool (meetsB a n h))∧Below w.heap.size w w':=by
 go_enter Tryz.func145,Tryz.ntmps145
 go_wp2_with fail
 refine wp_region_inv mixed (MeetsI w a n h) ?start ?fin ?step
 case start=>
  have hb:=(Blk.new w 26 #[.int .i64 (a:Int),.int .i64 (n:Int)])
  exact ⟨false,false,false,false,false,false,false,false,false,false,false,false,false,false,0,0,0,undef,undef,undef,undef,undef,undef,undef,undef,undef,undef,undef,rfl,rfl,
   (((Below.refl _ _).alloc (Nat.le_refl _) _).drew),by simp [World.drew],hb,(fun h=>by cases h),(fun h=>by cases h),(fun h=>by cases h),(fun h=>by cases h),(fun h=>by cases h),(fun h=>by cases h),(fun h=>by cases h),(fun h=>by cases h),(fun h=>by cases h),(fun h=>by cases h),(fun h=>by cases h),(fun h=>by cases h),(fun h=>by cases h),(fun h=>by cases h),(fun h=>by cases h),(fun h=>by cases h),(fun h=>by cases h)⟩
 case step=>
  rintro L act w' i ⟨l0,l1,l2,l3,l4,l5,l6,l7,l8,l9,l10,l11,l12,l13,g5,g6,g7,u5,u6,u7,u9,u10,u11,u12,u13,u14,u15,u16,rfl,rfl,hbel,hlt,hbox,h0,h1,h2,h3,h4,h5,h6,h7,h8,h9,h10,h56,h57,h67,k8,k9,k10⟩ hi hf hd
  have hi':i<14:=hi
  have z8:Tryz.prog.underlying 174=Tryz.prog.underlying 174:=rfl
  clear hi z8
  match i,hi' with
  | 0,_=>
   obtain rfl:l0=false:=by simpa using hf
   clear hf hd
   refine wpOp_of rfl rfl (fun K hK=>?_)
   unfold MeetsFr at hK ⊢
   go_simp
   exact hK _ _ ⟨true,l1,l2,l3,l4,l5,l6,l7,l8,l9,l10,l11,l12,l13,g5,g6,g7,u5,u6,u7,(ptr w.heap.size),u10,u11,u12,u13,u14,u15,u16,rfl,rfl,hbel,hlt,hbox,fun _=>rfl,h1,h2,h3,h4,h5,h6,h7,h8,h9,h10,h56,h57,h67,k8,k9,k10⟩
  | 1,_=>
   obtain rfl:l1=false:=by simpa using hf
   simp [Region.binds] at hd
   subst hd
   clear hf
   obtain rfl:=h0 rfl
   refine wpOp_of rfl rfl (fun K hK=>?_)
   unfold MeetsFr at hK ⊢
   have hc:=hbox.cell 0
   simp at hc
   simp only [ptr]
   go_simp
   exact hK _ _ ⟨true,true,l2,l3,l4,l5,l6,l7,l8,l9,l10,l11,l12,l13,g5,g6,g7,u5,u6,u7,(ptr w.heap.size),(.int .i64 (a:Int)),u11,u12,u13,u14,u15,u16,rfl,rfl,hbel,hlt,hbox,fun _=>rfl,fun _=>rfl,h2,h3,h4,h5,h6,h7,h8,h9,h10,h56,h57,h67,k8,k9,k10⟩
  | 2,_=>
   obtain rfl:l2=false:=by simpa using hf
   simp [Region.binds] at hd
   subst hd
   clear hf
   obtain rfl:=h1 rfl
   refine wpOp_of rfl rfl (fun K hK=>?_)
   unfold MeetsFr at hK ⊢
   go_simp
   refine (rbits_any a ha _).mono ?_
   rintro e w1 ⟨rfl,hb1⟩
   simp only
   have hlt1:w'.heap.size≤w1.heap.size:=hb1.size
   exact hK _ _ ⟨l0,true,true,l3,l4,l5,l6,l7,l8,l9,l10,l11,l12,l13,g5,g6,g7,u5,u6,u7,u9,(.int .i64 (a:Int)),(bitsV a),u12,u13,u14,u15,u16,rfl,rfl,(hbel.trans (hb1.mono hbel.size)),(by omega),(hbox.below hb1 hbox.lt),h0,fun _=>rfl,fun _=>rfl,h3,h4,h5,h6,h7,fun q=>⟨(h8 q).1,(h8 q).2.1,(h8 q).2.2.below hb1 (h8 q).2.2.lt⟩,fun q=>⟨(h9 q).1,(h9 q).2.1,(h9 q).2.2.below hb1 (h9 q).2.2.lt⟩,fun q=>⟨(h10 q).1,(h10 q).2.1,(h10 q).2.2.below hb1 (h10 q).2.2.lt⟩,h56,h57,h67,k8,k9,k10⟩
  | 3,_=>
   obtain rfl:l3=false:=by simpa using hf
   clear hf hd
   refine wpOp_of rfl rfl (fun K hK=>?_)
   unfold MeetsFr at hK ⊢
   go_simp
   exact hK _ _ ⟨l0,l1,l2,true,l4,l5,l6,l7,l8,l9,l10,l11,l12,l13,g5,g6,g7,u5,u6,u7,u9,u10,u11,(.pointer (some ⟨w.heap.size,1,none⟩)),u13,u14,u15,u16,rfl,rfl,hbel,hlt,hbox,h0,h1,h2,fun _=>rfl,h4,h5,h6,h7,h8,h9,h10,h56,h57,h67,k8,k9,k10⟩
  | 4,_=>
   obtain rfl:l4=false:=by simpa using hf
   simp [Region.binds] at hd
   subst hd
   clear hf
   obtain rfl:=h3 rfl
   refine wpOp_of rfl rfl (fun K hK=>?_)
   unfold MeetsFr at hK ⊢
   have hc:=hbox.cell 1
   simp at hc
   go_simp
   exact hK _ _ ⟨l0,l1,l2,true,true,l5,l6,l7,l8,l9,l10,l11,l12,l13,g5,g6,g7,u5,u6,u7,u9,u10,u11,(.pointer (some ⟨w.heap.size,1,none⟩)),(.int .i64 (n:Int)),u14,u15,u16,rfl,rfl,hbel,hlt,hbox,h0,h1,h2,fun _=>rfl,fun _=>rfl,h5,h6,h7,h8,h9,h10,h56,h57,h67,k8,k9,k10⟩
  | 5,_=>
   obtain rfl:l5=false:=by simpa using hf
   simp [Region.binds] at hd
   obtain ⟨rfl,rfl⟩:=hd
   clear hf
   obtain rfl:=h4 rfl
   obtain rfl:=h2 rfl
   refine wpOp_of rfl rfl (fun K hK=>?_)
   unfold MeetsFr at hK ⊢
   go_simp
   refine (rbits_any n hn _).mono ?_
   rintro e w1 ⟨rfl,hb1⟩
   simp only
   have hlt1:w'.heap.size≤w1.heap.size:=hb1.size
   exact hK _ _ ⟨l0,l1,true,l3,true,true,l6,l7,l8,l9,l10,l11,l12,l13,g5,g6,g7,u5,u6,u7,u9,u10,(bitsV a),u12,(.int .i64 (n:Int)),(bitsV n),u15,u16,rfl,rfl,(hbel.trans (hb1.mono hbel.size)),(by omega),(hbox.below hb1 hbox.lt),h0,h1,fun _=>rfl,h3,fun _=>rfl,fun _=>rfl,h6,h7,fun q=>⟨(h8 q).1,(h8 q).2.1,(h8 q).2.2.below hb1 (h8 q).2.2.lt⟩,fun q=>⟨(h9 q).1,(h9 q).2.1,(h9 q).2.2.below hb1 (h9 q).2.2.lt⟩,fun q=>⟨(h10 q).1,(h10 q).2.1,(h10 q).2.2.below hb1 (h10 q).2.2.lt⟩,h56,h57,h67,k8,k9,k10⟩
  | 6,_=>
   obtain rfl:l6=false:=by simpa using hf
   clear hf hd
   refine wpOp_of rfl rfl (fun K hK=>?_)
   unfold MeetsFr at hK ⊢
   go_simp
   exact hK _ _ ⟨l0,l1,l2,l3,l4,l5,true,l7,l8,l9,l10,l11,l12,l13,g5,g6,g7,u5,u6,u7,u9,u10,u11,u12,u13,u14,(.int .i64 (h:Int)),u16,rfl,rfl,hbel,hlt,hbox,h0,h1,h2,h3,h4,h5,fun _=>rfl,h7,h8,h9,h10,h56,h57,h67,k8,k9,k10⟩
  | 7,_=>
   obtain rfl:l7=false:=by simpa using hf
   simp [Region.binds] at hd
   obtain ⟨rfl,rfl⟩:=hd
   clear hf
   obtain rfl:=h6 rfl
   obtain rfl:=h5 rfl
   refine wpOp_of rfl rfl (fun K hK=>?_)
   unfold MeetsFr at hK ⊢
   go_simp
   refine (rbits_any h hh _).mono ?_
   rintro e w1 ⟨rfl,hb1⟩
   simp only
   have hlt1:w'.heap.size≤w1.heap.size:=hb1.size
   exact hK _ _ ⟨l0,l1,l2,l3,l4,true,true,true,l8,l9,l10,l11,l12,l13,g5,g6,g7,u5,u6,u7,u9,u10,u11,u12,u13,(bitsV n),(.int .i64 (h:Int)),(bitsV h),rfl,rfl,(hbel.trans (hb1.mono hbel.size)),(by omega),(hbox.below hb1 hbox.lt),h0,h1,h2,h3,h4,fun _=>rfl,fun _=>rfl,fun _=>rfl,fun q=>⟨(h8 q).1,(h8 q).2.1,(h8 q).2.2.below hb1 (h8 q).2.2.lt⟩,fun q=>⟨(h9 q).1,(h9 q).2.1,(h9 q).2.2.below hb1 (h9 q).2.2.lt⟩,fun q=>⟨(h10 q).1,(h10 q).2.1,(h10 q).2.2.below hb1 (h10 q).2.2.lt⟩,h56,h57,h67,k8,k9,k10⟩
  | 8,_=>
   obtain rfl:l8=false:=by simpa using hf
   clear hf hd
   refine wpOp_of rfl rfl (fun K hK=>?_)
   unfold MeetsFr at hK ⊢
   have hno:¬ l11=true:=fun q=>by cases k8 q
   go_simp
   exact hK _ _ ⟨l0,l1,l2,l3,l4,l5,l6,l7,true,l9,l10,l11,l12,l13,w'.heap.size,g6,g7,(ptr w'.heap.size),u6,u7,u9,u10,u11,u12,u13,u14,u15,u16,rfl,rfl,(hbel.alloc (by omega) _),(by simp;omega),(hbox.alloc _),h0,h1,h2,h3,h4,h5,h6,h7,fun _=>⟨rfl,hlt,by rw [if_neg hno];exact Blk.new _ _ _⟩,fun q=>⟨(h9 q).1,(h9 q).2.1,(h9 q).2.2.alloc _⟩,fun q=>⟨(h10 q).1,(h10 q).2.1,(h10 q).2.2.alloc _⟩,fun _ q e=>Nat.lt_irrefl _ (e ▸ (h9 q).2.2.lt),fun _ q e=>Nat.lt_irrefl _ (e ▸ (h10 q).2.2.lt),h67,fun _=>rfl,k9,k10⟩
  | 9,_=>
   obtain rfl:l9=false:=by simpa using hf
   clear hf hd
   refine wpOp_of rfl rfl (fun K hK=>?_)
   unfold MeetsFr at hK ⊢
   have hno:¬ l12=true:=fun q=>by cases k9 q
   go_simp
   exact hK _ _ ⟨l0,l1,l2,l3,l4,l5,l6,l7,l8,true,l10,l11,l12,l13,g5,w'.heap.size,g7,u5,(ptr w'.heap.size),u7,u9,u10,u11,u12,u13,u14,u15,u16,rfl,rfl,(hbel.alloc (by omega) _),(by simp;omega),(hbox.alloc _),h0,h1,h2,h3,h4,h5,h6,h7,fun q=>⟨(h8 q).1,(h8 q).2.1,(h8 q).2.2.alloc _⟩,fun _=>⟨rfl,hlt,by rw [if_neg hno];exact Blk.new _ _ _⟩,fun q=>⟨(h10 q).1,(h10 q).2.1,(h10 q).2.2.alloc _⟩,fun q _ e=>Nat.lt_irrefl _ (e ▸ (h8 q).2.2.lt),h57,fun _ q e=>Nat.lt_irrefl _ (e ▸ (h10 q).2.2.lt),k8,fun _=>rfl,k10⟩
  | 10,_=>
   obtain rfl:l10=false:=by simpa using hf
   clear hf hd
   refine wpOp_of rfl rfl (fun K hK=>?_)
   unfold MeetsFr at hK ⊢
   have hno:¬ l13=true:=fun q=>by cases k10 q
   go_simp
   exact hK _ _ ⟨l0,l1,l2,l3,l4,l5,l6,l7,l8,l9,true,l11,l12,l13,g5,g6,w'.heap.size,u5,u6,(ptr w'.heap.size),u9,u10,u11,u12,u13,u14,u15,u16,rfl,rfl,(hbel.alloc (by omega) _),(by simp;omega),(hbox.alloc _),h0,h1,h2,h3,h4,h5,h6,h7,fun q=>⟨(h8 q).1,(h8 q).2.1,(h8 q).2.2.alloc _⟩,fun q=>⟨(h9 q).1,(h9 q).2.1,(h9 q).2.2.alloc _⟩,fun _=>⟨rfl,hlt,by rw [if_neg hno];exact Blk.new _ _ _⟩,h56,fun q _ e=>Nat.lt_irrefl _ (e ▸ (h8 q).2.2.lt),fun q _ e=>Nat.lt_irrefl _ (e ▸ (h9 q).2.2.lt),k8,k9,fun _=>rfl⟩
  | 11,_=>
   obtain rfl:l11=false:=by simpa using hf
   have e:l8=true∧l2=true:=by
    clear h0 h1 h2 h3 h4 h5 h6 h7 h8 h9 h10 h56 h57 h67 k8 k9 k10
    revert hd
    cases l8<;>cases l2<;>simp [Region.binds]
   obtain ⟨rfl,rfl⟩:=e
   clear hf hd
   obtain ⟨rfl,hg,hB⟩:=h8 rfl
   obtain rfl:=h2 rfl
   refine wpOp_of rfl rfl (fun K hK=>?_)
   unfold MeetsFr at hK ⊢
   rw [if_neg (by simp)] at hB
   have rr:∀ j,j<8→w'.cell? ⟨g5,j,none⟩=some (.bool false):=fun j hj=>by rw [hB.cell j,arr8_get _ hj]
   have r0:=rr 0 (by omega);have f0:=hB.frozen 0
   have r1:=rr 1 (by omega);have f1:=hB.frozen 1
   have r2:=rr 2 (by omega);have f2:=hB.frozen 2
   have r3:=rr 3 (by omega);have f3:=hB.frozen 3
   have r4:=rr 4 (by omega);have f4:=hB.frozen 4
   have r5:=rr 5 (by omega);have f5:=hB.frozen 5
   have r6:=rr 6 (by omega);have f6:=hB.frozen 6
   have r7:=rr 7 (by omega);have f7:=hB.frozen 7
   simp only [ptr,bitsV]
   go_simp
   exact hK _ (set8 w' g5 (tb a)) ⟨l0,l1,true,l3,l4,l5,l6,l7,true,l9,l10,true,l12,l13,g5,g6,g7,(ptr g5),u6,u7,u9,u10,(bitsV a),u12,u13,u14,u15,u16,rfl,rfl,(below_set8 hbel (by omega) _),(by rw [size_set8];omega),(hbox.far8 (by omega) _),h0,h1,fun _=>rfl,h3,h4,h5,h6,h7,fun _=>⟨rfl,hg,by rw [if_pos rfl];exact hB.set8_ _⟩,fun q=>⟨(h9 q).1,(h9 q).2.1,(h9 q).2.2.far8 (fun e=>h56 rfl q e.symm) _⟩,fun q=>⟨(h10 q).1,(h10 q).2.1,(h10 q).2.2.far8 (fun e=>h57 rfl q e.symm) _⟩,h56,h57,h67,fun _=>rfl,k9,k10⟩
  | 12,_=>
   obtain rfl:l12=false:=by simpa using hf
   have e:l9=true∧l5=true:=by
    clear h0 h1 h2 h3 h4 h5 h6 h7 h8 h9 h10 h56 h57 h67 k8 k9 k10
    revert hd
    cases l9<;>cases l5<;>simp [Region.binds]
   obtain ⟨rfl,rfl⟩:=e
   clear hf hd
   obtain ⟨rfl,hg,hB⟩:=h9 rfl
   obtain rfl:=h5 rfl
   refine wpOp_of rfl rfl (fun K hK=>?_)
   unfold MeetsFr at hK ⊢
   rw [if_neg (by simp)] at hB
   have rr:∀ j,j<8→w'.cell? ⟨g6,j,none⟩=some (.bool false):=fun j hj=>by rw [hB.cell j,arr8_get _ hj]
   have r0:=rr 0 (by omega);have f0:=hB.frozen 0
   have r1:=rr 1 (by omega);have f1:=hB.frozen 1
   have r2:=rr 2 (by omega);have f2:=hB.frozen 2
   have r3:=rr 3 (by omega);have f3:=hB.frozen 3
   have r4:=rr 4 (by omega);have f4:=hB.frozen 4
   have r5:=rr 5 (by omega);have f5:=hB.frozen 5
   have r6:=rr 6 (by omega);have f6:=hB.frozen 6
   have r7:=rr 7 (by omega);have f7:=hB.frozen 7
   simp only [ptr,bitsV]
   go_simp
   exact hK _ (set8 w' g6 (tb n)) ⟨l0,l1,l2,l3,l4,true,l6,l7,l8,true,l10,l11,true,l13,g5,g6,g7,u5,(ptr g6),u7,u9,u10,u11,u12,u13,(bitsV n),u15,u16,rfl,rfl,(below_set8 hbel (by omega) _),(by rw [size_set8];omega),(hbox.far8 (by omega) _),h0,h1,h2,h3,h4,fun _=>rfl,h6,h7,fun q=>⟨(h8 q).1,(h8 q).2.1,(h8 q).2.2.far8 (h56 q rfl) _⟩,fun _=>⟨rfl,hg,by rw [if_pos rfl];exact hB.set8_ _⟩,fun q=>⟨(h10 q).1,(h10 q).2.1,(h10 q).2.2.far8 (fun e=>h67 rfl q e.symm) _⟩,h56,h57,h67,k8,fun _=>rfl,k10⟩
  | 13,_=>
   obtain rfl:l13=false:=by simpa using hf
   have e:l10=true∧l7=true:=by
    clear h0 h1 h2 h3 h4 h5 h6 h7 h8 h9 h10 h56 h57 h67 k8 k9 k10
    revert hd
    cases l10<;>cases l7<;>simp [Region.binds]
   obtain ⟨rfl,rfl⟩:=e
   clear hf hd
   obtain ⟨rfl,hg,hB⟩:=h10 rfl
   obtain rfl:=h7 rfl
   refine wpOp_of rfl rfl (fun K hK=>?_)
   unfold MeetsFr at hK ⊢
   rw [if_neg (by simp)] at hB
   have rr:∀ j,j<8→w'.cell? ⟨g7,j,none⟩=some (.bool false):=fun j hj=>by rw [hB.cell j,arr8_get _ hj]
   have r0:=rr 0 (by omega);have f0:=hB.frozen 0
   have r1:=rr 1 (by omega);have f1:=hB.frozen 1
   have r2:=rr 2 (by omega);have f2:=hB.frozen 2
   have r3:=rr 3 (by omega);have f3:=hB.frozen 3
   have r4:=rr 4 (by omega);have f4:=hB.frozen 4
   have r5:=rr 5 (by omega);have f5:=hB.frozen 5
   have r6:=rr 6 (by omega);have f6:=hB.frozen 6
   have r7:=rr 7 (by omega);have f7:=hB.frozen 7
   simp only [ptr,bitsV]
   go_simp
   exact hK _ (set8 w' g7 (tb h)) ⟨l0,l1,l2,l3,l4,l5,l6,true,l8,l9,true,l11,l12,true,g5,g6,g7,u5,u6,(ptr g7),u9,u10,u11,u12,u13,u14,u15,(bitsV h),rfl,rfl,(below_set8 hbel (by omega) _),(by rw [size_set8];omega),(hbox.far8 (by omega) _),h0,h1,h2,h3,h4,h5,h6,fun _=>rfl,fun q=>⟨(h8 q).1,(h8 q).2.1,(h8 q).2.2.far8 (h57 q rfl) _⟩,fun q=>⟨(h9 q).1,(h9 q).2.1,(h9 q).2.2.far8 (h67 q rfl) _⟩,fun _=>⟨rfl,hg,by rw [if_pos rfl];exact hB.set8_ _⟩,h56,h57,h67,k8,k9,fun _=>rfl⟩
 case fin=>
  rintro L act w' ⟨l0,l1,l2,l3,l4,l5,l6,l7,l8,l9,l10,l11,l12,l13,g5,g6,g7,u5,u6,u7,u9,u10,u11,u12,u13,u14,u15,u16,rfl,rfl,hbel,hlt,hbox,h0,h1,h2,h3,h4,h5,h6,h7,h8,h9,h10,h56,h57,h67,k8,k9,k10⟩ hr
  clear h0 h1 h2 h3 h4 h5 h6 h7 k8 k9 k10 hbox
  obtain rfl:l0=true:=by simpa using ready_out hr 0 (by decide) (by simp [Region.binds])
  obtain rfl:l3=true:=by simpa using ready_out hr 3 (by decide) (by simp [Region.binds])
  obtain rfl:l6=true:=by simpa using ready_out hr 6 (by decide) (by simp [Region.binds])
  obtain rfl:l8=true:=by simpa using ready_out hr 8 (by decide) (by simp [Region.binds])
  obtain rfl:l9=true:=by simpa using ready_out hr 9 (by decide) (by simp [Region.binds])
  obtain rfl:l10=true:=by simpa using ready_out hr 10 (by decide) (by simp [Region.binds])
  obtain rfl:l1=true:=by simpa using ready_out hr 1 (by decide) (by simp [Region.binds])
  obtain rfl:l4=true:=by simpa using ready_out hr 4 (by decide) (by simp [Region.binds])
  obtain rfl:l2=true:=by simpa using ready_out hr 2 (by decide) (by simp [Region.binds])
  obtain rfl:l5=true:=by simpa using ready_out hr 5 (by decide) (by simp [Region.binds])
  obtain rfl:l7=true:=by simpa using ready_out hr 7 (by decide) (by simp [Region.binds])
  obtain rfl:l11=true:=by simpa using ready_out hr 11 (by decide) (by simp [Region.binds])
  obtain rfl:l12=true:=by simpa using ready_out hr 12 (by decide) (by simp [Region.binds])
  obtain rfl:l13=true:=by simpa using ready_out hr 13 (by decide) (by simp [Region.binds])
  obtain ⟨rfl,hg5,hB5⟩:=h8 rfl
  obtain ⟨rfl,hg6,hB6⟩:=h9 rfl
  obtain ⟨rfl,hg7,hB7⟩:=h10 rfl
  rw [if_pos rfl] at hB5 hB6 hB7
  have n56:=h56 rfl rfl;have n57:=h57 rfl rfl;have n67:=h67 rfl rfl
  clear h8 h9 h10 h56 h57 h67 hr
  unfold MeetsFr ptr
  go_wp2_with fail
  go_loop [17] (fun i=>∃ k:Nat,k≤8∧i=.int .i64 k∧Hid (meetsTo a n h k=true)) (fun i=>8-(intOf i).toNat)
  case atStart=>exact ⟨0,by omega,rfl,Lib.hid rfl⟩
  case round=>
   obtain ⟨k,hk,rfl,hm⟩:=hrel
   by_cases hlt:k<8
   ·have c5:w'.cell? ⟨g5,k,none⟩=some (.bool (tb a k)):=by rw [hB5.cell k,arr8_get _ hlt]
    have c6:w'.cell? ⟨g6,k,none⟩=some (.bool (tb n k)):=by rw [hB6.cell k,arr8_get _ hlt]
    have c7:w'.cell? ⟨g7,k,none⟩=some (.bool (tb h k)):=by rw [hB7.cell k,arr8_get _ hlt]
    have hst:=Lib.hid (meetsTo_succ a n h k)
    have hno:=Lib.hid (meets_no (h:=h) ha hn hlt)
    have hz8:(#[Value.bool false,.bool false,.bool false,.bool false,.bool false,.bool false,.bool false,.bool false]:Array Value).size=8:=rfl
    clear hB5 hB6 hB7 hz8
    cases ta:tb a k<;>cases tn:tb n k<;>cases th:tb h k
    all_goals rw [ta] at c5;rw [tn] at c6;rw [th] at c7
    all_goals (have ta':=Lib.hid ta;clear ta;have tn':=Lib.hid tn;clear tn;have th':=Lib.hid th;clear th)
    all_goals go_wp2_with fail
    all_goals first
     | (go_ret;exact ⟨ret_bool (by rw [hno.out (by rw [ta'.out,tn'.out,th'.out];rfl)]),hbel⟩)
     | (go_round;(case rel=>exact ⟨k+1,by omega,by go_num,Lib.hid (by rw [hst.out,hm.out,ta'.out,tn'.out,th'.out];rfl)⟩);(case measure=>simp [intOf];omega))
   ·obtain rfl:k=8:=by omega
    go_wp2_with fail
    go_ret
    exact ⟨ret_bool (meets_yes ha hn hm.out).symm,hbel⟩
end Go.Proofs.YtefdblaolmckmabGreat
