/- Two calls, each result into a variable of its own: 'x, y := f(s), f(t)', in whatever order the variables are made. -/
import Derived.Test.YtefdblaolmckmaaRuleC
namespace Go.Proofs.Ytefdblaolmckmaa
open Go.RowKit
open Brood
set_option linter.unusedVariables false
set_option linter.unusedSimpArgs false

def putIf (l : Bool) (d : Tmp) (v : Value) (a : Act) : Act := if l then a.put (some d) v else a
theorem putIf_false (d : Tmp) (v : Value) (a : Act) : putIf false d v a = a := rfl
theorem putIf_true (d : Tmp) (v : Value) (a : Act) : putIf true d v a = a.put (some d) v := rfl
theorem put_putIf {d x : Tmp} (h : d ≠ x) (l : Bool) (v u : Value) (a : Act) : (putIf l d v a).put (some x) u = putIf l d v (a.put (some x) u) := by
  cases l
  · rfl
  · show (a.put (some d) v).put (some x) u = (a.put (some x) u).put (some d) v
    exact Act.put_comm a (x := some d) (y := some x) v u (fun e he hx => by cases he; cases hx; exact h rfl)
theorem putIf_size (l : Bool) (d : Tmp) (v : Value) (a : Act) : (putIf l d v a).tmps.size = a.tmps.size := by
  cases l <;> simp [putIf, Act.put]
theorem eval_putIf_ne {d x : Tmp} (h : d ≠ x) (l : Bool) (v : Value) (a : Act) : (putIf l d v a).eval (.tmp x) = a.eval (.tmp x) := by
  cases l
  · rfl
  · show (a.put (some d) v).eval (.tmp x) = a.eval (.tmp x)
    exact Act.eval_put (dst := some d) (x := .tmp x) (fun e he hx => by cases he; cases hx; exact h rfl)
theorem eval_put_same {d : Tmp} {v : Value} {a : Act} (h : d < a.tmps.size) : (a.put (some d) v).eval (.tmp d) = v := by
  simp [Act.eval, Act.put, h]

/-- The frame when some of the six values have come. -/
def TwoFr (a : Act) (d1 d2 d3 d4 p5 p6 : Tmp) (v2 r1 v3 r2 : Value) (l0 l1 l2 l3 l4 l5 : Bool) (u5 u6 : Value) : Act :=
  putIf l5 p6 u6 (putIf l4 p5 u5 (putIf l3 d4 r2 (putIf l2 d3 v3 (putIf l1 d2 r1 (putIf l0 d1 v2 a)))))

def TwoI (w : World) (a : Act) (d1 d2 d3 d4 p5 p6 : Tmp) (v2 r1 v3 r2 : Value) (xs ys : Array Value) (L : Array Bool) (act : Act) (w' : World) : Prop :=
  ∃ (l0 l1 l2 l3 l4 l5 l6 l7 : Bool) (g g' : Nat), L = #[l0, l1, l2, l3, l4, l5, l6, l7] ∧
    act = TwoFr a d1 d2 d3 d4 p5 p6 v2 r1 v3 r2 l0 l1 l2 l3 l4 l5 (.pointer (some ⟨g, 0, none⟩)) (.pointer (some ⟨g', 0, none⟩)) ∧
    Below w.heap.size w w' ∧
    (l4 = true → w.heap.size ≤ g ∧ Blk w' g 46 (if l6 then xs else #[.int .i64 0, .int .i64 0, .bool false, .bool false])) ∧
    (l5 = true → w.heap.size ≤ g' ∧ Blk w' g' 46 (if l7 then ys else #[.int .i64 0, .int .i64 0, .bool false, .bool false])) ∧
    (l4 = true → l5 = true → g ≠ g') ∧ (l6 = true → l4 = true) ∧ (l7 = true → l5 = true)

section
variable (d1 d2 d3 d4 p5 p6 s2 s3 : Tmp) (f : FuncId) (q1 q2 q3 q4 q5 q6 q7 q8 : String) (D1 D2 : Departure)
def twoOps : Array Oper :=
  #[{ dst := some d1, op := Op.load 38 (Operand.tmp s2), type := 38, pos := q1, after := #[], guard := none },
    { dst := some d2, op := Op.call { callee := Callee.value (Operand.func f), args := #[Operand.tmp d1], argTypes := #[38] }, type := 46, pos := q2, after := #[{ on := 0, ground := Ground.data }], guard := none },
    { dst := some d3, op := Op.load 38 (Operand.tmp s3), type := 38, pos := q3, after := #[], guard := none },
    { dst := some d4, op := Op.call { callee := Callee.value (Operand.func f), args := #[Operand.tmp d3], argTypes := #[38] }, type := 46, pos := q4, after := #[{ on := 2, ground := Ground.data }, { on := 1, ground := Ground.chain }], guard := none },
    { dst := some p5, op := Op.alloc 46, type := 0, pos := q5, after := #[], guard := none },
    { dst := some p6, op := Op.alloc 46, type := 0, pos := q6, after := #[], guard := none },
    { dst := none, op := Op.store 46 (Operand.tmp p5) (Operand.tmp d2), type := 0, pos := q7, after := #[{ on := 4, ground := Ground.data }, { on := 1, ground := Ground.data }, { on := 3, ground := Ground.chain }, { on := 0, ground := Ground.phase }, { on := 1, ground := Ground.phase }, { on := 2, ground := Ground.textOnly D1 }, { on := 3, ground := Ground.textOnly D2 }, { on := 4, ground := Ground.phase }, { on := 5, ground := Ground.phase }], guard := none },
    { dst := none, op := Op.store 46 (Operand.tmp p6) (Operand.tmp d4), type := 0, pos := q8, after := #[{ on := 5, ground := Ground.data }, { on := 3, ground := Ground.data }, { on := 6, ground := Ground.chain }, { on := 0, ground := Ground.phase }, { on := 1, ground := Ground.phase }, { on := 2, ground := Ground.phase }, { on := 3, ground := Ground.phase }, { on := 4, ground := Ground.phase }, { on := 5, ground := Ground.phase }, { on := 6, ground := Ground.phase }], guard := none }]
end

set_option maxRecDepth 20000 in
set_option maxHeartbeats 1600000 in
theorem two_calls (d1 d2 d3 d4 p5 p6 s2 s3 : Tmp) (f : FuncId) (q1 q2 q3 q4 q5 q6 q7 q8 : String) (D1 D2 : Departure) {id : Nat} {Q : Exit → Act → World → Prop} {a : Act} {w : World}
    (c0 c1 c2 : Int) (c3 : Value) (e0 e1 e2 : Int) (e3 : Value) (x0 x1 : Int) (x2 x3 : Bool) (y0 y1 : Int) (y2 y3 : Bool) (b2 b3 : Nat)
    (hcf : ∀ (v : Value) (W : World), (callFunc f #[v]).run Try.prog W = .ok (.enter f #[v]) W)
    (hsl : [d1, d2, d3, d4, p5, p6, s2, s3].Nodup) (hsz : ∀ d ∈ [d1, d2, d3, d4, p5, p6, s2, s3], d < a.tmps.size)
    (h2 : a.eval (.tmp s2) = .pointer (some ⟨b2, 0, none⟩)) (h3 : a.eval (.tmp s3) = .pointer (some ⟨b3, 0, none⟩))
    (hb2 : Blk w b2 38 #[.int .i64 c0, .int .i64 c1, .int .i64 c2, c3]) (hb3 : Blk w b3 38 #[.int .i64 e0, .int .i64 e1, .int .i64 e2, e3])
    (hf2 : ∀ W, Below w.heap.size w W → Calls Try.prog f #[.agg #[.int .i64 c0, .int .i64 c1, .int .i64 c2, c3]] W fun e W' => e = .returned (.agg #[.int .i64 x0, .int .i64 x1, .bool x2, .bool x3]) ∧ Below W.heap.size W W')
    (hf3 : ∀ W, Below w.heap.size w W → Calls Try.prog f #[.agg #[.int .i64 e0, .int .i64 e1, .int .i64 e2, e3]] W fun e W' => e = .returned (.agg #[.int .i64 y0, .int .i64 y1, .bool y2, .bool y3]) ∧ Below W.heap.size W W')
    (hQ : ∀ (g g' : Nat) (W : World), Below w.heap.size w W → Blk W g 46 #[.int .i64 x0, .int .i64 x1, .bool x2, .bool x3] → Blk W g' 46 #[.int .i64 y0, .int .i64 y1, .bool y2, .bool y3] →
      Q .normal ((((((a.put (some d1) (.agg #[.int .i64 c0, .int .i64 c1, .int .i64 c2, c3])).put (some d2) (.agg #[.int .i64 x0, .int .i64 x1, .bool x2, .bool x3])).put (some d3) (.agg #[.int .i64 e0, .int .i64 e1, .int .i64 e2, e3])).put (some d4) (.agg #[.int .i64 y0, .int .i64 y1, .bool y2, .bool y3])).put (some p5) (.pointer (some ⟨g, 0, none⟩))).put (some p6) (.pointer (some ⟨g', 0, none⟩))) W) :
    (Code.region id (twoOps d1 d2 d3 d4 p5 p6 s2 s3 f q1 q2 q3 q4 q5 q6 q7 q8 D1 D2) true).wp Try.prog Q a w := by
  simp only [List.nodup_cons, List.mem_cons, List.not_mem_nil, or_false, not_or, List.nodup_nil, and_true, not_false_eq_true] at hsl
  obtain ⟨⟨n12, n13, n14, n15, n16, n1s, n1t⟩, ⟨n23, n24, n25, n26, n2s, n2t⟩, ⟨n34, n35, n36, n3s, n3t⟩, ⟨n45, n46, n4s, n4t⟩, ⟨n56, n5s, n5t⟩, ⟨n6s, n6t⟩, nst⟩ := hsl
  have z1 := hsz d1 (by simp); have z2 := hsz d2 (by simp); have z3 := hsz d3 (by simp); have z4 := hsz d4 (by simp); have z5 := hsz p5 (by simp); have z6 := hsz p6 (by simp)
  clear hsz
  refine wp_region_inv mixed (TwoI w a d1 d2 d3 d4 p5 p6 (.agg #[.int .i64 c0, .int .i64 c1, .int .i64 c2, c3]) (.agg #[.int .i64 x0, .int .i64 x1, .bool x2, .bool x3]) (.agg #[.int .i64 e0, .int .i64 e1, .int .i64 e2, e3]) (.agg #[.int .i64 y0, .int .i64 y1, .bool y2, .bool y3]) #[.int .i64 x0, .int .i64 x1, .bool x2, .bool x3] #[.int .i64 y0, .int .i64 y1, .bool y2, .bool y3]) ?start ?fin ?step
  case start =>
    exact ⟨false, false, false, false, false, false, false, false, 0, 0, rfl, rfl, (Below.refl _ _).drew, (fun h => by cases h), (fun h => by cases h), (fun h => by cases h), (fun h => by cases h), (fun h => by cases h)⟩
  case step =>
    rintro L act w' i ⟨l0, l1, l2, l3, l4, l5, l6, l7, g, g', rfl, rfl, hbel, k4, k5, k45, k6, k7⟩ hi hf hd
    have hi' : i < 8 := hi
    clear hi
    match i, hi' with
    | 0, _ =>
      obtain rfl : l0 = false := by simpa using hf
      refine wpOp_of (o := { dst := some d1, op := Op.load 38 (Operand.tmp s2), type := 38, pos := q1, after := #[], guard := none }) rfl rfl (fun K hK => ?_)
      have ev : (TwoFr a d1 d2 d3 d4 p5 p6 (.agg #[.int .i64 c0, .int .i64 c1, .int .i64 c2, c3]) (.agg #[.int .i64 x0, .int .i64 x1, .bool x2, .bool x3]) (.agg #[.int .i64 e0, .int .i64 e1, .int .i64 e2, e3]) (.agg #[.int .i64 y0, .int .i64 y1, .bool y2, .bool y3]) false l1 l2 l3 l4 l5 (.pointer (some ⟨g, 0, none⟩)) (.pointer (some ⟨g', 0, none⟩))).eval (.tmp s2) = .pointer (some ⟨b2, 0, none⟩) := by
        unfold TwoFr
        rw [eval_putIf_ne n6s, eval_putIf_ne n5s, eval_putIf_ne n4s, eval_putIf_ne n3s, eval_putIf_ne n2s, eval_putIf_ne n1s, h2]
      have HB := hb2.below hbel hb2.lt
      have r0 := HB.cell 0; have r1 := HB.cell 1; have r2 := HB.cell 2; have r3 := HB.cell 3
      simp at r0 r1 r2 r3
      have pf : (TwoFr a d1 d2 d3 d4 p5 p6 (.agg #[.int .i64 c0, .int .i64 c1, .int .i64 c2, c3]) (.agg #[.int .i64 x0, .int .i64 x1, .bool x2, .bool x3]) (.agg #[.int .i64 e0, .int .i64 e1, .int .i64 e2, e3]) (.agg #[.int .i64 y0, .int .i64 y1, .bool y2, .bool y3]) false l1 l2 l3 l4 l5 (.pointer (some ⟨g, 0, none⟩)) (.pointer (some ⟨g', 0, none⟩))).put (some d1) (.agg #[.int .i64 c0, .int .i64 c1, .int .i64 c2, c3]) = TwoFr a d1 d2 d3 d4 p5 p6 (.agg #[.int .i64 c0, .int .i64 c1, .int .i64 c2, c3]) (.agg #[.int .i64 x0, .int .i64 x1, .bool x2, .bool x3]) (.agg #[.int .i64 e0, .int .i64 e1, .int .i64 e2, e3]) (.agg #[.int .i64 y0, .int .i64 y1, .bool y2, .bool y3]) true l1 l2 l3 l4 l5 (.pointer (some ⟨g, 0, none⟩)) (.pointer (some ⟨g', 0, none⟩)) := by
        unfold TwoFr
        rw [put_putIf (Ne.symm n16), put_putIf (Ne.symm n15), put_putIf (Ne.symm n14), put_putIf (Ne.symm n13), put_putIf (Ne.symm n12), putIf_false]
        simp only [putIf_true]
      generalize TwoFr a d1 d2 d3 d4 p5 p6 (.agg #[.int .i64 c0, .int .i64 c1, .int .i64 c2, c3]) (.agg #[.int .i64 x0, .int .i64 x1, .bool x2, .bool x3]) (.agg #[.int .i64 e0, .int .i64 e1, .int .i64 e2, e3]) (.agg #[.int .i64 y0, .int .i64 y1, .bool y2, .bool y3]) false l1 l2 l3 l4 l5 (.pointer (some ⟨g, 0, none⟩)) (.pointer (some ⟨g', 0, none⟩)) = act at *
      have ev' : act.tmps[s2]?.getD undef = .pointer (some ⟨b2, 0, none⟩) := by have h := ev; simpa [Act.eval, Array.getD_eq_getD_getElem?] using h
      clear ev
      go_simp
      exact hK _ _ ⟨true, l1, l2, l3, l4, l5, l6, l7, g, g', rfl, pf, hbel, k4, k5, k45, k6, k7⟩
    | 1, _ =>
      obtain rfl : l1 = false := by simpa using hf
      have e : l0 = true := by
        clear k4 k5 k45 k6 k7
        revert hd
        cases l0 <;> simp [twoOps, Region.binds]
      obtain rfl := e
      refine wpOp_of (o := { dst := some d2, op := Op.call { callee := Callee.value (Operand.func f), args := #[Operand.tmp d1], argTypes := #[38] }, type := 46, pos := q2, after := #[{ on := 0, ground := Ground.data }], guard := none }) rfl rfl (fun K hK => ?_)
      have ev : (TwoFr a d1 d2 d3 d4 p5 p6 (.agg #[.int .i64 c0, .int .i64 c1, .int .i64 c2, c3]) (.agg #[.int .i64 x0, .int .i64 x1, .bool x2, .bool x3]) (.agg #[.int .i64 e0, .int .i64 e1, .int .i64 e2, e3]) (.agg #[.int .i64 y0, .int .i64 y1, .bool y2, .bool y3]) true false l2 l3 l4 l5 (.pointer (some ⟨g, 0, none⟩)) (.pointer (some ⟨g', 0, none⟩))).eval (.tmp d1) = (.agg #[.int .i64 c0, .int .i64 c1, .int .i64 c2, c3]) := by
        unfold TwoFr
        rw [eval_putIf_ne (Ne.symm n16), eval_putIf_ne (Ne.symm n15), eval_putIf_ne (Ne.symm n14), eval_putIf_ne (Ne.symm n13), eval_putIf_ne (Ne.symm n12), putIf_true, eval_put_same (by simpa [putIf_size] using z1)]
      have pf : (TwoFr a d1 d2 d3 d4 p5 p6 (.agg #[.int .i64 c0, .int .i64 c1, .int .i64 c2, c3]) (.agg #[.int .i64 x0, .int .i64 x1, .bool x2, .bool x3]) (.agg #[.int .i64 e0, .int .i64 e1, .int .i64 e2, e3]) (.agg #[.int .i64 y0, .int .i64 y1, .bool y2, .bool y3]) true false l2 l3 l4 l5 (.pointer (some ⟨g, 0, none⟩)) (.pointer (some ⟨g', 0, none⟩))).put (some d2) (.agg #[.int .i64 x0, .int .i64 x1, .bool x2, .bool x3]) = TwoFr a d1 d2 d3 d4 p5 p6 (.agg #[.int .i64 c0, .int .i64 c1, .int .i64 c2, c3]) (.agg #[.int .i64 x0, .int .i64 x1, .bool x2, .bool x3]) (.agg #[.int .i64 e0, .int .i64 e1, .int .i64 e2, e3]) (.agg #[.int .i64 y0, .int .i64 y1, .bool y2, .bool y3]) true true l2 l3 l4 l5 (.pointer (some ⟨g, 0, none⟩)) (.pointer (some ⟨g', 0, none⟩)) := by
        unfold TwoFr
        rw [put_putIf (Ne.symm n26), put_putIf (Ne.symm n25), put_putIf (Ne.symm n24), put_putIf (Ne.symm n23), putIf_false]
        simp only [putIf_true]
      generalize TwoFr a d1 d2 d3 d4 p5 p6 (.agg #[.int .i64 c0, .int .i64 c1, .int .i64 c2, c3]) (.agg #[.int .i64 x0, .int .i64 x1, .bool x2, .bool x3]) (.agg #[.int .i64 e0, .int .i64 e1, .int .i64 e2, e3]) (.agg #[.int .i64 y0, .int .i64 y1, .bool y2, .bool y3]) true false l2 l3 l4 l5 (.pointer (some ⟨g, 0, none⟩)) (.pointer (some ⟨g', 0, none⟩)) = act at *
      have ev' : act.tmps[d1]?.getD undef = (.agg #[.int .i64 c0, .int .i64 c1, .int .i64 c2, c3]) := by have h := ev; simpa [Act.eval, Array.getD_eq_getD_getElem?] using h
      clear ev
      go_simp
      refine (hf2 _ hbel).mono ?_
      rintro e W1 ⟨rfl, hb1⟩
      exact hK _ _ ⟨true, true, l2, l3, l4, l5, l6, l7, g, g', rfl, pf, (grow_below hbel hb1), (fun h => ⟨(k4 h).1, (k4 h).2.below hb1 (k4 h).2.lt⟩), (fun h => ⟨(k5 h).1, (k5 h).2.below hb1 (k5 h).2.lt⟩), k45, k6, k7⟩
    | 2, _ =>
      obtain rfl : l2 = false := by simpa using hf
      refine wpOp_of (o := { dst := some d3, op := Op.load 38 (Operand.tmp s3), type := 38, pos := q3, after := #[], guard := none }) rfl rfl (fun K hK => ?_)
      have ev : (TwoFr a d1 d2 d3 d4 p5 p6 (.agg #[.int .i64 c0, .int .i64 c1, .int .i64 c2, c3]) (.agg #[.int .i64 x0, .int .i64 x1, .bool x2, .bool x3]) (.agg #[.int .i64 e0, .int .i64 e1, .int .i64 e2, e3]) (.agg #[.int .i64 y0, .int .i64 y1, .bool y2, .bool y3]) l0 l1 false l3 l4 l5 (.pointer (some ⟨g, 0, none⟩)) (.pointer (some ⟨g', 0, none⟩))).eval (.tmp s3) = .pointer (some ⟨b3, 0, none⟩) := by
        unfold TwoFr
        rw [eval_putIf_ne n6t, eval_putIf_ne n5t, eval_putIf_ne n4t, eval_putIf_ne n3t, eval_putIf_ne n2t, eval_putIf_ne n1t, h3]
      have HB := hb3.below hbel hb3.lt
      have r0 := HB.cell 0; have r1 := HB.cell 1; have r2 := HB.cell 2; have r3 := HB.cell 3
      simp at r0 r1 r2 r3
      have pf : (TwoFr a d1 d2 d3 d4 p5 p6 (.agg #[.int .i64 c0, .int .i64 c1, .int .i64 c2, c3]) (.agg #[.int .i64 x0, .int .i64 x1, .bool x2, .bool x3]) (.agg #[.int .i64 e0, .int .i64 e1, .int .i64 e2, e3]) (.agg #[.int .i64 y0, .int .i64 y1, .bool y2, .bool y3]) l0 l1 false l3 l4 l5 (.pointer (some ⟨g, 0, none⟩)) (.pointer (some ⟨g', 0, none⟩))).put (some d3) (.agg #[.int .i64 e0, .int .i64 e1, .int .i64 e2, e3]) = TwoFr a d1 d2 d3 d4 p5 p6 (.agg #[.int .i64 c0, .int .i64 c1, .int .i64 c2, c3]) (.agg #[.int .i64 x0, .int .i64 x1, .bool x2, .bool x3]) (.agg #[.int .i64 e0, .int .i64 e1, .int .i64 e2, e3]) (.agg #[.int .i64 y0, .int .i64 y1, .bool y2, .bool y3]) l0 l1 true l3 l4 l5 (.pointer (some ⟨g, 0, none⟩)) (.pointer (some ⟨g', 0, none⟩)) := by
        unfold TwoFr
        rw [put_putIf (Ne.symm n36), put_putIf (Ne.symm n35), put_putIf (Ne.symm n34), putIf_false]
        simp only [putIf_true]
      generalize TwoFr a d1 d2 d3 d4 p5 p6 (.agg #[.int .i64 c0, .int .i64 c1, .int .i64 c2, c3]) (.agg #[.int .i64 x0, .int .i64 x1, .bool x2, .bool x3]) (.agg #[.int .i64 e0, .int .i64 e1, .int .i64 e2, e3]) (.agg #[.int .i64 y0, .int .i64 y1, .bool y2, .bool y3]) l0 l1 false l3 l4 l5 (.pointer (some ⟨g, 0, none⟩)) (.pointer (some ⟨g', 0, none⟩)) = act at *
      have ev' : act.tmps[s3]?.getD undef = .pointer (some ⟨b3, 0, none⟩) := by have h := ev; simpa [Act.eval, Array.getD_eq_getD_getElem?] using h
      clear ev
      go_simp
      exact hK _ _ ⟨l0, l1, true, l3, l4, l5, l6, l7, g, g', rfl, pf, hbel, k4, k5, k45, k6, k7⟩
    | 3, _ =>
      obtain rfl : l3 = false := by simpa using hf
      have e : l2 = true := by
        clear k4 k5 k45 k6 k7
        revert hd
        cases l2 <;> simp [twoOps, Region.binds]
      obtain rfl := e
      refine wpOp_of (o := { dst := some d4, op := Op.call { callee := Callee.value (Operand.func f), args := #[Operand.tmp d3], argTypes := #[38] }, type := 46, pos := q4, after := #[{ on := 2, ground := Ground.data }, { on := 1, ground := Ground.chain }], guard := none }) rfl rfl (fun K hK => ?_)
      have ev : (TwoFr a d1 d2 d3 d4 p5 p6 (.agg #[.int .i64 c0, .int .i64 c1, .int .i64 c2, c3]) (.agg #[.int .i64 x0, .int .i64 x1, .bool x2, .bool x3]) (.agg #[.int .i64 e0, .int .i64 e1, .int .i64 e2, e3]) (.agg #[.int .i64 y0, .int .i64 y1, .bool y2, .bool y3]) l0 l1 true false l4 l5 (.pointer (some ⟨g, 0, none⟩)) (.pointer (some ⟨g', 0, none⟩))).eval (.tmp d3) = (.agg #[.int .i64 e0, .int .i64 e1, .int .i64 e2, e3]) := by
        unfold TwoFr
        rw [eval_putIf_ne (Ne.symm n36), eval_putIf_ne (Ne.symm n35), eval_putIf_ne (Ne.symm n34), putIf_true, eval_put_same (by simpa [putIf_size] using z3)]
      have pf : (TwoFr a d1 d2 d3 d4 p5 p6 (.agg #[.int .i64 c0, .int .i64 c1, .int .i64 c2, c3]) (.agg #[.int .i64 x0, .int .i64 x1, .bool x2, .bool x3]) (.agg #[.int .i64 e0, .int .i64 e1, .int .i64 e2, e3]) (.agg #[.int .i64 y0, .int .i64 y1, .bool y2, .bool y3]) l0 l1 true false l4 l5 (.pointer (some ⟨g, 0, none⟩)) (.pointer (some ⟨g', 0, none⟩))).put (some d4) (.agg #[.int .i64 y0, .int .i64 y1, .bool y2, .bool y3]) = TwoFr a d1 d2 d3 d4 p5 p6 (.agg #[.int .i64 c0, .int .i64 c1, .int .i64 c2, c3]) (.agg #[.int .i64 x0, .int .i64 x1, .bool x2, .bool x3]) (.agg #[.int .i64 e0, .int .i64 e1, .int .i64 e2, e3]) (.agg #[.int .i64 y0, .int .i64 y1, .bool y2, .bool y3]) l0 l1 true true l4 l5 (.pointer (some ⟨g, 0, none⟩)) (.pointer (some ⟨g', 0, none⟩)) := by
        unfold TwoFr
        rw [put_putIf (Ne.symm n46), put_putIf (Ne.symm n45), putIf_false]
        simp only [putIf_true]
      generalize TwoFr a d1 d2 d3 d4 p5 p6 (.agg #[.int .i64 c0, .int .i64 c1, .int .i64 c2, c3]) (.agg #[.int .i64 x0, .int .i64 x1, .bool x2, .bool x3]) (.agg #[.int .i64 e0, .int .i64 e1, .int .i64 e2, e3]) (.agg #[.int .i64 y0, .int .i64 y1, .bool y2, .bool y3]) l0 l1 true false l4 l5 (.pointer (some ⟨g, 0, none⟩)) (.pointer (some ⟨g', 0, none⟩)) = act at *
      have ev' : act.tmps[d3]?.getD undef = (.agg #[.int .i64 e0, .int .i64 e1, .int .i64 e2, e3]) := by have h := ev; simpa [Act.eval, Array.getD_eq_getD_getElem?] using h
      clear ev
      go_simp
      refine (hf3 _ hbel).mono ?_
      rintro e W1 ⟨rfl, hb1⟩
      exact hK _ _ ⟨l0, l1, true, true, l4, l5, l6, l7, g, g', rfl, pf, (grow_below hbel hb1), (fun h => ⟨(k4 h).1, (k4 h).2.below hb1 (k4 h).2.lt⟩), (fun h => ⟨(k5 h).1, (k5 h).2.below hb1 (k5 h).2.lt⟩), k45, k6, k7⟩
    | 4, _ =>
      obtain rfl : l4 = false := by simpa using hf
      refine wpOp_of (o := { dst := some p5, op := Op.alloc 46, type := 0, pos := q5, after := #[], guard := none }) rfl rfl (fun K hK => ?_)
      have pf : (TwoFr a d1 d2 d3 d4 p5 p6 (.agg #[.int .i64 c0, .int .i64 c1, .int .i64 c2, c3]) (.agg #[.int .i64 x0, .int .i64 x1, .bool x2, .bool x3]) (.agg #[.int .i64 e0, .int .i64 e1, .int .i64 e2, e3]) (.agg #[.int .i64 y0, .int .i64 y1, .bool y2, .bool y3]) l0 l1 l2 l3 false l5 (.pointer (some ⟨g, 0, none⟩)) (.pointer (some ⟨g', 0, none⟩))).put (some p5) (.pointer (some ⟨w'.heap.size, 0, none⟩)) = TwoFr a d1 d2 d3 d4 p5 p6 (.agg #[.int .i64 c0, .int .i64 c1, .int .i64 c2, c3]) (.agg #[.int .i64 x0, .int .i64 x1, .bool x2, .bool x3]) (.agg #[.int .i64 e0, .int .i64 e1, .int .i64 e2, e3]) (.agg #[.int .i64 y0, .int .i64 y1, .bool y2, .bool y3]) l0 l1 l2 l3 true l5 (.pointer (some ⟨w'.heap.size, 0, none⟩)) (.pointer (some ⟨g', 0, none⟩)) := by
        unfold TwoFr
        rw [put_putIf (Ne.symm n56), putIf_false]
        simp only [putIf_true]
      generalize TwoFr a d1 d2 d3 d4 p5 p6 (.agg #[.int .i64 c0, .int .i64 c1, .int .i64 c2, c3]) (.agg #[.int .i64 x0, .int .i64 x1, .bool x2, .bool x3]) (.agg #[.int .i64 e0, .int .i64 e1, .int .i64 e2, e3]) (.agg #[.int .i64 y0, .int .i64 y1, .bool y2, .bool y3]) l0 l1 l2 l3 false l5 (.pointer (some ⟨g, 0, none⟩)) (.pointer (some ⟨g', 0, none⟩)) = act at *
      have hno : ¬ l6 = true := fun h => by have := k6 h; cases this
      go_simp
      exact hK _ _ ⟨l0, l1, l2, l3, true, l5, l6, l7, w'.heap.size, g', rfl, pf, (hbel.alloc hbel.size _), (fun _ => ⟨hbel.size, by rw [if_neg hno]; exact Blk.new _ _ _⟩), (fun h => ⟨(k5 h).1, (k5 h).2.alloc _⟩), (fun _ h e => Nat.lt_irrefl _ (e ▸ (k5 h).2.lt)), (fun _ => rfl), k7⟩
    | 5, _ =>
      obtain rfl : l5 = false := by simpa using hf
      refine wpOp_of (o := { dst := some p6, op := Op.alloc 46, type := 0, pos := q6, after := #[], guard := none }) rfl rfl (fun K hK => ?_)
      have pf : (TwoFr a d1 d2 d3 d4 p5 p6 (.agg #[.int .i64 c0, .int .i64 c1, .int .i64 c2, c3]) (.agg #[.int .i64 x0, .int .i64 x1, .bool x2, .bool x3]) (.agg #[.int .i64 e0, .int .i64 e1, .int .i64 e2, e3]) (.agg #[.int .i64 y0, .int .i64 y1, .bool y2, .bool y3]) l0 l1 l2 l3 l4 false (.pointer (some ⟨g, 0, none⟩)) (.pointer (some ⟨g', 0, none⟩))).put (some p6) (.pointer (some ⟨w'.heap.size, 0, none⟩)) = TwoFr a d1 d2 d3 d4 p5 p6 (.agg #[.int .i64 c0, .int .i64 c1, .int .i64 c2, c3]) (.agg #[.int .i64 x0, .int .i64 x1, .bool x2, .bool x3]) (.agg #[.int .i64 e0, .int .i64 e1, .int .i64 e2, e3]) (.agg #[.int .i64 y0, .int .i64 y1, .bool y2, .bool y3]) l0 l1 l2 l3 l4 true (.pointer (some ⟨g, 0, none⟩)) (.pointer (some ⟨w'.heap.size, 0, none⟩)) := by
        unfold TwoFr
        rw [putIf_false]
        simp only [putIf_true]
      generalize TwoFr a d1 d2 d3 d4 p5 p6 (.agg #[.int .i64 c0, .int .i64 c1, .int .i64 c2, c3]) (.agg #[.int .i64 x0, .int .i64 x1, .bool x2, .bool x3]) (.agg #[.int .i64 e0, .int .i64 e1, .int .i64 e2, e3]) (.agg #[.int .i64 y0, .int .i64 y1, .bool y2, .bool y3]) l0 l1 l2 l3 l4 false (.pointer (some ⟨g, 0, none⟩)) (.pointer (some ⟨g', 0, none⟩)) = act at *
      have hno : ¬ l7 = true := fun h => by have := k7 h; cases this
      go_simp
      exact hK _ _ ⟨l0, l1, l2, l3, l4, true, l6, l7, g, w'.heap.size, rfl, pf, (hbel.alloc hbel.size _), (fun h => ⟨(k4 h).1, (k4 h).2.alloc _⟩), (fun _ => ⟨hbel.size, by rw [if_neg hno]; exact Blk.new _ _ _⟩), (fun h _ e => Nat.lt_irrefl _ (e.symm ▸ (k4 h).2.lt)), k6, (fun _ => rfl)⟩
    | 6, _ =>
      obtain rfl : l6 = false := by simpa using hf
      have e : l1 = true ∧ l3 = true ∧ l4 = true := by
        clear k4 k5 k45 k6 k7
        revert hd
        cases l1 <;> cases l3 <;> cases l4 <;> simp [twoOps, Region.binds]
      obtain ⟨rfl, rfl, rfl⟩ := e
      refine wpOp_of (o := { dst := none, op := Op.store 46 (Operand.tmp p5) (Operand.tmp d2), type := 0, pos := q7, after := #[{ on := 4, ground := Ground.data }, { on := 1, ground := Ground.data }, { on := 3, ground := Ground.chain }, { on := 0, ground := Ground.phase }, { on := 1, ground := Ground.phase }, { on := 2, ground := Ground.textOnly D1 }, { on := 3, ground := Ground.textOnly D2 }, { on := 4, ground := Ground.phase }, { on := 5, ground := Ground.phase }], guard := none }) rfl rfl (fun K hK => ?_)
      have ev : (TwoFr a d1 d2 d3 d4 p5 p6 (.agg #[.int .i64 c0, .int .i64 c1, .int .i64 c2, c3]) (.agg #[.int .i64 x0, .int .i64 x1, .bool x2, .bool x3]) (.agg #[.int .i64 e0, .int .i64 e1, .int .i64 e2, e3]) (.agg #[.int .i64 y0, .int .i64 y1, .bool y2, .bool y3]) l0 true l2 true true l5 (.pointer (some ⟨g, 0, none⟩)) (.pointer (some ⟨g', 0, none⟩))).eval (.tmp p5) = .pointer (some ⟨g, 0, none⟩) := by
        unfold TwoFr
        rw [eval_putIf_ne (Ne.symm n56), putIf_true, eval_put_same (by simpa [putIf_size] using z5)]
      have ev2 : (TwoFr a d1 d2 d3 d4 p5 p6 (.agg #[.int .i64 c0, .int .i64 c1, .int .i64 c2, c3]) (.agg #[.int .i64 x0, .int .i64 x1, .bool x2, .bool x3]) (.agg #[.int .i64 e0, .int .i64 e1, .int .i64 e2, e3]) (.agg #[.int .i64 y0, .int .i64 y1, .bool y2, .bool y3]) l0 true l2 true true l5 (.pointer (some ⟨g, 0, none⟩)) (.pointer (some ⟨g', 0, none⟩))).eval (.tmp d2) = (.agg #[.int .i64 x0, .int .i64 x1, .bool x2, .bool x3]) := by
        unfold TwoFr
        rw [eval_putIf_ne (Ne.symm n26), eval_putIf_ne (Ne.symm n25), eval_putIf_ne (Ne.symm n24), eval_putIf_ne (Ne.symm n23), putIf_true, eval_put_same (by simpa [putIf_size] using z2)]
      obtain ⟨hg, hB⟩ := k4 rfl
      rw [if_neg (by simp)] at hB
      have r0 := hB.cell 0; have r1 := hB.cell 1; have r2 := hB.cell 2; have r3 := hB.cell 3
      have t0 := hB.frozen 0; have t1 := hB.frozen 1; have t2 := hB.frozen 2; have t3 := hB.frozen 3
      simp at r0 r1 r2 r3
      generalize hA : TwoFr a d1 d2 d3 d4 p5 p6 (.agg #[.int .i64 c0, .int .i64 c1, .int .i64 c2, c3]) (.agg #[.int .i64 x0, .int .i64 x1, .bool x2, .bool x3]) (.agg #[.int .i64 e0, .int .i64 e1, .int .i64 e2, e3]) (.agg #[.int .i64 y0, .int .i64 y1, .bool y2, .bool y3]) l0 true l2 true true l5 (.pointer (some ⟨g, 0, none⟩)) (.pointer (some ⟨g', 0, none⟩)) = act at *
      have ev' : act.tmps[p5]?.getD undef = .pointer (some ⟨g, 0, none⟩) := by have h := ev; simpa [Act.eval, Array.getD_eq_getD_getElem?] using h
      clear ev
      have ev2' : act.tmps[d2]?.getD undef = (.agg #[.int .i64 x0, .int .i64 x1, .bool x2, .bool x3]) := by have h := ev2; simpa [Act.eval, Array.getD_eq_getD_getElem?] using h
      clear ev2
      go_simp
      exact hK _ _ ⟨l0, true, l2, true, true, l5, true, l7, g, g', rfl, hA.symm, ((((hbel.setCell (p := ⟨g, 0, none⟩) hg _).setCell (p := ⟨g, 1, none⟩) hg _).setCell (p := ⟨g, 2, none⟩) hg _).setCell (p := ⟨g, 3, none⟩) hg _), (fun _ => ⟨hg, by rw [if_pos rfl]; have h := (((hB.set_ 0 (.int .i64 x0)).set_ 1 (.int .i64 x1)).set_ 2 (.bool x2)).set_ 3 (.bool x3); simpa using h⟩), (fun h => ⟨(k5 h).1, ((((k5 h).2.far (p := ⟨g, 0, none⟩) (fun e => k45 rfl h e.symm) _).far (p := ⟨g, 1, none⟩) (fun e => k45 rfl h e.symm) _).far (p := ⟨g, 2, none⟩) (fun e => k45 rfl h e.symm) _).far (p := ⟨g, 3, none⟩) (fun e => k45 rfl h e.symm) _⟩), k45, (fun _ => rfl), k7⟩
    | 7, _ =>
      obtain rfl : l7 = false := by simpa using hf
      have e : l3 = true ∧ l5 = true := by
        clear k4 k5 k45 k6 k7
        revert hd
        cases l3 <;> cases l5 <;> simp [twoOps, Region.binds]
      obtain ⟨rfl, rfl⟩ := e
      refine wpOp_of (o := { dst := none, op := Op.store 46 (Operand.tmp p6) (Operand.tmp d4), type := 0, pos := q8, after := #[{ on := 5, ground := Ground.data }, { on := 3, ground := Ground.data }, { on := 6, ground := Ground.chain }, { on := 0, ground := Ground.phase }, { on := 1, ground := Ground.phase }, { on := 2, ground := Ground.phase }, { on := 3, ground := Ground.phase }, { on := 4, ground := Ground.phase }, { on := 5, ground := Ground.phase }, { on := 6, ground := Ground.phase }], guard := none }) rfl rfl (fun K hK => ?_)
      have ev : (TwoFr a d1 d2 d3 d4 p5 p6 (.agg #[.int .i64 c0, .int .i64 c1, .int .i64 c2, c3]) (.agg #[.int .i64 x0, .int .i64 x1, .bool x2, .bool x3]) (.agg #[.int .i64 e0, .int .i64 e1, .int .i64 e2, e3]) (.agg #[.int .i64 y0, .int .i64 y1, .bool y2, .bool y3]) l0 l1 l2 true l4 true (.pointer (some ⟨g, 0, none⟩)) (.pointer (some ⟨g', 0, none⟩))).eval (.tmp p6) = .pointer (some ⟨g', 0, none⟩) := by
        unfold TwoFr
        rw [putIf_true, eval_put_same (by simpa [putIf_size] using z6)]
      have ev2 : (TwoFr a d1 d2 d3 d4 p5 p6 (.agg #[.int .i64 c0, .int .i64 c1, .int .i64 c2, c3]) (.agg #[.int .i64 x0, .int .i64 x1, .bool x2, .bool x3]) (.agg #[.int .i64 e0, .int .i64 e1, .int .i64 e2, e3]) (.agg #[.int .i64 y0, .int .i64 y1, .bool y2, .bool y3]) l0 l1 l2 true l4 true (.pointer (some ⟨g, 0, none⟩)) (.pointer (some ⟨g', 0, none⟩))).eval (.tmp d4) = (.agg #[.int .i64 y0, .int .i64 y1, .bool y2, .bool y3]) := by
        unfold TwoFr
        rw [eval_putIf_ne (Ne.symm n46), eval_putIf_ne (Ne.symm n45), putIf_true, eval_put_same (by simpa [putIf_size] using z4)]
      obtain ⟨hg, hB⟩ := k5 rfl
      rw [if_neg (by simp)] at hB
      have r0 := hB.cell 0; have r1 := hB.cell 1; have r2 := hB.cell 2; have r3 := hB.cell 3
      have t0 := hB.frozen 0; have t1 := hB.frozen 1; have t2 := hB.frozen 2; have t3 := hB.frozen 3
      simp at r0 r1 r2 r3
      generalize hA : TwoFr a d1 d2 d3 d4 p5 p6 (.agg #[.int .i64 c0, .int .i64 c1, .int .i64 c2, c3]) (.agg #[.int .i64 x0, .int .i64 x1, .bool x2, .bool x3]) (.agg #[.int .i64 e0, .int .i64 e1, .int .i64 e2, e3]) (.agg #[.int .i64 y0, .int .i64 y1, .bool y2, .bool y3]) l0 l1 l2 true l4 true (.pointer (some ⟨g, 0, none⟩)) (.pointer (some ⟨g', 0, none⟩)) = act at *
      have ev' : act.tmps[p6]?.getD undef = .pointer (some ⟨g', 0, none⟩) := by have h := ev; simpa [Act.eval, Array.getD_eq_getD_getElem?] using h
      clear ev
      have ev2' : act.tmps[d4]?.getD undef = (.agg #[.int .i64 y0, .int .i64 y1, .bool y2, .bool y3]) := by have h := ev2; simpa [Act.eval, Array.getD_eq_getD_getElem?] using h
      clear ev2
      go_simp
      exact hK _ _ ⟨l0, l1, l2, true, l4, true, l6, true, g, g', rfl, hA.symm, ((((hbel.setCell (p := ⟨g', 0, none⟩) hg _).setCell (p := ⟨g', 1, none⟩) hg _).setCell (p := ⟨g', 2, none⟩) hg _).setCell (p := ⟨g', 3, none⟩) hg _), (fun h => ⟨(k4 h).1, ((((k4 h).2.far (p := ⟨g', 0, none⟩) (fun e => k45 h rfl e) _).far (p := ⟨g', 1, none⟩) (fun e => k45 h rfl e) _).far (p := ⟨g', 2, none⟩) (fun e => k45 h rfl e) _).far (p := ⟨g', 3, none⟩) (fun e => k45 h rfl e) _⟩), (fun _ => ⟨hg, by rw [if_pos rfl]; have h := (((hB.set_ 0 (.int .i64 y0)).set_ 1 (.int .i64 y1)).set_ 2 (.bool y2)).set_ 3 (.bool y3); simpa using h⟩), k45, k6, (fun _ => rfl)⟩
  case fin =>
    rintro L act w' ⟨l0, l1, l2, l3, l4, l5, l6, l7, g, g', rfl, rfl, hbel, k4, k5, k45, k6, k7⟩ hr
    obtain rfl : l0 = true := by simpa using ready_out hr 0 (by simp [twoOps]) (by simp [twoOps, Region.binds])
    obtain rfl : l2 = true := by simpa using ready_out hr 2 (by simp [twoOps]) (by simp [twoOps, Region.binds])
    obtain rfl : l4 = true := by simpa using ready_out hr 4 (by simp [twoOps]) (by simp [twoOps, Region.binds])
    obtain rfl : l5 = true := by simpa using ready_out hr 5 (by simp [twoOps]) (by simp [twoOps, Region.binds])
    obtain rfl : l1 = true := by simpa using ready_out hr 1 (by simp [twoOps]) (by simp [twoOps, Region.binds])
    obtain rfl : l3 = true := by simpa using ready_out hr 3 (by simp [twoOps]) (by simp [twoOps, Region.binds])
    obtain rfl : l6 = true := by simpa using ready_out hr 6 (by simp [twoOps]) (by simp [twoOps, Region.binds])
    obtain rfl : l7 = true := by simpa using ready_out hr 7 (by simp [twoOps]) (by simp [twoOps, Region.binds])
    have h4 := (k4 rfl).2; have h5 := (k5 rfl).2
    rw [if_pos rfl] at h4 h5
    exact hQ g g' w' hbel h4 h5
end Go.Proofs.Ytefdblaolmckmaa
