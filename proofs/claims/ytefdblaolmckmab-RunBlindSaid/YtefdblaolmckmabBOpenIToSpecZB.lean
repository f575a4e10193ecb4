/- A slice of ints by value at the row. What a system does not read is no matter. -/
import Derived.Test.YtefdblaolmckmabBSpecOToSpecR
import Derived.Test.YtefdblaolmckmabBRef2MToRunG
namespace Go.Proofs.Ytefdblaolmckmab
open Go.ChangeShapes Go.WideShapes Go.ChangeAt Go.RowKit Go.Deep
open Brood
set_option linter.unusedVariables false
set_option linter.unusedSimpArgs false
section
variable {H : Type} {enc : TypeId × Value → H} {w : World} {base : Nat} {spare : Nat → Bool} {held : Bool}
set_option maxRecDepth 100000 in
theorem open_ints {r : Reach} {b0 : Nat} {v : Value} {d : DataW H} {p : List MemPlace} (hok : Value.okWide Try.prog w r b0 23 v) (h : DataW.Trod enc Try.prog w base spare held 23 v d p) :
    ∃ (l : List Int) (A : Option Addr) (c : Nat), v = .slice A l.length c ∧ l.length ≤ maxLen ∧ RdG w w.heap.size A l := by
  obtain ⟨fuel, hf⟩ := h
  obtain ⟨A, cap, l, hv, h1, h2, hrd, hw⟩ := open_gens hf
  have hvv : v = .slice A l.length cap := by
    simp only [Value.okWide, Try.underlying23, Cell.okWide] at hok
    cases v with
    | agg cells => simp [Cell.ok, Try.underlying23] at hok
    | slice A' n' c' => simpa [Value.cells] using hv
    | _ => simp [Value.cells] at hv
  exact ⟨l, A, cap, hvv, by omega, hrd⟩
end
end Go.Proofs.Ytefdblaolmckmab

namespace Go.Proofs.Ytefdblaolmckmab
open Brood
set_option linter.unusedVariables false
set_option linter.unusedSimpArgs false
def blR (k : Nat) (r : BRow) : BRow := ⟨r.idx, r.gen, r.has, r.vals.set k 0, by rw [List.length_set]; exact r.h8⟩
def blW (k : Nat) (W : BWorld) : BWorld := ⟨W.rows.map (blR k), W.gens⟩
theorem brow_mk {i g h : Int} {v1 v2 : List Int} {p : v1.length = 8} {q : v2.length = 8} (e : v1 = v2) : BRow.mk i g h v1 p = BRow.mk i g h v2 q := by subst e; rfl
theorem bl_bl (k : Nat) (r : BRow) : blR k (blR k r) = blR k r := brow_mk (by simp [blR])
theorem bl_map (k : Nat) (l : List BRow) : (l.map (blR k)).map (blR k) = l.map (blR k) := by
  rw [List.map_map]
  exact List.map_congr_left fun r _ => bl_bl k r
theorem bl_get {k j : Nat} (r : BRow) : (blR k r).vals.getD j 0 = if j = k then 0 else r.vals.getD j 0 := by
  have h8 := r.h8
  unfold blR
  simp only [List.getD_eq_getElem?_getD]
  by_cases h : j = k
  · subst h
    rw [if_pos rfl, List.getElem?_set]
    rw [if_pos rfl]
    split <;> rfl
  · rw [if_neg h, List.getElem?_set_ne (by omega)]
theorem rowErr_bl {k : Nat} {r : BRow} (h : rowErr r = 0) : rowErr (blR k r) = 0 := by
  rw [rowErr_iff] at h ⊢
  refine ⟨h.1, fun j hj => ?_⟩
  rw [bl_get]
  split
  · exact ⟨by decide, fun h => absurd rfl h⟩
  · exact h.2 j hj
theorem right_bl {rows : List BRow} {gens : List Int} (hw : RightW rows gens) (k : Nat) : RightW (rows.map (blR k)) gens := by
  have hm : ∀ q ∈ rows.map (blR k), ∃ r ∈ rows, blR k r = q := fun q hq => List.mem_map.1 hq
  refine ⟨hw.len, hw.gen, ?_, ?_, ?_, ?_⟩
  · intro q hq; obtain ⟨r, hr, rfl⟩ := hm q hq; exact rowErr_bl (hw.row r hr)
  · intro q hq; obtain ⟨r, hr, rfl⟩ := hm q hq; exact hw.idx r hr
  · intro q hq; obtain ⟨r, hr, rfl⟩ := hm q hq; exact hw.fit r hr
  · rw [rise_pair, List.pairwise_map]
    exact rise_pair.1 hw.rise
theorem findR_bl (k : Nat) (i g : Int) : ∀ rows : List BRow, findR i g (rows.map (blR k)) = findR i g rows
  | [] => rfl
  | r :: l => by
    rw [List.map_cons, findR, findR, findR_bl k i g l]
    rfl
theorem rowOf_bl (k : Nat) (i g : Int) : ∀ rows : List BRow, rowOf i g (rows.map (blR k)) = (rowOf i g rows).map (blR k)
  | [] => rfl
  | r :: l => by
    have ih := rowOf_bl k i g l
    unfold rowOf at ih ⊢
    rw [List.map_cons, List.find?_cons, List.find?_cons, ih]
    have e : isB i g (blR k r) = isB i g r := rfl
    rw [e]
    cases isB i g r <;> rfl
theorem posOf_bl (k : Nat) (x : Int) : ∀ rows : List BRow, posOf x (rows.map (blR k)) = posOf x rows
  | [] => rfl
  | r :: l => by
    rw [List.map_cons, posOf, posOf, posOf_bl k x l]
    rfl
theorem nextV_bl (k : Nat) (rows : List BRow) (gens : List Int) : nextV (rows.map (blR k)) gens = nextV rows gens := by
  have e : (rows.map (blR k)).map (·.idx) = rows.map (·.idx) := by rw [List.map_map]; rfl
  unfold nextV
  rw [e]
structure Like (k : Nat) (X Y : Changed) : Prop where
  rows : X.rows.map (blR k) = Y.rows.map (blR k)
  gens : X.gens = Y.gens
  err : X.err = Y.err
theorem kill_bl {rows : List BRow} {gens : List Int} (hw : RightW rows gens) (k : Nat) (i g : Int) : Like k (killV (rows.map (blR k)) gens i g) (killV rows gens i g) := by
  cases h : rowOf i g rows with
  | none =>
    rw [kill_none hw h, kill_none (right_bl hw k) (by rw [rowOf_bl, h]; rfl)]
    exact ⟨rfl, rfl, rfl⟩
  | some r =>
    rw [kill_some hw h, kill_some (right_bl hw k) (r := blR k r) (by rw [rowOf_bl, h]; rfl)]
    refine ⟨?_, rfl, rfl⟩
    dsimp only
    unfold keepR
    rw [List.filter_map, bl_map]
    rfl
theorem spawn_bl {rows : List BRow} {gens : List Int} (hw : RightW rows gens) (k : Nat) (has n : Int) : Like k (spawnC (rows.map (blR k)) gens has n) (spawnC rows gens has n) := by
  unfold spawnC spawnV
  have e1 := (right_iff rows gens).2 hw
  have e2 := (right_iff _ gens).2 (right_bl hw k)
  simp only [ne_eq, e1, e2, not_true_eq_false, if_false, nextV_bl, posOf_bl]
  split
  · exact ⟨rfl, rfl, rfl⟩
  · split
    · exact ⟨rfl, rfl, rfl⟩
    · refine ⟨?_, rfl, rfl⟩
      dsimp only
      unfold insRow
      rw [List.map_append, List.map_append, List.map_cons, List.map_cons, ← List.map_take, ← List.map_drop, bl_map, bl_map]
theorem change_bl {rows : List BRow} {gens : List Int} (hw : RightW rows gens) (k : Nat) (i g : Int) {fr : BRow → BRow × Int} (h2 : ∀ r, (fr (blR k r)).2 = (fr r).2) (h1 : ∀ r, blR k (fr (blR k r)).1 = blR k (fr r).1) :
    Like k (changeV (rows.map (blR k)) gens i g fr) (changeV rows gens i g fr) := by
  cases h : rowOf i g rows with
  | none =>
    rw [change_none fr hw h, change_none fr (right_bl hw k) (by rw [rowOf_bl, h]; rfl)]
    exact ⟨rfl, rfl, rfl⟩
  | some r =>
    obtain ⟨m, hm, hf, hr⟩ := findR_of_some h
    rw [change_mk fr hw hf (by rw [List.getElem?_eq_getElem hm, hr]), change_mk fr (right_bl hw k) (k := m) (r := blR k r) (by rw [findR_bl, hf]) (by rw [List.getElem?_map, List.getElem?_eq_getElem hm, hr]; rfl), h2]
    split
    · exact ⟨rfl, rfl, rfl⟩
    · refine ⟨?_, rfl, rfl⟩
      dsimp only
      rw [List.map_set, List.map_set, bl_map, h1]
theorem set_bl (l : List Int) (k p : Nat) (n : Int) : ((l.set k 0).set p n).set k 0 = (l.set p n).set k 0 := by
  by_cases h : p = k
  · subst h; simp
  · rw [List.set_comm _ _ (by omega : k ≠ p), List.set_set]
theorem putF_bl (k : Nat) (part n : Int) (r : BRow) : (putF part n (blR k r)).2 = (putF part n r).2 ∧ blR k (putF part n (blR k r)).1 = blR k (putF part n r).1 := by
  unfold putF
  split
  · exact ⟨rfl, brow_mk (set_bl _ _ _ _)⟩
  · exact ⟨rfl, bl_bl k r⟩
theorem dropF_bl (k : Nat) (part : Int) (r : BRow) : (dropF part (blR k r)).2 = (dropF part r).2 ∧ blR k (dropF part (blR k r)).1 = blR k (dropF part r).1 := by
  unfold dropF
  by_cases h : hasB r.has part = true
  · rw [if_pos h, if_pos (show hasB (blR k r).has part = true from h)]
    exact ⟨rfl, brow_mk (set_bl _ _ _ _)⟩
  · rw [if_neg h, if_neg (show ¬ hasB (blR k r).has part = true from h)]
    exact ⟨rfl, bl_bl k r⟩
theorem getP_bl (k : Nat) (i g p : Int) (rows : List BRow) : (getP i g (rows.map (blR k)) p).2 = (getP i g rows p).2 ∧ (p.toNat ≠ k → (getP i g (rows.map (blR k)) p).1 = (getP i g rows p).1) := by
  cases h : rowOf i g rows with
  | none =>
    rw [getP_none p h, getP_none p (by rw [rowOf_bl, h]; rfl)]
    exact ⟨rfl, fun _ => rfl⟩
  | some r =>
    rw [getP_some p h, getP_some p (r := blR k r) (by rw [rowOf_bl, h]; rfl)]
    have e : hasB (blR k r).has p = hasB r.has p := rfl
    rw [e]
    cases hasB r.has p with
    | false => exact ⟨rfl, fun _ => rfl⟩
    | true => exact ⟨rfl, fun hne => by simp only [if_true]; rw [bl_get, if_neg hne]⟩
theorem amount_bl (k : Nat) (i g : Int) (rows : List BRow) {a : BAct} (hf : isFrom a = true → a.src.toNat ≠ k) (ho : isOwn a = true → a.part.toNat ≠ k) : amountV (rows.map (blR k)) i g a = amountV rows i g a := by
  unfold amountV
  split
  · rename_i h; exact (getP_bl k i g _ rows).2 (hf (by simp [isFrom, h]))
  · split
    · rename_i h
      rw [(getP_bl k i g _ rows).2 (hf (by simp [isFrom, h])), (getP_bl k i g _ rows).2 (ho (by simp [isOwn, h]))]
    · split
      · rename_i h; rw [(getP_bl k i g _ rows).2 (ho (by simp [isOwn, h]))]
      · rfl
theorem step_bl {W : BWorld} (hw : RightB W) (k : Nat) (i g : Int) {a : BAct} (hf : isFrom a = true → a.src.toNat ≠ k) (ho : isOwn a = true → a.part.toNat ≠ k) : Like k (stepV (blW k W) i g a) (stepV W i g a) := by
  unfold stepV
  split
  · exact kill_bl hw k i g
  · split
    · exact spawn_bl hw k _ _
    · split
      · have e : (getP i g (blW k W).rows a.part).2 = (getP i g W.rows a.part).2 := (getP_bl k i g a.part W.rows).1
        by_cases h : (getP i g W.rows a.part).2 = true
        · rw [if_pos h, if_pos (e.trans h)]
          exact change_bl hw k i g (fun r => (dropF_bl k _ r).1) (fun r => (dropF_bl k _ r).2)
        · rw [if_neg h, if_neg (by rw [e]; exact h)]
          exact ⟨bl_map k _, rfl, rfl⟩
      · rw [show amountV (blW k W).rows i g a = amountV W.rows i g a from amount_bl k i g W.rows hf ho]
        exact change_bl hw k i g (fun r => (putF_bl k _ _ r).1) (fun r => (putF_bl k _ _ r).2)
structure Sim (k : Nat) (S T : BWorld × Int) : Prop where
  l : RightB S.1
  r : RightB T.1
  same : blW k S.1 = blW k T.1
  err : S.2 = T.2
theorem Like.trans {k : Nat} {X Y Z : Changed} (h : Like k X Y) (h' : Like k Y Z) : Like k X Z := ⟨h.rows.trans h'.rows, h.gens.trans h'.gens, h.err.trans h'.err⟩
theorem Like.symm {k : Nat} {X Y : Changed} (h : Like k X Y) : Like k Y X := ⟨h.rows.symm, h.gens.symm, h.err.symm⟩
def BlindTo (k : Nat) (a : BAct) : Prop := (isFrom a = true → a.src.toNat ≠ k) ∧ (isOwn a = true → a.part.toNat ≠ k)
theorem oneM_sim {k : Nat} {S T : BWorld × Int} (h : Sim k S T) (i g : Int) {a : BAct} (ha : BlindTo k a) : Sim k (oneM S i g a) (oneM T i g a) := by
  have h1 := step_bl h.l k i g ha.1 ha.2
  have h2 := step_bl h.r k i g ha.1 ha.2
  rw [h.same] at h1
  have hL := h1.symm.trans h2
  unfold oneM keepE
  rw [hL.err]
  by_cases he : (stepV T.1 i g a).err = 0
  · rw [if_pos he, if_pos he]
    have e2 : (stepV S.1 i g a).err = 0 := hL.err.trans he
    refine ⟨step_right h.l e2, step_right h.r he, ?_, h.err⟩
    show BWorld.mk _ _ = BWorld.mk _ _
    rw [hL.rows, hL.gens]
  · rw [if_neg he, if_neg he]
    exact ⟨h.l, h.r, h.same, rfl⟩
theorem actsM_sim {k : Nat} (i g : Int) : ∀ {acts : List BAct} {S T : BWorld × Int}, Sim k S T → (∀ a ∈ acts, BlindTo k a) → (actsM i g acts S).2 = (actsM i g acts T).2 ∧ Sim k (actsM i g acts S).1 (actsM i g acts T).1
  | [], S, T, h, _ => ⟨rfl, h⟩
  | a :: l, S, T, h, ha => by
    have h1 := oneM_sim h i g (ha a (by simp))
    rw [actsM, actsM, h1.err]
    split
    · exact ⟨rfl, h1⟩
    · split
      · exact ⟨rfl, h1⟩
      · exact actsM_sim i g h1 (fun b hb => ha b (by simp [hb]))
theorem besM_sim {k : Nat} {acts : List BAct} (ha : ∀ a ∈ acts, BlindTo k a) : ∀ {l m : List BRow} {S T : BWorld × Int}, l.map beOf = m.map beOf → Sim k S T → (besM acts l S).2 = (besM acts m T).2 ∧ Sim k (besM acts l S).1 (besM acts m T).1
  | [], [], S, T, _, h => ⟨rfl, h⟩
  | [], _ :: _, _, _, e, _ => by simp at e
  | _ :: _, [], _, _, e, _ => by simp at e
  | b :: l, c :: m, S, T, e, h => by
    rw [List.map_cons, List.map_cons] at e
    injection e with e1 e2
    have e3 : b.idx = c.idx := congrArg Prod.fst e1
    have e4 : b.gen = c.gen := congrArg Prod.snd e1
    have h1 := actsM_sim c.idx c.gen h ha
    rw [besM, besM, e3, e4, h1.1]
    split
    · exact h1
    · exact besM_sim ha e2 h1.2
theorem match_bl (k : Nat) (all non : Int) (rows : List BRow) : matchV all non (rows.map (blR k)) = (matchV all non rows).map (blR k) := by
  unfold matchV
  rw [List.filter_map]
  rfl
theorem match_be {k : Nat} {A B : List BRow} (h : A.map (blR k) = B.map (blR k)) (all non : Int) : (matchV all non A).map beOf = (matchV all non B).map beOf := by
  have key : ∀ l : List BRow, l.map beOf = (l.map (blR k)).map beOf := fun l => by rw [List.map_map]; rfl
  exact (key _).trans ((by rw [← match_bl, h, match_bl] : ((matchV all non A).map (blR k)).map beOf = ((matchV all non B).map (blR k)).map beOf).trans (key _).symm)
theorem blind_in {x : BSys} (hx : (sysWrong x).1 = 0) {k : Nat} (hk : hasB (needs x).reads (k : Int) = false) : ∀ a ∈ x.acts, BlindTo k a := by
  intro a ha
  have hA := act_in ha
  have ho := okAct_of ((sysOk_of hx).acts a ha)
  refine ⟨fun hf e => ?_, fun hf e => ?_⟩
  · have hk2 := isFrom_kind hf
    rcases ho with h | ⟨h, _⟩ | ⟨_, h1, h2, _⟩
    · omega
    · omega
    · have h3 := h2 hf
      have h4 := isPart_iff.1 h3
      have := hA.from_ hf h3
      rw [show a.src = (k : Int) by omega, hk] at this
      cases this
  · have hk2 := isOwn_kind hf
    rcases ho with h | ⟨h, _⟩ | ⟨_, h1, h2, _⟩
    · omega
    · omega
    · have h4 := isPart_iff.1 h1
      have := hA.own_ hf h1
      rw [show a.part = (k : Int) by omega, hk] at this
      cases this
theorem run_blind {W V : BWorld} {x : BSys} {k : Nat} (hw : RightB W) (hv : RightB V) (hs : blW k W = blW k V) (hx : (sysWrong x).1 = 0) (hk : hasB (needs x).reads (k : Int) = false) :
    (runM W x).err = (runM V x).err ∧ ((runM W x).err = 0 → (runM W x).rows.map (blR k) = (runM V x).rows.map (blR k)) := by
  have hm : (matchV x.all x.non W.rows).map beOf = (matchV x.all x.non V.rows).map beOf := match_be (k := k) (congrArg BWorld.rows hs) _ _
  have h := besM_sim (blind_in hx hk) (S := (W, 0)) (T := (V, 0)) hm ⟨hw, hv, hs, rfl⟩
  have key : ∀ U : BWorld, runM U x = if (besM x.acts (matchV x.all x.non U.rows) (U, 0)).2 = true then ⟨[], [], (besM x.acts (matchV x.all x.non U.rows) (U, 0)).1.2⟩
      else ⟨(besM x.acts (matchV x.all x.non U.rows) (U, 0)).1.1.rows, (besM x.acts (matchV x.all x.non U.rows) (U, 0)).1.1.gens, 0⟩ := fun U => by
    unfold runM
    rw [if_neg (by simpa using hx)]
  rw [key, key V]
  cases hb : (besM x.acts (matchV x.all x.non V.rows) (V, 0)).2 with
  | true =>
    rw [if_pos (h.1.trans hb), if_pos rfl]
    exact ⟨h.2.err, fun _ => rfl⟩
  | false =>
    rw [if_neg (by rw [h.1, hb]; simp), if_neg (by simp)]
    exact ⟨rfl, fun _ => congrArg BWorld.rows h.2.same⟩
def blindRow (k : Nat) (o : Option Int) (r : BRow) : BRow := match o with
  | some v => if hasB r.has (k : Int) && isVal v then ⟨r.idx, r.gen, r.has, r.vals.set k v, by rw [List.length_set]; exact r.h8⟩ else r
  | none => r
theorem blindRow_bl (k : Nat) (o : Option Int) (r : BRow) : blR k (blindRow k o r) = blR k r := by
  unfold blindRow
  split
  · split
    · exact brow_mk (by simp)
    · rfl
  · rfl
theorem blindRow_be (k : Nat) (o : Option Int) (r : BRow) : (blindRow k o r).idx = r.idx ∧ (blindRow k o r).gen = r.gen := by
  unfold blindRow
  split
  · split <;> exact ⟨rfl, rfl⟩
  · exact ⟨rfl, rfl⟩
theorem blindRow_ok {k : Nat} {o : Option Int} {r : BRow} (h : rowErr r = 0) : rowErr (blindRow k o r) = 0 := by
  unfold blindRow
  split
  · rename_i v
    split
    · rename_i hc
      rw [Bool.and_eq_true] at hc
      rw [rowErr_iff] at h ⊢
      refine ⟨h.1, fun j hj => ?_⟩
      have h8 := r.h8
      dsimp only
      simp only [List.getD_eq_getElem?_getD]
      by_cases e : k = j
      · subst e
        rw [List.getElem?_set_self (by omega)]
        exact ⟨hc.2, fun _ => hc.1⟩
      · rw [List.getElem?_set_ne e]
        have := h.2 j hj
        simpa only [List.getD_eq_getElem?_getD] using this
    · exact h
  · exact h
def blindRows (k : Nat) (vals : List Int) (rows : List BRow) : List BRow := rows.zipIdx.map fun p => blindRow k vals[p.2]? p.1
theorem blindRows_bl (k : Nat) (vals : List Int) (rows : List BRow) : (blindRows k vals rows).map (blR k) = rows.map (blR k) := by
  unfold blindRows
  rw [List.map_map]
  have : ∀ p ∈ rows.zipIdx, (blR k ∘ fun p : BRow × Nat => blindRow k vals[p.2]? p.1) p = (blR k ∘ Prod.fst) p := fun p _ => blindRow_bl k _ _
  rw [List.map_congr_left this, ← List.map_map, List.zipIdx_map_fst]
theorem blindRows_right {rows : List BRow} {gens : List Int} (hw : RightW rows gens) (k : Nat) (vals : List Int) : RightW (blindRows k vals rows) gens := by
  have hm : ∀ q ∈ blindRows k vals rows, ∃ r ∈ rows, ∃ o, q = blindRow k o r := by
    intro q hq
    obtain ⟨p, hp, rfl⟩ := List.mem_map.1 hq
    exact ⟨p.1, (List.mem_zipIdx' hp).2 ▸ List.getElem_mem _, _, rfl⟩
  have hb := blindRows_bl k vals rows
  refine ⟨hw.len, hw.gen, ?_, ?_, ?_, ?_⟩
  · intro q hq; obtain ⟨r, hr, o, rfl⟩ := hm q hq; exact blindRow_ok (hw.row r hr)
  · intro q hq; obtain ⟨r, hr, o, rfl⟩ := hm q hq; rw [(blindRow_be k o r).1]; exact hw.idx r hr
  · intro q hq; obtain ⟨r, hr, o, rfl⟩ := hm q hq; rw [(blindRow_be k o r).1, (blindRow_be k o r).2]; exact hw.fit r hr
  · have h1 := rise_pair.1 (right_bl hw k).rise
    rw [← hb, List.pairwise_map] at h1
    exact rise_pair.2 h1
end Go.Proofs.Ytefdblaolmckmab
