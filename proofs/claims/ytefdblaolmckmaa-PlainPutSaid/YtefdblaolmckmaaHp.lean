/- What a call has made itself, as one list: blocks known whole, slices of its own; all apart; below them nothing has turned. -/
import Derived.Test.YtefdblaolmckmaaOwn2
namespace Go.Proofs.Ytefdblaolmckmaa
open Go.RowKit

inductive Ent where
  | box (g : Nat) (t : TypeId) (cs : List Value)
  | own (v : Value) (e : TypeId) (sz n : Nat) (xs : List Value)
def Ent.blk : Ent → Option Nat
  | .box g _ _ => some g
  | .own v _ _ _ _ => v.ownBlock
def Ent.holds (B : Nat) (w : World) : Ent → Prop
  | .box g t cs => B ≤ g ∧ Blk w g t cs.toArray
  | .own v e sz n xs => w.ownsRow B e sz v n xs
structure Hp (w0 w : World) (E : List Ent) : Prop where
  bel : Below w0.heap.size w0 w
  all : ∀ p ∈ E, p.holds w0.heap.size w
  dis : (E.filterMap Ent.blk).Nodup
section
variable {w0 w w' : World} {E E' : List Ent} {B : Nat}
theorem Ent.lt {p : Ent} (h : p.holds B w) {g : Nat} (hg : p.blk = some g) : B ≤ g ∧ g < w.heap.size := by
  cases p with
  | box b t cs => obtain rfl : b = g := by simpa [Ent.blk] using hg
                  exact ⟨h.1, h.2.lt⟩
  | own v e sz n xs => exact World.ownsRow.lt h g hg
theorem Ent.kept {p : Ent} {row : Option Nat} (h : p.holds B w) (hg : w.grownBy w' row) (hne : ∀ g, p.blk = some g → row ≠ some g) : p.holds B w' := by
  cases p with
  | box b t cs => exact ⟨h.1, h.2.grown hg (fun e => hne b rfl e.symm)⟩
  | own v e sz n xs =>
    refine World.ownsRow.kept h hg ?_
    cases hv : v.ownBlock with
    | none => exact .inl rfl
    | some b => exact .inr (fun e => hne b hv e.symm)
theorem Ent.under {p : Ent} (h : p.holds B w) (hb : Below w.heap.size w w') : p.holds B w' := by
  cases p with
  | box b t cs => exact ⟨h.1, h.2.below hb h.2.lt⟩
  | own v e sz n xs => exact own_below h hb
theorem Hp.start (w : World) : Hp w w [] := ⟨Below.refl _ _, by simp, by simp⟩
theorem Hp.grow (h : Hp w0 w E) (hb : Below w.heap.size w w') : Hp w0 w' E :=
  ⟨h.bel.trans (hb.mono h.bel.size), fun p hp => Ent.under (h.all p hp) hb, h.dis⟩
theorem Hp.alloc (h : Hp w0 w E) (o : Obj) : Hp w0 (w.alloc o) E := h.grow ((Below.refl _ _).alloc (Nat.le_refl _) o)
theorem Hp.drew (h : Hp w0 w E) : Hp w0 w.drew E := h.grow (Below.refl _ _).drew
theorem Hp.drewN (h : Hp w0 w E) (n : Nat) : Hp w0 (w.drewN n) E := h.grow (below_drewN (Below.refl _ _) n)
theorem Hp.mem {p : Ent} (h : Hp w0 w E) {k : Nat} (hk : E[k]? = some p) : p.holds w0.heap.size w := h.all p (List.mem_of_getElem? hk)
theorem Hp.blk (h : Hp w0 w E) (k : Nat) {g : Nat} {t : TypeId} {cs : List Value} (hk : E[k]? = some (.box g t cs)) : Blk w g t cs.toArray := (h.mem hk).2
theorem Hp.cell (h : Hp w0 w E) (k i : Nat) {g : Nat} {t : TypeId} {cs : List Value} {u : Value} (hk : E[k]? = some (.box g t cs)) (hi : cs[i]? = some u) : w.cell? ⟨g, i, none⟩ = some u := by
  rw [(h.blk k hk).cell i]
  simpa using hi
theorem Hp.frozen (h : Hp w0 w E) (k i : Nat) {g : Nat} {t : TypeId} {cs : List Value} (hk : E[k]? = some (.box g t cs)) : w.frozen? ⟨g, i, none⟩ = false := (h.blk k hk).frozen i
theorem Hp.lt (h : Hp w0 w E) (k : Nat) {g : Nat} {t : TypeId} {cs : List Value} (hk : E[k]? = some (.box g t cs)) : g < w.heap.size := (h.blk k hk).lt
theorem Hp.ge (h : Hp w0 w E) (k : Nat) {g : Nat} {t : TypeId} {cs : List Value} (hk : E[k]? = some (.box g t cs)) : w0.heap.size ≤ g := (h.mem hk).1
theorem Hp.owns (h : Hp w0 w E) (k : Nat) {v : Value} {e : TypeId} {sz n : Nat} {xs : List Value} (hk : E[k]? = some (.own v e sz n xs)) : w.ownsRow w0.heap.size e sz v n xs := h.mem hk
theorem Hp.name (h : Hp w0 w E) : ∃ w2, w = w2 ∧ Hp w0 w2 E := ⟨w, rfl, h⟩
theorem Hp.apart (h : Hp w0 w E) {i j : Nat} {p q : Ent} (hi : E[i]? = some p) (hj : E[j]? = some q) (hne : i ≠ j) {g : Nat} (hp : p.blk = some g) : q.blk ≠ some g := by
  intro hq
  have hd := h.dis
  clear h
  induction E generalizing i j with
  | nil => simp at hi
  | cons e E ih =>
    have hmem : ∀ {k : Nat} {r : Ent}, E[k]? = some r → r.blk = some g → g ∈ E.filterMap Ent.blk := fun hk hr => List.mem_filterMap.2 ⟨_, List.mem_of_getElem? hk, hr⟩
    have hd2 : (E.filterMap Ent.blk).Nodup := by
      rw [List.filterMap_cons] at hd
      split at hd
      · exact hd
      · exact (List.nodup_cons.1 hd).2
    match i, j with
    | 0, 0 => exact hne rfl
    | 0, j + 1 =>
      simp at hi hj
      subst hi
      rw [List.filterMap_cons, hp] at hd
      exact (List.nodup_cons.1 hd).1 (hmem hj hq)
    | i + 1, 0 =>
      simp at hi hj
      subst hj
      rw [List.filterMap_cons, hq] at hd
      exact (List.nodup_cons.1 hd).1 (hmem hi hp)
    | i + 1, j + 1 => exact ih (by simpa using hi) (by simpa using hj) (by omega) hd2
theorem Hp.ne (h : Hp w0 w E) (i j : Nat) {g g' : Nat} {t t' : TypeId} {cs cs' : List Value} (hi : E[i]? = some (.box g t cs)) (hj : E[j]? = some (.box g' t' cs')) (hne : i ≠ j) : g ≠ g' := fun e => h.apart hi hj hne (g := g) rfl (by rw [e]; rfl)
theorem perm_set {α : Type} : ∀ {l : List α} {k : Nat} {a b : α}, l[k]? = some a → ∃ r, l.Perm (a :: r) ∧ (l.set k b).Perm (b :: r)
  | [], k, a, b, h => by simp at h
  | x :: l, 0, a, b, h => by
    simp at h
    subst h
    exact ⟨l, List.Perm.refl _, List.Perm.refl _⟩
  | x :: l, k + 1, a, b, h => by
    obtain ⟨r, h1, h2⟩ := perm_set (b := b) (show l[k]? = some a by simpa using h)
    exact ⟨x :: r, (h1.cons x).trans (List.Perm.swap a x r), (h2.cons x).trans (List.Perm.swap b x r)⟩
theorem Hp.perm (h : Hp w0 w E) (hp : E.Perm E') : Hp w0 w E' :=
  ⟨h.bel, fun p hp' => h.all p (hp.mem_iff.2 hp'), (hp.filterMap _).nodup_iff.1 h.dis⟩
theorem Hp.sub (h : Hp w0 w E) (hs : E'.Sublist E) : Hp w0 w E' :=
  ⟨h.bel, fun p hp => h.all p (hs.mem hp), h.dis.sublist (hs.filterMap _)⟩
/-- The first entry turns: its block is written, or a new one is made. -/
theorem Hp.turn {p p' : Ent} (h : Hp w0 w (p :: E)) (hg : w.grownBy w' p.blk) (hp : p'.holds w0.heap.size w') (hb : ∀ g, p'.blk = some g → p.blk = some g ∨ w.heap.size ≤ g) : Hp w0 w' (p' :: E) := by
  have hfar : ∀ q ∈ E, ∀ g, q.blk = some g → p.blk ≠ some g := by
    intro q hq g hqg hpg
    obtain ⟨k, hk⟩ := List.getElem?_of_mem hq
    exact h.apart (i := 0) (j := k + 1) rfl (by simpa using hk) (by omega) hpg hqg
  have hlt : ∀ q ∈ E, ∀ g, q.blk = some g → g < w.heap.size := fun q hq g hqg => (Ent.lt (h.all q (by simp [hq])) hqg).2
  refine ⟨h.bel.grown hg h.bel.size (fun k hk => (Ent.lt (h.all p (by simp)) hk).1), ?_, ?_⟩
  · intro q hq
    rcases List.mem_cons.1 hq with rfl | hq
    · exact hp
    · exact Ent.kept (h.all q (by simp [hq])) hg (hfar q hq)
  · have hd : (E.filterMap Ent.blk).Nodup := h.dis.sublist ((List.sublist_cons_self p E).filterMap _)
    rw [List.filterMap_cons]
    split
    · exact hd
    · rename_i g hpg
      refine List.nodup_cons.2 ⟨fun hm => ?_, hd⟩
      obtain ⟨q, hq, hqg⟩ := List.mem_filterMap.1 hm
      rcases hb g hpg with e | e
      · exact hfar q hq g hqg e
      · have := hlt q hq g hqg; omega
theorem Hp.step {p p' : Ent} (h : Hp w0 w E) (k : Nat) (hk : E[k]? = some p) (hg : w.grownBy w' p.blk) (hp : p'.holds w0.heap.size w') (hb : ∀ g, p'.blk = some g → p.blk = some g ∨ w.heap.size ≤ g) : Hp w0 w' (E.set k p') := by
  obtain ⟨r, h1, h2⟩ := perm_set (b := p') hk
  exact ((h.perm h1).turn hg hp hb).perm h2.symm
/-- A new entry. -/
theorem Hp.more {p : Ent} (h : Hp w0 w E) (hg : w.grownBy w' none) (hp : p.holds w0.heap.size w') (hb : ∀ g, p.blk = some g → w.heap.size ≤ g) : Hp w0 w' (p :: E) := by
  have h' : Hp w0 w (.own (.slice none 0 0) 0 1 0 [] :: E) := ⟨h.bel, by
    intro q hq
    rcases List.mem_cons.1 hq with rfl | hq
    · exact own_nil _ _ _ _
    · exact h.all q hq, by rw [List.filterMap_cons_none rfl]; exact h.dis⟩
  exact h'.turn hg hp (fun g hg => .inr (hb g hg))
theorem Hp.moreR {p : Ent} (h : Hp w0 w E) (hg : w.grownBy w' none) (hp : p.holds w0.heap.size w') (hb : ∀ g, p.blk = some g → w.heap.size ≤ g) : Hp w0 w' (E ++ [p]) :=
  (h.more hg hp hb).perm (List.perm_append_comm (l₁ := [p]))
theorem grown_of_below (hb : Below w.heap.size w w') : w.grownBy w' none := ⟨hb.os, hb.tape, hb.output, hb.size, fun k hk _ => hb.block k hk⟩
theorem Hp.new (h : Hp w0 w E) (g : Nat) (hg : w.heap.size = g) (t : TypeId) (cs : List Value) : Hp w0 (w.alloc (.cells cs.toArray t)) (E ++ [.box g t cs]) := by
  refine h.moreR (World.grownBy_alloc w _ _) ⟨by have := h.bel.size; omega, by subst hg; exact Blk.new _ _ _⟩ ?_
  intro k hk
  obtain rfl : g = k := by simpa [Ent.blk] using hk
  exact Nat.le_of_eq hg
theorem Hp.newL (h : Hp w0 w E) (g : Nat) (hg : w.heap.size = g) (t : TypeId) (cs : List Value) : Hp w0 (w.alloc (.cells cs.toArray t)) (.box g t cs :: E) :=
  (h.new g hg t cs).perm (List.perm_append_comm (l₂ := [_]))
theorem own_types {b b' : Nat} {e e' : TypeId} {sz sz' n n' : Nat} {v v' : Value} {xs xs' : List Value} (h : w.ownsRow b e sz v n xs) (h' : w.ownsRow b' e' sz' v' n' xs') (hne : e ≠ e') {g : Nat} (hg : v.ownBlock = some g) : v'.ownBlock ≠ some g := by
  intro hg'
  rcases h.2 with ⟨rfl, _⟩ | ⟨b1, cap, cur, rfl, _, hb, _⟩
  · cases hg
  · rcases h'.2 with ⟨rfl, _⟩ | ⟨b2, cap', cur', rfl, _, hb', _⟩
    · cases hg'
    · obtain rfl : b1 = g := by simpa [Value.ownBlock] using hg
      obtain rfl : b2 = b1 := by simpa [Value.ownBlock] using hg'
      rw [hb] at hb'
      injection hb' with hb'
      injection hb' with _ he
      exact hne he
theorem grown_setCell (w : World) (a : Addr) (u : Value) : w.grownBy (w.setCell a u) (some a.block) :=
  ⟨rfl, rfl, rfl, by simp [World.setCell], fun k _ hne => Below.heap_setCell w a u k (fun e => hne (by rw [e]))⟩
theorem Hp.set (h : Hp w0 w E) (k i : Nat) (u : Value) {g : Nat} {t : TypeId} {cs : List Value} (hk : E[k]? = some (.box g t cs)) : Hp w0 (w.setCell ⟨g, i, none⟩ u) (E.set k (.box g t (cs.set i u))) :=
  h.step k hk (grown_setCell w _ u) ⟨h.ge k hk, by have := (h.blk k hk).set_ i u; simpa using this⟩ (fun _ h => .inl h)
/-- A callee's own slice, new behind the call. -/
theorem Hp.got (h : Hp w0 w E) (hb : Below w.heap.size w w') {v : Value} {e : TypeId} {sz n : Nat} {xs : List Value} (ho : w'.ownsRow w.heap.size e sz v n xs) : Hp w0 w' (E ++ [.own v e sz n xs]) :=
  h.moreR (grown_of_below hb) (own_lower ho h.bel.size) (fun g hg => (ho.lt g hg).1)
theorem Hp.got2 (h : Hp w0 w E) (hb : Below w.heap.size w w') {v v' : Value} {e e' : TypeId} {sz sz' n n' : Nat} {xs xs' : List Value} (ho : w'.ownsRow w.heap.size e sz v n xs) (ho' : w'.ownsRow w.heap.size e' sz' v' n' xs') (hne : e ≠ e') : Hp w0 w' (E ++ [.own v e sz n xs, .own v' e' sz' n' xs']) := by
  have h1 := h.got hb ho
  have h2 : Hp w0 w' (.own v' e' sz' n' xs' :: (E ++ [.own v e sz n xs])) := by
    refine ⟨h1.bel, ?_, ?_⟩
    · intro q hq
      rcases List.mem_cons.1 hq with rfl | hq
      · exact own_lower ho' h.bel.size
      · exact h1.all q hq
    · rw [List.filterMap_cons]
      split
      · exact h1.dis
      · rename_i g hg
        refine List.nodup_cons.2 ⟨fun hm => ?_, h1.dis⟩
        obtain ⟨q, hq, hqg⟩ := List.mem_filterMap.1 hm
        rcases List.mem_append.1 hq with hq | hq
        · have := (Ent.lt (h.all q hq) hqg).2
          have := (ho'.lt g hg).1
          omega
        · obtain rfl : q = .own v e sz n xs := by simpa using hq
          exact own_types ho ho' hne hqg hg
  refine h2.perm ?_
  have := List.perm_append_comm (l₁ := [Ent.own v' e' sz' n' xs']) (l₂ := E ++ [.own v e sz n xs])
  simpa using this
theorem Hp.nil_ (h : Hp w0 w E) (e : TypeId) (sz : Nat) : Hp w0 w (E ++ [.own (.slice none 0 0) e sz 0 []]) :=
  h.moreR (w' := w) ⟨rfl, rfl, rfl, Nat.le_refl _, fun _ _ _ => rfl⟩ (own_nil _ _ _ _) (fun g hg => by cases hg)
/-- What the call's own slice reads as. -/
theorem Hp.rd (h : Hp w0 w E) (k : Nat) {A : Option Addr} {c : Nat} {e : TypeId} {sz n : Nat} {xs : List Value} (hk : E[k]? = some (.own (.slice A n c) e sz n xs)) : Rd w w.heap.size sz A n xs := Rd.of_own (h.owns k hk)
/-- What came in reads as it did. -/
theorem Hp.old (h : Hp w0 w E) {sz n : Nat} {A : Option Addr} {xs : List Value} (hr : Rd w0 w0.heap.size sz A n xs) : Rd w w.heap.size sz A n xs := (hr.below h.bel).more h.bel.size
theorem Hp.app {v v' : Value} {e : TypeId} {sz n n' : Nat} {xs xs' : List Value} (h : Hp w0 w E) (k : Nat) (hk : E[k]? = some (.own v e sz n xs)) (hg : w.grownBy w' v.ownBlock) (ho : w'.ownsRow w0.heap.size e sz v' n' xs') (hat : v'.ownBlock = v.ownBlock ∨ ∀ g, v'.ownBlock = some g → w.heap.size ≤ g) : Hp w0 w' (E.set k (.own v' e sz n' xs')) :=
  h.step k hk hg ho (fun g hg' => by rcases hat with e | e
                                     · exact .inl (e.symm.trans hg')
                                     · exact .inr (e g hg'))
theorem Hp.drop1 (h : Hp w0 w E) (k : Nat) : Hp w0 w (E.eraseIdx k) := h.sub (List.eraseIdx_sublist E k)
theorem Hp.put (h : Hp w0 w E) (k j : Nat) (u : Value) {g n c : Nat} {e : TypeId} {sz : Nat} {xs : List Value} (hk : E[k]? = some (.own (.slice (some ⟨g, 0, none⟩) n c) e sz n xs)) : Hp w0 (w.setCell ⟨g, j, none⟩ u) (E.set k (.own (.slice (some ⟨g, 0, none⟩) n c) e sz n (xs.set j u))) := by
  have hs := (h.owns k hk).stored j u
  exact h.step k hk hs.2 hs.1 (fun q hq => .inl hq)
theorem Hp.ownCell (h : Hp w0 w E) (k j : Nat) {g n c : Nat} {e : TypeId} {sz : Nat} {xs : List Value} {u : Value} (hk : E[k]? = some (.own (.slice (some ⟨g, 0, none⟩) n c) e sz n xs)) (hj : xs[j]? = some u) : w.cell? ⟨g, j, none⟩ = some u := by
  have := (h.owns k hk).cells (g := g) rfl j u hj
  rwa [add_mk, Nat.zero_add] at this
theorem Hp.ownFrozen (h : Hp w0 w E) (k j : Nat) {g n c : Nat} {e : TypeId} {sz : Nat} {xs : List Value} (hk : E[k]? = some (.own (.slice (some ⟨g, 0, none⟩) n c) e sz n xs)) : w.frozen? ⟨g, j, none⟩ = false := (h.owns k hk).frozenAt j
theorem news_blk {g : Nat} {t : TypeId} {us : List Value} (h : Blk w g t us.toArray) : ∀ j u, us[j]? = some u → w.cell? ((⟨g, 0, none⟩ : Addr).add j) = some u := by
  intro j u hu
  rw [add_mk, Nat.zero_add, h.cell]
  simpa using hu
theorem own_blk {b g : Nat} {e : TypeId} {sz n c : Nat} {xs : List Value} (h : w.ownsRow b e sz (.slice (some ⟨g, 0, none⟩) n c) n xs) : ∃ cur, Blk w g e cur ∧ b ≤ g ∧ n ≤ c ∧ c ≤ maxLen ∧ cur.size = c * sz ∧ cur.toList.take (n * sz) = xs := by
  rcases h.2 with ⟨h', _⟩ | ⟨g', cap, cur, h', hb, hg, h1, h2, h3, h4⟩
  · cases h'
  · injection h' with e1 e2 e3
    injection e1 with e1
    injection e1 with e1
    subst e1 e3
    exact ⟨cur, hg, hb, h1, h2, h3, h4⟩
theorem own_of_blk {b g : Nat} {e : TypeId} {sz n c : Nat} {xs : List Value} {cur : Array Value} (h : Blk w g e cur) (hb : b ≤ g) (h1 : n ≤ c) (h2 : c ≤ maxLen) (h3 : cur.size = c * sz) (h4 : cur.toList.take (n * sz) = xs) : w.ownsRow b e sz (.slice (some ⟨g, 0, none⟩) n c) n xs := by
  refine ⟨?_, .inr ⟨g, c, cur, rfl, hb, h, h1, h2, h3, h4⟩⟩
  rw [← h4, List.length_take]
  simp only [Array.length_toList]
  rw [h3]
  exact Nat.min_eq_left (Nat.mul_le_mul_right _ h1)
theorem own_some {b : Nat} {e : TypeId} {sz n c : Nat} {A : Option Addr} {xs : List Value} (h : w.ownsRow b e sz (.slice A n c) n xs) (hn : 0 < n) : ∃ g, A = some ⟨g, 0, none⟩ := by
  obtain ⟨g, cap, hv, _⟩ := h.form hn
  injection hv with hv
  exact ⟨g, hv⟩
end
end Go.Proofs.Ytefdblaolmckmaa
