/- The walk of store.Of. Right stores: what the functions that change one need to know. The walk of store.place. The walk of store.change. The walk of slices.Insert at []api.Row: one element put in, all roads. The walks of cmp.Compare and slices.BinarySearchFunc at rows. A set of ints as a map that the call itself makes; the walk of plain.Next. The walks of plain.find and Get. The walks of plain.Get and slices.Clone. The walk of plain.Own. The walk of plain.Spawn: the roads that end in an error. The walks of what becomes of a row: the closures of plain.Kill, Put and Drop. -/
import Derived.Deep.RegionHeld3
import Derived.Deep.RegionLaw
import Derived.Laws.AppendOwnNone
import Derived.Deep.QuietTactic
import Derived.BigQuiet
import Derived.Test.YtefdblaolmckmabGreatStoI
import Derived.Test.YtefdblaolmckmabGreatStoR
import Derived.Test.YtefdblaolmckmabGreatBSortTRToStoO
import Derived.Test.YtefdblaolmckmabGreatBSpecVToStoA
import Derived.Test.YtefdblaolmckmabGreatBPosKToInsB
import Derived.Test.YtefdblaolmckmabGreatBStoBToKg
import Derived.Test.YtefdblaolmckmabGreatBSpecOToSpecR
import Derived.Test.YtefdblaolmckmabGreatBPlainAToHp
import Derived.Test.YtefdblaolmckmabGreatBRowToInv
namespace Go.Proofs.YtefdblaolmckmabGreat
open Go.RowKit
open Brood
set_option linter.unusedVariables false
set_option linter.unusedSimpArgs false
theorem flat_len_G {rows : List BRow} {gens : List Int} (h : RightW rows gens) {k : Nat} (hk : k ≤ rows.length) : (ofG (rows.take k)).length ≤ 60 ∧ ∀ g ∈ ofG (rows.take k), g.rs.length ≤ 60 := by
  have hr := ofG_rep h.rise h.row k hk
  have hl := hr.perm.length_eq
  have h60 := h.rows_le; have hg := h.len
  rw [List.length_take] at hl
  have key : ∀ G : List Grp, (∀ g ∈ G, g.rs ≠ []) → G.length ≤ (flatG G).length ∧ ∀ g ∈ G, g.rs.length ≤ (flatG G).length := by
    intro G
    induction G with
    | nil => intro _; simp [flatG]
    | cons a l ih =>
      intro hf
      have ⟨h1, h2⟩ := ih (fun g hg => hf g (by simp [hg]))
      have ha := List.length_pos_iff.2 (hf a (by simp))
      have e : (flatG (a :: l)).length = a.rs.length + (flatG l).length := by simp [flatG]
      refine ⟨by rw [e, List.length_cons]; omega, fun g hg => ?_⟩
      rcases List.mem_cons.1 hg with rfl | hg
      · omega
      · have := h2 g hg; omega
  have ⟨h1, h2⟩ := key _ hr.ok.full
  exact ⟨by omega, fun g hg => by have := h2 g hg; omega⟩
def ofV (rows : List BRow) (gens : List Int) : List BTab × List Int := if (worldErr ⟨rows, gens⟩).1 ≠ 0 then ([], []) else (tabsW rows, gens)
def fV (e : Int × Int) : Value := .agg #[.int .i64 e.1, .int .i64 e.2]
theorem rowsFrom_snd (gens : List Int) : ∀ (l : List BRow) (i : Nat) (p : Option Int), (rowsFrom gens i p l).1 = 0 → (rowsFrom gens i p l).2 = 0
  | [], _, _, _ => rfl
  | r :: l, i, p, h => by
    unfold rowsFrom at h ⊢
    split at h <;> rename_i h1
    · exact absurd h h1
    rw [if_neg h1]
    split at h <;> rename_i h2
    · simp at h
    rw [if_neg h2]
    split at h <;> rename_i h3
    · simp at h
    rw [if_neg h3]
    split at h <;> rename_i h4
    · simp at h
    rw [if_neg h4]
    exact rowsFrom_snd gens l _ _ h
theorem worldErr_snd {rows : List BRow} {gens : List Int} (h : (worldErr ⟨rows, gens⟩).1 = 0) : (worldErr ⟨rows, gens⟩).2 = 0 := by
  unfold worldErr at h ⊢
  split at h <;> rename_i h1
  · exact absurd h h1
  · rw [if_neg h1]
    exact rowsFrom_snd _ _ _ _ h
def GotSt (w w' : World) (v : Value) (T : List BTab) (gens : List Int) : Prop := ∃ A c l Ag cg, v = .agg #[.slice A l.length c, .slice Ag gens.length cg] ∧ l.map tabOf = T ∧ Hp w w' (.own (.slice Ag gens.length cg) 3 1 gens.length (ints gens) :: tabsE A c l)
theorem GotSt.bel {w w' : World} {v : Value} {T : List BTab} {gens : List Int} (h : GotSt w w' v T gens) : Below w.heap.size w w' := by
  obtain ⟨A, c, l, Ag, cg, rfl, rfl, h⟩ := h
  exact h.bel
theorem GotSt.zero {w w' : World} (h : Below w.heap.size w w') : GotSt w w' (.agg #[.slice none 0 0, .slice none 0 0]) [] [] := by
  have h0 : Hp w w' [] := ⟨h, by simp, by simp⟩
  exact ⟨none, 0, [], none, 0, rfl, rfl, (h0.nil_ 3 1).nil_ 100 3⟩
def ofE (w : World) (Ar : Option Addr) (n cr : Nat) (Ag : Option Addr) (m cg : Nat) (b2 : Nat) (e1 e2 : Int) (Ag2 : Option Addr) (cg2 : Nat) (gens : List Int) : List Ent :=
  [.box w.heap.size 64 [.slice Ar n cr, .slice Ag m cg], .box (w.heap.size + 1) 40 [.slice none 0 0, .slice none 0 0], .box (w.heap.size + 1 + 1) 48 [.int .i64 0, .int .i64 0], .box b2 48 [.int .i64 e1, .int .i64 e2], .own (.slice Ag2 gens.length cg2) 3 1 gens.length (ints gens)]
set_option maxRecDepth 20000 in
set_option maxHeartbeats 12800000 in
theorem sof_any (rows : List BRow) (gens : List Int) (Ar : Option Addr) (cr : Nat) (Ag : Option Addr) (cg : Nat) (hlr : rows.length ≤ 9223372036854775807) (hng : Ag = none → cg = 0 ∧ gens = []) (w : World) (hr : RdR w w.heap.size Ar rows) (hg : RdG w w.heap.size Ag gens) :
    Calls Tryz.prog 14 #[.agg #[.slice Ar rows.length cr, .slice Ag gens.length cg]] w fun e w' => ∃ v, e = .returned (.tuple #[v, fV (worldErr ⟨rows, gens⟩)]) ∧ GotSt w w' v (ofV rows gens).1 (ofV rows gens).2 := by
  have hcw := fun W hr hg => pwrong_any rows gens Ar cr Ag cg hlr W hr hg
  have hcwh := Lib.hid hcw
  have hright : Hid ((worldErr ⟨rows, gens⟩).1 = 0 → RightW rows gens) := Lib.hid (right_iff rows gens).1
  have hof : Hid (ofV rows gens = if (worldErr ⟨rows, gens⟩).1 ≠ 0 then ([], []) else (tabsW rows, gens)) := Lib.hid rfl
  clear hcw
  have hz2 : Hid ((worldErr ⟨rows, gens⟩).1 = 0 → (worldErr ⟨rows, gens⟩).2 = 0) := Lib.hid (fun h0 => worldErr_snd h0)
  obtain ⟨E, hE⟩ : ∃ E, E = worldErr ⟨rows, gens⟩ := ⟨_, rfl⟩
  rw [← hE] at hcwh hright hof hz2 ⊢
  clear hE
  obtain ⟨e1, e2⟩ := E
  dsimp only at hright hof hz2
  have H := (((Hp.start w).new w.heap.size rfl 64 [.slice Ar rows.length cr, .slice Ag gens.length cg]).new (w.heap.size + 1) (by simp) 40 [.slice none 0 0, .slice none 0 0]).new (w.heap.size + 1 + 1) (by simp) 48 [.int .i64 0, .int .i64 0]
  replace H : Hp w _ [.box w.heap.size 64 [.slice Ar rows.length cr, .slice Ag gens.length cg], .box (w.heap.size + 1) 40 [.slice none 0 0, .slice none 0 0], .box (w.heap.size + 1 + 1) 48 [.int .i64 0, .int .i64 0]] := H
  have a0 := H.cell 0 0 rfl rfl; have a1 := H.cell 0 1 rfl rfl
  go_enter Tryz.func14, Tryz.ntmps14
  go_wp2_with fail
  obtain ⟨w1, hw1, H⟩ := H.name
  rw [hw1]
  clear hw1 a0 a1
  refine (hcwh.out w1 (H.old hr) (H.old hg)).mono ?_
  rintro e w2 ⟨rfl, hb⟩
  have H2 := H.grow hb
  clear H hb hcwh
  have H3 := H2.new w2.heap.size rfl 48 [.int .i64 e1, .int .i64 e2]
  replace H3 : Hp w _ [.box w.heap.size 64 [.slice Ar rows.length cr, .slice Ag gens.length cg], .box (w.heap.size + 1) 40 [.slice none 0 0, .slice none 0 0], .box (w.heap.size + 1 + 1) 48 [.int .i64 0, .int .i64 0], .box w2.heap.size 48 [.int .i64 e1, .int .i64 e2]] := H3
  by_cases he : e1 = 0
  case neg =>
    have he' : (e1 != 0) = true := bne_iff_ne.2 he
    have hof2 : Hid (ofV rows gens = ([], [])) := Lib.hid (by rw [hof.out, if_pos he])
    clear hright hof he
    go_upto_region 3 with fail
    obtain ⟨w3, hw3, H3⟩ := H3.name
    rw [hw3]
    clear hw3
    have n13 := H3.ne 1 3 rfl rfl (by omega); have n23 := H3.ne 2 3 rfl rfl (by omega); have n31 := n13.symm; have n32 := n23.symm
    have q0 := H3.cell 1 0 rfl rfl; have q1 := H3.cell 1 1 rfl rfl; have q2 := H3.cell 2 0 rfl rfl; have q3 := H3.cell 2 1 rfl rfl
    have y0 := H3.frozen 1 0 rfl; have y1 := H3.frozen 1 1 rfl; have y2 := H3.frozen 2 0 rfl; have y3 := H3.frozen 2 1 rfl
    have c0 := H3.cell 3 0 rfl rfl; have c1 := H3.cell 3 1 rfl rfl
    have H4 := ((((H3.set 1 0 (.slice none 0 0) rfl).set 1 1 (.slice none 0 0) rfl).set 2 0 (.int .i64 e1) rfl).set 2 1 (.int .i64 e2) rfl).drew
    have H5 := ((((H3.set 2 0 (.int .i64 e1) rfl).set 2 1 (.int .i64 e2) rfl).set 1 0 (.slice none 0 0) rfl).set 1 1 (.slice none 0 0) rfl).drew
    have H4h := Lib.hid H4; have H5h := Lib.hid H5
    have hz := H2.bel.size
    clear H2 H3 H4 H5
    go_region_held3 (fun w' => w'.cell? ⟨w2.heap.size, 0, none⟩ = some (.int .i64 e1) ∧ w'.cell? ⟨w2.heap.size, 1, none⟩ = some (.int .i64 e2)) (go_keep) (fail)
    all_goals go_wp2_with fail
    · have d0 := H4h.out.cell 1 0 rfl rfl; have d1 := H4h.out.cell 1 1 rfl rfl; have d2 := H4h.out.cell 2 0 rfl rfl; have d3 := H4h.out.cell 2 1 rfl rfl
      refine bodyPost_ret (v := .tuple #[.agg #[.slice none 0 0, .slice none 0 0], .agg #[.int .i64 e1, .int .i64 e2]]) (by simp [results, d0, d1, d2, d3, Tryz.results14, go_sem]) rfl ⟨_, rfl, by rw [hof2.out]; exact GotSt.zero H4h.out.bel⟩
  case pos =>
    subst he
    have hR := hright.out rfl
    obtain rfl : e2 = 0 := hz2.out rfl
    have he' : ((0 : Int) != 0) = false := rfl
    have hof2 : Hid (ofV rows gens = (tabsW rows, gens)) := Lib.hid (by rw [hof.out, if_neg (by simp)])
    clear hright hof
    have h60 := hR.rows_le; have hg60 := hR.len
    have hRh := Lib.hid hR
    clear hR
    have H4 := H3.new (w2.heap.size + 1) (by simp) 108 [.slice none 0 0, .slice none 0 0]
    replace H4 : Hp w _ [.box w.heap.size 64 [.slice Ar rows.length cr, .slice Ag gens.length cg], .box (w.heap.size + 1) 40 [.slice none 0 0, .slice none 0 0], .box (w.heap.size + 1 + 1) 48 [.int .i64 0, .int .i64 0], .box w2.heap.size 48 [.int .i64 0, .int .i64 0], .box (w2.heap.size + 1) 108 [.slice none 0 0, .slice none 0 0]] := H4
    have c0 := H3.cell 3 0 rfl rfl
    have a0 := H4.cell 0 0 rfl rfl; have a1 := H4.cell 0 1 rfl rfl
    go_wp2_with fail
    obtain ⟨w4, hw4, H4⟩ := H4.name
    rw [hw4]
    clear hw4 c0 a0 a1 H3 H2
    generalize w2.heap.size = b2 at *
    have hcl := Lib.hid (cloneG_any gens Ag cg (by omega) hng w4 (H4.old hg))
    refine hcl.out.mono ?_
    rintro e w5 ⟨v, rfl, hown, hb⟩
    obtain ⟨Ag2, cg2, rfl, _, _⟩ := own_shape hown
    have H5 := H4.got hb hown
    have x0 := H5.frozen 4 1 rfl; have x1 := H5.cell 4 1 rfl rfl; have a0 := H5.cell 0 0 rfl rfl; have a1 := H5.cell 0 1 rfl rfl
    have n0 := H5.ne 0 4 rfl rfl (by omega); have n1 := n0.symm
    replace H5 := H5.set 4 1 (.slice Ag2 gens.length cg2) rfl
    clear H4 hcl hown hb
    replace H5 : Hp w _ [.box w.heap.size 64 [.slice Ar rows.length cr, .slice Ag gens.length cg], .box (w.heap.size + 1) 40 [.slice none 0 0, .slice none 0 0], .box (w.heap.size + 1 + 1) 48 [.int .i64 0, .int .i64 0], .box b2 48 [.int .i64 0, .int .i64 0], kBox (b2 + 1) none 0 0 (.slice Ag2 gens.length cg2), .own (.slice Ag2 gens.length cg2) 3 1 gens.length (ints gens)] := H5
    have H6 : Hp w _ (kE (b2 + 1) none 0 [] (.slice Ag2 gens.length cg2) (ofE w Ar rows.length cr Ag gens.length cg b2 0 0 Ag2 cg2 gens)) := (H5.nil_ 100 3).perm (by
      refine List.Perm.trans (l₂ := kBox (b2 + 1) none 0 0 (.slice Ag2 gens.length cg2) :: (ofE w Ar rows.length cr Ag gens.length cg b2 0 0 Ag2 cg2 gens ++ [outE none 0 []])) ?_ (List.Perm.cons _ ?_)
      · exact (List.perm_middle (l₁ := [_, _, _, _]))
      · exact List.perm_append_comm)
    clear H5
    go_wp2_with fail
    go_loopw [26] (fun q wr => ∃ k : Nat, k ≤ rows.length ∧ q = .int .i64 k ∧ ∃ A' c' l', Hid (l'.map tabOf = (ofG (rows.take k)).map tabG) ∧ Hp w wr (kE (b2 + 1) A' c' l' (.slice Ag2 gens.length cg2) (ofE w Ar rows.length cr Ag gens.length cg b2 0 0 Ag2 cg2 gens))) (fun q _ => rows.length - (intOf q).toNat)
    case atStart => exact ⟨0, by omega, rfl, none, 0, [], Lib.hid rfl, H6⟩
    case round =>
      clear H6
      obtain ⟨k, hk, rfl, A', c', l', hfit, H⟩ := hrel
      have a0 := (kE_last H).cell 0 0 rfl rfl
      by_cases hlt : k < rows.length
      · have hRep := ofG_rep hRh.out.rise hRh.out.row k hk
        have hln := flat_len_G hRh.out hk
        have hset := hRh.out.set_ _ (List.getElem_mem hlt)
        obtain ⟨b, off, rfl, hbw, hat⟩ := hr.at_ hlt
        have hins := Lib.hid (kinsert_any (ofG (rows.take k)) hRep.ok.up hRep.ok.rise hRep.clean (by omega) (fun g hg => by have := hln.2 g hg; omega) rows[k] hset b (off + k * 11) l' A' c' (.slice Ag2 gens.length cg2) (b2 + 1) (ofE w (some ⟨b, off, none⟩) rows.length cr Ag gens.length cg b2 0 0 Ag2 cg2 gens) hfit.out w wr (fun w' h' => ⟨hat.below h'.bel hbw, Nat.lt_of_lt_of_le hbw h'.bel.size⟩) H)
        rw [← ofG_take hlt] at hins
        clear hRep hln hset hat
        have i0 : (0 : Int) ≤ (k : Int) := by omega
        have i1 : (k : Int) < (rows.length : Int) := by omega
        go_wp2_with fail
        refine hins.out.mono ?_
        rintro e w6 ⟨rfl, A3, c3, l3, hf3, H6⟩
        clear hins
        go_wp2_with fail
        go_roundw
        case rel => exact ⟨k + 1, by omega, by go_num, A3, c3, l3, Lib.hid hf3, H6⟩
        case measure => simp [intOf]; omega
      · obtain rfl : k = rows.length := by omega
        rw [List.take_length] at hfit
        have k0 := H.cell 0 0 rfl rfl; have k1 := H.cell 0 1 rfl rfl
        have HP : Hp w wr (ofE w Ar rows.length cr Ag gens.length cg b2 0 0 Ag2 cg2 gens ++ ([kBox (b2 + 1) A' l'.length c' (.slice Ag2 gens.length cg2), outE A' c' l'] ++ l'.flatMap tabE)) := H.perm (by
          unfold kE
          rw [← List.append_assoc]
          exact List.perm_append_comm)
        clear H
        have q0 := HP.cell 1 0 rfl rfl; have q1 := HP.cell 1 1 rfl rfl; have q2 := HP.cell 2 0 rfl rfl; have q3 := HP.cell 2 1 rfl rfl
        have y0 := HP.frozen 1 0 rfl; have y1 := HP.frozen 1 1 rfl; have y2 := HP.frozen 2 0 rfl; have y3 := HP.frozen 2 1 rfl
        have HS := (((HP.set 1 0 (.slice A' l'.length c') rfl).set 1 1 (.slice Ag2 gens.length cg2) rfl).set 2 0 (.int .i64 0) rfl).set 2 1 (.int .i64 0) rfl
        have d0 := HS.cell 1 0 rfl rfl; have d1 := HS.cell 1 1 rfl rfl; have d2 := HS.cell 2 0 rfl rfl; have d3 := HS.cell 2 1 rfl rfl
        have HSh := Lib.hid HS
        have hfith := hfit
        clear HP HS hfit
        go_wp2_with fail
        refine bodyPost_ret (v := .tuple #[.agg #[.slice A' l'.length c', .slice Ag2 gens.length cg2], .agg #[.int .i64 0, .int .i64 0]]) (by simp [results, Tryz.results14, go_sem, d0, d1, d2, d3]) rfl ⟨_, rfl, by rw [hof2.out]; exact ⟨A', c', l', Ag2, cg2, rfl, hfith.out, ((((HSh.out.drop1 5).drop1 3).drop1 2).drop1 1).drop1 0⟩⟩
end Go.Proofs.YtefdblaolmckmabGreat

namespace Go.Proofs.YtefdblaolmckmabGreat
open Go.RowKit
open Brood
set_option linter.unusedVariables false
set_option linter.unusedSimpArgs false
theorem Rep.eq_of {G : List Grp} {rows : List BRow} (h : Rep G rows) : G = ofG rows := by
  refine h.uniq ?_
  have := ofG_rep h.rise (fun r hr => by
    obtain ⟨g, hg, hrg⟩ := List.mem_flatMap.1 (h.perm.mem_iff.2 hr)
    exact h.ok.row g hg r hrg) rows.length (Nat.le_refl _)
  rwa [List.take_length] at this
theorem Rep.sorted {G : List Grp} {rows : List BRow} (h : Rep G rows) : sortK BRow.idx (flatG G) = rows := sort_perm h.perm h.rise
theorem rowAt_box {w : World} {b : Nat} {t : TypeId} {r : BRow} (h : Blk w b t (rowCells r).toArray) : RowAt w b 0 r := by
  intro j u hu
  rw [Nat.zero_add]
  rw [h.cell j]
  simpa using hu
structure SpawnedT where
  tabs : List BTab
  gens : List Int
  i : Int
  g : Int
  err : Int
def spawnT (T : List BTab) (gens : List Int) (has n : Int) : SpawnedT :=
  if (storeErr T gens).1 ≠ 0 then ⟨[], [], 0, 0, (storeErr T gens).1⟩
  else ⟨tabsW (spawnV (worldT T) gens has n).rows, (spawnV (worldT T) gens has n).gens, (spawnV (worldT T) gens has n).i, (spawnV (worldT T) gens has n).g, (spawnV (worldT T) gens has n).err⟩
structure ChangedT where
  tabs : List BTab
  gens : List Int
  err : Int
theorem Ent.lower {w : World} {B C : Nat} {p : Ent} (h : p.holds C w) (hb : B ≤ C) : p.holds B w := by
  cases p with
  | box b t cs => exact ⟨Nat.le_trans hb h.1, h.2⟩
  | own v e sz n xs => exact own_lower h hb
theorem Hp.join {w0 w w' : World} {E E' : List Ent} (h : Hp w0 w E) (h' : Hp w w' E') : Hp w0 w' (E ++ E') := by
  refine ⟨(h.grow h'.bel).bel, ?_, ?_⟩
  · intro p hp
    rcases List.mem_append.1 hp with hp | hp
    · exact (h.grow h'.bel).all p hp
    · exact Ent.lower (h'.all p hp) h.bel.size
  · rw [List.filterMap_append, List.nodup_append]
    refine ⟨h.dis, h'.dis, ?_⟩
    intro a ha b hb e
    subst e
    obtain ⟨p, hp, hpa⟩ := List.mem_filterMap.1 ha
    obtain ⟨q, hq, hqa⟩ := List.mem_filterMap.1 hb
    have h1 := (Ent.lt (h.all p hp) hpa).2
    have h2 := (Ent.lt (h'.all q hq) hqa).1
    omega
theorem right_len {rows : List BRow} {gens : List Int} (h : RightW rows gens) : (ofG rows).length ≤ 60 ∧ (∀ g ∈ ofG rows, g.rs.length ≤ 60) ∧ (flatG (ofG rows)).length ≤ 60 := by
  have h1 := flat_len_G h (Nat.le_refl rows.length)
  rw [List.take_length] at h1
  refine ⟨h1.1, h1.2, ?_⟩
  have := h.rep.perm.length_eq
  have := h.rows_le; have := h.len
  omega
end Go.Proofs.YtefdblaolmckmabGreat

namespace Go.Proofs.YtefdblaolmckmabGreat
open Go.RowKit
open Brood
set_option linter.unusedVariables false
set_option linter.unusedSimpArgs false
def placeB (i g : Int) : Nat → List (List (Int × Int)) → Option (Nat × Nat)
  | _, [] => none
  | k, t :: l => match idxQ (sameB i g) t with
    | some j => some (k, j)
    | none => placeB i g (k + 1) l
theorem placeB_grps (i g : Int) : ∀ (G : List Grp) (k : Nat), placeB i g k (G.map fun t => t.rs.map beOf) = placeG i g k G
  | [], _ => rfl
  | t :: l, k => by
    rw [List.map_cons, placeB, placeG, findR_be, placeB_grps i g l (k + 1)]
    cases findR i g t.rs <;> rfl
def placeV (o : Option (Nat × Nat)) : Value := match o with | some (k, j) => .tuple #[.int .i64 (k : Int), .int .i64 (j : Int), .bool true] | none => .tuple #[.int .i64 0, .int .i64 0, .bool false]
set_option maxRecDepth 20000 in
set_option maxHeartbeats 3200000 in
theorem place_any (l : List TabIn) (A : Option Addr) (c : Nat) (vg : Value) (i g : Int) (hl : l.length ≤ 1000000000) (hs : ∀ t ∈ l, t.bs.length ≤ 1000000000) (pb : Nat) (w : World) (hB : Blk w pb 40 #[.slice A l.length c, vg]) (hR : RdT w w.heap.size A l) :
    Calls Tryz.prog 35 #[.pointer (some ⟨pb, 0, none⟩), .agg #[.int .i64 i, .int .i64 g]] w fun e w' => e = .returned (placeV (placeB i g 0 (l.map TabIn.bs))) ∧ Below w.heap.size w w' := by
  have hsh := Lib.hid hs
  obtain ⟨P, hP⟩ : ∃ P, P = placeB i g 0 (l.map TabIn.bs) := ⟨_, rfl⟩
  rw [← hP]
  have hPh := Lib.hid hP
  clear hs hP
  have HB := (Blk.new w 24 #[.int .i64 i, .int .i64 g])
  have hb0 : Below w.heap.size w (w.alloc (.cells #[.int .i64 i, .int .i64 g] 24)) := (Below.refl _ _).alloc (Nat.le_refl _) _
  have hBl := hB.lt
  have hBa := hB.alloc (.cells #[.int .i64 i, .int .i64 g] 24)
  have a0 := hBa.cell 0
  simp at a0
  go_enter Tryz.func35, Tryz.ntmps35
  go_wp2_with fail
  go_loopw [14] (fun q wr => ∃ k : Nat, k ≤ l.length ∧ q = .int .i64 k ∧ Hid (P = placeB i g k ((l.drop k).map TabIn.bs)) ∧ Below w.heap.size w wr ∧ Blk wr w.heap.size 24 #[.int .i64 i, .int .i64 g]) (fun q _ => l.length - (intOf q).toNat)
  case atStart => exact ⟨0, by omega, rfl, Lib.hid (by rw [hPh.out]; simp), hb0, HB⟩
  case round =>
    clear HB hb0 hBa a0
    obtain ⟨k, hk, rfl, hfr, hbel, HB⟩ := hrel
    by_cases hlt : k < l.length
    · obtain ⟨b1, off, rfl, hb1, e0, e1, e2⟩ := (hR.under hbel (Nat.le_refl _)).at_ hlt
      have hst : Hid ((l.drop k).map TabIn.bs = l[k].bs :: (l.drop (k + 1)).map TabIn.bs) := Lib.hid (by rw [List.drop_eq_getElem_cons hlt]; rfl)
      have hrd := hR.bs _ (List.getElem_mem hlt)
      have hsm := hsh.out _ (List.getElem_mem hlt)
      generalize l[k] = t at *
      obtain ⟨has, bA, bc, bs, cA, cc, cols⟩ := t
      dsimp only at e0 e1 e2 hst hrd hsm
      have i0 : (0 : Int) ≤ (k : Int) := by omega
      have i1 : (k : Int) < (l.length : Int) := by omega
      have hB2 := hB.below hbel hBl
      have hq : Hid (∀ W : World, Below w.heap.size w W → Calls Tryz.prog 80 #[.slice bA bs.length bc, .agg #[.int .i64 i, .int .i64 g]] W fun e w' => e = .returned (.int .i64 (ixV (idxQ (sameB i g) bs))) ∧ Below W.heap.size W w') := Lib.hid fun W hW => idxB_any bs bA bc hsm i g W (Rd.more (Rd.under hrd hW (Nat.le_refl _)) hW.size)
      clear hrd e0 e2
      go_wp2_with fail
      go_cut [8] (fun s wx => s = .int .i64 (ixV (idxQ (sameB i g) bs)) ∧ Below w.heap.size w wx ∧ Blk wx w.heap.size 24 #[.int .i64 i, .int .i64 g])
      case first =>
        clear hfr hst
        go_region_held3 (fun w' => w'.cell? ⟨pb, 0, none⟩ = some (.slice (some ⟨b1, off, none⟩) l.length c) ∧ w'.cell? ⟨b1, off + k * 3 + 1, none⟩ = some (.slice bA bs.length bc) ∧ w'.cell? ⟨w.heap.size, 0, none⟩ = some (.int .i64 i) ∧ w'.cell? ⟨w.heap.size, 1, none⟩ = some (.int .i64 g))
          (exact ⟨hB2.cell 0, e1, HB.cell 0, HB.cell 1⟩)
          (first
            | (go_at_call 80; refine (hq.out _ hbel.drew).mono ?_; rintro e w4 ⟨rfl, hb4⟩; have hb4 := (show Below wr.heap.size wr w4 from (Below.refl _ _).drew.trans hb4); have hB2 := hB2.below hb4 hB2.lt; have HB := HB.below hb4 HB.lt; have e1 := (hb4.cell (p := ⟨b1, off + k * 3 + 1, none⟩) (by have := hbel.size; simp only; omega)).trans e1; have hbel := grow_below hbel hb4))
        go_wp2_with fail
        go_meet
        exact ⟨rfl, hbel, HB⟩
      case rest =>
        clear HB hB2 e1
        obtain ⟨rfl, hbel, HB⟩ := hcut
        cases hix : idxQ (sameB i g) bs with
        | some j =>
          have hf : Hid (P = some (k, j)) := Lib.hid (by rw [hfr.out, hst.out, placeB, hix])
          have hj0 : (0 : Int) ≤ ixV (some j) := Int.natCast_nonneg j
          have hjv : ixV (some j) = (j : Int) := rfl
          rw [hjv] at hj0 ⊢
          clear hjv hix
          go_wp2_with fail
          refine bodyPost_ret (v := .tuple #[.int .i64 (k : Int), .int .i64 (j : Int), .bool true]) (by simp [results, Tryz.results35, go_sem]) rfl ⟨by rw [hf.out]; rfl, hbel⟩
        | none =>
          have hf : Hid (P = placeB i g (k + 1) ((l.drop (k + 1)).map TabIn.bs)) := Lib.hid (by rw [hfr.out, hst.out, placeB, hix])
          have hjv : ixV (none : Option Nat) = -1 := rfl
          rw [hjv]
          clear hjv hix
          go_wp2_with fail
          go_roundw
          case rel => exact ⟨k + 1, by omega, by go_num, hf, hbel, HB⟩
          case measure => simp [intOf]; omega
    · obtain rfl : k = l.length := by omega
      have hf : Hid (P = none) := Lib.hid (by rw [hfr.out, List.drop_length]; rfl)
      go_wp2_with fail
      refine bodyPost_ret (v := .tuple #[.int .i64 0, .int .i64 0, .bool false]) (by simp [results, Tryz.results35, go_sem]) rfl ⟨by rw [hf.out]; rfl, hbel⟩
end Go.Proofs.YtefdblaolmckmabGreat

namespace Go.Proofs.YtefdblaolmckmabGreat
open Go.RowKit
open Brood
set_option linter.unusedVariables false
set_option linter.unusedSimpArgs false
theorem find_row {i g : Int} : ∀ {rows : List BRow} {r : BRow}, rowOf i g rows = some r → ∃ m, findR i g rows = some m ∧ rows[m]? = some r
  | [], r, h => by cases h
  | q :: l, r, h => by
    unfold rowOf at h
    rw [List.find?_cons] at h
    unfold findR
    cases hq : isB i g q with
    | true =>
      rw [hq] at h
      exact ⟨0, by simp, by simpa using h⟩
    | false =>
      rw [hq] at h
      obtain ⟨m, h1, h2⟩ := find_row (rows := l) (r := r) h
      exact ⟨m + 1, by simp [h1], by simpa using h2⟩
theorem find_none {i g : Int} : ∀ {rows : List BRow}, rowOf i g rows = none → findR i g rows = none
  | [], _ => rfl
  | q :: l, h => by
    unfold rowOf at h
    rw [List.find?_cons] at h
    unfold findR
    cases hq : isB i g q with
    | true => rw [hq] at h; cases h
    | false =>
      rw [hq] at h
      simp [find_none (rows := l) h]
theorem Rep.lens {G : List Grp} {rows : List BRow} (h : Rep G rows) : G.length ≤ rows.length ∧ ∀ g ∈ G, g.rs.length ≤ rows.length := by
  have hl := h.perm.length_eq
  have key : ∀ G : List Grp, (∀ g ∈ G, g.rs ≠ []) → G.length ≤ (flatG G).length ∧ ∀ g ∈ G, g.rs.length ≤ (flatG G).length := by
    intro G
    induction G with
    | nil => intro _; simp [flatG]
    | cons a l ih =>
      intro hf
      have ⟨h1, h2⟩ := ih (fun g hg => hf g (by simp [hg]))
      have ha := List.length_pos_iff.2 (hf a (by simp))
      have e : (flatG (a :: l)).length = a.rs.length + (flatG l).length := by simp [flatG]
      refine ⟨by rw [e, List.length_cons]; omega, fun g hg => ?_⟩
      rcases List.mem_cons.1 hg with rfl | hg
      · omega
      · have := h2 g hg; omega
  have ⟨h1, h2⟩ := key _ h.ok.full
  exact ⟨by omega, fun g hg => by have := h2 g hg; omega⟩
def chgW (rows : List BRow) (gens : List Int) (i g : Int) (fr : BRow → BRow × Bool × Int) : ChangedT :=
  match findR i g rows with
  | none => ⟨[], [], 5⟩
  | some m => match rows[m]? with
    | none => ⟨[], [], 5⟩
    | some r => if (fr r).2.2 ≠ 0 then ⟨[], [], (fr r).2.2⟩ else if (fr r).2.1 = true then ⟨tabsW (rows.set m (fr r).1), gens, 0⟩ else ⟨tabsW (rows.eraseIdx m), gens, 0⟩
def chgT (T : List BTab) (gens : List Int) (i g : Int) (fr : BRow → BRow × Bool × Int) : ChangedT :=
  if (storeErr T gens).1 ≠ 0 then ⟨[], [], (storeErr T gens).1⟩ else chgW (worldT T) gens i g fr
def StFn (w0 : World) (F : FuncId) (caps : Array Value) (fr : BRow → BRow × Bool × Int) : Prop :=
  ∀ (w : World) (g : Nat) (r : BRow), Below w0.heap.size w0 w → w0.heap.size ≤ g → Blk w g 114 (rowCells r).toArray → rowErr r = 0 →
    Calls Tryz.prog F (#[.pointer (some ⟨g, 0, none⟩)] ++ caps) w fun e w' => e = .returned (.tuple #[.bool (fr r).2.1, .int .i64 (fr r).2.2]) ∧ w.grownBy w' (some g) ∧ Blk w' g 114 (rowCells (fr r).1).toArray
def FrOk (fr : BRow → BRow × Bool × Int) : Prop := ∀ r, rowErr r = 0 → (fr r).2.2 = 0 → (fr r).2.1 = true → rowErr (fr r).1 = 0 ∧ (fr r).1.idx = r.idx
def scE (b : Nat) (i g : Int) (Ag : Option Addr) (cg : Nat) (gens : List Int) : List Ent :=
  [.box b 24 [.int .i64 i, .int .i64 g], .box (b + 1) 40 [.slice none 0 0, .slice none 0 0], .own (.slice Ag gens.length cg) 3 1 gens.length (ints gens)]
set_option maxRecDepth 20000 in
set_option maxHeartbeats 12800000 in
theorem schange_any (l : List TabIn) (A : Option Addr) (c : Nat) (gens : List Int) (Ag : Option Addr) (cg : Nat) (i g : Int) (hs : StSmall l gens) (F : FuncId) (caps : Array Value) (fr : BRow → BRow × Bool × Int) (w : World) (h : RdSt w w.heap.size ⟨A, c, l, Ag, cg, gens⟩)
    (hF : StFn w F caps fr) (hfr : FrOk fr) (hen : ∀ (args : Array Value) (W : World), (callFunc F args).run Tryz.prog W = .ok (.enter F args) W) :
    Calls Tryz.prog 52 #[.agg #[.slice A l.length c, .slice Ag gens.length cg], .agg #[.int .i64 i, .int .i64 g], .func (.func F) #[] caps] w fun e w' =>
      ∃ v, e = .returned (.tuple #[v, .int .i64 (chgT (l.map tabOf) gens i g fr).err]) ∧ GotSt w w' v (chgT (l.map tabOf) gens i g fr).tabs (chgT (l.map tabOf) gens i g fr).gens := by
  have hE0 : Hid (chgT (l.map tabOf) gens i g fr = if (storeErr (l.map tabOf) gens).1 ≠ 0 then ⟨[], [], (storeErr (l.map tabOf) gens).1⟩ else chgW (worldT (l.map tabOf)) gens i g fr) := Lib.hid rfl
  generalize chgT (l.map tabOf) gens i g fr = E at *
  have hh := Lib.hid h; have hsh := Lib.hid hs; have hFh := Lib.hid hF; have hfrh := Lib.hid hfr
  clear h hs hF hfr
  have H0 := (((Hp.start w).new w.heap.size rfl 40 [.slice A l.length c, .slice Ag gens.length cg]).new (w.heap.size + 1) (by simp) 24 [.int .i64 i, .int .i64 g]).new (w.heap.size + 1 + 1) (by simp) 40 [.slice none 0 0, .slice none 0 0]
  replace H0 : Hp w _ [.box w.heap.size 40 [.slice A l.length c, .slice Ag gens.length cg], .box (w.heap.size + 1) 24 [.int .i64 i, .int .i64 g], .box (w.heap.size + 1 + 1) 40 [.slice none 0 0, .slice none 0 0]] := H0
  have a0 := H0.cell 0 0 rfl rfl; have a1 := H0.cell 0 1 rfl rfl
  go_enter Tryz.func52, Tryz.ntmps52
  go_wp2_with fail
  obtain ⟨w0, hw0, H0⟩ := H0.name
  rw [hw0]; clear hw0 a0 a1
  have hg0 : RdSt w0 w0.heap.size ⟨A, c, l, Ag, cg, gens⟩ := hh.out.hp H0
  refine (swrong_any l A c gens Ag cg hsh.out w0 hg0.tabs hg0.gen hg0.ng).mono ?_
  rintro e w1 ⟨rfl, hb1⟩
  replace H0 := H0.grow hb1
  clear hb1 hg0
  have hrt : Hid ((storeErr (l.map tabOf) gens).1 = 0 → RightW (worldT (l.map tabOf)) gens ∧ l.map tabOf = tabsW (worldT (l.map tabOf))) := Lib.hid store_right
  generalize storeErr (l.map tabOf) gens = F' at *
  obtain ⟨f1, f2⟩ := F'
  have H2 := H0.new _ rfl 48 [.int .i64 f1, .int .i64 f2]
  clear H0
  simp only at hE0 hrt ⊢
  by_cases hf : f1 = 0
  case neg =>
    have hf' : (f1 != 0) = true := by simpa using hf
    have hE : Hid (E = ⟨[], [], f1⟩) := Lib.hid (by rw [hE0.out, if_pos hf])
    clear hE0 hrt
    go_wp2_with fail
    obtain ⟨w2, hw2, H2⟩ := H2.name
    rw [hw2]; clear hw2
    have n13 := H2.ne 2 3 rfl rfl (by omega); have n31 := n13.symm
    have q0 := H2.cell 2 0 rfl rfl; have q1 := H2.cell 2 1 rfl rfl
    have y0 := H2.frozen 2 0 rfl; have y1 := H2.frozen 2 1 rfl
    have c0 := H2.cell 3 0 rfl rfl
    have H4 := ((H2.set 2 0 (.slice none 0 0) rfl).set 2 1 (.slice none 0 0) rfl).drew
    have H4h := Lib.hid H4
    clear H4 H2
    go_region_held3 (fun w' => w'.cell? ⟨w1.heap.size, 0, none⟩ = some (.int .i64 f1)) (go_keep) (fail)
    have H4 := H4h.out
    have p0 := H4.cell 2 0 rfl rfl; have p1 := H4.cell 2 1 rfl rfl
    go_wp2_with fail
    refine bodyPost_ret (v := .tuple #[.agg #[.slice none 0 0, .slice none 0 0], .int .i64 f1]) (by simp [results, Tryz.results52, go_sem, p0, p1]) rfl ⟨_, by rw [hE.out], by rw [hE.out]; exact GotSt.zero H4.bel⟩
  case pos =>
    subst hf
    obtain ⟨hrw, hfit0⟩ := hrt.out rfl
    have hE1 : Hid (E = chgW (worldT (l.map tabOf)) gens i g fr) := Lib.hid (by rw [hE0.out, if_neg (by simp)])
    clear hE0 hrt
    have hfit := Lib.hid hfit0
    clear hfit0
    generalize hrows : worldT (l.map tabOf) = rows at *
    clear hrows
    have hrwh := Lib.hid hrw
    have hlg : gens.length ≤ 60 := hrw.len
    have hlr : rows.length ≤ 60 := Nat.le_trans hrw.rows_le hrw.len
    have hpl : Hid (placeB i g 0 (l.map TabIn.bs) = placeG i g 0 (ofG rows)) := Lib.hid (by
      rw [← placeB_grps]
      congr 1
      have := congrArg (List.map BTab.bs) hfit.out
      simpa [tabsW, List.map_map, Function.comp_def, tabOf, tabG] using this)
    clear hrw
    have b0 := H2.cell 1 0 rfl rfl; have b1 := H2.cell 1 1 rfl rfl
    go_wp2_with fail
    obtain ⟨w2, hw2, H2⟩ := H2.name
    rw [hw2]; clear hw2 b0 b1
    have hg2 : RdSt w2 w2.heap.size ⟨A, c, l, Ag, cg, gens⟩ := hh.out.hp H2
    have hst := hsh.out.tabs
    have hbl : ∀ t ∈ l, t.bs.length ≤ 1000000000 := fun t ht => by
      have h1 := (hsh.out.tab t ht).bs
      omega
    refine (place_any l A c (.slice Ag gens.length cg) i g (by omega) hbl w.heap.size w2 (H2.blk 0 rfl) hg2.tabs).mono ?_
    rw [hpl.out]
    rintro e w3 ⟨rfl, hb3⟩
    replace H2 := H2.grow hb3
    clear hb3 hbl hst hg2
    have hplr := Lib.hid (fun k j => @Rep.place_some (ofG rows) rows hrwh.out.rep i g k j)
    have hpln := Lib.hid (@Rep.place_none (ofG rows) rows hrwh.out.rep i g)
    generalize placeG i g 0 (ofG rows) = P at *
    clear hpl
    cases P with
    | none =>
      have hE : Hid (E = ⟨[], [], 5⟩) := Lib.hid (by rw [hE1.out]; unfold chgW; rw [find_none (hpln.out rfl)])
      clear hplr hpln hE1
      have q0 := H2.cell 2 0 rfl rfl; have q1 := H2.cell 2 1 rfl rfl
      have y0 := H2.frozen 2 0 rfl; have y1 := H2.frozen 2 1 rfl
      have H4 := (H2.set 2 0 (.slice none 0 0) rfl).set 2 1 (.slice none 0 0) rfl
      have p0 := H4.cell 2 0 rfl rfl; have p1 := H4.cell 2 1 rfl rfl
      unfold placeV
      dsimp only
      go_wp2_with fail
      refine bodyPost_ret (v := .tuple #[.agg #[.slice none 0 0, .slice none 0 0], .int .i64 5]) (by simp [results, Tryz.results52, go_sem, p0, p1]) rfl ⟨_, by rw [hE.out], by rw [hE.out]; exact GotSt.zero H4.bel⟩
    | some kj =>
      obtain ⟨k, j⟩ := kj
      obtain ⟨t, hkt, hj, hb, hro⟩ := hplr.out k j rfl
      clear hplr hpln
      obtain ⟨m, hfm, hrm⟩ := find_row hro
      have hkG : k < (ofG rows).length := (List.getElem?_eq_some_iff.1 hkt).1
      obtain rfl : (ofG rows)[k] = t := (List.getElem?_eq_some_iff.1 hkt).2
      have hm : m < rows.length := (List.getElem?_eq_some_iff.1 hrm).1
      have hrme : rows[m] = (ofG rows)[k].rs[j] := (List.getElem?_eq_some_iff.1 hrm).2
      have hE2 : Hid (E = if (fr rows[m]).2.2 ≠ 0 then ⟨[], [], (fr rows[m]).2.2⟩ else if (fr rows[m]).2.1 = true then ⟨tabsW (rows.set m (fr rows[m]).1), gens, 0⟩ else ⟨tabsW (rows.eraseIdx m), gens, 0⟩) := Lib.hid (by
        rw [hE1.out]; unfold chgW; rw [hfm]; simp only [List.getElem?_eq_getElem hm])
      have hrow0 := hrwh.out.row _ (List.getElem_mem hm)
      have hcut := hrwh.out.rep.cut hkt hj hm hrme
      have hchg := fun r => @Rep.chg _ _ hrwh.out.rep k j m _ hkt hj hm hrme r
      have hriseset := fun r => @rise_set rows hrwh.out.rise m hm r
      have hcuth := Lib.hid hcut; have hchgh := Lib.hid hchg; have hrsh := Lib.hid hriseset
      have hrep := hrwh.out.rep
      have hlens := hrep.lens
      have hrem := fun l2 A2 c2 vg kb E0 hf w0 w => kremove_any (ofG rows) hrep.clean (by omega) (fun x hx => by have := hlens.2 x hx; omega) k j hkG hj l2 A2 c2 vg kb E0 hf w0 w
      rw [← hrme] at hrem
      have hremh := Lib.hid hrem
      clear hE1 hkt hb hro hfm hrm hrme hcut hchg hriseset hrep hlens hrem
      have x0 := H2.cell 0 0 rfl rfl; have x1 := H2.cell 0 1 rfl rfl
      unfold placeV
      dsimp only
      have H2h := Lib.hid H2
      clear H2
      go_wp2_with fail
      clear x0 x1
      have hg5 : RdSt w3 w3.heap.size ⟨A, c, l, Ag, cg, gens⟩ := hh.out.hp H2h.out
      refine (sown_any l A c gens Ag cg hsh.out w3 hg5).mono ?_
      rintro e w6 ⟨A2, c2, l2, Ag2, cg2, rfl, hl2, H6⟩
      have hfit2 : Hid (l2.map tabOf = (ofG rows).map tabG) := Lib.hid (hl2.trans hfit.out)
      replace H6 := ((H2h.out.join H6).drop1 3).drop1 0
      have H7 := Hp.push1 (E := [_, _, _]) (L := tabsE A2 c2 l2) (H6.new w6.heap.size rfl 108 [.slice A2 l2.length c2, .slice Ag2 gens.length cg2])
      replace H7 : Hp w _ (scE (w.heap.size + 1) i g Ag2 cg2 gens ++ ([kBox w6.heap.size A2 l2.length c2 (.slice Ag2 gens.length cg2), outE A2 c2 l2] ++ l2.flatMap tabE)) := H7
      have H8 : Hp w _ (kE w6.heap.size A2 c2 l2 (.slice Ag2 gens.length cg2) (scE (w.heap.size + 1) i g Ag2 cg2 gens)) := H7.perm (List.perm_append_comm.trans (List.Perm.of_eq (List.append_assoc ..)))
      have hrm := Lib.hid (hremh.out l2 A2 c2 (.slice Ag2 gens.length cg2) w6.heap.size (scE (w.heap.size + 1) i g Ag2 cg2 gens) hfit2.out w _ H8)
      clear H6 H7 H2h hremh hg5 hl2 H8 hfit hsh hh
      go_wp2_with fail
      refine hrm.out.mono ?_
      rintro e w7 ⟨rfl, A3, c3, l3, hf3, H9⟩
      have hf3h := Lib.hid hf3
      clear hrm hf3
      generalize w6.heap.size = kb at *
      have HP : Hp w w7 (scE (w.heap.size + 1) i g Ag2 cg2 gens ++ ([kBox kb A3 l3.length c3 (.slice Ag2 gens.length cg2), outE A3 c3 l3] ++ l3.flatMap tabE)) := H9.perm (by
        unfold kE
        rw [← List.append_assoc]
        exact List.perm_append_comm)
      clear H9
      generalize hR : rows[m] = R at *
      have hRh := Lib.hid hR
      clear hR
      have hFr := fun w g => hFh.out w g R
      have hfr2 := hfrh.out R hrow0
      have hFrh := Lib.hid hFr
      generalize hr9 : fr R = FR at *
      clear hFr
      obtain ⟨ri, rg, rh, rv, r8⟩ := R
      obtain ⟨a0, a1, a2, a3, a4, a5, a6, a7, rfl⟩ := vals_eight r8
      have HQ := Hp.push1 (E := scE (w.heap.size + 1) i g Ag2 cg2 gens ++ [kBox kb A3 l3.length c3 (.slice Ag2 gens.length cg2), outE A3 c3 l3]) (L := l3.flatMap tabE) (by rw [List.append_assoc]; exact HP.new w7.heap.size rfl 114 [.int .i64 ri, .int .i64 rg, .int .i64 rh, .int .i64 a0, .int .i64 a1, .int .i64 a2, .int .i64 a3, .int .i64 a4, .int .i64 a5, .int .i64 a6, .int .i64 a7])
      replace HQ : Hp w (w7.alloc (.cells #[.int .i64 ri, .int .i64 rg, .int .i64 rh, .int .i64 a0, .int .i64 a1, .int .i64 a2, .int .i64 a3, .int .i64 a4, .int .i64 a5, .int .i64 a6, .int .i64 a7] 114)) (scE (w.heap.size + 1) i g Ag2 cg2 gens ++ [kBox kb A3 l3.length c3 (.slice Ag2 gens.length cg2), outE A3 c3 l3, .box w7.heap.size 114 [.int .i64 ri, .int .i64 rg, .int .i64 rh, .int .i64 a0, .int .i64 a1, .int .i64 a2, .int .i64 a3, .int .i64 a4, .int .i64 a5, .int .i64 a6, .int .i64 a7]] ++ l3.flatMap tabE) := by simpa using HQ
      clear HP
      have hrc : rowCells ⟨ri, rg, rh, [a0, a1, a2, a3, a4, a5, a6, a7], r8⟩ = [.int .i64 ri, .int .i64 rg, .int .i64 rh, .int .i64 a0, .int .i64 a1, .int .i64 a2, .int .i64 a3, .int .i64 a4, .int .i64 a5, .int .i64 a6, .int .i64 a7] := rfl
      rw [hrc]
      go_wp2_with fail
      obtain ⟨w8, hw8, HQ⟩ := HQ.name
      rw [hw8]
      obtain ⟨b13, hb13⟩ : ∃ b13, b13 = w7.heap.size := ⟨_, rfl⟩
      rw [← hb13] at HQ ⊢
      clear hw8 hb13
      refine (hFrh.out w8 b13 HQ.bel (HQ.ge 5 rfl) (HQ.blk 5 rfl) hrow0).mono ?_
      obtain ⟨r', kp, er⟩ := FR
      rintro e w9 ⟨rfl, hg9, hb9⟩
      have H9 := HQ.step (p' := .box b13 114 (rowCells r')) 5 rfl hg9 ⟨HQ.ge 5 rfl, hb9⟩ (fun q hq => .inl hq)
      replace H9 : Hp w w9 (scE (w.heap.size + 1) i g Ag2 cg2 gens ++ [kBox kb A3 l3.length c3 (.slice Ag2 gens.length cg2), outE A3 c3 l3, .box b13 114 (rowCells r')] ++ l3.flatMap tabE) := H9
      clear HQ hg9 hb9 hFrh hr9 hRh
      dsimp only at hE2 hfr2 ⊢
      by_cases her : er = 0
      case neg =>
        have her' : (er != 0) = true := by simpa using her
        have hE : Hid (E = ⟨[], [], er⟩) := Lib.hid (by rw [hE2.out, if_pos her])
        have q0 := H9.cell 1 0 rfl rfl; have q1 := H9.cell 1 1 rfl rfl
        have y0 := H9.frozen 1 0 rfl; have y1 := H9.frozen 1 1 rfl
        have H4 := (H9.set 1 0 (.slice none 0 0) rfl).set 1 1 (.slice none 0 0) rfl
        have p0 := H4.cell 1 0 rfl rfl; have p1 := H4.cell 1 1 rfl rfl
        have H4h := Lib.hid H4
        clear H9 H4 hchgh hrsh hcuth hf3h hE2
        go_wp2_with fail
        refine bodyPost_ret (v := .tuple #[.agg #[.slice none 0 0, .slice none 0 0], .int .i64 er]) (by simp [results, Tryz.results52, go_sem, p0, p1]) rfl ⟨_, by rw [hE.out], by rw [hE.out]; exact GotSt.zero H4h.out.bel⟩
      case pos =>
        subst her
        cases kp with
        | false =>
          have hE : Hid (E = ⟨tabsW (rows.eraseIdx m), gens, 0⟩) := Lib.hid (by rw [hE2.out, if_neg (by simp), if_neg (by simp)])
          have htw : Hid (l3.map tabOf = tabsW (rows.eraseIdx m)) := Lib.hid (by rw [hf3h.out, hcuth.out.eq_of]; rfl)
          clear hE2 hf3h hchgh hrsh hcuth hfr2
          have q0 := H9.cell 1 0 rfl rfl; have q1 := H9.cell 1 1 rfl rfl
          have y0 := H9.frozen 1 0 rfl; have y1 := H9.frozen 1 1 rfl
          have x0 := H9.cell 3 0 rfl rfl; have x1 := H9.cell 3 1 rfl rfl
          have H4 := (H9.set 1 0 (.slice A3 l3.length c3) rfl).set 1 1 (.slice Ag2 gens.length cg2) rfl
          have p0 := H4.cell 1 0 rfl rfl; have p1 := H4.cell 1 1 rfl rfl
          have H4h := Lib.hid H4
          clear H4 H9
          go_wp2_with fail
          refine bodyPost_ret (v := .tuple #[.agg #[.slice A3 l3.length c3, .slice Ag2 gens.length cg2], .int .i64 0]) (by simp [results, Tryz.results52, go_sem, p0, p1]) rfl ⟨_, by rw [hE.out], by rw [hE.out]; exact ⟨A3, c3, l3, Ag2, cg2, rfl, htw.out, (((H4h.out.drop1 5).drop1 3).drop1 1).drop1 0⟩⟩
        | true =>
          obtain ⟨hro, hix⟩ := hfr2 rfl rfl
          have hE : Hid (E = ⟨tabsW (rows.set m r'), gens, 0⟩) := Lib.hid (by rw [hE2.out, if_neg (by simp), if_pos rfl])
          have hrep2 := (hchgh.out r' hro hix (hrsh.out r' hix)).eq_of
          have hrep3 := hcuth.out
          have hlen3 := hrep3.lens
          have hel : (rows.eraseIdx m).length ≤ 60 := by rw [List.length_eraseIdx]; split <;> omega
          have hRs : isSet r'.has = true := ((rowErr_iff r').1 hro).1
          have HK : Hp w w9 (kE kb A3 c3 l3 (.slice Ag2 gens.length cg2) (scE (w.heap.size + 1) i g Ag2 cg2 gens ++ [.box b13 114 (rowCells r')])) := H9.perm (by
            unfold kE
            refine List.Perm.trans (l₂ := [kBox kb A3 l3.length c3 (.slice Ag2 gens.length cg2), outE A3 c3 l3] ++ ((scE (w.heap.size + 1) i g Ag2 cg2 gens ++ [.box b13 114 (rowCells r')]) ++ l3.flatMap tabE)) ?_ (List.Perm.append_left _ List.perm_append_comm)
            rw [← List.append_assoc]
            refine List.Perm.append_right _ ?_
            exact (List.perm_append_comm (l₁ := [_, _, _]) (l₂ := [_, _])).append_right _)
          have hki := Lib.hid (kinsert_any (remG k j (ofG rows)) hrep3.ok.up hrep3.ok.rise hrep3.clean (by omega) (fun x hx => by have := hlen3.2 x hx; omega) r' hRs b13 0 l3 A3 c3 (.slice Ag2 gens.length cg2) kb (scE (w.heap.size + 1) i g Ag2 cg2 gens ++ [.box b13 114 (rowCells r')]) hf3h.out w w9 (fun w' h' => ⟨rowAt_box (h'.blk 3 rfl), h'.lt 3 rfl⟩) HK)
          rw [hrep2] at hki
          clear hE2 hf3h hchgh hrsh hcuth hfr2 HK H9 hrep2 hrep3 hlen3
          go_wp2_with fail
          refine hki.out.mono ?_
          rintro e w10 ⟨rfl, A4, c4, l4, hf4, H11⟩
          clear hki
          have htw : Hid (l4.map tabOf = tabsW (rows.set m r')) := Lib.hid hf4
          clear hf4
          have HP : Hp w w10 ((scE (w.heap.size + 1) i g Ag2 cg2 gens ++ [.box b13 114 (rowCells r')]) ++ ([kBox kb A4 l4.length c4 (.slice Ag2 gens.length cg2), outE A4 c4 l4] ++ l4.flatMap tabE)) := H11.perm (by
            unfold kE
            exact (List.Perm.of_eq (List.append_assoc ..).symm).trans List.perm_append_comm)
          clear H11
          have q0 := HP.cell 1 0 rfl rfl; have q1 := HP.cell 1 1 rfl rfl
          have y0 := HP.frozen 1 0 rfl; have y1 := HP.frozen 1 1 rfl
          have x0 := HP.cell 4 0 rfl rfl; have x1 := HP.cell 4 1 rfl rfl
          have H4 := (HP.set 1 0 (.slice A4 l4.length c4) rfl).set 1 1 (.slice Ag2 gens.length cg2) rfl
          have p0 := H4.cell 1 0 rfl rfl; have p1 := H4.cell 1 1 rfl rfl
          have H4h := Lib.hid H4
          clear H4 HP
          go_wp2_with fail
          refine bodyPost_ret (v := .tuple #[.agg #[.slice A4 l4.length c4, .slice Ag2 gens.length cg2], .int .i64 0]) (by simp [results, Tryz.results52, go_sem, p0, p1]) rfl ⟨_, by rw [hE.out], by rw [hE.out]; exact ⟨A4, c4, l4, Ag2, cg2, rfl, htw.out, (((H4h.out.drop1 4).drop1 3).drop1 1).drop1 0⟩⟩
end Go.Proofs.YtefdblaolmckmabGreat

namespace Go.Proofs.YtefdblaolmckmabGreat
open Go.RowKit Go.Lib
open Brood
set_option linter.unusedVariables false
set_option linter.unusedSimpArgs false
theorem infoR : (Tryz.prog.info? 114).map (fun i => (i.zero, i.size, i.bytes)) = some (some (.agg #[.int .i64 0, .int .i64 0, .int .i64 0, .int .i64 0, .int .i64 0, .int .i64 0, .int .i64 0, .int .i64 0, .int .i64 0, .int .i64 0, .int .i64 0]), 11, 88) := by kernel_rfl
set_option maxRecDepth 20000 in
set_option maxHeartbeats 3200000 in
theorem insR_end (n : Nat) (xs rs : List Value) (hr1 : ∀ u ∈ rs, u.oneCell' = true) (hrl : rs.length = 11) (hlen : n ≤ 1000000000) (v : Value) (base vb : Nat) (w : World) (hb : base ≤ w.heap.size)
    (hown : w.ownsRow base 114 11 v n xs) (hv : Blk w vb 114 rs.toArray) :
    Calls Tryz.prog 51 #[v, .int .i64 (n : Int), .slice (some ⟨vb, 0, none⟩) 1 1] w fun e w' => ∃ v', e = .returned v' ∧ w'.ownsRow base 114 11 v' (n + 1) (xs ++ rs) ∧ w.grownBy w' v.ownBlock ∧ ∀ q, v'.ownBlock = some q → v.ownBlock = some q ∨ w.heap.size ≤ q := by
  obtain ⟨i0', hi0, hz0a, hz0b, hz0c⟩ := info_parts infoR
  obtain ⟨A, c, rfl, hnc, hcm⟩ := own_shape hown
  have hcx : c ≤ 9223372036854775807 := by unfold maxLen at hcm; omega
  have hcells : ∀ j u, rs[j]? = some u → w.cell? ((⟨vb, 0, none⟩ : Addr).add j) = some u := by
    intro j u hu
    rw [add_mk, Nat.zero_add, hv.cell]
    simpa using hu
  go_enter Tryz.func51, Tryz.ntmps51
  go_wp2_with (at_builtin; refine wpList_append_own_at _ rfl _ _ 62 rfl base 114 i0' (.agg #[.int .i64 0, .int .i64 0, .int .i64 0, .int .i64 0, .int .i64 0, .int .i64 0, .int .i64 0, .int .i64 0, .int .i64 0, .int .i64 0, .int .i64 0]) 11 88 Tryz.underlying62 hi0 hz0a hz0b hz0c rfl (by decide) _ _ _ rfl hown ⟨vb, 0, none⟩ 1 1 rs rfl (by rw [hrl]) hcells hr1 ?c3 ?c4 ?c5 ?_; rotate_left 3; intro v' w1 hown' hgrow _ hat)
  case c3 => unfold maxLen; omega
  case c4 => omega
  case c5 => exact hb
  all_goals
    obtain ⟨A2, c2, rfl, _, _⟩ := own_shape hown'
    go_ret
    refine ⟨_, rfl, hown', ?_, ?_⟩
    · cases A <;> exact hgrow
    · intro q hq
      replace hq : (Value.slice A2 (n + 1) c2).ownBlock = some q := hq
      rcases hat with e | e
      · left
        cases A <;> exact e.symm.trans hq
      · right
        have e2 := hq.symm.trans e
        injection e2 with e2
        omega
set_option maxRecDepth 20000 in
set_option maxHeartbeats 6400000 in
theorem insR_room (n : Nat) (xs rs : List Value) (hone : ∀ u ∈ xs, u.oneCell' = true) (hr1 : ∀ u ∈ rs, u.oneCell' = true) (hrl : rs.length = 11) (k : Nat) (hk : k < n) (hlen : n ≤ 1000000000) (g c : Nat) (hroom : n + 1 ≤ c) (base vb : Nat) (w : World) (hne : g ≠ vb)
    (hown : w.ownsRow base 114 11 (.slice (some ⟨g, 0, none⟩) n c) n xs) (hv : Blk w vb 114 rs.toArray) :
    Calls Tryz.prog 51 #[.slice (some ⟨g, 0, none⟩) n c, .int .i64 (k : Int), .slice (some ⟨vb, 0, none⟩) 1 1] w fun e w' => ∃ v', e = .returned v' ∧ w'.ownsRow base 114 11 v' (n + 1) (xs.take (k * 11) ++ rs ++ xs.drop (k * 11)) ∧ w.grownBy w' (some g) ∧ ∀ q, v'.ownBlock = some q → some g = some q ∨ w.heap.size ≤ q := by
  obtain ⟨i0', hi0, hz0a, hz0b, hz0c⟩ := info_parts infoR
  have hsz : (Tryz.prog.info? 114).map (·.size) = some 11 := by rw [hi0]; simp [hz0b]
  have hzs : ∀ w, (Go.sizeOf 114).run Tryz.prog w = .ok 11 w := fun w => by kernel_rfl
  have hxl : xs.length = n * 11 := by have := hown.1; omega
  obtain ⟨_, h | ⟨g', cap', cur, hve, hbg, hblk, hnc, hcm, hsize, htake⟩⟩ := hown
  · obtain ⟨h, _⟩ := h; cases h
  injection hve with hv1 hv2 hv3
  injection hv1 with hv1
  injection hv1 with hv1
  subst hv1 hv3
  have hcx : c ≤ 9223372036854775807 := by unfold maxLen at hcm; omega
  have HB : Blk w g 114 cur := hblk
  replace hsize : cur.size = c * 11 := by omega
  have htj : ∀ j, j < n * 11 → cur[j]? = xs[j]? := by
    intro j hj
    rw [← htake, List.getElem?_take, if_pos (by omega), Array.getElem?_toList]
  have hcs : ∀ j, j < c * 11 → (w.cell? ⟨g, j, none⟩).isSome = true := fun j hj => by rw [HB.cell, Array.getElem?_eq_getElem (by omega)]; rfl
  have hfz : ∀ j, w.frozen? ⟨g, j, none⟩ = false := HB.frozen
  have hv0 : w.shape? vb = some (114, 11) := by
    have := hv; unfold Blk at this
    simp [World.shape?, this, hrl]
  have hv2 : w.shape? g = some (114, c * 11) := by
    simp [World.shape?, hblk, hsize]
  have hov : ∀ lb cb, (callFunc 96 #[.slice (some ⟨vb, 0, none⟩) 1 1, .slice (some ⟨g, (k + 1) * 11, none⟩) lb cb]).run Tryz.prog w = .ok (.value (.bool false)) w := fun lb cb => by
    rw [run_callFunc_extern Tryz.func96 (by kernel_rfl) (by kernel_rfl) (by kernel_rfl) (e := Extern.SlicesOverlaps.overlaps #[62, 62] #[4]) (by kernel_rfl),
      Lib.run_overlaps_apart w 62 4 114 Tryz.underlying62 11 hzs ⟨vb, 0, none⟩ ⟨g, (k + 1) * 11, none⟩ 1 1 lb cb (fun e => hne e.symm) 114 114 11 (c * 11) hv0 hv2 (by omega) (hv.frozen 0) (hv.frozen 11)]
    rfl
  have hdl : (xs.drop (k * 11)).length = (n - k) * 11 := by rw [List.length_drop, hxl]; omega
  have hcp1 : ∀ ty dc sc, (Builtin.copy_ #[62, 62] ty #[.slice (some ⟨g, (k + 1) * 11, none⟩) (n - k) dc, .slice (some ⟨g, k * 11, none⟩) (n + 1 - k) sc]).run Tryz.prog w.drew = .ok (goInt ((n - k : Nat) : Int)) (w.drew.setCells g ((k + 1) * 11) (xs.drop (k * 11))) := fun ty dc sc => by
    have e : Nat.min (n + 1 - k) (n - k) = n - k := by simp only [Nat.min_def]; split <;> omega
    have h := run_copy_sz w.drew 62 62 ty 114 g ((k + 1) * 11) (n - k) dc ⟨g, k * 11, none⟩ (n + 1 - k) sc 11 (xs.drop (k * 11)) Tryz.underlying62 hsz (by rw [hdl, e]; try omega)
      (fun j v hj => by
        rw [add_mk]
        have h1 : (w.drew).cell? ⟨g, k * 11 + j, none⟩ = cur[k * 11 + j]? := HB.cell _
        have h2 := (List.getElem?_eq_some_iff.1 hj).1
        rw [h1, htj _ (by rw [hdl] at h2; omega)]
        rwa [List.getElem?_drop] at hj)
      (fun j hj => hcs _ (by rw [hdl] at hj; omega)) (fun j hj => hfz _) (fun v hv => hone v (List.mem_of_mem_drop hv))
    rwa [e] at h
  have HB1 : Blk (w.drew.setCells g ((k + 1) * 11) (xs.drop (k * 11))) g 114 (patch cur ((k + 1) * 11) (xs.drop (k * 11))) := Blk.sets _ _ HB.drew
  have hg1 : w.grownBy (w.drew.setCells g ((k + 1) * 11) (xs.drop (k * 11))) (some g) := by
    have h := grown_sets g (xs.drop (k * 11)) w.drew ((k + 1) * 11)
    exact ⟨h.os, h.tape, h.output, h.size, h.block⟩
  have hv1 : Blk (w.drew.setCells g ((k + 1) * 11) (xs.drop (k * 11))) vb 114 rs.toArray := Blk.grown hv hg1 (by simpa using (fun e => hne e.symm))
  obtain ⟨W1, hW1⟩ : ∃ W1, Hid (W1 = w.drew.setCells g ((k + 1) * 11) (xs.drop (k * 11))) := ⟨_, Lib.hid rfl⟩
  rw [← hW1.out] at hcp1 HB1 hg1 hv1
  have hcp2 : ∀ ty dc, (Builtin.copy_ #[62, 62] ty #[.slice (some ⟨g, k * 11, none⟩) (n + 1 - k) dc, .slice (some ⟨vb, 0, none⟩) 1 1]).run Tryz.prog W1 = .ok (goInt 1) (W1.setCells g (k * 11) rs) := fun ty dc => by
    have e : Nat.min 1 (n + 1 - k) = 1 := by simp only [Nat.min_def]; split <;> omega
    have h := run_copy_sz W1 62 62 ty 114 g (k * 11) (n + 1 - k) dc ⟨vb, 0, none⟩ 1 1 11 rs Tryz.underlying62 hsz (by rw [hrl, e])
      (fun j u hu => by rw [add_mk, Nat.zero_add, hv1.cell]; simpa using hu)
      (fun j hj => by rw [HB1.cell, Array.getElem?_eq_getElem (by rw [patch_size]; rw [hrl] at hj; omega)]; rfl) (fun j hj => HB1.frozen _) hr1
    rwa [e] at h
  have hw1 : IntKind.i64.wrap ((k : Int) + 1) = (k : Int) + 1 := by rw [IntKind.wrap_i64]; omega
  have hb1 : (0 : Int) ≤ (k : Int) + 1 := by omega
  have hin : k ≤ n := by omega
  have htn : ((k : Int) + 1).toNat = k + 1 := by omega
  have hb2 : ¬ (c = k + 1) := by omega
  have hb3 : (k : Int) ≤ (n : Int) + 1 := by omega
  have hb4 : ¬ (c = k) := by omega
  have hz2 : ¬ ((k : Int) = (n : Int)) := by omega
  have hovh := Lib.hid hov
  go_enter Tryz.func51, Tryz.ntmps51
  go_wp2_with (simp only [hov])
  go_region_law (refine step_copy_eq rfl _ _ 62 62 rfl _ _ (by simp [Act.eval, Act.put]) (by simp [Act.eval, Act.put]) (hcp1 _ _ _) ?_)
  go_wp2_with (at_builtin; refine wpList_copy_eq _ rfl _ _ 62 62 rfl _ _ rfl rfl (hcp2 _ _) ?_)
  go_ret
  have hg2 := grown_sets g rs W1 (k * 11)
  refine ⟨_, rfl, ⟨by simp only [List.length_append, List.length_take, List.length_drop, hrl, hxl]; omega, .inr ⟨g, c, _, rfl, hbg, HB1.sets rs (k * 11), by omega, hcm, by rw [patch_size, patch_size, hsize]; try omega, ?_⟩⟩,
    ⟨hg2.os.trans hg1.os, hg2.tape.trans hg1.tape, hg2.output.trans hg1.output, Nat.le_trans hg1.size hg2.size, fun i h1 h2 => (hg2.block i (Nat.lt_of_lt_of_le h1 hg1.size) h2).trans (hg1.block i h1 h2)⟩, fun q hq => .inl hq⟩
  refine ins_cells (xs := xs) (rs := rs) (p := k * 11) (q := 11) (by omega) hrl (by omega) rfl (by rw [patch_size, patch_size]; omega) ?_ ?_ ?_
  · intro j hj
    rw [patch_out _ _ _ _ (.inl hj), patch_out _ _ _ _ (.inl (by omega)), htj j (by omega)]
  · intro j hj
    exact patch_in _ _ _ _ (by rw [hrl]; exact hj) (by rw [hrl, patch_size]; omega)
  · intro j hj
    rw [patch_out _ _ _ _ (.inr (by rw [hrl]; omega)), show k * 11 + 11 + j = (k + 1) * 11 + j by omega, patch_in _ _ _ _ (by rw [hdl]; omega) (by rw [hdl]; omega), List.getElem?_drop]
set_option maxRecDepth 20000 in
set_option maxHeartbeats 6400000 in
theorem insR_grow (n : Nat) (xs rs : List Value) (hone : ∀ u ∈ xs, u.oneCell' = true) (hr1 : ∀ u ∈ rs, u.oneCell' = true) (hrl : rs.length = 11) (k : Nat) (hk : k < n) (hlen : n ≤ 1000000000) (g c : Nat) (hroom : c < n + 1) (base vb : Nat) (w : World) (hb : base ≤ w.heap.size)
    (hown : w.ownsRow base 114 11 (.slice (some ⟨g, 0, none⟩) n c) n xs) (hv : Blk w vb 114 rs.toArray) :
    Calls Tryz.prog 51 #[.slice (some ⟨g, 0, none⟩) n c, .int .i64 (k : Int), .slice (some ⟨vb, 0, none⟩) 1 1] w fun e w' => ∃ v', e = .returned v' ∧ w'.ownsRow base 114 11 v' (n + 1) (xs.take (k * 11) ++ rs ++ xs.drop (k * 11)) ∧ w.grownBy w' (some g) ∧ ∀ q, v'.ownBlock = some q → some g = some q ∨ w.heap.size ≤ q := by
  obtain ⟨i0', hi0, hz0a, hz0b, hz0c⟩ := info_parts infoR
  have hsz : (Tryz.prog.info? 114).map (·.size) = some 11 := by rw [hi0]; simp [hz0b]
  have hxl : xs.length = n * 11 := by have := hown.1; omega
  have hcel : ∀ j u, xs[j]? = some u → w.cell? ((⟨g, 0, none⟩ : Addr).add j) = some u := hown.cells (g := g) rfl
  have hglt := (hown.lt g rfl).2
  obtain ⟨_, h | ⟨g', cap', cur, hve, hbg, hblk, hnc, hcm, hsize, htake⟩⟩ := hown
  · obtain ⟨h, _⟩ := h; cases h
  injection hve with hv1 hv2 hv3
  injection hv1 with hv1
  injection hv1 with hv1
  subst hv1 hv3
  obtain rfl : c = n := by omega
  clear hblk htake hsize hnc hv2
  obtain ⟨z, hzd⟩ : ∃ z : Value, Hid (z = .agg #[.int .i64 0, .int .i64 0, .int .i64 0, .int .i64 0, .int .i64 0, .int .i64 0, .int .i64 0, .int .i64 0, .int .i64 0, .int .i64 0, .int .i64 0]) := ⟨_, Lib.hid rfl⟩
  rw [← hzd.out] at hz0a
  have hzc : z.cells.size = 11 := by rw [hzd.out]; rfl
  have hkk : (c : Int) + 1 - (k : Int) = ((c + 1 - k : Nat) : Int) := by omega
  have hik : k + (c + 1 - k) = c + 1 := by omega
  have hold : (Builtin.firstCells i0'.size k (.slice (some ⟨g, 0, none⟩) k c)).run Tryz.prog w.drew = .ok (xs.take (k * 11)).toArray w.drew := by
    rw [hz0b]
    exact run_firstCells_some w.drew 11 k ⟨g, 0, none⟩ k c (xs.take (k * 11)) (by rw [List.length_take]; omega) (fun j v hj => by
      rw [List.getElem?_take] at hj
      split at hj
      · exact hcel j v hj
      · cases hj)
  obtain ⟨G, hG⟩ : ∃ G, Hid (G = grownCap w (c + 1) c 114) := ⟨_, Lib.hid rfl⟩
  obtain ⟨ROW, hROW⟩ : ∃ ROW : Array Value, Hid (ROW = (xs.take (k * 11)).toArray ++ Builtin.zeroCells z.cells (c + 1 - k) ++ Builtin.zeroCells z.cells (G - (c + 1))) := ⟨_, Lib.hid rfl⟩
  have hGn : c + 1 ≤ G := by rw [hG.out]; exact grownCap_ge w _ _ _
  have hGm : G ≤ maxLen := by
    have := grownCap_le_maxLen w (c + 1) c 114 (by unfold maxLen; omega)
    rwa [← hG.out] at this
  have hG63 : G ≤ 9223372036854775807 := by unfold maxLen at hGm; omega
  have hrz : ∀ ty, (Builtin.append_ #[62, 3] ty #[.slice (some ⟨g, 0, none⟩) k c, .int .i64 ((c : Int) + 1 - (k : Int))]).run Tryz.prog w =
      .ok (.slice (some ⟨w.heap.size, 0, none⟩) (c + 1) G) (w.drew.alloc (.cells ROW 114)) := fun ty => by
    have h := Lib.run_append_grow_zeros w 62 3 ty 114 i0' _ .i64 .i64 Tryz.underlying62 Tryz.underlying3 hi0 hz0a (some ⟨g, 0, none⟩) k c (xs.take (k * 11)) hold (c + 1 - k) (by omega) (by omega) (by omega) (by omega) (by rw [hz0c]; omega) (by rw [hz0c, hik]; exact growslice_fits (by omega) (by omega))
    rw [hik, ← hG.out, ← hROW.out] at h
    rw [hkk]
    exact h
  have hRsz : ROW.size = G * 11 := by
    rw [hROW.out]
    simp only [Array.size_append, List.size_toArray, List.length_take, hxl, size_zeroCells, hzc]
    omega
  have hRl : ∀ j, j < k * 11 → ROW[j]? = xs[j]? := by
    intro j hj
    rw [hROW.out, Array.append_assoc, Array.getElem?_append_left (by simp; omega)]
    simp [List.getElem?_take, hj]
  clear hold hROW hz0a hzd hkk
  have HB1 : Blk ((w.alloc (.cells ROW 114)).drew) w.heap.size 114 ROW := (Blk.new w 114 ROW).drew
  have hv1 : Blk ((w.alloc (.cells ROW 114)).drew) vb 114 rs.toArray := (hv.alloc _).drew
  have hvw := hv.lt
  have hcpA : ∀ (W : World), Blk W w.heap.size 114 ROW → Blk W vb 114 rs.toArray → ∀ ty dc, (Builtin.copy_ #[62, 62] ty #[.slice (some ⟨w.heap.size, k * 11, none⟩) (c + 1 - k) dc, .slice (some ⟨vb, 0, none⟩) 1 1]).run Tryz.prog W = .ok (goInt 1) (W.setCells w.heap.size (k * 11) rs) := fun W hWb hWv ty dc => by
    have e : Nat.min 1 (c + 1 - k) = 1 := by simp only [Nat.min_def]; split <;> omega
    have h := run_copy_sz W 62 62 ty 114 w.heap.size (k * 11) (c + 1 - k) dc ⟨vb, 0, none⟩ 1 1 11 rs Tryz.underlying62 hsz (by rw [hrl, e])
      (fun j u hu => by rw [add_mk, Nat.zero_add, hWv.cell]; simpa using hu)
      (fun j hj => by rw [hWb.cell, Array.getElem?_eq_getElem (by rw [hrl] at hj; omega)]; rfl) (fun j hj => hWb.frozen _) hr1
    rwa [e] at h
  have hdl : (xs.drop (k * 11)).length = (c - k) * 11 := by rw [List.length_drop, hxl]; omega
  have hcpB : ∀ (W : World), Blk W w.heap.size 114 (patch ROW (k * 11) rs) → (∀ j u, xs[j]? = some u → W.cell? ⟨g, j, none⟩ = some u) → ∀ ty dc sc, (Builtin.copy_ #[62, 62] ty #[.slice (some ⟨w.heap.size, (k + 1) * 11, none⟩) (c - k) dc, .slice (some ⟨g, k * 11, none⟩) (c - k) sc]).run Tryz.prog W = .ok (goInt ((c - k : Nat) : Int)) (W.setCells w.heap.size ((k + 1) * 11) (xs.drop (k * 11))) := fun W hWb hWg ty dc sc => by
    have e : Nat.min (c - k) (c - k) = c - k := by simp only [Nat.min_def]; split <;> omega
    have h := run_copy_sz W 62 62 ty 114 w.heap.size ((k + 1) * 11) (c - k) dc ⟨g, k * 11, none⟩ (c - k) sc 11 (xs.drop (k * 11)) Tryz.underlying62 hsz (by rw [hdl, e]; try omega)
      (fun j v hj => by rw [add_mk]; exact hWg _ v (by rwa [List.getElem?_drop] at hj))
      (fun j hj => by rw [hWb.cell, Array.getElem?_eq_getElem (by rw [patch_size]; rw [hdl] at hj; omega)]; rfl) (fun j hj => hWb.frozen _) (fun v hv => hone v (List.mem_of_mem_drop hv))
    rwa [e] at h
  have HB2 : Blk (((w.alloc (.cells ROW 114)).drew.setCells w.heap.size (k * 11) rs).drew) w.heap.size 114 (patch ROW (k * 11) rs) := (Blk.sets _ _ HB1).drew
  have hcel2 : ∀ j u, xs[j]? = some u → (((w.alloc (.cells ROW 114)).drew.setCells w.heap.size (k * 11) rs).drew).cell? ⟨g, j, none⟩ = some u := by
    intro j u hu
    show ((w.alloc (.cells ROW 114)).drew.setCells w.heap.size (k * 11) rs).cell? ⟨g, j, none⟩ = some u
    rw [World.cell?_setCells_out _ _ _ _ _ (fun h _ => absurd h (by simp only; omega))]
    show (w.alloc (.cells ROW 114)).cell? ⟨g, j, none⟩ = some u
    rw [World.cell?_alloc_lt w _ ⟨g, j, none⟩ (by simpa using hglt)]
    have := hcel j u hu
    rwa [add_mk, Nat.zero_add] at this
  have hw1 : IntKind.i64.wrap ((k : Int) + 1) = (k : Int) + 1 := by rw [IntKind.wrap_i64]; omega
  have hb1 : (0 : Int) ≤ (k : Int) + 1 := by omega
  have hin : k ≤ c := by omega
  have htn : ((k : Int) + 1).toNat = k + 1 := by omega
  have hb2 : ¬ (G = k + 1) := by omega
  have hb5 : ¬ (G = k) := by omega
  have hb3 : (k : Int) ≤ (c : Int) + 1 := by omega
  have hb4 : ¬ (c = k) := by omega
  have hz2 : ¬ ((k : Int) = (c : Int)) := by omega
  have hcpAh := Lib.hid hcpA; have hcpBh := Lib.hid hcpB; have HB1h := Lib.hid HB1; have HB2h := Lib.hid HB2; have hv1h := Lib.hid hv1; have hcelh := Lib.hid hcel2; have hrzh := Lib.hid hrz
  clear hcpA hcpB HB1 HB2 hv1 hcel2 hrz hcel
  go_enter Tryz.func51, Tryz.ntmps51
  have hA1 := hcpAh.out _ HB1h.out hv1h.out
  go_wp2_with (first
    | (at_builtin; refine Lib.wpList_append_run _ rfl _ _ _ _ rfl _ _ rfl rfl _ _ (hrzh.out _) ?_)
    | fail)
  have hB1 := hcpBh.out _ HB2h.out hcelh.out
  go_region_law (refine step_copy_eq rfl _ _ 62 62 rfl _ _ (by simp [Act.eval, Act.put]) (by simp [Act.eval, Act.put]) (hB1 _ _ _) ?_)
  go_wp2_with fail
  go_ret
  have hg1 : w.grownBy ((w.alloc (.cells ROW 114)).drew.setCells w.heap.size (k * 11) rs) none := by
    have h := grown_sets w.heap.size rs ((w.alloc (.cells ROW 114)).drew) (k * 11)
    have h0 := World.grownBy_alloc w (.cells ROW 114) none
    exact ⟨h.os.trans h0.os, h.tape.trans h0.tape, h.output.trans h0.output, Nat.le_trans h0.size h.size, fun i h1 h2 => (h.block i (Nat.lt_of_lt_of_le h1 h0.size) (fun e => by injection e with e; omega)).trans (h0.block i h1 h2)⟩
  have hg2 := grown_sets w.heap.size (xs.drop (k * 11)) ((((w.alloc (.cells ROW 114)).drew.setCells w.heap.size (k * 11) rs).drew)) ((k + 1) * 11)
  refine ⟨_, rfl, ⟨by simp only [List.length_append, List.length_take, List.length_drop, hrl, hxl]; omega, .inr ⟨w.heap.size, G, _, rfl, hb, HB2h.out.sets (xs.drop (k * 11)) ((k + 1) * 11), by omega, hGm, by rw [patch_size, patch_size, hRsz]; try omega, ?_⟩⟩,
    ⟨hg2.os.trans hg1.os, hg2.tape.trans hg1.tape, hg2.output.trans hg1.output, Nat.le_trans hg1.size hg2.size, fun i h1 h2 => (hg2.block i (Nat.lt_of_lt_of_le h1 hg1.size) (fun e => by injection e with e; omega)).trans (hg1.block i h1 (by simp))⟩, fun q hq => .inr (by simp [Value.ownBlock] at hq; omega)⟩
  refine ins_cells (xs := xs) (rs := rs) (p := k * 11) (q := 11) (by omega) hrl (by omega) rfl (by rw [patch_size, patch_size]; omega) ?_ ?_ ?_
  · intro j hj
    rw [patch_out _ _ _ _ (.inl (by omega)), patch_out _ _ _ _ (.inl hj), hRl j hj]
  · intro j hj
    rw [patch_out _ _ _ _ (.inl (by omega)), patch_in _ _ _ _ (by rw [hrl]; exact hj) (by rw [hrl]; omega)]
  · intro j hj
    rw [show k * 11 + 11 + j = (k + 1) * 11 + j by omega, patch_in _ _ _ _ (by rw [hdl]; omega) (by rw [hdl, patch_size]; omega), List.getElem?_drop]
theorem insR_any (n : Nat) (xs rs : List Value) (hone : ∀ u ∈ xs, u.oneCell' = true) (hr1 : ∀ u ∈ rs, u.oneCell' = true) (hrl : rs.length = 11) (k : Nat) (hk : k ≤ n) (hlen : n ≤ 1000000000) (v : Value) (base vb : Nat) (w : World) (hb : base ≤ w.heap.size) (hne : v.ownBlock ≠ some vb)
    (hown : w.ownsRow base 114 11 v n xs) (hv : Blk w vb 114 rs.toArray) :
    Calls Tryz.prog 51 #[v, .int .i64 (k : Int), .slice (some ⟨vb, 0, none⟩) 1 1] w fun e w' => ∃ v', e = .returned v' ∧ w'.ownsRow base 114 11 v' (n + 1) (xs.take (k * 11) ++ rs ++ xs.drop (k * 11)) ∧ w.grownBy w' v.ownBlock ∧ ∀ q, v'.ownBlock = some q → v.ownBlock = some q ∨ w.heap.size ≤ q := by
  rcases Nat.lt_or_ge k n with h | h
  · obtain ⟨g, c, rfl, _, _⟩ := hown.form (by omega)
    rcases Nat.lt_or_ge c (n + 1) with h' | h'
    · exact insR_grow n xs rs hone hr1 hrl k h hlen g c h' base vb w hb hown hv
    · exact insR_room n xs rs hone hr1 hrl k h hlen g c h' base vb w (fun e => hne (by rw [← e]; rfl)) hown hv
  · obtain rfl : k = n := by omega
    have hl : xs.length = k * 11 := by have := hown.1; omega
    rw [List.take_of_length_le (by omega), List.drop_of_length_le (by omega), List.append_nil]
    exact insR_end k xs rs hr1 hrl hlen v base vb w hb hown hv
end Go.Proofs.YtefdblaolmckmabGreat

namespace Go.Proofs.YtefdblaolmckmabGreat
open Go.RowKit
open Brood
set_option linter.unusedVariables false
set_option linter.unusedSimpArgs false
theorem insert_any (rows : List BRow) (r : BRow) (k : Nat) (hk : k ≤ rows.length) (hlen : rows.length ≤ 1000000) (v : Value) (base vb : Nat) (w : World) (hb : base ≤ w.heap.size) (hne : v.ownBlock ≠ some vb)
    (hown : w.ownsRow base 114 11 v rows.length (rows.flatMap rowCells)) (hv : Blk w vb 114 (rowCells r).toArray) :
    Calls Tryz.prog 51 #[v, .int .i64 (k : Int), .slice (some ⟨vb, 0, none⟩) 1 1] w fun e w' => ∃ v', e = .returned v' ∧ w'.ownsRow base 114 11 v' (rows.length + 1) ((insRow rows k r).flatMap rowCells) ∧ w.grownBy w' v.ownBlock ∧ ∀ q, v'.ownBlock = some q → v.ownBlock = some q ∨ w.heap.size ≤ q := by
  rw [insRow_cells]
  exact insR_any rows.length _ _ (rows_one rows) (rowCells_one r) (rowCells_length r) k hk (by omega) v base vb w hb hne hown hv
set_option maxRecDepth 20000 in
set_option maxHeartbeats 1600000 in
theorem cmpRow_any (r : BRow) (x : Int) (w : World) : Calls Tryz.prog 49 #[rowV r, .int .i64 x] w fun e w' => e = .returned (.int .i64 (cmpI r.idx x)) ∧ Below w.heap.size w w' := by
  obtain ⟨idx, gen, has, vals, h8⟩ := r
  obtain ⟨a0, a1, a2, a3, a4, a5, a6, a7, rfl⟩ := vals_eight h8
  have hrv : rowV ⟨idx, gen, has, [a0, a1, a2, a3, a4, a5, a6, a7], h8⟩ = .agg #[.int .i64 idx, .int .i64 gen, .int .i64 has, .int .i64 a0, .int .i64 a1, .int .i64 a2, .int .i64 a3, .int .i64 a4, .int .i64 a5, .int .i64 a6, .int .i64 a7] := rfl
  rw [hrv]
  go_enter Tryz.func49, Tryz.ntmps49
  go_wp2_with fail
  refine (cmp_any idx x _).mono ?_
  rintro e w' ⟨rfl, rfl⟩
  go_wp2_with fail
  go_ret
  exact ⟨rfl, (Below.refl _ _).alloc (Nat.le_refl _) _⟩
set_option maxRecDepth 20000 in
set_option maxHeartbeats 6400000 in
theorem search_any (rows : List BRow) (A : Option Addr) (c : Nat) (x : Int) (hlen : rows.length ≤ 1000000) (hrise : Rise rows) (w : World) (hR : RdR w w.heap.size A rows) :
    Calls Tryz.prog 48 #[.slice A rows.length c, .int .i64 x, .func (.func 49) #[] #[]] w fun e w' => ∃ fb, e = .returned (.tuple #[.int .i64 (posOf x rows : Nat), .bool fb]) ∧ Below w.heap.size w w' := by
  have hri := Lib.hid hrise
  clear hrise
  go_enter Tryz.func48, Tryz.ntmps48
  go_wp2_with fail
  go_loopw [9, 10] (fun s9 s10 wr => ∃ lo hi : Nat, s9 = .int .i64 lo ∧ s10 = .int .i64 hi ∧ lo ≤ hi ∧ hi ≤ rows.length ∧ Below w.heap.size w wr ∧
    Hid ((∀ t (ht : t < rows.length), t < lo → rows[t].idx < x) ∧ (∀ t (ht : t < rows.length), hi ≤ t → x ≤ rows[t].idx))) (fun s9 s10 _ => (intOf s10).toNat - (intOf s9).toNat)
  case atStart => exact ⟨0, rows.length, rfl, rfl, Nat.zero_le _, Nat.le_refl _, Below.refl _ _, Lib.hid ⟨fun t _ ht => absurd ht (Nat.not_lt_zero _), fun t h1 h2 => by omega⟩⟩
  case round =>
    obtain ⟨lo, hi, rfl, rfl, hlh, hin, hbel, hinv⟩ := hrel
    have hR1 : RdR wr w.heap.size A rows := Rd.under hR hbel (Nat.le_refl _)
    by_cases hlt : lo < hi
    · have hm : (lo + hi) / 2 < rows.length := by omega
      obtain ⟨b1, off, rfl, hb1, hrow⟩ := hR1.at_ hm
      have hcall := cmpRow_any rows[(lo + hi) / 2] x wr
      have hyes : Hid (rows[(lo + hi) / 2].idx < x → ((∀ t (ht : t < rows.length), t < (lo + hi) / 2 + 1 → rows[t].idx < x) ∧ (∀ t (ht : t < rows.length), hi ≤ t → x ≤ rows[t].idx))) := Lib.hid (fun h => ⟨fun t ht htm => by
        rcases Nat.lt_or_ge t ((lo + hi) / 2) with h' | h'
        · exact Int.lt_trans (hri.out t _ ht hm h') h
        · obtain rfl : t = (lo + hi) / 2 := by omega
          exact h, hinv.out.2⟩)
      have hno : Hid (x ≤ rows[(lo + hi) / 2].idx → ((∀ t (ht : t < rows.length), t < lo → rows[t].idx < x) ∧ (∀ t (ht : t < rows.length), (lo + hi) / 2 ≤ t → x ≤ rows[t].idx))) := Lib.hid (fun h => ⟨hinv.out.1, fun t ht htm => by
        rcases Nat.lt_or_ge ((lo + hi) / 2) t with h' | h'
        · have := hri.out _ t hm ht h'
          omega
        · obtain rfl : t = (lo + hi) / 2 := by omega
          exact h⟩)
      have hgap1 : (hi : Nat) - ((lo + hi) / 2 + 1) < hi - lo := by omega
      have hgap2 : ((lo + hi) / 2) - lo < hi - lo := by omega
      generalize rows[(lo + hi) / 2] = r at *
      have i0 : (0 : Int) ≤ ((lo : Int) + (hi : Int)) / 2 := by omega
      have i1 : ((lo : Int) + (hi : Int)) / 2 < (rows.length : Int) := by omega
      obtain ⟨c0, c1, c2⟩ := hrow.head
      obtain ⟨C, hC⟩ : ∃ C, C = cmpI r.idx x := ⟨_, rfl⟩
      rw [← hC] at hcall
      have hCh : Hid (C < 0 ↔ r.idx < x) := Lib.hid (by rw [hC]; unfold cmpI; split <;> (try split) <;> simp <;> omega)
      clear hC
      obtain ⟨idx, gen, has, vals, h8⟩ := r
      obtain ⟨a0, a1, a2, a3, a4, a5, a6, a7, rfl⟩ := vals_eight h8
      have v0 := hrow 3 (.int .i64 a0) rfl; have v1 := hrow 4 (.int .i64 a1) rfl; have v2 := hrow 5 (.int .i64 a2) rfl; have v3 := hrow 6 (.int .i64 a3) rfl; have v4 := hrow 7 (.int .i64 a4) rfl; have v5 := hrow 8 (.int .i64 a5) rfl; have v6 := hrow 9 (.int .i64 a6) rfl; have v7 := hrow 10 (.int .i64 a7) rfl
      simp only at c0 c1 c2
      have hrv : rowV ⟨idx, gen, has, [a0, a1, a2, a3, a4, a5, a6, a7], h8⟩ = .agg #[.int .i64 idx, .int .i64 gen, .int .i64 has, .int .i64 a0, .int .i64 a1, .int .i64 a2, .int .i64 a3, .int .i64 a4, .int .i64 a5, .int .i64 a6, .int .i64 a7] := rfl
      rw [hrv] at hcall
      have hcallh := Lib.hid hcall
      clear hcall hrv hrow
      go_wp2_with fail
      refine hcallh.out.mono ?_
      rintro e w1 ⟨rfl, hb2⟩
      by_cases hlt2 : idx < x
      · have hCn : C < 0 := hCh.out.2 hlt2
        have hinv2 := Lib.hid (hyes.out hlt2)
        clear hyes hno hinv hcallh
        go_wp2_with fail
        go_roundw
        case rel => exact ⟨(lo + hi) / 2 + 1, hi, by go_num, rfl, by omega, hin, grow_below hbel hb2, hinv2⟩
        case measure => simp [intOf]; omega
      · have hCn : ¬ C < 0 := fun h => hlt2 (hCh.out.1 h)
        have hinv2 := Lib.hid (hno.out (by omega))
        clear hyes hno hinv hcallh
        go_wp2_with fail
        go_roundw
        case rel => exact ⟨lo, (lo + hi) / 2, rfl, by go_num, by omega, by omega, grow_below hbel hb2, hinv2⟩
        case measure => simp [intOf]; omega
    · obtain rfl : hi = lo := by omega
      have hpos : Hid (posOf x rows = hi) := Lib.hid (posOf_eq hin (fun t ht h => hinv.out.1 t ht h) (fun t ht h => by have := hinv.out.2 t ht h; omega))
      clear hinv hri
      by_cases hn : hi < rows.length
      · obtain ⟨b1, off, rfl, hb1, hrow⟩ := hR1.at_ hn
        have hcall := cmpRow_any rows[hi] x wr
        generalize rows[hi] = r at *
        have i0 : (0 : Int) ≤ (hi : Int) := by omega
        have i1 : (hi : Int) < (rows.length : Int) := by omega
        obtain ⟨c0, c1, c2⟩ := hrow.head
        generalize cmpI r.idx x = C at hcall
        obtain ⟨idx, gen, has, vals, h8⟩ := r
        obtain ⟨a0, a1, a2, a3, a4, a5, a6, a7, rfl⟩ := vals_eight h8
        have v0 := hrow 3 (.int .i64 a0) rfl; have v1 := hrow 4 (.int .i64 a1) rfl; have v2 := hrow 5 (.int .i64 a2) rfl; have v3 := hrow 6 (.int .i64 a3) rfl; have v4 := hrow 7 (.int .i64 a4) rfl; have v5 := hrow 8 (.int .i64 a5) rfl; have v6 := hrow 9 (.int .i64 a6) rfl; have v7 := hrow 10 (.int .i64 a7) rfl
        simp only at c0 c1 c2
        have hrv : rowV ⟨idx, gen, has, [a0, a1, a2, a3, a4, a5, a6, a7], h8⟩ = .agg #[.int .i64 idx, .int .i64 gen, .int .i64 has, .int .i64 a0, .int .i64 a1, .int .i64 a2, .int .i64 a3, .int .i64 a4, .int .i64 a5, .int .i64 a6, .int .i64 a7] := rfl
        rw [hrv] at hcall
        have hcallh := Lib.hid hcall
        clear hcall hrv hrow
        go_wp2_with fail
        refine hcallh.out.mono ?_
        rintro e w1 ⟨rfl, hb2⟩
        go_wp2_with fail
        refine bodyPost_ret (v := .tuple #[.int .i64 (hi : Int), .bool (C == 0)]) (by simp [results, Tryz.results48, go_sem]) rfl ⟨C == 0, by rw [hpos.out], grow_below hbel hb2⟩
      · go_wp2_with fail
        refine bodyPost_ret (v := .tuple #[.int .i64 (hi : Int), .bool false]) (by simp [results, Tryz.results48, go_sem]) rfl ⟨false, by rw [hpos.out], hbel⟩
end Go.Proofs.YtefdblaolmckmabGreat

namespace Go.Proofs.YtefdblaolmckmabGreat
open Go.RowKit Go.Maps
open Brood
set_option linter.unusedVariables false
set_option linter.unusedSimpArgs false
set_option maxRecDepth 20000 in
set_option maxHeartbeats 6400000 in
theorem next_any (rows : List BRow) (gens : List Int) (Ar : Option Addr) (cr : Nat) (Ag : Option Addr) (cg : Nat) (hlr : rows.length ≤ 9223372036854775807) (hlg : gens.length ≤ 9223372036854775807)
    (hwr : ∀ r ∈ rows, (Lit.int .i64 r.idx).wf = true) (hwg : ∀ n ∈ gens, -9223372036854775808 ≤ n) (w : World) (hr : RdR w w.heap.size Ar rows) (hg : RdG w w.heap.size Ag gens) :
    Calls Tryz.prog 45 #[.agg #[.slice Ar rows.length cr, .slice Ag gens.length cg]] w fun e w' => e = .returned (.tuple #[.agg #[.int .i64 (nextV rows gens).1, .int .i64 (nextV rows gens).2.1], .int .i64 (nextV rows gens).2.2]) ∧ Below w.heap.size w w' := by
  have hmm := @run_makeMap Tryz.prog
  have HB0 := ((Blk.new w 64 #[.slice Ar rows.length cr, .slice Ag gens.length cg]).alloc (.cells #[.int .i64 0, .int .i64 0] 24)).alloc (.map #[] 0)
  have HQ0 := (Blk.new (w.alloc (.cells #[.slice Ar rows.length cr, .slice Ag gens.length cg] 64)) 24 #[.int .i64 0, .int .i64 0]).alloc (.map #[] 0)
  simp only [World.size_alloc] at HQ0
  have hbel0 : Below w.heap.size w (((w.alloc (.cells #[.slice Ar rows.length cr, .slice Ag gens.length cg] 64)).alloc (.cells #[.int .i64 0, .int .i64 0] 24)).alloc (.map #[] 0)) := (((Below.refl _ _).alloc (Nat.le_refl _) _).alloc (by simp) _).alloc (by simp; omega) _
  have hM0 := MapU.made ((w.alloc (.cells #[.slice Ar rows.length cr, .slice Ag gens.length cg] 64)).alloc (.cells #[.int .i64 0, .int .i64 0] 24))
  simp only [World.size_alloc] at hM0
  have hnv : Hid (nextV rows gens = match nextFrom (rows.map (·.idx)) 0 gens with | some p => (p.1, p.2, 0) | none => if 60 ≤ gens.length then (0, 0, 4) else ((gens.length : Int), 1, 0)) := Lib.hid rfl
  generalize nextV rows gens = E at *
  go_enter Tryz.func45, Tryz.ntmps45
  go_wp2_with fail
  go_loopw [13] (fun i wr => ∃ k : Nat, k ≤ rows.length ∧ i = .int .i64 k ∧ Below w.heap.size w wr ∧ MapU wr (w.heap.size + 1 + 1) ((rows.take k).map (·.idx)) ∧
      Blk wr w.heap.size 64 #[.slice Ar rows.length cr, .slice Ag gens.length cg] ∧ Blk wr (w.heap.size + 1) 24 #[.int .i64 0, .int .i64 0]) (fun i _ => rows.length - (intOf i).toNat)
  case atStart => exact ⟨0, by omega, rfl, hbel0, by simpa using hM0, HB0, HQ0⟩
  case round =>
    clear HB0 HQ0 hbel0 hM0
    obtain ⟨k, hk, rfl, hbel, hM, HB, HQ⟩ := hrel
    have hMlt := hM.lt
    by_cases hlt : k < rows.length
    · have hR : RdR wr w.heap.size Ar rows := Rd.under hr hbel (Nat.le_refl _)
      obtain ⟨b, off, rfl, hb, hrow⟩ := hR.at_ hlt
      have hwz := hwr rows[k] (List.getElem_mem hlt)
      have htk : Hid ((rows.take (k + 1)).map (·.idx) = (rows.take k).map (·.idx) ++ [rows[k].idx]) := Lib.hid (by rw [List.take_add_one, List.getElem?_eq_getElem hlt, Option.toList_some, List.map_append]; rfl)
      generalize rows[k] = r at *
      have i0 : (0 : Int) ≤ (k : Int) := by omega
      have i1 : (k : Int) < (rows.length : Int) := by omega
      obtain ⟨c0, c1, c2⟩ := hrow.head
      obtain ⟨idx, gen, has, vals, h8⟩ := r
      obtain ⟨a0, a1, a2, a3, a4, a5, a6, a7, rfl⟩ := vals_eight h8
      have v0 := hrow 3 (.int .i64 a0) rfl; have v1 := hrow 4 (.int .i64 a1) rfl; have v2 := hrow 5 (.int .i64 a2) rfl; have v3 := hrow 6 (.int .i64 a3) rfl; have v4 := hrow 7 (.int .i64 a4) rfl; have v5 := hrow 8 (.int .i64 a5) rfl; have v6 := hrow 9 (.int .i64 a6) rfl; have v7 := hrow 10 (.int .i64 a7) rfl
      simp only at c0 c1 c2 hwz
      have hbw : b ≠ wr.heap.size := by have := hbel.size; omega
      have HB2 := HB.alloc (.cells #[.int .i64 idx, .int .i64 gen, .int .i64 has, .int .i64 a0, .int .i64 a1, .int .i64 a2, .int .i64 a3, .int .i64 a4, .int .i64 a5, .int .i64 a6, .int .i64 a7] 114)
      have HQ2 := HQ.alloc (.cells #[.int .i64 idx, .int .i64 gen, .int .i64 has, .int .i64 a0, .int .i64 a1, .int .i64 a2, .int .i64 a3, .int .i64 a4, .int .i64 a5, .int .i64 a6, .int .i64 a7] 114)
      have hbel2 := hbel.alloc hbel.size (.cells #[.int .i64 idx, .int .i64 gen, .int .i64 has, .int .i64 a0, .int .i64 a1, .int .i64 a2, .int .i64 a3, .int .i64 a4, .int .i64 a5, .int .i64 a6, .int .i64 a7] 114)
      have hM2 := hM.alloc (.cells #[.int .i64 idx, .int .i64 gen, .int .i64 has, .int .i64 a0, .int .i64 a1, .int .i64 a2, .int .i64 a3, .int .i64 a4, .int .i64 a5, .int .i64 a6, .int .i64 a7] 114)
      obtain ⟨D, m1, m2⟩ := hM2
      have hm2 := Lib.hid m2
      have hlk : ((rows.take k).map (·.idx)).length = k := by simp; omega
      rw [hlk] at m1
      have m1' := Lib.hid m1
      have hmx : k < maxLen := by unfold maxLen; omega
      clear m2 hrow hM HB HQ m1
      have HBh := Lib.hid HB2; have HQh := Lib.hid HQ2; have hbelh := Lib.hid hbel2
      clear HB2 HQ2 hbel2
      go_wp2_with (at_mapUpdate; refine wpList_mapUpdate_own _ rfl _ _ _ 159 rfl 3 4 keyInt Tryz.underlying159 _ (w.heap.size + 1 + 1) _ D rfl m1'.out hmx _ _ (.int .i64 idx) rfl rfl (keyOf_int_mk Tryz.underlying3 hwz) (.lit (.bool true)) [] (plainElem_bool Tryz.underlying4 true) ?_; intro w5 hown5 hgrow5)
      have hM5 : MapU w5 (w.heap.size + 1 + 1) ((rows.take (k + 1)).map (·.idx)) := by
        rw [htk.out]
        exact MapU.put (by rw [hlk]; exact m1'.out) hm2.out (by rw [hlk]; exact hown5)
      refine ⟨⟨k + 1, by omega, ?hn, hbelh.out.grown hgrow5 hbelh.out.size (fun k e => by cases e; omega), hM5, HBh.out.grown hgrow5 (by simp; omega), HQh.out.grown hgrow5 (by simp)⟩, ?hm⟩
      case hn => go_num
      case hm => simp [intOf]; omega
    · obtain rfl : k = rows.length := by omega
      rw [List.take_length] at hM
      have e0 := HB.cell 0; have e1 := HB.cell 1
      have q0 := HQ.cell 0; have q1 := HQ.cell 1; have z0 := HQ.frozen 0; have z1 := HQ.frozen 1
      simp at e0 e1 q0 q1
      have hblt := HB.lt; have hqlt := HQ.lt
      have hG : RdG wr w.heap.size Ag gens := Rd.under hg hbel (Nat.le_refl _)
      have hlook := Lib.hid (fun k (h : (Lit.int .i64 k).wf = true) => hM.look (k := k) h)
      have hSz := hbel.size
      generalize rows.map (·.idx) = used at *
      go_wp2_with fail
      obtain ⟨wo, rfl⟩ : ∃ wo : World, wo = wr := ⟨_, rfl⟩
      go_loopw [25] (fun i wr => ∃ k : Nat, k ≤ gens.length ∧ i = .int .i64 k ∧ wr = wo ∧ Hid (nextFrom used 0 gens = nextFrom used k (gens.drop k))) (fun i _ => gens.length - (intOf i).toNat)
      case atStart => exact ⟨0, by omega, rfl, rfl, Lib.hid (by simp)⟩
      case round =>
        obtain ⟨k, hk, rfl, rfl, hnf⟩ := hrel
        by_cases hlt : k < gens.length
        · obtain ⟨b, off, rfl, hb, hc⟩ := hG.at_ hlt
          have hst := Lib.hid (drop_cons hlt)
          have hwn := hwg gens[k] (List.getElem_mem hlt)
          generalize gens[k] = n at *
          have i0 : (0 : Int) ≤ (k : Int) := by omega
          have i1 : (k : Int) < (gens.length : Int) := by omega
          have hlk := hlook.out (k : Int) (wf_of (by omega) (by omega))
          have hnf2 : Hid (nextFrom used 0 gens = if !used.contains (k : Int) && decide (n < 1000) then some ((k : Int), n + 1) else nextFrom used (k + 1) (gens.drop (k + 1))) := Lib.hid (by rw [hnf.out, hst.out, nextFrom])
          clear hnf hst hM HB
          generalize used.contains (k : Int) = uk at *
          cases uk with
          | true =>
            have hnf3 : Hid (nextFrom used 0 gens = nextFrom used (k + 1) (gens.drop (k + 1))) := Lib.hid (by rw [hnf2.out, if_neg (by simp)])
            go_wp2_with fail
            go_roundw
            case rel => exact ⟨k + 1, by omega, by go_num, trivial, hnf3⟩
            case measure => simp [intOf]; omega
          | false =>
            by_cases hn : n < 1000
            · have hE : Hid (E = ((k : Int), n + 1, 0)) := Lib.hid (by rw [hnv.out, hnf2.out, if_pos (by simp [hn])])
              have hwrap : IntKind.i64.wrap (n + 1) = n + 1 := by rw [IntKind.wrap_i64]; omega
              have HQ2 := (HQ.set_ 0 (.int .i64 (k : Int))).set_ 1 (.int .i64 (n + 1))
              have r0 := HQ2.cell 0; have r1 := HQ2.cell 1
              simp at r0 r1
              go_wp2_with fail
              refine bodyPost_ret (v := .tuple #[.agg #[.int .i64 (k : Int), .int .i64 (n + 1)], .int .i64 0]) (by simp [results, Tryz.results45, go_sem, r0, r1]) rfl ⟨by rw [hE.out], (hbel.setCell (by simp) _).setCell (by simp) _⟩
            · have hnf3 : Hid (nextFrom used 0 gens = nextFrom used (k + 1) (gens.drop (k + 1))) := Lib.hid (by rw [hnf2.out, if_neg (by simp [hn])])
              go_wp2_with fail
              go_roundw
              case rel => exact ⟨k + 1, by omega, by go_num, trivial, hnf3⟩
              case measure => simp [intOf]; omega
        · obtain rfl : k = gens.length := by omega
          have hnf3 : Hid (E = if 60 ≤ gens.length then (0, 0, 4) else ((gens.length : Int), 1, 0)) := Lib.hid (by rw [hnv.out, hnf.out, List.drop_length]; rfl)
          clear hnf
          by_cases h60 : 60 ≤ gens.length
          · have hE : Hid (E = (0, 0, 4)) := Lib.hid (by rw [hnf3.out, if_pos h60])
            have HQ2 := (HQ.set_ 0 (.int .i64 0)).set_ 1 (.int .i64 0)
            have r0 := HQ2.cell 0; have r1 := HQ2.cell 1
            simp at r0 r1
            go_wp2_with fail
            refine bodyPost_ret (v := .tuple #[.agg #[.int .i64 0, .int .i64 0], .int .i64 4]) (by simp [results, Tryz.results45, go_sem, r0, r1]) rfl ⟨by rw [hE.out], (hbel.setCell (by simp) _).setCell (by simp) _⟩
          · have hE : Hid (E = ((gens.length : Int), 1, 0)) := Lib.hid (by rw [hnf3.out, if_neg h60])
            have HQ2 := (HQ.set_ 0 (.int .i64 (gens.length : Int))).set_ 1 (.int .i64 1)
            have r0 := HQ2.cell 0; have r1 := HQ2.cell 1
            simp at r0 r1
            go_wp2_with fail
            refine bodyPost_ret (v := .tuple #[.agg #[.int .i64 (gens.length : Int), .int .i64 1], .int .i64 0]) (by simp [results, Tryz.results45, go_sem, r0, r1]) rfl ⟨by rw [hE.out], (hbel.setCell (by simp) _).setCell (by simp) _⟩
end Go.Proofs.YtefdblaolmckmabGreat

namespace Go.Proofs.YtefdblaolmckmabGreat
open Go.RowKit
open Brood
set_option linter.unusedVariables false
set_option linter.unusedSimpArgs false
set_option maxRecDepth 20000 in
set_option maxHeartbeats 1600000 in
theorem isB_any (r : BRow) (i g : Int) (b : Nat) (w : World) (h : Blk w b 24 #[.int .i64 i, .int .i64 g]) :
    Calls Tryz.prog 139 #[rowV r, .pointer (some ⟨b, 0, none⟩)] w fun e w' => e = .returned (.bool (isB i g r)) ∧ Below w.heap.size w w' := by
  have hib : Hid (isB i g r = (r.idx == i && r.gen == g)) := Lib.hid rfl
  generalize isB i g r = B at *
  obtain ⟨idx, gen, has, vals, h8⟩ := r
  obtain ⟨a0, a1, a2, a3, a4, a5, a6, a7, rfl⟩ := vals_eight h8
  simp only at hib
  have b0 := h.cell 0; have b1 := h.cell 1
  have hlt := h.lt
  simp at b0 b1
  have hrv : rowV ⟨idx, gen, has, [a0, a1, a2, a3, a4, a5, a6, a7], h8⟩ = .agg #[.int .i64 idx, .int .i64 gen, .int .i64 has, .int .i64 a0, .int .i64 a1, .int .i64 a2, .int .i64 a3, .int .i64 a4, .int .i64 a5, .int .i64 a6, .int .i64 a7] := rfl
  rw [hrv]
  go_enter Tryz.func139, Tryz.ntmps139
  go_wp2_with fail
  all_goals (go_ret; exact ⟨ret_bool (by rw [hib.out]; simp [*]), (Below.refl _ _).alloc (Nat.le_refl _) _⟩)
set_option maxRecDepth 20000 in
set_option maxHeartbeats 3200000 in
theorem frow_any (rows : List BRow) (A : Option Addr) (c : Nat) (hlen : rows.length ≤ 1000000) (i g : Int) (b : Nat) (w : World) (hR : RdR w w.heap.size A rows) (h : Blk w b 24 #[.int .i64 i, .int .i64 g]) :
    Calls Tryz.prog 100 #[.slice A rows.length c, .func (.func 139) #[] #[.pointer (some ⟨b, 0, none⟩)]] w fun e w' => e = .returned (.int .i64 (findI i g rows)) ∧ Below w.heap.size w w' := by
  go_enter Tryz.func100, Tryz.ntmps100
  go_wp2_with fail
  go_loopw [8] (fun q wr => ∃ k : Nat, k ≤ rows.length ∧ q = .int .i64 k ∧ Hid (findR i g rows = (findR i g (rows.drop k)).map (· + k)) ∧ Below w.heap.size w wr) (fun q _ => rows.length - (intOf q).toNat)
  case atStart => exact ⟨0, by omega, rfl, Lib.hid (by simp), Below.refl _ _⟩
  case round =>
    obtain ⟨k, hk, rfl, hfr, hbel⟩ := hrel
    by_cases hlt : k < rows.length
    · have hR1 : RdR wr w.heap.size A rows := Rd.under hR hbel (Nat.le_refl _)
      obtain ⟨b1, off, rfl, hb1, hrow⟩ := hR1.at_ hlt
      have hst := Lib.hid (@findR_drop i g rows k hlt)
      have hB := h.below hbel h.lt
      have hcall := isB_any rows[k] i g b wr hB
      generalize rows[k] = r at *
      have i0 : (0 : Int) ≤ (k : Int) := by omega
      have i1 : (k : Int) < (rows.length : Int) := by omega
      obtain ⟨c0, c1, c2⟩ := hrow.head
      generalize isB i g r = B at *
      obtain ⟨idx, gen, has, vals, h8⟩ := r
      obtain ⟨a0, a1, a2, a3, a4, a5, a6, a7, rfl⟩ := vals_eight h8
      have v0 := hrow 3 (.int .i64 a0) rfl; have v1 := hrow 4 (.int .i64 a1) rfl; have v2 := hrow 5 (.int .i64 a2) rfl; have v3 := hrow 6 (.int .i64 a3) rfl; have v4 := hrow 7 (.int .i64 a4) rfl; have v5 := hrow 8 (.int .i64 a5) rfl; have v6 := hrow 9 (.int .i64 a6) rfl; have v7 := hrow 10 (.int .i64 a7) rfl
      simp only at c0 c1 c2
      have hrv : rowV ⟨idx, gen, has, [a0, a1, a2, a3, a4, a5, a6, a7], h8⟩ = .agg #[.int .i64 idx, .int .i64 gen, .int .i64 has, .int .i64 a0, .int .i64 a1, .int .i64 a2, .int .i64 a3, .int .i64 a4, .int .i64 a5, .int .i64 a6, .int .i64 a7] := rfl
      rw [hrv] at hcall
      have hcallh := Lib.hid hcall
      clear hcall hrv hrow
      go_wp2_with fail
      refine hcallh.out.mono ?_
      rintro e w1 ⟨rfl, hb2⟩
      cases B
      case true =>
        have hf : Hid (findI i g rows = (k : Int)) := Lib.hid (by unfold findI; rw [hfr.out, hst.out, if_pos rfl])
        go_wp2_with fail
        go_ret
        exact ⟨ret_int hf.out.symm, grow_below hbel hb2⟩
      case false =>
        have hf : Hid (findR i g rows = (findR i g (rows.drop (k + 1))).map (· + (k + 1))) := Lib.hid (by rw [hfr.out, hst.out, if_neg (by decide)])
        go_wp2_with fail
        go_roundw
        case rel => exact ⟨k + 1, by omega, by go_num, hf, grow_below hbel hb2⟩
        case measure => simp [intOf]; omega
    · obtain rfl : k = rows.length := by omega
      have hf : Hid (findI i g rows = -1) := Lib.hid (by unfold findI; rw [hfr.out, List.drop_length]; rfl)
      go_wp2_with fail
      go_ret
      exact ⟨ret_int hf.out.symm, hbel⟩
set_option maxRecDepth 20000 in
set_option maxHeartbeats 1600000 in
theorem find_any (rows : List BRow) (A : Option Addr) (c : Nat) (v2 : Value) (hlen : rows.length ≤ 1000000) (i g : Int) (b : Nat) (w : World) (hR : RdR w w.heap.size A rows) (h : Blk w b 64 #[.slice A rows.length c, v2]) :
    Calls Tryz.prog 99 #[.pointer (some ⟨b, 0, none⟩), .agg #[.int .i64 i, .int .i64 g]] w fun e w' => e = .returned (.int .i64 (findI i g rows)) ∧ Below w.heap.size w w' := by
  have hmf : ∀ (fn : Fn) (first cap : Array Value) (w : World), (Instr.makeFunc fn first cap).run Tryz.prog w = .ok (.func fn first cap) w := fun _ _ _ _ => rfl
  have k0 := h.cell 0
  have hlt := h.lt
  simp at k0
  have hf := Lib.hid (frow_any rows A c hlen i g w.heap.size (w.alloc (.cells #[.int .i64 i, .int .i64 g] 24)) (Rd.alloc_ hR _) (Blk.new _ _ _))
  go_enter Tryz.func99, Tryz.ntmps99
  go_wp2_with fail
  refine hf.out.mono ?_
  rintro e w1 ⟨rfl, hb1⟩
  go_wp2_with fail
  go_ret
  exact ⟨rfl, grow_below ((Below.refl _ _).alloc (Nat.le_refl _) _) hb1⟩
end Go.Proofs.YtefdblaolmckmabGreat

namespace Go.Proofs.YtefdblaolmckmabGreat
open Go.RowKit
open Brood
set_option linter.unusedVariables false
set_option linter.unusedSimpArgs false
theorem sl_some_r (ad : Addr) (n c : Nat) (w : World) : (binOp .eql 62 (.slice (some ad) n c) (.slice none 0 0)).run Tryz.prog w = .ok (.bool false) w := by kernel_rfl
theorem sl_none_r (n c : Nat) (w : World) : (binOp .eql 62 (.slice none n c) (.slice none 0 0)).run Tryz.prog w = .ok (.bool true) w := by kernel_rfl
set_option maxRecDepth 20000 in
set_option maxHeartbeats 1600000 in
theorem cloneR_any (zs : List BRow) (A : Option Addr) (c : Nat) (hlen : zs.length * 88 ≤ 140737488355328) (hn : A = none → c = 0 ∧ zs = []) (w : World) (hA : RdR w w.heap.size A zs) :
    Calls Tryz.prog 94 #[.slice A zs.length c] w fun e w' => ∃ v, e = .returned v ∧ w'.ownsRow w.heap.size 114 11 v zs.length (zs.flatMap rowCells) ∧ Below w.heap.size w w' := by
  obtain ⟨i0', hi0, hz0a, hz0b, hz0c⟩ := info_parts infoRow
  have hs1 := sl_some_r
  have hs2 := sl_none_r
  cases A with
  | none =>
    obtain ⟨rfl, rfl⟩ := hn rfl
    go_enter Tryz.func94, Tryz.ntmps94
    go_wp2_with fail
    go_ret
    exact ⟨_, rfl, own_nil _ _ _ _, Below.refl _ _⟩
  | some ad =>
    have hown0 : (w.alloc (.cells #[] 114)).ownsRow w.heap.size 114 11 (.slice (some ⟨w.heap.size, 0, none⟩) 0 0) 0 [] := World.ownsRow_lit w #[] 0 (Nat.le_refl _) (by unfold maxLen; omega) (by simp)
    have hA' := Rd.alloc hA (Nat.le_refl _) (.cells #[] 114)
    have hce : ∀ j u, (zs.flatMap rowCells)[j]? = some u → (w.alloc (.cells #[] 114)).cell? (ad.add j) = some u := by
      intro j u hu
      have h0 : 0 < zs.length := by
        rcases Nat.eq_zero_or_pos zs.length with e | e
        · have : zs = [] := List.eq_nil_of_length_eq_zero e
          subst this
          simp [ints] at hu
        · exact e
      obtain ⟨b, off, he, _, hc⟩ := hA'.2 h0
      obtain rfl := Option.some.inj he
      rw [add_mk]
      exact hc j u hu
    have hcl : (zs.flatMap rowCells).length = zs.length * 11 := hA.1
    go_enter Tryz.func94, Tryz.ntmps94
    go_wp2_with (at_builtin; refine wpList_append_own _ rfl _ _ 62 rfl w.heap.size 114 i0' (.agg #[.int .i64 0, .int .i64 0, .int .i64 0, .int .i64 0, .int .i64 0, .int .i64 0, .int .i64 0, .int .i64 0, .int .i64 0, .int .i64 0, .int .i64 0]) 11 88 Tryz.underlying62 hi0 hz0a hz0b hz0c rfl (by decide) _ _ _ rfl hown0 ad zs.length c (zs.flatMap rowCells) rfl hcl hce (rows_one _) ?c3 ?c4 ?c5 ?_; rotate_left 3; intro v' w1 hown' hgrow _)
    case c3 => unfold maxLen; omega
    case c4 => omega
    case c5 => simp
    go_ret
    exact ⟨_, rfl, by simpa using hown', ((Below.refl _ _).alloc (Nat.le_refl _) _).grown hgrow (by simp) (fun k e => by cases e; exact Nat.le_refl _)⟩
end Go.Proofs.YtefdblaolmckmabGreat

namespace Go.Proofs.YtefdblaolmckmabGreat
open Go.RowKit
open Brood
set_option linter.unusedVariables false
set_option linter.unusedSimpArgs false
set_option maxRecDepth 20000 in
set_option maxHeartbeats 3200000 in
theorem own_any (rows : List BRow) (gens : List Int) (Ar : Option Addr) (cr : Nat) (Ag : Option Addr) (cg : Nat) (hlr : rows.length * 88 ≤ 140737488355328) (hlg : gens.length * 8 ≤ 140737488355328) (hnr : Ar = none → cr = 0 ∧ rows = []) (hng : Ag = none → cg = 0 ∧ gens = [])
    (w : World) (hr : RdR w w.heap.size Ar rows) (hg : RdG w w.heap.size Ag gens) :
    Calls Tryz.prog 47 #[.agg #[.slice Ar rows.length cr, .slice Ag gens.length cg]] w fun e w' => ∃ vr vg, e = .returned (.agg #[vr, vg]) ∧ OwnW w' w.heap.size vr vg rows gens ∧ Below w.heap.size w w' := by
  have HB := (Blk.new w 64 #[.slice Ar rows.length cr, .slice Ag gens.length cg]).alloc (.cells #[.slice none 0 0, .slice none 0 0] 64)
  have HQ := Blk.new (w.alloc (.cells #[.slice Ar rows.length cr, .slice Ag gens.length cg] 64)) 64 #[.slice none 0 0, .slice none 0 0]
  simp only [World.size_alloc] at HQ
  have hbel0 : Below w.heap.size w ((w.alloc (.cells #[.slice Ar rows.length cr, .slice Ag gens.length cg] 64)).alloc (.cells #[.slice none 0 0, .slice none 0 0] 64)) := ((Below.refl _ _).alloc (Nat.le_refl _) _).alloc (by simp) _
  go_enter Tryz.func47, Tryz.ntmps47
  go_upto_region 1 with fail
  refine wp_region_open mixed (by kernel_rfl) (by kernel_rfl) (OwnI w w.heap.size w.heap.size (w.heap.size + 1) Ar cr Ag cg rows gens) ?_ ?_ ?_
  · exact ⟨hbel0.drew, HB.drew, HQ.drew, fun h => (by cases h), fun h => (by cases h), fun h => (by cases h), fun h => (by cases h), fun h => (by cases h), fun h => (by cases h), fun h => (by cases h), fun h => (by cases h), fun h => (by cases h)⟩
  · rintro vs w' l ⟨hbel, hB, hQ, v0, v1, v2, v3, v4, v5, v6, w6, w7⟩ hl
    rw [if_pos (hl 7 (by decide))] at hQ
    have o2 := v2 (hl 2 (by decide)); have o5 := v5 (hl 5 (by decide))
    rw [putAll_tab _ _ _ _ [(some 3, vs 0), (some 4, vs 1), (some 5, vs 2), (some 6, vs 3), (some 7, vs 4), (some 8, vs 5), (some 9, vs 6), (none, vs 7)] rfl]
    simp only [putL_eq, putT, List.set_cons_succ, List.set_cons_zero]
    have q0 := hQ.cell 0; have q1 := hQ.cell 1
    simp at q0 q1
    go_wp2_with fail
    refine bodyPost_ret (v := .agg #[vs 2, vs 5]) (by simp [results, Tryz.results47, go_sem, q0, q1]) rfl ⟨_, _, rfl, ⟨own_lower2 o2, own_lower2 o5⟩, hbel⟩
  · rintro i o ho l vs act w' hF ⟨hbel, hB, hQ, v0, v1, v2, v3, v4, v5, v6, w6, w7⟩ hli hd K hK
    have e1 := hF.was (k := 1) rfl
    have e2 := hF.was (k := 2) rfl
    simp at e1 e2
    have b0 := hB.cell 0; have b1 := hB.cell 1
    have hblt := hB.lt
    simp at b0 b1
    have hi : i < 8 := lt_of_some ho
    match i, hi, ho with
    | 0, _, ho =>
      obtain rfl := Option.some.inj ho
      go_simp
      exact hK _ _ ⟨hbel, hB, by simpa [upd] using hQ, fun _ => by simp [upd], by simpa [upd] using v1, by simpa [upd] using v2, by simpa [upd] using v3, by simpa [upd] using v4, by simpa [upd] using v5, by simpa [upd] using v6, by simpa [upd] using w6, by simpa [upd] using w7⟩
    | 1, _, ho =>
      obtain rfl := Option.some.inj ho
      have x0 : act.tmps[3]?.getD undef = .pointer (some ⟨w.heap.size, 0, none⟩) := (hF.val (j := 0) (d := 3) rfl (by simp [Region.binds] at hd; simp [hd])).trans (v0 (by simp [Region.binds] at hd; simp [hd]))
      go_simp
      exact hK _ _ ⟨hbel, hB, by simpa [upd] using hQ, by simpa [upd] using v0, fun _ => by simp [upd], by simpa [upd] using v2, by simpa [upd] using v3, by simpa [upd] using v4, by simpa [upd] using v5, by simpa [upd] using v6, by simpa [upd] using w6, by simpa [upd] using w7⟩
    | 2, _, ho =>
      obtain rfl := Option.some.inj ho
      have n6 : l 6 = false := by
        cases h : l 6
        · rfl
        · have := w6 h; rw [hli] at this; simp at this
      have n7 : l 7 = false := by
        cases h : l 7
        · rfl
        · have := w7 h; rw [n6] at this; cases this
      rw [n7] at hQ
      have x0 : act.tmps[4]?.getD undef = .slice Ar rows.length cr := (hF.val (j := 1) (d := 4) rfl (by simp [Region.binds] at hd; simp [hd])).trans (v1 (by simp [Region.binds] at hd; simp [hd]))
      go_simp
      refine (cloneR_any rows Ar cr hlr hnr w' (Rd.more (Rd.under hr hbel (Nat.le_refl _)) hbel.size)).mono ?_
      rintro e w'' ⟨v, rfl, hown, hb⟩
      have hown2 := own_lower hown (show w.heap.size + 1 + 1 ≤ w'.heap.size from by have := hQ.lt; omega)
      exact hK _ _ ⟨hbel.trans (hb.mono (by have := hbel.size; omega)), hB.below hb hB.lt, by have h := hQ.below hb hQ.lt; simpa [upd, n7] using h, by simpa [upd] using v0, by simpa [upd] using v1, fun _ => by simpa [upd] using hown2, by simpa [upd] using v3, by simpa [upd] using v4, fun h => by have h2 := own_below (v5 (by simpa [upd] using h)) hb; simpa [upd] using h2, by simp [upd, n6], by simp [upd, n6], by simp [upd, n7]⟩
    | 3, _, ho =>
      obtain rfl := Option.some.inj ho
      go_simp
      exact hK _ _ ⟨hbel, hB, by simpa [upd] using hQ, by simpa [upd] using v0, by simpa [upd] using v1, by simpa [upd] using v2, fun _ => by simp [upd], by simpa [upd] using v4, by simpa [upd] using v5, by simpa [upd] using v6, by simpa [upd] using w6, by simpa [upd] using w7⟩
    | 4, _, ho =>
      obtain rfl := Option.some.inj ho
      have x0 : act.tmps[6]?.getD undef = .pointer (some ⟨w.heap.size, 1, none⟩) := (hF.val (j := 3) (d := 6) rfl (by simp [Region.binds] at hd; simp [hd])).trans (v3 (by simp [Region.binds] at hd; simp [hd]))
      go_simp
      exact hK _ _ ⟨hbel, hB, by simpa [upd] using hQ, by simpa [upd] using v0, by simpa [upd] using v1, by simpa [upd] using v2, by simpa [upd] using v3, fun _ => by simp [upd], by simpa [upd] using v5, by simpa [upd] using v6, by simpa [upd] using w6, by simpa [upd] using w7⟩
    | 5, _, ho =>
      obtain rfl := Option.some.inj ho
      have n6 : l 6 = false := by
        cases h : l 6
        · rfl
        · have := w6 h; rw [hli] at this; simp at this
      have n7 : l 7 = false := by
        cases h : l 7
        · rfl
        · have := w7 h; rw [n6] at this; cases this
      rw [n7] at hQ
      have x0 : act.tmps[7]?.getD undef = .slice Ag gens.length cg := (hF.val (j := 4) (d := 7) rfl (by simp [Region.binds] at hd; simp [hd])).trans (v4 (by simp [Region.binds] at hd; simp [hd]))
      go_simp
      refine (cloneG_any gens Ag cg hlg hng w' (Rd.more (Rd.under hg hbel (Nat.le_refl _)) hbel.size)).mono ?_
      rintro e w'' ⟨v, rfl, hown, hb⟩
      have hown2 := own_lower hown (show w.heap.size + 1 + 1 ≤ w'.heap.size from by have := hQ.lt; omega)
      exact hK _ _ ⟨hbel.trans (hb.mono (by have := hbel.size; omega)), hB.below hb hB.lt, by have h := hQ.below hb hQ.lt; simpa [upd, n7] using h, by simpa [upd] using v0, by simpa [upd] using v1, fun h => by have h2 := own_below (v2 (by simpa [upd] using h)) hb; simpa [upd] using h2, by simpa [upd] using v3, by simpa [upd] using v4, fun _ => by simpa [upd] using hown2, by simp [upd, n6], by simp [upd, n6], by simp [upd, n7]⟩
    | 6, _, ho =>
      obtain rfl := Option.some.inj ho
      have l2 : l 2 = true := (by simp [Region.binds] at hd; simp [hd])
      have l5 : l 5 = true := (by simp [Region.binds] at hd; simp [hd])
      have n7 : l 7 = false := by
        cases h : l 7
        · rfl
        · have := w7 h; rw [hli] at this; cases this
      obtain ⟨A2, c2, hs2, _, _⟩ := own_shape (v2 l2)
      obtain ⟨A5, c5, hs5, _, _⟩ := own_shape (v5 l5)
      have x0 : act.tmps[5]?.getD undef = .slice A2 rows.length c2 := (hF.val (j := 2) (d := 5) rfl l2).trans hs2
      have x1 : act.tmps[8]?.getD undef = .slice A5 gens.length c5 := (hF.val (j := 5) (d := 8) rfl l5).trans hs5
      go_simp
      exact hK _ _ ⟨hbel, hB, by simpa [upd, n7] using hQ, by simpa [upd] using v0, by simpa [upd] using v1, by simpa [upd] using v2, by simpa [upd] using v3, by simpa [upd] using v4, by simpa [upd] using v5, fun _ => by simp [upd, hs2, hs5], fun _ => by simp [upd, l2, l5], by simp [upd, n7]⟩
    | 7, _, ho =>
      obtain rfl := Option.some.inj ho
      have l6 : l 6 = true := (by simp [Region.binds] at hd; simp [hd])
      have l2 := (w6 l6).1; have l5 := (w6 l6).2
      obtain ⟨A2, c2, hs2, _, _⟩ := own_shape (v2 l2)
      obtain ⟨A5, c5, hs5, _, _⟩ := own_shape (v5 l5)
      have x0 : act.tmps[9]?.getD undef = .agg #[.slice A2 rows.length c2, .slice A5 gens.length c5] := by rw [(hF.val (j := 6) (d := 9) rfl l6), v6 l6, hs2, hs5]
      rw [hli, if_neg (by decide)] at hQ
      have q0 := hQ.cell 0; have q1 := hQ.cell 1; have y0 := hQ.frozen 0; have y1 := hQ.frozen 1
      have hqlt := hQ.lt
      simp at q0 q1
      go_simp
      exact hK undef _ ⟨(hbel.setCell (by simp) _).setCell (by simp) _, (hB.far (by simp) _).far (by simp) _, by have h := (hQ.set_ 0 (.slice A2 rows.length c2)).set_ 1 (.slice A5 gens.length c5); simpa [upd, hs2, hs5] using h, by simpa [upd] using v0, by simpa [upd] using v1, fun _ => by have h2 := own_far (own_far (v2 l2) (p := ⟨w.heap.size + 1, 0, none⟩) (by simp) (.slice A2 rows.length c2)) (p := ⟨w.heap.size + 1, 1, none⟩) (by simp) (.slice A5 gens.length c5); simpa [upd] using h2, by simpa [upd] using v3, by simpa [upd] using v4, fun _ => by have h2 := own_far (own_far (v5 l5) (p := ⟨w.heap.size + 1, 0, none⟩) (by simp) (.slice A2 rows.length c2)) (p := ⟨w.heap.size + 1, 1, none⟩) (by simp) (.slice A5 gens.length c5); simpa [upd] using h2, by simpa [upd] using v6, by simpa [upd] using w6, fun _ => by simp [upd, l6]⟩
end Go.Proofs.YtefdblaolmckmabGreat

namespace Go.Proofs.YtefdblaolmckmabGreat
open Go.RowKit
open Brood
set_option linter.unusedVariables false
set_option linter.unusedSimpArgs false
def spE (b1 b3 : Nat) (i g : Int) (vr vg : Value) (rows : List BRow) (gens : List Int) : List Ent :=
  [.box b1 64 [.slice none 0 0, .slice none 0 0], .box (b1 + 1) 24 [.int .i64 0, .int .i64 0], .box b3 24 [.int .i64 i, .int .i64 g],
    .own vr 114 11 rows.length (rows.flatMap rowCells), .own vg 3 1 gens.length (ints gens)]
set_option maxRecDepth 20000 in
set_option maxHeartbeats 6400000 in
theorem spawn_any (rows : List BRow) (gens : List Int) (Ar : Option Addr) (cr : Nat) (Ag : Option Addr) (cg : Nat) (has n : Int) (hlr : rows.length ≤ 9223372036854775807) (hlg : gens.length ≤ 9223372036854775807) (hnr : Ar = none → cr = 0 ∧ rows = []) (hng : Ag = none → cg = 0 ∧ gens = [])
    (w : World) (hr : RdR w w.heap.size Ar rows) (hg : RdG w w.heap.size Ag gens) :
    Calls Tryz.prog 16 #[.agg #[.slice Ar rows.length cr, .slice Ag gens.length cg], .int .i64 has, .int .i64 n] w fun e w' =>
      ∃ v, e = .returned (.tuple #[v, .agg #[.int .i64 (spawnV rows gens has n).i, .int .i64 (spawnV rows gens has n).g], .int .i64 (spawnV rows gens has n).err]) ∧
        GotW w' w.heap.size v (spawnV rows gens has n).rows (spawnV rows gens has n).gens ∧ Below w.heap.size w w' := by
  have hsp : Hid (spawnV rows gens has n = if (worldErr ⟨rows, gens⟩).1 ≠ 0 then ⟨[], [], 0, 0, (worldErr ⟨rows, gens⟩).1⟩
      else if isSet has = false ∨ isVal n = false then ⟨[], [], 0, 0, 3⟩
      else if (nextV rows gens).2.2 ≠ 0 then ⟨[], [], 0, 0, (nextV rows gens).2.2⟩
      else ⟨insRow rows (posOf (nextV rows gens).1 rows) (newRow (nextV rows gens).1 (nextV rows gens).2.1 has n), gensPut gens (nextV rows gens).1 (nextV rows gens).2.1, (nextV rows gens).1, (nextV rows gens).2.1, 0⟩) := Lib.hid rfl
  generalize spawnV rows gens has n = E at *
  have H0 := (((Hp.start w).new w.heap.size rfl 64 [.slice Ar rows.length cr, .slice Ag gens.length cg]).new (w.heap.size + 1) (by simp) 64 [.slice none 0 0, .slice none 0 0]).new (w.heap.size + 1 + 1) (by simp) 24 [.int .i64 0, .int .i64 0]
  go_enter Tryz.func16, Tryz.ntmps16
  go_wp2_with fail
  obtain ⟨w0, hw0, H0⟩ := H0.name
  rw [hw0]; clear hw0
  refine (pwrong_any rows gens Ar cr Ag cg hlr w0 (H0.old hr) (H0.old hg)).mono ?_
  rintro e w1 ⟨rfl, hb1⟩
  replace H0 := H0.grow hb1
  clear hb1
  have hrt : Hid ((worldErr ⟨rows, gens⟩).1 = 0 → RightW rows gens) := Lib.hid (right_iff rows gens).1
  generalize worldErr ⟨rows, gens⟩ = F at *
  obtain ⟨f1, f2⟩ := F
  have H2 := H0.new _ rfl 48 [.int .i64 f1, .int .i64 f2]
  clear H0
  simp only at hsp hrt ⊢
  by_cases hf : f1 = 0
  case neg =>
    have hf' : (f1 != 0) = true := by simpa using hf
    have hE : Hid (E = ⟨[], [], 0, 0, f1⟩) := Lib.hid (by rw [hsp.out, if_pos hf])
    clear hsp hrt
    go_wp2_with fail
    obtain ⟨w2, hw2, H2⟩ := H2.name
    rw [hw2]; clear hw2
    have n13 := H2.ne 1 3 rfl rfl (by omega); have n23 := H2.ne 2 3 rfl rfl (by omega); have n31 := n13.symm; have n32 := n23.symm
    have q0 := H2.cell 1 0 rfl rfl; have q1 := H2.cell 1 1 rfl rfl; have q2 := H2.cell 2 0 rfl rfl; have q3 := H2.cell 2 1 rfl rfl
    have y0 := H2.frozen 1 0 rfl; have y1 := H2.frozen 1 1 rfl; have y2 := H2.frozen 2 0 rfl; have y3 := H2.frozen 2 1 rfl
    have c0 := H2.cell 3 0 rfl rfl
    go_region_held3 (fun w' => w'.cell? ⟨w1.heap.size, 0, none⟩ = some (.int .i64 f1)) (go_keep) (fail)
    have H4 := ((((H2.set 1 0 (.slice none 0 0) rfl).set 1 1 (.slice none 0 0) rfl).set 2 0 (.int .i64 0) rfl).set 2 1 (.int .i64 0) rfl).drew
    have p0 := H4.cell 1 0 rfl rfl; have p1 := H4.cell 1 1 rfl rfl; have p2 := H4.cell 2 0 rfl rfl; have p3 := H4.cell 2 1 rfl rfl
    go_wp2_with fail
    refine bodyPost_ret (v := .tuple #[.agg #[.slice none 0 0, .slice none 0 0], .agg #[.int .i64 0, .int .i64 0], .int .i64 f1]) (by simp [results, Tryz.results16, go_sem, p0, p1, p2, p3]) rfl ⟨_, by rw [hE.out], by rw [hE.out]; exact GotW.zero _ _, H4.bel⟩
  case pos =>
    subst hf
    have hrw := hrt.out rfl
    replace hlg : gens.length ≤ 1000000 := by have := hrw.len; omega
    replace hlr : rows.length ≤ 1000000 := by have := hrw.rows_le; have := hrw.len; omega
    have hsp2 : Hid (E = if isSet has = false ∨ isVal n = false then ⟨[], [], 0, 0, 3⟩
      else if (nextV rows gens).2.2 ≠ 0 then ⟨[], [], 0, 0, (nextV rows gens).2.2⟩
      else ⟨insRow rows (posOf (nextV rows gens).1 rows) (newRow (nextV rows gens).1 (nextV rows gens).2.1 has n), gensPut gens (nextV rows gens).1 (nextV rows gens).2.1, (nextV rows gens).1, (nextV rows gens).2.1, 0⟩) := Lib.hid (by rw [hsp.out, if_neg (by simp)])
    clear hsp hrt
    go_wp2_with fail
    obtain ⟨w2, hw2, H2⟩ := H2.name
    rw [hw2]; clear hw2
    have q0 := H2.cell 1 0 rfl rfl; have q1 := H2.cell 1 1 rfl rfl; have q2 := H2.cell 2 0 rfl rfl; have q3 := H2.cell 2 1 rfl rfl
    have y0 := H2.frozen 1 0 rfl; have y1 := H2.frozen 1 1 rfl; have y2 := H2.frozen 2 0 rfl; have y3 := H2.frozen 2 1 rfl
    have x0 := H2.cell 0 0 rfl rfl; have x1 := H2.cell 0 1 rfl rfl
    have H4 := (((H2.set 1 0 (.slice none 0 0) rfl).set 1 1 (.slice none 0 0) rfl).set 2 0 (.int .i64 0) rfl).set 2 1 (.int .i64 0) rfl
    have p0 := H4.cell 1 0 rfl rfl; have p1 := H4.cell 1 1 rfl rfl; have p2 := H4.cell 2 0 rfl rfl; have p3 := H4.cell 2 1 rfl rfl
    by_cases hs : isSet has = false ∨ isVal n = false
    · have hE : Hid (E = ⟨[], [], 0, 0, 3⟩) := Lib.hid (by rw [hsp2.out, if_pos hs])
      clear hsp2
      cases hs1 : isSet has with
      | false =>
        have hcall := set_any has w2
        rw [hs1] at hcall
        refine hcall.mono ?_
        rintro e w3 ⟨rfl, rfl⟩
        clear hs hcall
        go_wp2_with fail
        refine bodyPost_ret (v := .tuple #[.agg #[.slice none 0 0, .slice none 0 0], .agg #[.int .i64 0, .int .i64 0], .int .i64 3]) (by simp [results, Tryz.results16, go_sem, p0, p1, p2, p3]) rfl ⟨_, by rw [hE.out], by rw [hE.out]; exact GotW.zero _ _, H4.bel⟩
      | true =>
        have hs2 : isVal n = false := by rcases hs with h | h; (rw [hs1] at h; cases h); exact h
        have hcall := set_any has w2
        rw [hs1] at hcall
        refine hcall.mono ?_
        rintro e w3 ⟨rfl, rfl⟩
        clear hs hcall
        go_wp2_with fail
        have hcall := value_any n w2
        rw [hs2] at hcall
        refine hcall.mono ?_
        rintro e w3 ⟨rfl, rfl⟩
        clear hcall
        go_wp2_with fail
        refine bodyPost_ret (v := .tuple #[.agg #[.slice none 0 0, .slice none 0 0], .agg #[.int .i64 0, .int .i64 0], .int .i64 3]) (by simp [results, Tryz.results16, go_sem, p0, p1, p2, p3]) rfl ⟨_, by rw [hE.out], by rw [hE.out]; exact GotW.zero _ _, H4.bel⟩
    · have hs1 : isSet has = true := by cases h : isSet has <;> simp_all
      have hs2 : isVal n = true := by cases h : isVal n <;> simp_all
      have hsp3 : Hid (E = if (nextV rows gens).2.2 ≠ 0 then ⟨[], [], 0, 0, (nextV rows gens).2.2⟩
        else ⟨insRow rows (posOf (nextV rows gens).1 rows) (newRow (nextV rows gens).1 (nextV rows gens).2.1 has n), gensPut gens (nextV rows gens).1 (nextV rows gens).2.1, (nextV rows gens).1, (nextV rows gens).2.1, 0⟩) := Lib.hid (by rw [hsp2.out, if_neg hs])
      clear hsp2 hs H4 p0 p1 p2 p3
      have hcall := set_any has w2
      rw [hs1] at hcall
      refine hcall.mono ?_
      rintro e w3 ⟨rfl, rfl⟩
      clear hcall
      go_wp2_with fail
      have hcall := value_any n w2
      rw [hs2] at hcall
      refine hcall.mono ?_
      rintro e w3 ⟨rfl, rfl⟩
      clear hcall
      go_wp2_with fail
      have hnok := Lib.hid (@nextV_ok rows gens)
      refine (next_any rows gens Ar cr Ag cg (by omega) (by omega) hrw.wfr (fun n hn => by have := (hrw.gen n hn).1; omega) w2 (H2.old hr) (H2.old hg)).mono ?_
      generalize nextV rows gens = X at *
      obtain ⟨i, g, er⟩ := X
      rintro e w3 ⟨rfl, hb3⟩
      replace H2 := H2.grow hb3
      clear hb3
      simp only at hsp3 hnok ⊢
      have H3 := H2.new _ rfl 24 [.int .i64 i, .int .i64 g]
      by_cases her : er = 0
      case neg =>
        have her' : (er != 0) = true := by simpa using her
        have hE : Hid (E = ⟨[], [], 0, 0, er⟩) := Lib.hid (by rw [hsp3.out, if_pos her])
        clear hsp3 hnok q0 q1 q2 q3 y0 y1 y2 y3 x0 x1
        have q0 := H2.cell 1 0 rfl rfl; have q1 := H2.cell 1 1 rfl rfl; have q2 := H2.cell 2 0 rfl rfl; have q3 := H2.cell 2 1 rfl rfl
        have y0 := H2.frozen 1 0 rfl; have y1 := H2.frozen 1 1 rfl; have y2 := H2.frozen 2 0 rfl; have y3 := H2.frozen 2 1 rfl
        have l1 := H2.lt 1 rfl; have l2 := H2.lt 2 rfl
        have H4 := ((((H2.set 1 0 (.slice none 0 0) rfl).set 1 1 (.slice none 0 0) rfl).set 2 0 (.int .i64 0) rfl).set 2 1 (.int .i64 0) rfl).new w3.heap.size (by simp) 24 [.int .i64 i, .int .i64 g]
        have p0 := H4.cell 1 0 rfl rfl; have p1 := H4.cell 1 1 rfl rfl; have p2 := H4.cell 2 0 rfl rfl; have p3 := H4.cell 2 1 rfl rfl
        go_wp2_with fail
        refine bodyPost_ret (v := .tuple #[.agg #[.slice none 0 0, .slice none 0 0], .agg #[.int .i64 0, .int .i64 0], .int .i64 er]) (by simp [results, Tryz.results16, go_sem, p0, p1, p2, p3]) rfl ⟨_, by rw [hE.out], by rw [hE.out]; exact GotW.zero _ _, H4.bel⟩
      case pos =>
        subst her
        have hE : Hid (E = ⟨insRow rows (posOf i rows) (newRow i g has n), gensPut gens i g, i, g, 0⟩) := Lib.hid (by rw [hsp3.out, if_neg (by simp)])
        clear hsp3 q0 q1 q2 q3 y0 y1 y2 y3 x0 x1
        have hnok2 := Lib.hid (hnok.out rfl)
        clear hnok
        have x0 := H2.cell 0 0 rfl rfl; have x1 := H2.cell 0 1 rfl rfl
        have l1 := H2.lt 0 rfl
        go_wp2_with fail
        clear H2 x0 x1 l1
        obtain ⟨w4, hw4, H3⟩ := H3.name
        rw [hw4]; clear hw4
        refine (own_any rows gens Ar cr Ag cg (by omega) (by omega) hnr hng w4 (H3.old hr) (H3.old hg)).mono ?_
        rintro e w5 ⟨vr, vg, rfl, hO, hb5⟩
        have H5 : Hp w w5 (spE (w.heap.size + 1) w3.heap.size i g vr vg rows gens) := ((H3.got2 hb5 hO.rows_ hO.gens_ (by decide)).drop1 3).drop1 0
        obtain ⟨Ar2, cr2, rfl, _, _⟩ := own_shape hO.rows_
        obtain ⟨Ag2, cg2, rfl, hgc, hgm⟩ := own_shape hO.gens_
        have hgrow := hb5.size
        have hgx : w.heap.size + 1 < w5.heap.size ∧ w3.heap.size < w5.heap.size := ⟨H5.lt 0 rfl, H5.lt 2 rfl⟩
        clear H3 hO hb5 hgrow
        have x0 := H5.cell 2 0 rfl rfl
        obtain ⟨gx1, gx2⟩ := hgx
        go_upto_if 54 with fail
        have H6 := H5.new w5.heap.size rfl 64 [.slice Ar2 rows.length cr2, .slice Ag2 gens.length cg2]
        clear H5
        obtain ⟨G1, hG1⟩ : ∃ G1 : List Int, Hid (G1 = if i = (gens.length : Int) then gens ++ [0] else gens) := ⟨_, Lib.hid rfl⟩
        go_cut [] (fun wx => ∃ Ag3 cg3, G1.length ≤ cg3 ∧ cg3 ≤ maxLen ∧ Hp w wx (spE (w.heap.size + 1) w3.heap.size i g (.slice Ar2 rows.length cr2) (.slice Ag3 G1.length cg3) rows G1 ++ [.box w5.heap.size 64 [.slice Ar2 rows.length cr2, .slice Ag3 G1.length cg3]]))
        case first =>
          clear hnok2
          by_cases hi : i = (gens.length : Int)
          · have hi' : (i == (gens.length : Int)) = true := by simpa using hi
            have hGv : Hid (G1 = gens ++ [0]) := Lib.hid (by rw [hG1.out, if_pos hi])
            clear hi hG1
            obtain ⟨i0', hi0, hz0a, hz0b, hz0c⟩ := info_parts infoInt
            have H7 := H6.new (w5.heap.size + 1) (by simp) 3 [.int .i64 0]
            go_wp2_with (at_builtin; refine wpList_append_own_at _ rfl _ _ 38 rfl w.heap.size 3 i0' (.int .i64 0) 1 8 Tryz.underlying38 hi0 hz0a hz0b hz0c rfl (by decide) _ _ _ rfl (H7.owns 4 rfl) ⟨w5.heap.size + 1, 0, none⟩ 1 1 [.int .i64 0] rfl rfl ?c1 ?c2 ?c3 ?c4 ?c5 ?_; rotate_left 5; intro v' w7 hown7 hgrow7 _ hat7; have H8 := H7.app 4 rfl hgrow7 hown7 (hat7.imp id (fun e g hg => by rw [e] at hg; injection hg with hg; omega)); have z0 := H8.cell 5 0 rfl rfl; have z1 := H8.cell 5 1 rfl rfl; have z2 := H8.frozen 5 1 rfl; have z3 := H8.frozen 5 0 rfl; obtain ⟨A3, c3, rfl, hs1, hs2⟩ := own_shape hown7)
            case c1 => exact news_blk (H7.blk 6 rfl)
            case c2 => simp [Value.oneCell']
            case c3 => unfold maxLen; omega
            case c4 => omega
            case c5 => exact H7.bel.size
            go_meet
            have hl : G1.length = gens.length + 1 := by rw [hGv.out]; simp
            have hi : ints G1 = ints gens ++ [.int .i64 0] := by rw [hGv.out, ints_snoc]
            refine ⟨A3, c3, by omega, hs2, ?_⟩
            rw [hl]
            unfold spE
            rw [hl, hi]
            exact (H8.set 5 1 (.slice A3 (gens.length + 1) c3) rfl).drop1 6
          · have hi' : (i == (gens.length : Int)) = false := by simpa using hi
            have hGv : Hid (G1 = gens) := Lib.hid (by rw [hG1.out, if_neg hi])
            go_wp2_with fail
            go_meet
            rw [hGv.out]
            exact ⟨Ag2, cg2, hgc, hgm, H6⟩
        case rest =>
          clear H6 x0 gx1 gx2 hgc hgm
          obtain ⟨Ag3, cg3, hgc, hgm, H6⟩ := hcut
          obtain ⟨ix, rfl, hix⟩ : ∃ ix : Nat, i = (ix : Int) ∧ ix < G1.length := by
            rw [hG1.out]
            rcases hnok2.out with ⟨k, hk, rfl, _⟩ | ⟨rfl, _⟩
            · exact ⟨k, rfl, by rw [if_neg (by omega)]; exact hk⟩
            · exact ⟨_, rfl, by rw [if_pos rfl]; simp⟩
          clear hnok2
          obtain ⟨gb, rfl⟩ := own_some (H6.owns 4 rfl) (by omega)
          have hgput : Hid (gensPut gens (ix : Int) g = G1.set ix g) := Lib.hid (by rw [hG1.out]; simp [gensPut])
          have hse : Hid ((ints G1).set ix (.int .i64 g) = ints (G1.set ix g)) := Lib.hid (by simp [ints, List.map_set])
          have z0 := H6.cell 2 0 rfl rfl; have z1 := H6.cell 2 1 rfl rfl; have z2 := H6.cell 5 1 rfl rfl; have z3 := H6.cell 5 0 rfl rfl
          have z4 := H6.ownCell 4 ix rfl (ints_get hix); have z5 := H6.ownFrozen 4 ix rfl
          have i0 : (0 : Int) ≤ (ix : Int) := by omega
          have i1 : (ix : Int) < (G1.length : Int) := by omega
          have n0 := (H6.apart (i := 4) (j := 2) rfl rfl (by omega) (g := gb) rfl)
          have n1 := (H6.apart (i := 4) (j := 5) rfl rfl (by omega) (g := gb) rfl)
          have n0' : ¬ (w3.heap.size = gb) := fun e => n0 (by rw [← e]; rfl)
          have n0'' : ¬ (gb = w3.heap.size) := fun e => n0 (by rw [e]; rfl)
          clear n0 n1
          have H7 := H6.put 4 ix (.int .i64 g) rfl
          rw [hse.out, show G1.length = (G1.set ix g).length by simp] at H7
          have H8 := H7.new wc.heap.size (by simp) 114 (rowL ix g has zeros8)
          clear H7
          rw [show G1.length = (G1.set ix g).length by simp] at z2
          rw [show G1.length = (G1.set ix g).length by simp] at i1
          rw [← hgput.out] at *
          go_wp2_with fail
          clear z0 z1 z2 z3 z4 z5 n0' n0'' H6 hse i1 hgput hG1
          obtain ⟨w8, hw8, H8⟩ := H8.name
          have hsz : Hid (wc.heap.size + 1 = w8.heap.size) := Lib.hid (by rw [← hw8]; simp)
          have hw8' := hw8
          rw [show rowL ix g has zeros8 = [.int .i64 ix, .int .i64 g, .int .i64 has, .int .i64 0, .int .i64 0, .int .i64 0, .int .i64 0, .int .i64 0, .int .i64 0, .int .i64 0, .int .i64 0] from rfl] at hw8'
          rw [hw8']; clear hw8 hw8'
          refine (list_any has hs1 w8).mono ?_
          rintro e w9 ⟨vl, rfl, hol, hb9⟩
          obtain ⟨Al, cl, rfl, hlc, hlm⟩ := own_shape hol
          have H9 := H8.got hb9 hol
          clear H8 hol hb9
          obtain ⟨b6, hb6⟩ : ∃ b6, b6 = wc.heap.size := ⟨_, rfl⟩
          rw [← hb6] at H9 ⊢
          have hgl := Lib.hid (show (gensPut gens (ix : Int) g).length = (gensPut gens (ix : Int) g).length from rfl)
          generalize gensPut gens (ix : Int) g = G2 at *
          clear hb6 hsz
          have hl8 := listS_len has
          go_wp2_with fail
          go_loopw [73] (fun i wr => ∃ j : Nat, j ≤ (listS has).length ∧ i = .int .i64 j ∧ Hp w wr (spE (w.heap.size + 1) w3.heap.size ix g (.slice Ar2 rows.length cr2) (.slice (some ⟨gb, 0, none⟩) G2.length cg3) rows G2 ++ [.box w5.heap.size 64 [.slice Ar2 rows.length cr2, .slice (some ⟨gb, 0, none⟩) G2.length cg3]] ++ [.box b6 114 (rowL ix g has (valsTo has n j))] ++ [.own (.slice Al (listS has).length cl) 3 1 (listS has).length (ints (listS has))])) (fun i _ => (listS has).length - (intOf i).toNat)
          case atStart => exact ⟨0, by omega, rfl, H9⟩
          case round =>
            clear H9
            obtain ⟨j, hj, rfl, H9⟩ := hrel
            by_cases hlt : j < (listS has).length
            · obtain ⟨kg, rfl⟩ := own_some (H9.owns 7 rfl) (by omega)
              have z4 := H9.ownCell 7 j rfl (ints_get hlt)
              obtain ⟨k0, k8⟩ := listS_range (listS has)[j] (List.getElem_mem hlt)
              have hvs := Lib.hid (valsTo_succ n hlt)
              obtain ⟨q, hq⟩ := nat_of k0
              rw [hq] at z4 hvs k0 k8
              clear hq
              have hv8 := valsTo_len has n j
              have hrs := Lib.hid (rowL_set ix g has (valsTo has n j) q n)
              rw [Int.toNat_natCast] at hvs
              obtain ⟨a0, a1, a2, a3, a4, a5, a6, a7, hva⟩ := vals_eight hv8
              have i0 : (0 : Int) ≤ (j : Int) := by omega
              have i1 : (j : Int) < ((listS has).length : Int) := by omega
              have hzq : ∃ u, wr.cell? ⟨b6, 3 + q, none⟩ = some u := by
                obtain ⟨u, hu⟩ : ∃ u, (rowL ix g has (valsTo has n j))[3 + q]? = some u := ⟨_, List.getElem?_eq_getElem (by simp [rowL, ints, hv8]; omega)⟩
                exact ⟨u, H9.cell 6 (3 + q) rfl hu⟩
              obtain ⟨u, hu⟩ := hzq
              have z6 := H9.frozen 6 (3 + q) rfl
              have H10 := H9.set 6 (3 + q) (.int .i64 n) rfl
              rw [hrs.out, ← hvs.out] at H10
              clear H9 hva hv8 hrs hvs
              have H11 := Lib.hid H10
              clear H10
              go_wp2_with fail
              go_roundw
              case rel => exact ⟨j + 1, by omega, by go_num, H11.out⟩
              case measure => simp [intOf]; omega
            · obtain rfl : j = (listS has).length := by omega
              replace H9 := H9.drop1 7
              have hrc := newRow_cells ix g has n
              rw [hrc] at H9
              obtain ⟨R, hR⟩ : ∃ R : BRow, R = newRow ix g has n := ⟨_, rfl⟩
              rw [show (⟨ix, g, has, valsTo has n (listS has).length, valsTo_len _ _ _⟩ : BRow) = R from hR.symm] at H9
              rw [← hR] at hE
              clear hrc
              have z0 := H9.cell 5 0 rfl rfl; have z1 := H9.cell 2 0 rfl rfl
              go_wp2_with fail
              clear z0 z1
              refine (search_any rows Ar2 cr2 ix hlr hrw.rise wr (H9.rd 3 rfl)).mono ?_
              rintro e w10 ⟨fb, rfl, hb10⟩
              have hpl := posOf_le ix rows
              generalize posOf (ix : Int) rows = pp at *
              replace H9 := H9.grow hb10
              clear hb10
              have z0 := H9.cell 5 0 rfl rfl; have y0 := H9.frozen 5 0 rfl
              obtain ⟨ridx, rgen, rhas, rvals, rh8⟩ := R
              obtain ⟨a0, a1, a2, a3, a4, a5, a6, a7, rfl⟩ := vals_eight rh8
              have c0 := H9.cell 6 0 rfl rfl; have c1 := H9.cell 6 1 rfl rfl; have c2 := H9.cell 6 2 rfl rfl; have c3 := H9.cell 6 3 rfl rfl; have c4 := H9.cell 6 4 rfl rfl; have c5 := H9.cell 6 5 rfl rfl; have c6 := H9.cell 6 6 rfl rfl; have c7 := H9.cell 6 7 rfl rfl; have c8 := H9.cell 6 8 rfl rfl; have c9 := H9.cell 6 9 rfl rfl; have c10 := H9.cell 6 10 rfl rfl
              go_wp2_with fail
              clear z0 y0 c0 c1 c2 c3 c4 c5 c6 c7 c8 c9 c10
              replace H9 := (H9.drop1 6).new w10.heap.size rfl 114 [.int .i64 ridx, .int .i64 rgen, .int .i64 rhas, .int .i64 a0, .int .i64 a1, .int .i64 a2, .int .i64 a3, .int .i64 a4, .int .i64 a5, .int .i64 a6, .int .i64 a7]
              obtain ⟨w11, hw11, H9⟩ := H9.name
              rw [hw11]; clear hw11
              refine (insert_any rows ⟨ridx, rgen, rhas, [a0, a1, a2, a3, a4, a5, a6, a7], rh8⟩ pp hpl hlr _ w.heap.size w10.heap.size w11 H9.bel.size (fun e => (H9.apart (i := 3) (j := 6) rfl rfl (by omega) e) rfl) (H9.owns 3 rfl) (H9.blk 6 rfl)).mono ?_
              rintro e w12 ⟨v3, rfl, hown12, hgrow12, hat12⟩
              have H12 := (H9.step (p' := .own v3 114 11 (rows.length + 1) _) 3 rfl hgrow12 hown12 hat12).drop1 6
              obtain ⟨A3, c3, rfl, hs1, hs2⟩ := own_shape hown12
              clear H9 hown12 hgrow12 hat12
              have z0 := H12.cell 5 0 rfl rfl; have y0 := H12.frozen 5 0 rfl
              have H13 := H12.set 5 0 (.slice A3 (rows.length + 1) c3) rfl
              clear H12
              go_upto_region 21 with fail
              obtain ⟨w13, hw13, H13⟩ := H13.name
              rw [hw13]; clear hw13 z0 y0
              have n02 := H13.ne 0 2 rfl rfl (by omega); have n05 := H13.ne 0 5 rfl rfl (by omega); have n12 := H13.ne 1 2 rfl rfl (by omega); have n15 := H13.ne 1 5 rfl rfl (by omega)
              have n20 := n02.symm; have n50 := n05.symm; have n21 := n12.symm; have n51 := n15.symm
              have q0 := H13.cell 0 0 rfl rfl; have q1 := H13.cell 0 1 rfl rfl; have q2 := H13.cell 1 0 rfl rfl; have q3 := H13.cell 1 1 rfl rfl
              have y0 := H13.frozen 0 0 rfl; have y1 := H13.frozen 0 1 rfl; have y2 := H13.frozen 1 0 rfl; have y3 := H13.frozen 1 1 rfl
              have x0 := H13.cell 5 0 rfl rfl; have x1 := H13.cell 5 1 rfl rfl; have x2 := H13.cell 2 0 rfl rfl; have x3 := H13.cell 2 1 rfl rfl
              go_region_held3 (fun w' => w'.cell? ⟨w5.heap.size, 0, none⟩ = some (.slice A3 (rows.length + 1) c3) ∧ w'.cell? ⟨w5.heap.size, 1, none⟩ = some (.slice (some ⟨gb, 0, none⟩) G2.length cg3) ∧ w'.cell? ⟨w3.heap.size, 0, none⟩ = some (.int .i64 ix) ∧ w'.cell? ⟨w3.heap.size, 1, none⟩ = some (.int .i64 g)) (go_keep) (fail)
              have H14 := ((((H13.set 0 0 (.slice A3 (rows.length + 1) c3) rfl).set 0 1 (.slice (some ⟨gb, 0, none⟩) G2.length cg3) rfl).set 1 0 (.int .i64 ix) rfl).set 1 1 (.int .i64 g) rfl).drew
              have p0 := H14.cell 0 0 rfl rfl; have p1 := H14.cell 0 1 rfl rfl; have p2 := H14.cell 1 0 rfl rfl; have p3 := H14.cell 1 1 rfl rfl
              go_wp2_with fail
              refine bodyPost_ret (v := .tuple #[.agg #[.slice A3 (rows.length + 1) c3, .slice (some ⟨gb, 0, none⟩) G2.length cg3], .agg #[.int .i64 ix, .int .i64 g], .int .i64 0]) (by simp [results, Tryz.results16, go_sem, p0, p1, p2, p3]) rfl ⟨_, by rw [hE.out], ?_, H14.bel⟩
              rw [hE.out]
              refine ⟨_, _, rfl, ?_, H14.owns 4 rfl⟩
              have hil := insRow_length hpl ⟨ridx, rgen, rhas, [a0, a1, a2, a3, a4, a5, a6, a7], rh8⟩
              have ho := H14.owns 3 rfl
              simp only
              rw [hil]
              exact ho
end Go.Proofs.YtefdblaolmckmabGreat

namespace Go.Proofs.YtefdblaolmckmabGreat
open Go.RowKit
open Brood
set_option linter.unusedVariables false
set_option linter.unusedSimpArgs false
set_option maxRecDepth 20000 in
set_option maxHeartbeats 1600000 in
theorem keepF_any (p : Value) (w : World) :
    Calls Tryz.prog 55 #[p] w fun e w' => e = .returned (.int .i64 0) ∧ w = w' := by
  go_enter Tryz.func55, Tryz.ntmps55
  go_wp2_with fail
  go_ret
  exact ⟨rfl, rfl⟩
set_option maxRecDepth 20000 in
set_option maxHeartbeats 6400000 in
theorem putF_any (r : BRow) (hs : isSet r.has = true) (part n : Int) (g o : Nat) (b1 b2 : Nat) (w : World) (h1 : Blk w b1 3 #[.int .i64 part]) (h2 : Blk w b2 3 #[.int .i64 n]) (n1 : g ≠ b1) (n2 : g ≠ b2) (cur : Array Value) (HC : Blk w g 114 cur) (hr : RowIn cur o r) :
    Calls Tryz.prog 61 #[.pointer (some ⟨g, o, none⟩), .pointer (some ⟨b1, 0, none⟩), .pointer (some ⟨b2, 0, none⟩)] w fun e w' => e = .returned (.int .i64 (putF part n r).2) ∧ w.grownBy w' (some g) ∧ Blk w' g 114 (patch cur o (rowCells (putF part n r).1)) := by
  have c1 := h1.cell 0; have c2 := h2.cell 0
  simp at c1 c2
  have ch := hr.has
  have hc2 : w.cell? ⟨g, o + 2, none⟩ = some (.int .i64 r.has) := (HC.cell (o + 2)).trans ch
  have m1 := n1.symm; have m2 := n2.symm
  by_cases hpv : isPart part = true ∧ isVal n = true
  · obtain ⟨hp, hv⟩ := hpv
    have hF : Hid (putF part n r = (⟨r.idx, r.gen, withS r.has part, r.vals.set part.toNat n, by rw [List.length_set]; exact r.h8⟩, 0)) := Lib.hid (by simp [putF, hp, hv])
    obtain ⟨p0, p8⟩ := isPart_iff.1 hp
    obtain ⟨q, rfl⟩ := nat_of p0
    have hq8 : q < 8 := by omega
    have cv := hr.val hq8
    have hpr := Lib.hid (patch_row hr (withS r.has q) n hq8 (by rw [List.length_set]; exact r.h8))
    have hcp := part_any q w; have hcn := value_any n w
    rw [hp] at hcp; rw [hv] at hcn
    have hcph := Lib.hid hcp; have hcnh := Lib.hid hcn
    have hwi := fun W => with_any r.has q hs W
    have hwih := Lib.hid hwi
    clear hcp hcn hwi hr hs hp hv
    obtain ⟨ridx, rgen, has, rvals, rh8⟩ := r
    simp only at *
    generalize rvals[q]'(by rw [rh8]; omega) = z at cv
    generalize withS has q = hs' at *
    go_enter Tryz.func61, Tryz.ntmps61
    go_wp2_with fail
    refine hcph.out.mono ?_
    rintro e w1 ⟨rfl, rfl⟩
    go_wp2_with fail
    refine hcnh.out.mono ?_
    rintro e w1 ⟨rfl, rfl⟩
    go_wp2_with fail
    refine wp_region_known mixed (by kernel_rfl) (by kernel_rfl) (tab [.pointer (some ⟨g, o, none⟩), .pointer (some ⟨g, o, none⟩), .int .i64 (q : Int), .pointer (some ⟨g, o, none⟩), .pointer (some ⟨g, o, none⟩), .pointer (some ⟨g, o + 2, none⟩), .int .i64 has, .int .i64 (q : Int), .int .i64 hs', .int .i64 n, .pointer (some ⟨g, o, none⟩), .pointer (some ⟨g, o + 2, none⟩), undef, .pointer (some ⟨g, o, none⟩), .pointer (some ⟨g, o + 3, none⟩), .pointer (some ⟨g, o + 3 + q, none⟩), undef]) (fun l w' => w.grownBy w' (some g) ∧ Blk w' g 114 (if l 16 then (cur.setIfInBounds (o + 2) (.int .i64 hs')).setIfInBounds (o + 3 + q) (.int .i64 n) else if l 12 then cur.setIfInBounds (o + 2) (.int .i64 hs') else cur) ∧ (l 12 = true → l 6 = true) ∧ (l 16 = true → l 12 = true)) ⟨⟨rfl, rfl, rfl, Nat.le_refl _, fun _ _ _ => rfl⟩, HC.drew, by simp, by simp⟩ ?_ ?_
    rotate_left
    · rintro i op ho l act w' ⟨hG, hC, hO1, hO2⟩ hli hd hv hwas K hK
      have hi : i < 17 := lt_of_some ho
      have e0 := hwas 0 rfl
      have e1 := hwas 1 rfl
      have e2 := hwas 2 rfl
      simp at e0 e1 e2
      have hB1 := h1.grown hG (by simpa using m1)
      have hB2 := h2.grown hG (by simpa using m2)
      have d1 := hB1.cell 0; have d2 := hB2.cell 0
      simp at d1 d2
      have hz := hC.frozen (o + 2); have hz2 := hC.frozen (o + 3 + q)
      match i, hi, ho, hli, hK with
      | 0, _, ho, hli, hK =>
        obtain rfl := Option.some.inj ho
        clear hv hwas
        go_simp
        exact hK _ ⟨hG, by simpa [upd] using hC, by simp [upd]; intro h; simp [hO1 h], by simpa [upd] using hO2⟩
      | 1, _, ho, hli, hK =>
        obtain rfl := Option.some.inj ho
        clear hv hwas
        go_simp
        exact hK _ ⟨hG, by simpa [upd] using hC, by simp [upd]; intro h; simp [hO1 h], by simpa [upd] using hO2⟩
      | 2, _, ho, hli, hK =>
        obtain rfl := Option.some.inj ho
        clear hv hwas
        go_simp
        exact hK _ ⟨hG, by simpa [upd] using hC, by simp [upd]; intro h; simp [hO1 h], by simpa [upd] using hO2⟩
      | 3, _, ho, hli, hK =>
        obtain rfl := Option.some.inj ho
        clear hv hwas
        go_simp
        exact hK _ ⟨hG, by simpa [upd] using hC, by simp [upd]; intro h; simp [hO1 h], by simpa [upd] using hO2⟩
      | 4, _, ho, hli, hK =>
        obtain rfl := Option.some.inj ho
        have x16 : act.tmps[16]?.getD undef = .pointer (some ⟨g, o, none⟩) := hv 3 16 rfl (by simp [Region.binds] at hd; simp [hd])
        clear hv hwas
        go_simp
        exact hK _ ⟨hG, by simpa [upd] using hC, by simp [upd]; intro h; simp [hO1 h], by simpa [upd] using hO2⟩
      | 5, _, ho, hli, hK =>
        obtain rfl := Option.some.inj ho
        have x17 : act.tmps[17]?.getD undef = .pointer (some ⟨g, o, none⟩) := hv 4 17 rfl (by simp [Region.binds] at hd; simp [hd])
        clear hv hwas
        go_simp
        exact hK _ ⟨hG, by simpa [upd] using hC, by simp [upd]; intro h; simp [hO1 h], by simpa [upd] using hO2⟩
      | 6, _, ho, hli, hK =>
        obtain rfl := Option.some.inj ho
        have x18 : act.tmps[18]?.getD undef = .pointer (some ⟨g, o + 2, none⟩) := hv 5 18 rfl (by simp [Region.binds] at hd; simp [hd])
        have l1 : l 12 = false := by
          cases h : l 12 with
          | false => rfl
          | true => exact absurd (hO1 h) (by simp [hli])
        have l2 : l 16 = false := by
          cases h : l 16 with
          | false => rfl
          | true => rw [hO2 h] at l1; cases l1
        have hC2 := hC
        simp only [l1, l2] at hC2
        have d3 := hC2.cell (o + 2)
        simp [ch] at d3
        clear hC2
        clear hv hwas
        go_simp
        exact hK _ ⟨hG, by simpa [upd] using hC, by simp [upd], by simpa [upd] using hO2⟩
      | 7, _, ho, hli, hK =>
        obtain rfl := Option.some.inj ho
        clear hv hwas
        go_simp
        exact hK _ ⟨hG, by simpa [upd] using hC, by simp [upd]; intro h; simp [hO1 h], by simpa [upd] using hO2⟩
      | 8, _, ho, hli, hK =>
        obtain rfl := Option.some.inj ho
        have x19 : act.tmps[19]?.getD undef = .int .i64 has := hv 6 19 rfl (by simp [Region.binds] at hd; simp [hd])
        have x20 : act.tmps[20]?.getD undef = .int .i64 (q : Int) := hv 7 20 rfl (by simp [Region.binds] at hd; simp [hd])
        have hwc := hwih.out w'
        clear hwih
        clear hv hwas
        go_simp
        exact hwc.mono (fun e w2 ⟨he, hw⟩ => by subst he hw; exact hK _ ⟨hG, by simpa [upd] using hC, by simp [upd]; intro h; simp [hO1 h], by simpa [upd] using hO2⟩)
      | 9, _, ho, hli, hK =>
        obtain rfl := Option.some.inj ho
        clear hv hwas
        go_simp
        exact hK _ ⟨hG, by simpa [upd] using hC, by simp [upd]; intro h; simp [hO1 h], by simpa [upd] using hO2⟩
      | 10, _, ho, hli, hK =>
        obtain rfl := Option.some.inj ho
        have x13 : act.tmps[13]?.getD undef = .pointer (some ⟨g, o, none⟩) := hv 0 13 rfl (by simp [Region.binds] at hd; simp [hd])
        clear hv hwas
        go_simp
        exact hK _ ⟨hG, by simpa [upd] using hC, by simp [upd]; intro h; simp [hO1 h], by simpa [upd] using hO2⟩
      | 11, _, ho, hli, hK =>
        obtain rfl := Option.some.inj ho
        have x23 : act.tmps[23]?.getD undef = .pointer (some ⟨g, o, none⟩) := hv 10 23 rfl (by simp [Region.binds] at hd; simp [hd])
        clear hv hwas
        go_simp
        exact hK _ ⟨hG, by simpa [upd] using hC, by simp [upd]; intro h; simp [hO1 h], by simpa [upd] using hO2⟩
      | 12, _, ho, hli, hK =>
        obtain rfl := Option.some.inj ho
        have x24 : act.tmps[24]?.getD undef = .pointer (some ⟨g, o + 2, none⟩) := hv 11 24 rfl (by simp [Region.binds] at hd; simp [hd])
        have x21 : act.tmps[21]?.getD undef = .int .i64 hs' := hv 8 21 rfl (by simp [Region.binds] at hd; simp [hd])
        have l2 : l 16 = false := by
          cases h : l 16 with
          | false => rfl
          | true => exact absurd (hO2 h) (by simp [hli])
        have hC2 := hC
        simp only [hli, l2] at hC2
        have d3 := hC2.cell (o + 2)
        simp [ch] at d3
        have l6 : l 6 = true := by simp [Region.binds] at hd; simp [hd]
        have hCn := hC2.set_ (o + 2) (.int .i64 hs')
        clear hC2 hC
        clear hv hwas
        go_simp
        exact hK _ ⟨⟨hG.os, hG.tape, hG.output, by simpa [World.setCell] using hG.size, fun k h1 h2 => (Below.heap_setCell _ _ _ _ (fun e => h2 (by rw [e]))).trans (hG.block k h1 h2)⟩, by simpa [upd, l2] using hCn, by simp [upd, l6], by simp [upd]⟩
      | 13, _, ho, hli, hK =>
        obtain rfl := Option.some.inj ho
        have x14 : act.tmps[14]?.getD undef = .pointer (some ⟨g, o, none⟩) := hv 1 14 rfl (by simp [Region.binds] at hd; simp [hd])
        clear hv hwas
        go_simp
        exact hK _ ⟨hG, by simpa [upd] using hC, by simp [upd]; intro h; simp [hO1 h], by simpa [upd] using hO2⟩
      | 14, _, ho, hli, hK =>
        obtain rfl := Option.some.inj ho
        have x25 : act.tmps[25]?.getD undef = .pointer (some ⟨g, o, none⟩) := hv 13 25 rfl (by simp [Region.binds] at hd; simp [hd])
        clear hv hwas
        go_simp
        exact hK _ ⟨hG, by simpa [upd] using hC, by simp [upd]; intro h; simp [hO1 h], by simpa [upd] using hO2⟩
      | 15, _, ho, hli, hK =>
        obtain rfl := Option.some.inj ho
        have x26 : act.tmps[26]?.getD undef = .pointer (some ⟨g, o + 3, none⟩) := hv 14 26 rfl (by simp [Region.binds] at hd; simp [hd])
        have x15 : act.tmps[15]?.getD undef = .int .i64 (q : Int) := hv 2 15 rfl (by simp [Region.binds] at hd; simp [hd])
        clear hv hwas
        go_simp
        exact hK _ ⟨hG, by simpa [upd] using hC, by simp [upd]; intro h; simp [hO1 h], by simpa [upd] using hO2⟩
      | 16, _, ho, hli, hK =>
        obtain rfl := Option.some.inj ho
        have x27 : act.tmps[27]?.getD undef = .pointer (some ⟨g, o + 3 + q, none⟩) := hv 15 27 rfl (by simp [Region.binds] at hd; simp [hd])
        have x22 : act.tmps[22]?.getD undef = .int .i64 n := hv 9 22 rfl (by simp [Region.binds] at hd; simp [hd])
        have l1 : l 12 = true := by simp [Region.binds] at hd; simp [hd]
        have hC2 := hC
        simp only [hli, l1] at hC2
        have d3 := hC2.cell (o + 3 + q)
        simp only [if_true, Bool.false_eq_true, if_false] at d3
        rw [Array.getElem?_setIfInBounds_ne (by omega), cv] at d3
        have hCn := hC2.set_ (o + 3 + q) (.int .i64 n)
        clear hC2 hC
        clear hv hwas
        go_simp
        exact hK _ ⟨⟨hG.os, hG.tape, hG.output, by simpa [World.setCell] using hG.size, fun k h1 h2 => (Below.heap_setCell _ _ _ _ (fun e => h2 (by rw [e]))).trans (hG.block k h1 h2)⟩, by simpa [upd] using hCn, by simpa [upd] using hO1, by simp [upd, l1]⟩
    rintro w' l ⟨hG, hC, hO1, hO2⟩ hl
    rw [putAll_tab _ _ _ _ [(some 13, .pointer (some ⟨g, o, none⟩)), (some 14, .pointer (some ⟨g, o, none⟩)), (some 15, .int .i64 (q : Int)), (some 16, .pointer (some ⟨g, o, none⟩)), (some 17, .pointer (some ⟨g, o, none⟩)), (some 18, .pointer (some ⟨g, o + 2, none⟩)), (some 19, .int .i64 has), (some 20, .int .i64 (q : Int)), (some 21, .int .i64 hs'), (some 22, .int .i64 n), (some 23, .pointer (some ⟨g, o, none⟩)), (some 24, .pointer (some ⟨g, o + 2, none⟩)), (none, undef), (some 25, .pointer (some ⟨g, o, none⟩)), (some 26, .pointer (some ⟨g, o + 3, none⟩)), (some 27, .pointer (some ⟨g, o + 3 + q, none⟩)), (none, undef)] rfl]
    simp only [putL_eq, putT, List.set_cons_succ, List.set_cons_zero]
    have hl2 : l 16 = true := hl 16 (by decide)
    rw [hl2, if_pos rfl] at hC
    go_wp2_with fail
    go_ret
    refine ⟨by rw [hF.out]; rfl, hG, ?_⟩
    rw [hF.out]
    show Blk w' g _ (patch cur o (rowCells ⟨ridx, rgen, hs', rvals.set q n, by rw [List.length_set]; exact rh8⟩))
    rw [← hpr.out]
    exact hC
  · have hF : Hid (putF part n r = (r, 3)) := Lib.hid (by unfold putF; rw [if_neg (by simpa using hpv)])
    have hsame := Lib.hid (patch_same hr)
    clear hr hs ch hc2
    have hcp := part_any part w; have hcn := value_any n w
    cases hp : isPart part with
    | false =>
      rw [hp] at hcp
      have hcph := Lib.hid hcp
      clear hcp hcn hpv
      go_enter Tryz.func61, Tryz.ntmps61
      go_wp2_with fail
      refine hcph.out.mono ?_
      rintro e w1 ⟨rfl, rfl⟩
      go_wp2_with fail
      go_ret
      exact ⟨by rw [hF.out]; rfl, grown_refl _ _, by rw [hF.out, hsame.out]; exact HC⟩
    | true =>
      have hv : isVal n = false := by cases h : isVal n; rfl; exact absurd ⟨hp, h⟩ hpv
      rw [hp] at hcp; rw [hv] at hcn
      have hcph := Lib.hid hcp; have hcnh := Lib.hid hcn
      clear hcp hcn hpv
      go_enter Tryz.func61, Tryz.ntmps61
      go_wp2_with fail
      refine hcph.out.mono ?_
      rintro e w1 ⟨rfl, rfl⟩
      go_wp2_with fail
      refine hcnh.out.mono ?_
      rintro e w1 ⟨rfl, rfl⟩
      go_wp2_with fail
      go_ret
      exact ⟨by rw [hF.out]; rfl, grown_refl _ _, by rw [hF.out, hsame.out]; exact HC⟩
set_option maxRecDepth 20000 in
set_option maxHeartbeats 6400000 in
theorem dropF_any (r : BRow) (hs : isSet r.has = true) (part : Int) (g o : Nat) (b1 : Nat) (w : World) (h1 : Blk w b1 3 #[.int .i64 part]) (n1 : g ≠ b1) (cur : Array Value) (HC : Blk w g 114 cur) (hr : RowIn cur o r) :
    Calls Tryz.prog 64 #[.pointer (some ⟨g, o, none⟩), .pointer (some ⟨b1, 0, none⟩)] w fun e w' => e = .returned (.int .i64 (dropF part r).2) ∧ w.grownBy w' (some g) ∧ Blk w' g 114 (patch cur o (rowCells (dropF part r).1)) := by
  have c1 := h1.cell 0
  simp at c1
  have ch := hr.has
  have hc2 : w.cell? ⟨g, o + 2, none⟩ = some (.int .i64 r.has) := (HC.cell (o + 2)).trans ch
  have m1 := n1.symm
  by_cases hp : hasB r.has part = true
  · have hF : Hid (dropF part r = (⟨r.idx, r.gen, withoutS r.has part, r.vals.set part.toNat 0, by rw [List.length_set]; exact r.h8⟩, 0)) := Lib.hid (by simp [dropF, hp])
    have hpp : isPart part = true := by simp only [hasB, Bool.and_eq_true] at hp; exact hp.1
    obtain ⟨p0, p8⟩ := isPart_iff.1 hpp
    obtain ⟨q, rfl⟩ := nat_of p0
    have hq8 : q < 8 := by omega
    have cv := hr.val hq8
    have hpr := Lib.hid (patch_row hr (withoutS r.has q) 0 hq8 (by rw [List.length_set]; exact r.h8))
    have hwi := fun W => without_any r.has q hs W
    have hwih := Lib.hid hwi
    have hha := fun W => has_any r.has q hs W
    rw [hp] at hha
    have hhah := Lib.hid hha
    clear hwi hha hr hs hp hpp
    obtain ⟨ridx, rgen, has, rvals, rh8⟩ := r
    simp only at *
    generalize rvals[q]'(by rw [rh8]; omega) = z at cv
    generalize withoutS has q = hs' at *
    go_enter Tryz.func64, Tryz.ntmps64
    go_upto_region 1 with fail
    go_quiet (exact quiet_same (hhah.out _))
    go_wp2_with fail
    refine wp_region_known mixed (by kernel_rfl) (by kernel_rfl) (tab [.pointer (some ⟨g, o, none⟩), .pointer (some ⟨g, o, none⟩), .int .i64 (q : Int), .pointer (some ⟨g, o, none⟩), .pointer (some ⟨g, o, none⟩), .pointer (some ⟨g, o + 2, none⟩), .int .i64 has, .int .i64 (q : Int), .int .i64 hs', .pointer (some ⟨g, o, none⟩), .pointer (some ⟨g, o + 2, none⟩), undef, .pointer (some ⟨g, o, none⟩), .pointer (some ⟨g, o + 3, none⟩), .pointer (some ⟨g, o + 3 + q, none⟩), undef]) (fun l w' => w.grownBy w' (some g) ∧ Blk w' g 114 (if l 15 then (cur.setIfInBounds (o + 2) (.int .i64 hs')).setIfInBounds (o + 3 + q) (.int .i64 0) else if l 11 then cur.setIfInBounds (o + 2) (.int .i64 hs') else cur) ∧ (l 11 = true → l 6 = true) ∧ (l 15 = true → l 11 = true)) ⟨⟨rfl, rfl, rfl, Nat.le_refl _, fun _ _ _ => rfl⟩, HC.drew, by simp, by simp⟩ ?_ ?_
    rotate_left
    · rintro i op ho l act w' ⟨hG, hC, hO1, hO2⟩ hli hd hv hwas K hK
      have hi : i < 16 := lt_of_some ho
      have e0 := hwas 0 rfl
      have e1 := hwas 1 rfl
      simp at e0 e1
      have hB1 := h1.grown hG (by simpa using m1)
      have d1 := hB1.cell 0
      simp at d1
      have hz := hC.frozen (o + 2); have hz2 := hC.frozen (o + 3 + q)
      match i, hi, ho, hli, hK with
      | 0, _, ho, hli, hK =>
        obtain rfl := Option.some.inj ho
        clear hv hwas
        go_simp
        exact hK _ ⟨hG, by simpa [upd] using hC, by simp [upd]; intro h; simp [hO1 h], by simpa [upd] using hO2⟩
      | 1, _, ho, hli, hK =>
        obtain rfl := Option.some.inj ho
        clear hv hwas
        go_simp
        exact hK _ ⟨hG, by simpa [upd] using hC, by simp [upd]; intro h; simp [hO1 h], by simpa [upd] using hO2⟩
      | 2, _, ho, hli, hK =>
        obtain rfl := Option.some.inj ho
        clear hv hwas
        go_simp
        exact hK _ ⟨hG, by simpa [upd] using hC, by simp [upd]; intro h; simp [hO1 h], by simpa [upd] using hO2⟩
      | 3, _, ho, hli, hK =>
        obtain rfl := Option.some.inj ho
        clear hv hwas
        go_simp
        exact hK _ ⟨hG, by simpa [upd] using hC, by simp [upd]; intro h; simp [hO1 h], by simpa [upd] using hO2⟩
      | 4, _, ho, hli, hK =>
        obtain rfl := Option.some.inj ho
        have x14 : act.tmps[14]?.getD undef = .pointer (some ⟨g, o, none⟩) := hv 3 14 rfl (by simp [Region.binds] at hd; simp [hd])
        clear hv hwas
        go_simp
        exact hK _ ⟨hG, by simpa [upd] using hC, by simp [upd]; intro h; simp [hO1 h], by simpa [upd] using hO2⟩
      | 5, _, ho, hli, hK =>
        obtain rfl := Option.some.inj ho
        have x15 : act.tmps[15]?.getD undef = .pointer (some ⟨g, o, none⟩) := hv 4 15 rfl (by simp [Region.binds] at hd; simp [hd])
        clear hv hwas
        go_simp
        exact hK _ ⟨hG, by simpa [upd] using hC, by simp [upd]; intro h; simp [hO1 h], by simpa [upd] using hO2⟩
      | 6, _, ho, hli, hK =>
        obtain rfl := Option.some.inj ho
        have x16 : act.tmps[16]?.getD undef = .pointer (some ⟨g, o + 2, none⟩) := hv 5 16 rfl (by simp [Region.binds] at hd; simp [hd])
        have l1 : l 11 = false := by
          cases h : l 11 with
          | false => rfl
          | true => exact absurd (hO1 h) (by simp [hli])
        have l2 : l 15 = false := by
          cases h : l 15 with
          | false => rfl
          | true => rw [hO2 h] at l1; cases l1
        have hC2 := hC
        simp only [l1, l2] at hC2
        have d3 := hC2.cell (o + 2)
        simp [ch] at d3
        clear hC2
        clear hv hwas
        go_simp
        exact hK _ ⟨hG, by simpa [upd] using hC, by simp [upd], by simpa [upd] using hO2⟩
      | 7, _, ho, hli, hK =>
        obtain rfl := Option.some.inj ho
        clear hv hwas
        go_simp
        exact hK _ ⟨hG, by simpa [upd] using hC, by simp [upd]; intro h; simp [hO1 h], by simpa [upd] using hO2⟩
      | 8, _, ho, hli, hK =>
        obtain rfl := Option.some.inj ho
        have x17 : act.tmps[17]?.getD undef = .int .i64 has := hv 6 17 rfl (by simp [Region.binds] at hd; simp [hd])
        have x18 : act.tmps[18]?.getD undef = .int .i64 (q : Int) := hv 7 18 rfl (by simp [Region.binds] at hd; simp [hd])
        have hwc := hwih.out w'
        clear hwih
        clear hv hwas
        go_simp
        exact hwc.mono (fun e w2 ⟨he, hw⟩ => by subst he hw; exact hK _ ⟨hG, by simpa [upd] using hC, by simp [upd]; intro h; simp [hO1 h], by simpa [upd] using hO2⟩)
      | 9, _, ho, hli, hK =>
        obtain rfl := Option.some.inj ho
        have x11 : act.tmps[11]?.getD undef = .pointer (some ⟨g, o, none⟩) := hv 0 11 rfl (by simp [Region.binds] at hd; simp [hd])
        clear hv hwas
        go_simp
        exact hK _ ⟨hG, by simpa [upd] using hC, by simp [upd]; intro h; simp [hO1 h], by simpa [upd] using hO2⟩
      | 10, _, ho, hli, hK =>
        obtain rfl := Option.some.inj ho
        have x20 : act.tmps[20]?.getD undef = .pointer (some ⟨g, o, none⟩) := hv 9 20 rfl (by simp [Region.binds] at hd; simp [hd])
        clear hv hwas
        go_simp
        exact hK _ ⟨hG, by simpa [upd] using hC, by simp [upd]; intro h; simp [hO1 h], by simpa [upd] using hO2⟩
      | 11, _, ho, hli, hK =>
        obtain rfl := Option.some.inj ho
        have x21 : act.tmps[21]?.getD undef = .pointer (some ⟨g, o + 2, none⟩) := hv 10 21 rfl (by simp [Region.binds] at hd; simp [hd])
        have x19 : act.tmps[19]?.getD undef = .int .i64 hs' := hv 8 19 rfl (by simp [Region.binds] at hd; simp [hd])
        have l2 : l 15 = false := by
          cases h : l 15 with
          | false => rfl
          | true => exact absurd (hO2 h) (by simp [hli])
        have hC2 := hC
        simp only [hli, l2] at hC2
        have d3 := hC2.cell (o + 2)
        simp [ch] at d3
        have l6 : l 6 = true := by simp [Region.binds] at hd; simp [hd]
        have hCn := hC2.set_ (o + 2) (.int .i64 hs')
        clear hC2 hC
        clear hv hwas
        go_simp
        exact hK _ ⟨⟨hG.os, hG.tape, hG.output, by simpa [World.setCell] using hG.size, fun k h1 h2 => (Below.heap_setCell _ _ _ _ (fun e => h2 (by rw [e]))).trans (hG.block k h1 h2)⟩, by simpa [upd, l2] using hCn, by simp [upd, l6], by simp [upd]⟩
      | 12, _, ho, hli, hK =>
        obtain rfl := Option.some.inj ho
        have x12 : act.tmps[12]?.getD undef = .pointer (some ⟨g, o, none⟩) := hv 1 12 rfl (by simp [Region.binds] at hd; simp [hd])
        clear hv hwas
        go_simp
        exact hK _ ⟨hG, by simpa [upd] using hC, by simp [upd]; intro h; simp [hO1 h], by simpa [upd] using hO2⟩
      | 13, _, ho, hli, hK =>
        obtain rfl := Option.some.inj ho
        have x22 : act.tmps[22]?.getD undef = .pointer (some ⟨g, o, none⟩) := hv 12 22 rfl (by simp [Region.binds] at hd; simp [hd])
        clear hv hwas
        go_simp
        exact hK _ ⟨hG, by simpa [upd] using hC, by simp [upd]; intro h; simp [hO1 h], by simpa [upd] using hO2⟩
      | 14, _, ho, hli, hK =>
        obtain rfl := Option.some.inj ho
        have x23 : act.tmps[23]?.getD undef = .pointer (some ⟨g, o + 3, none⟩) := hv 13 23 rfl (by simp [Region.binds] at hd; simp [hd])
        have x13 : act.tmps[13]?.getD undef = .int .i64 (q : Int) := hv 2 13 rfl (by simp [Region.binds] at hd; simp [hd])
        clear hv hwas
        go_simp
        exact hK _ ⟨hG, by simpa [upd] using hC, by simp [upd]; intro h; simp [hO1 h], by simpa [upd] using hO2⟩
      | 15, _, ho, hli, hK =>
        obtain rfl := Option.some.inj ho
        have x24 : act.tmps[24]?.getD undef = .pointer (some ⟨g, o + 3 + q, none⟩) := hv 14 24 rfl (by simp [Region.binds] at hd; simp [hd])
        have l1 : l 11 = true := by simp [Region.binds] at hd; simp [hd]
        have hC2 := hC
        simp only [hli, l1] at hC2
        have d3 := hC2.cell (o + 3 + q)
        simp only [if_true, Bool.false_eq_true, if_false] at d3
        rw [Array.getElem?_setIfInBounds_ne (by omega), cv] at d3
        have hCn := hC2.set_ (o + 3 + q) (.int .i64 0)
        clear hC2 hC
        clear hv hwas
        go_simp
        exact hK _ ⟨⟨hG.os, hG.tape, hG.output, by simpa [World.setCell] using hG.size, fun k h1 h2 => (Below.heap_setCell _ _ _ _ (fun e => h2 (by rw [e]))).trans (hG.block k h1 h2)⟩, by simpa [upd] using hCn, by simpa [upd] using hO1, by simp [upd, l1]⟩
    rintro w' l ⟨hG, hC, hO1, hO2⟩ hl
    rw [putAll_tab _ _ _ _ [(some 11, .pointer (some ⟨g, o, none⟩)), (some 12, .pointer (some ⟨g, o, none⟩)), (some 13, .int .i64 (q : Int)), (some 14, .pointer (some ⟨g, o, none⟩)), (some 15, .pointer (some ⟨g, o, none⟩)), (some 16, .pointer (some ⟨g, o + 2, none⟩)), (some 17, .int .i64 has), (some 18, .int .i64 (q : Int)), (some 19, .int .i64 hs'), (some 20, .pointer (some ⟨g, o, none⟩)), (some 21, .pointer (some ⟨g, o + 2, none⟩)), (none, undef), (some 22, .pointer (some ⟨g, o, none⟩)), (some 23, .pointer (some ⟨g, o + 3, none⟩)), (some 24, .pointer (some ⟨g, o + 3 + q, none⟩)), (none, undef)] rfl]
    simp only [putL_eq, putT, List.set_cons_succ, List.set_cons_zero]
    have hl2 : l 15 = true := hl 15 (by decide)
    rw [hl2, if_pos rfl] at hC
    go_wp2_with fail
    go_ret
    refine ⟨by rw [hF.out]; rfl, hG, ?_⟩
    rw [hF.out]
    show Blk w' g _ (patch cur o (rowCells ⟨ridx, rgen, hs', rvals.set q 0, by rw [List.length_set]; exact rh8⟩))
    rw [← hpr.out]
    exact hC
  · have hp' : hasB r.has part = false := by simpa using hp
    have hF : Hid (dropF part r = (r, 5)) := Lib.hid (by simp [dropF, hp'])
    have hha := fun W => has_any r.has part hs W
    rw [hp'] at hha
    have hhah := Lib.hid hha
    have hsame := Lib.hid (patch_same hr)
    clear hha hr hs hp hp' ch
    generalize r.has = has at hc2 hhah
    go_enter Tryz.func64, Tryz.ntmps64
    go_upto_region 1 with fail
    go_quiet (exact quiet_same (hhah.out _))
    go_wp2_with fail
    go_ret
    exact ⟨by rw [hF.out]; rfl, ⟨rfl, rfl, rfl, Nat.le_refl _, fun _ _ _ => rfl⟩, by rw [hF.out, hsame.out]; exact HC⟩
end Go.Proofs.YtefdblaolmckmabGreat
