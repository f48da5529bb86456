/- PART OF THE PROOF THAT THIS CLAIM HOLDS OF THE GIVEN PROGRAM, FOR EVERY INPUT THAT THE STATEMENT NAMES. No condition besides the statement's own. -/
import Derived.Test.YthkaifgepkfheaaDelZ
import Derived.Test.YthkaifgepkfheaaAgainZ
import Derived.Test.YthkaifgepkfheaaRows
import Derived.WalkKit
import Derived.Handy
import Derived.Laws.EntriesVeiled
import Derived.WalkSpells
import Derived.WalkLawsBesides
import Derived.BigQuiet
import Derived.Deep.QuietTactic
import Derived.Deep.Cut
import Derived.Deep.DeepCutAuto
import Derived.Lib.Overlaps
import Derived.Laws.Externs
import Derived.Lib.Hide
import Derived.Test.YthkaifgepkfheaaUxPlanAllZ
import Derived.Test.YthkaifgepkfheaaUxTreeAllZ
import Derived.Deep.LoopGhost
namespace Go.Proofs.Ythkaifgepkfheaa
open Go.RowKit
-- imports: YthkaifgepkfheaaDel YthkaifgepkfheaaAgain
open Ux.Trie (fnd Pr blk zero64 pairsOf withP)

theorem prsAt_row {w : World} {g n c : Nat} {cur : Array Value} {l : List Pr} (hn : l.length = n) (hh : w.heap[g]? = some (.cells cur 29 (0, 0))) (ht : cur.toList.take (n * 2) = prCells l) : PrsAt w (.slice (some ⟨g, 0, none⟩) n c) l := by
  refine ⟨_, c, by rw [hn], fun i p hp => ⟨g, 0, rfl, ?_⟩⟩
  obtain ⟨h1, h2⟩ := prCells_get hp
  rw [Nat.zero_add]
  exact ⟨Ux.row_cell hh ht _ _ h1, Ux.row_cell hh ht _ _ h2⟩

/-- append of one pair upon a row that was cut -/
theorem app_del {base : Nat} {w : World} {v : Value} {l : List Pr} (h : DelRow base w v l) (hb : base ≤ w.heap.size) (hl : l.length ≤ 1000000) (c z : Int) :
    ∃ r w', (∀ ty, (Builtin.append_ #[22, 22] ty #[v, .slice (some ⟨w.heap.size, 0, none⟩) 1 1]).run Try.prog (w.alloc (.cells #[.int .i64 c, .int .i64 z] 29)) = .ok r w') ∧ PrsAt w' r (l ++ [(c, z)]) ∧ Ux.Touch (fun b => base ≤ b) w w' := by
  rcases h with ⟨rfl, rfl⟩ | ⟨g, cap, cur, rfl, hg, hh, hlc, hsz, hcap, htk⟩
  · obtain ⟨r, w', hr, hrow, ht, _⟩ := app22 (.slice none 0 0) 0 [] w (World.ownsRow_nil _ 0 29 2) (by omega) c z
    refine ⟨r, w', hr, ?_, ht.mono (fun _ _ h => by cases h)⟩
    obtain ⟨g, cap, cur, rfl, _, _, hh, _, ht⟩ := Ux.own_pos hrow (by omega)
    exact prsAt_row rfl hh ht
  · obtain ⟨i0, hi0, hz0, hz1, hz2⟩ := info_parts info29
    have ta : Ux.Touch (fun _ => False) w (w.alloc (.cells #[.int .i64 c, .int .i64 z] 29)) := (Ux.Touch.refl _ w).alloc _
    obtain ⟨W, hW⟩ : ∃ W, w.alloc (.cells #[.int .i64 c, .int .i64 z] 29) = W := ⟨_, rfl⟩
    have src : Src Try.prog 2 22 (.slice (some ⟨w.heap.size, 0, none⟩) 1 1) 1 [.int .i64 c, .int .i64 z] W := Src.ofSlice _ Try.underlying22 ⟨w.heap.size, 0, none⟩ 1 1 [.int .i64 c, .int .i64 z] rfl (fun j u hj => by
      have e : (⟨w.heap.size, 0, none⟩ : Addr).add j = ⟨w.heap.size, j, none⟩ := by rw [Addr.add_mid]; simp
      rw [e, ← hW, Ux.cell_new]
      simpa using hj) (fun u hu => by
        rcases List.mem_cons.1 hu with rfl | hu
        · rfl
        · rw [List.mem_singleton.1 hu]; rfl)
    rw [hW] at ta ⊢
    have hhW := ta.heap hh (fun f => f)
    have hsrc : Src Try.prog i0.size 22 (.slice (some ⟨w.heap.size, 0, none⟩) 1 1) 1 [.int .i64 c, .int .i64 z] W := by rw [hz1]; exact src
    by_cases hroom : l.length + 1 ≤ cap
    · have hst := run_storeCells_at Try.prog g (l.length * i0.size) 29 [.int .i64 c, .int .i64 z] 0 cur W hhW (by rw [hz1]; simp; omega) hsrc.one
      simp only [Nat.add_zero, List.append_assoc, List.cons_append, List.nil_append, List.length_cons, List.length_nil, Nat.reduceAdd] at hst
      have hr : ∀ ty, (Builtin.append_ #[22, 22] ty #[.slice (some ⟨g, 0, none⟩) l.length cap, .slice (some ⟨w.heap.size, 0, none⟩) 1 1]).run Try.prog W = .ok (.slice (some ⟨g, 0, none⟩) (l.length + 1) cap) (W.setRow g (cur.toList.take (l.length * i0.size) ++ [Value.int .i64 c, Value.int .i64 z] ++ cur.toList.drop (l.length * i0.size + 2)).toArray) := fun ty => by
        rcases hsrc.kind with ⟨e', hk⟩ | hk <;> simp [Builtin.append_, run_underlying Try.underlying22, run_underlying hk, sizeOf, typeInfo, hi0, hsrc.len, hroom, hsrc.cells, Addr.add_lit, hst]
      rw [hz1] at hr
      refine ⟨_, _, hr, prsAt_row (by simp) (setRow_heap W g cur _ 29 _ hhW) ?_, (ta.mono (fun _ _ h => h.elim)).setRow (fun _ => hg) _⟩
      rw [prCells_snoc, ← htk]
      have h0 : cur.toList.length = cur.size := Array.length_toList
      have h1 : (cur.toList.take (l.length * 2)).length = l.length * 2 := by rw [List.length_take]; omega
      show (cur.toList.take (l.length * 2) ++ [Value.int .i64 c, Value.int .i64 z] ++ cur.toList.drop (l.length * 2 + 2)).take ((l.length + 1) * 2) = _
      rw [List.take_append_of_le_length (by rw [List.length_append, h1]; simp; omega), List.take_of_length_le (by rw [List.length_append, h1]; simp; omega)]
    · have hold : (Builtin.firstCells i0.size l.length (.slice (some ⟨g, 0, none⟩) l.length cap)).run Try.prog W.drew = .ok (prCells l).toArray W.drew := by
        rw [hz1]
        refine run_firstCells_some W.drew 2 l.length ⟨g, 0, none⟩ l.length cap (prCells l) (prCells_length l) fun j u hj => ?_
        have e : (⟨g, 0, none⟩ : Addr).add j = ⟨g, j, none⟩ := by rw [Addr.add_mid]; simp
        rw [e]
        have := Ux.row_cell hhW htk j u hj
        simpa using this
      have hr := fun ty => run_append_grow_src (P := Try.prog) W 22 22 ty 29 i0 (.agg #[.int .i64 0, .int .i64 0]) Try.underlying22 hi0 hz0 (some ⟨g, 0, none⟩) l.length cap (prCells l) hold _ 1 [.int .i64 c, .int .i64 z] hsrc (by omega) (by omega) (growslice_fits (by omega) (by rw [hz2]; omega))
      refine ⟨_, _, hr, prsAt_row (by simp) (heap_alloc_last W.drew _) ?_, ((ta.mono (fun _ _ h => h.elim)).drew).alloc _⟩
      rw [prCells_snoc]
      simp only [Array.toList_append]
      rw [List.take_append_of_le_length (by simp [prCells_length]; omega), List.take_of_length_le (by simp [prCells_length]; omega)]

set_option maxHeartbeats 8000000 in
set_option maxRecDepth 100000 in
theorem with14 (t : Nat) (ks : List Int) (l : List Pr) (c v : Int) (w : World) (hT : TrieAt w t ks (fnd l)) (hm : ∀ p ∈ l, Ux.Trie.may p = true) (ha : Ux.Trie.apart l) (hk : ∀ k, k ∈ ks ↔ ∃ p ∈ l, p.1 / 64 = k) (hl : (pairsOf ks (fnd l)).length ≤ 60) :
    Calls Try.prog 14 #[.pointer (some ⟨t, 0, none⟩), .int .i64 c, .int .i64 v] w fun e w' => ∃ (tp : Option Addr) (k : Int), e = .returned (.tuple #[.pointer tp, .int .i64 k]) ∧ (Ux.Trie.may (c, v) = false → tp = none ∧ k = 1) ∧
      (Ux.Trie.may (c, v) = true → k = 0 ∧ ∃ t2 ks2, tp = some ⟨t2, 0, none⟩ ∧ TrieAt w' t2 ks2 (fnd (withP (pairsOf ks (fnd l)) c v)) ∧ ∀ k, k ∈ ks2 ↔ ∃ p ∈ withP (pairsOf ks (fnd l)) c v, p.1 / 64 = k) ∧ Ux.Touch (fun _ => False) w w' := by
  obtain ⟨m, hmv⟩ : ∃ m, Ux.Trie.may (c, v) = m := ⟨_, rfl⟩
  have cV := fun w => valid17 c v w
  obtain ⟨_, _, q3, q4, _⟩ := told hm ha hT hk
  have hfr := fnd_range hm
  obtain ⟨P, hP⟩ : ∃ P, pairsOf ks (fnd l) = P := ⟨_, rfl⟩
  rw [hP] at hl q3 q4
  rw [hP, hmv]
  simp only [hmv] at cV
  have CV := Lib.hid cV
  have HH := Lib.hid (And.intro hT (And.intro hfr (And.intro hP (And.intro q3 (And.intro q4 (And.intro hl hmv))))))
  clear hT hm ha hk hl hmv cV q3 q4 hfr hP
  cases m with
  | false =>
    go_enter Try.func14, Try.ntmps14
    go_wp2_with (go_at_call 17; refine (CV.out _).mono ?_; rintro e w' ⟨rfl, hb⟩)
    go_ret2
    exact ⟨none, 1, rfl, (fun _ => ⟨rfl, rfl⟩), (fun h => by cases h), ((Ux.Touch.refl (fun _ => False) w).alloc _).trans (Ux.Touch.of_below hb) (fun _ _ h => h)⟩
  | true =>
    go_enter Try.func14, Try.ntmps14
    go_upto_region 3 with (go_at_call 17; refine (CV.out _).mono ?_; rintro e w2 ⟨rfl, hb⟩; have HB := Lib.hid hb; clear hb)
    have t2 : Ux.Touch (fun _ => False) w w2 := ((Ux.Touch.refl (fun _ => False) w).alloc _).trans (Ux.Touch.of_below HB.out) (fun _ _ h => h)
    have cb2 : w2.cell? ⟨w.heap.size, 0, none⟩ = some (.int .i64 c) := (Ux.Touch.of_below (R := fun _ => False) HB.out).cell (show (w.alloc (.cells #[.int .i64 c] 3)).cell? ⟨w.heap.size, 0, none⟩ = some (.int .i64 c) by rw [Ux.cell_new]; rfl) (fun f => f)
    obtain ⟨bc, hbc⟩ : ∃ bc, w.heap.size = bc := ⟨_, rfl⟩
    rw [hbc] at cb2
    have hbc2 : bc < w2.heap.size := block_lt_of_cell cb2
    have CP := pairs13 t ks (fnd l) w2 (HH.out.1.touch t2) HH.out.2.1
    rw [HH.out.2.2.1] at CP
    have CP := Lib.hid CP
    have H2 := Lib.hid (And.intro t2 (And.intro cb2 hbc2))
    simp only [hbc]
    clear t2 cb2 hbc2 hbc HB
    go_upto_region 4 with (first
      | (go_at_call 13; refine CP.out.mono ?_; rintro e w3 ⟨v1, rfl, hrow, t3⟩; have cd := delete22 w2.heap.size bc c v1 P w3 hrow (Ux.Trie.apart_of_rising HH.out.2.2.2.1) (t3.cell H2.out.2.1 (fun f => f)) H2.out.2.2 (by have := HH.out.2.2.2.2.2.1; omega); have CD := Lib.hid cd; have T3 := Lib.hid t3; clear hrow t3 cd)
      | (go_at_call 22; refine CD.out.mono ?_; rintro e w4 ⟨v2, rfl, hdel, t4⟩; have HD := Lib.hid (And.intro hdel t4); clear hdel t4))
    have c4 : w4.cell? ⟨bc, 0, none⟩ = some (.int .i64 c) := HD.out.2.cell (T3.out.cell H2.out.2.1 (fun f => f)) (by have := H2.out.2.2; show ¬ w2.heap.size ≤ bc; omega)
    obtain ⟨r, w5, run5, at5, t5⟩ := app_del HD.out.1 (by have := T3.out.size; have := HD.out.2.size; omega) (by have h1 := List.length_filter_le (fun q : Pr => decide (q.1 ≠ c)) P; have := HH.out.2.2.2.2.2.1; omega) c v
    have hw : P.filter (fun q => decide (q.1 ≠ c)) ++ [(c, v)] = withP P c v := rfl
    rw [hw] at at5
    have hLm : (withP P c v).any (fun p => !Ux.Trie.may p) = false := by
      rw [List.any_eq_false]
      intro p hp
      simp [Ux.Trie.withP_may HH.out.2.2.2.2.1 HH.out.2.2.2.2.2.2 p hp]
    have CB := Lib.hid (build_ok at5 (by
      unfold withP
      have h1 := List.length_filter_le (fun q : Pr => decide (q.1 ≠ c)) P
      have := HH.out.2.2.2.2.2.1
      simp only [List.length_append, List.length_cons, List.length_nil]
      omega) hLm (Ux.Trie.withP_apart (Ux.Trie.apart_of_rising HH.out.2.2.2.1) c v))
    have R5 := Lib.hid run5
    have TT := Lib.hid (((H2.out.1.trans T3.out (fun _ _ h => h)).trans HD.out.2 (fun i hi h => by have := H2.out.1.size; have h' : w2.heap.size ≤ i := h; omega)).trans t5 (fun i hi h => by have := H2.out.1.size; have h' : w2.heap.size ≤ i := h; omega))
    clear run5 at5 t5 hw hLm
    go_wp2_with (first
      | (at_builtin; refine Ux.wpList_app (v1 := v2) (x1 := .slice (some ⟨w4.heap.size, 0, none⟩) 1 1) rfl _ _ _ _ rfl rfl rfl (R5.out _) ?_)
      | (go_at_call 7; refine CB.out.mono ?_; rintro e w6 ⟨t2, ks2, rfl, h1, h2, h3⟩; have H6 := Lib.hid (And.intro h1 (And.intro h2 h3)); clear h1 h2 h3))
    go_ret2
    exact ⟨_, 0, rfl, (fun h => by cases h), (fun _ => ⟨rfl, t2, ks2, rfl, H6.out.1, H6.out.2.1⟩), TT.out.trans H6.out.2.2 (fun _ _ h => h)⟩

end Go.Proofs.Ythkaifgepkfheaa
