/- PART OF THE PROOF THAT THIS CLAIM HOLDS OF THE GIVEN PROGRAM, FOR EVERY INPUT THAT THE STATEMENT NAMES. No condition besides the statement's own. -/
import Derived.Test.YtdfgpminonpeaaaCurZ
import Derived.Test.YtdfgpminonpeaaaRows
import Derived.WalkKit
import Derived.Handy
import Derived.Laws.EntriesVeiled
import Derived.WalkSpells
import Derived.WalkLawsBesides
import Derived.BigQuiet
import Derived.Deep.QuietTactic
import Derived.Deep.Cut
import Derived.Lib.Overlaps
import Derived.Laws.Externs
import Derived.Lib.Hide
import Derived.Test.YtdfgpminonpeaaaUxPlanAllZ
import Derived.Test.YtdfgpminonpeaaaUxTreeAllZ
import Derived.Deep.LoopGhost
namespace Go.Proofs.Ytdfgpminonpeaaa
open Go.RowKit
-- imports: YtdfgpminonpeaaaCur
open Ux (slt lb has Rises T NodeAt NodesAt Shp wayN blk ptr flat flats keys ins Up CurAt FrAt Fr frCells Stands Ctx ahead TypeIn)

theorem le_maxLen {n : Nat} (h : n ≤ 2000000) : n ≤ maxLen := by unfold maxLen; omega

theorem ok12 {cb : Nat} {root : T} {FP : List Nat} {o : Option Nat} {fc : List Nat} {w : World} (h : CurAt w cb root FP o fc) : Calls Try.prog 12 #[.pointer (some ⟨cb, 0, none⟩)] w fun e w' => e = .returned (.bool o.isSome) ∧ w = w' := by
  obtain ⟨st, lv, h1, h2, rfl, h4, h5⟩ := h
  have c0 : w.cell? ⟨cb, 0, none⟩ = some lv := by rw [cell_of_row w cb 0 _ 75 (0, 0) h1]; rfl
  have hs : o.isSome = decide (0 < st.length) := by
    cases o with
    | none => have : st = [] := h5; subst this; rfl
    | some q => obtain ⟨pre, l, x, i, a, b, rfl, _⟩ := h5; simp
  rw [hs]
  rcases h2.2 with ⟨rfl, h0⟩ | ⟨g, c, cur, rfl, _, _, hn, hc, _⟩
  · rw [h0]
    exact ok12_row cb none 0 0 w (Nat.zero_le _) c0
  · exact ok12_row cb _ _ c w (by omega) c0

/-- the top of the frames, in memory -/
theorem top_cells {w : World} {g n : Nat} {cur : Array Value} {pre : List Fr} {t : T} {x i : Nat} (hg : w.heap[g]? = some (.cells cur 77 (0, 0))) (htk : cur.toList.take n = frCells (pre ++ [(t, x, i)])) :
    w.cell? ⟨g, pre.length * 2, none⟩ = some (.pointer (some ⟨x, 0, none⟩)) ∧ w.cell? ⟨g, pre.length * 2 + 1, none⟩ = some (.int .i64 i) := by
  rw [Ux.frCells_snoc] at htk
  have hl := Ux.frCells_length pre
  constructor
  · refine Ux.row_cell hg htk _ _ ?_
    rw [List.getElem?_append_right (by omega), hl, Nat.sub_self]
    rfl
  · refine Ux.row_cell hg htk _ _ ?_
    rw [List.getElem?_append_right (by omega), hl, show pre.length * 2 + 1 - pre.length * 2 = 1 by omega]
    rfl

set_option maxHeartbeats 1000000 in
set_option maxRecDepth 100000 in
theorem key13_row (cb g gc m n c x i gk ck : Nat) (k : ByteArray) (w : World) (c0 : w.cell? ⟨cb, 0, none⟩ = some (.slice (some ⟨g, 0, none⟩) (m + 1) gc)) (hm : (m : Int) + 1 ≤ 1048576)
    (d0 : w.cell? ⟨g, m * 2, none⟩ = some (.pointer (some ⟨x, 0, none⟩))) (d1 : w.cell? ⟨g, m * 2 + 1, none⟩ = some (.int .i64 i)) (e0 : w.cell? ⟨x, 0, none⟩ = some (.slice (some ⟨gk, 0, none⟩) n ck)) (hi : (i : Int) < n) (hn : (n : Int) ≤ 1048576)
    (e1 : w.cell? ⟨gk, i, none⟩ = some (.string k)) :
    Calls Try.prog 13 #[.pointer (some ⟨cb, 0, none⟩)] w fun e w' => e = .returned (.string k) ∧ Ux.Touch (fun _ => False) w w' := by
  have O := ok12_row cb _ (m + 1) gc w (le_maxLen (by omega)) c0
  have HO := Lib.hid O
  clear O
  have hd : decide (0 < m + 1) = true := by simp
  go_enter Try.func13, Try.ntmps13
  go_wp2_with (go_at_call 12; refine HO.out.mono ?_; rintro e w' ⟨rfl, rfl⟩)
  refine Ux.wp_region_plan (fun _ w' => w'.cell? ⟨cb, 0, none⟩ = some (.slice (some ⟨g, 0, none⟩) (m + 1) gc) ∧ w'.cell? ⟨g, m * 2, none⟩ = some (.pointer (some ⟨x, 0, none⟩)) ∧ w'.cell? ⟨g, m * 2 + 1, none⟩ = some (.int .i64 i)) (.q [0, 1, 2, 4, 5, 6] (.h false [3, 7] (.q [8, 9, 10] (.h false [11] (.e 12 true false (.line [13]))))))
    (by kernel_rfl) (by kernel_rfl) (by intro _ _ d _ _ h; cases d <;> exact h) ?hS ?_
  case hS => (intro c; cases c <;> (simp only [World.cell?_drew]; first | exact True.intro | (refine ⟨?_, ?_⟩ <;> assumption) | assumption | (repeat (first | assumption | (refine And.intro ?_ ?_)))))
  simp only [Ux.wpPlan, Ux.pickOps, Ux.keeps, List.getElem?_toArray, List.getElem?_cons_succ, List.getElem?_cons_zero]
  repeat (first
    | go_big_quiet_step (fail)
    | (with_reducible refine wpQuiet_nil ?_)
    | (refine Ux.quiet_held rfl ?_; apply Exists.intro; refine ⟨fun w' hS => ?_, ?_⟩; (focus ((try dsimp only at hS); go_simp; first | done | with_reducible rfl)); simp only [Act.put, List.setIfInBounds_toArray, List.set_cons_zero, List.set_cons_succ]))
  go_wp2_with fail
  have ta := (Ux.Touch.refl (fun _ => False) w.drew).alloc (.cells #[.pointer none, .int .i64 0] 77)
  refine ⟨⟨ta.cell c0 (fun f => f), ta.cell d0 (fun f => f), ta.cell d1 (fun f => f)⟩, ?_⟩
  repeat (first
    | go_big_quiet_step (fail)
    | (with_reducible refine wpQuiet_nil ?_)
    | (refine Ux.quiet_held rfl ?_; apply Exists.intro; refine ⟨fun w' hS => ?_, ?_⟩; (focus ((try dsimp only at hS); go_simp; first | done | with_reducible rfl)); simp only [Act.put, List.setIfInBounds_toArray, List.set_cons_zero, List.set_cons_succ]))
  go_wp2_with fail
  clear ta
  obtain ⟨W, hW⟩ : ∃ W, w.alloc (.cells #[.pointer (some ⟨x, 0, none⟩), .int .i64 i] 77) = W := ⟨_, rfl⟩
  have T : Ux.Touch (fun _ => False) w W := by rw [← hW]; exact (Ux.Touch.refl _ _).alloc _
  have hb : W.heap[w.heap.size]? = some (.cells #[.pointer (some ⟨x, 0, none⟩), .int .i64 i] 77 (0, 0)) := by rw [← hW]; exact heap_alloc_new w _
  have b0 : W.cell? ⟨w.heap.size, 0, none⟩ = some (.pointer (some ⟨x, 0, none⟩)) := by rw [cell_of_row W _ 0 _ 77 (0, 0) hb]; rfl
  have b1 : W.cell? ⟨w.heap.size, 1, none⟩ = some (.int .i64 i) := by rw [cell_of_row W _ 1 _ 77 (0, 0) hb]; rfl
  have a0 := T.cell e0 (fun f => f)
  have a1 := T.cell e1 (fun f => f)
  have HT := Lib.hid T
  rw [hW]
  clear hW T hb c0 d0 d1 e0 e1 HO
  refine Ux.wp_region_plan (fun _ w' => w'.cell? ⟨w.heap.size, 0, none⟩ = some (.pointer (some ⟨x, 0, none⟩)) ∧ w'.cell? ⟨w.heap.size, 1, none⟩ = some (.int .i64 i) ∧ w'.cell? ⟨x, 0, none⟩ = some (.slice (some ⟨gk, 0, none⟩) n ck) ∧ w'.cell? ⟨gk, i, none⟩ = some (.string k)) (.q [0, 5] (.h false [1, 6] (.q [2, 3] (.h false [4] (.q [7] (.h false [8] (.line [9])))))))
    (by kernel_rfl) (by kernel_rfl) (by intro _ _ d _ _ h; cases d <;> exact h) ?hS ?_
  case hS => (intro c; cases c <;> (simp only [World.cell?_drew]; first | exact True.intro | (refine ⟨?_, ?_⟩ <;> assumption) | assumption | (repeat (first | assumption | (refine And.intro ?_ ?_)))))
  simp only [Ux.wpPlan, Ux.pickOps, Ux.keeps, List.getElem?_toArray, List.getElem?_cons_succ, List.getElem?_cons_zero]
  repeat (first
    | go_big_quiet_step (fail)
    | (with_reducible refine wpQuiet_nil ?_)
    | (refine Ux.quiet_held rfl ?_; apply Exists.intro; refine ⟨fun w' hS => ?_, ?_⟩; (focus ((try dsimp only at hS); go_simp; first | done | with_reducible rfl)); simp only [Act.put, List.setIfInBounds_toArray, List.set_cons_zero, List.set_cons_succ]))
  go_wp2
  go_ret
  exact ⟨rfl, HT.out.drew.drew⟩

set_option maxHeartbeats 1000000 in
set_option maxRecDepth 100000 in
theorem row18_row (cb g gc m n c x i gk ck : Nat) (k : Int) (w : World) (c0 : w.cell? ⟨cb, 0, none⟩ = some (.slice (some ⟨g, 0, none⟩) (m + 1) gc)) (hm : (m : Int) + 1 ≤ 1048576)
    (d0 : w.cell? ⟨g, m * 2, none⟩ = some (.pointer (some ⟨x, 0, none⟩))) (d1 : w.cell? ⟨g, m * 2 + 1, none⟩ = some (.int .i64 i)) (e0 : w.cell? ⟨x, 1, none⟩ = some (.slice (some ⟨gk, 0, none⟩) n ck)) (hi : (i : Int) < n) (hn : (n : Int) ≤ 1048576)
    (e1 : w.cell? ⟨gk, i, none⟩ = some (.int .i64 k)) :
    Calls Try.prog 18 #[.pointer (some ⟨cb, 0, none⟩)] w fun e w' => e = .returned (.int .i64 k) ∧ Ux.Touch (fun _ => False) w w' := by
  have O := ok12_row cb _ (m + 1) gc w (le_maxLen (by omega)) c0
  have HO := Lib.hid O
  clear O
  have hd : decide (0 < m + 1) = true := by simp
  go_enter Try.func18, Try.ntmps18
  go_wp2_with (go_at_call 12; refine HO.out.mono ?_; rintro e w' ⟨rfl, rfl⟩)
  refine Ux.wp_region_plan (fun _ w' => w'.cell? ⟨cb, 0, none⟩ = some (.slice (some ⟨g, 0, none⟩) (m + 1) gc) ∧ w'.cell? ⟨g, m * 2, none⟩ = some (.pointer (some ⟨x, 0, none⟩)) ∧ w'.cell? ⟨g, m * 2 + 1, none⟩ = some (.int .i64 i)) (.q [0, 1, 2, 4, 5, 6] (.h false [3, 7] (.q [8, 9, 10] (.h false [11] (.e 12 true false (.line [13]))))))
    (by kernel_rfl) (by kernel_rfl) (by intro _ _ d _ _ h; cases d <;> exact h) ?hS ?_
  case hS => (intro c; cases c <;> (simp only [World.cell?_drew]; first | exact True.intro | (refine ⟨?_, ?_⟩ <;> assumption) | assumption | (repeat (first | assumption | (refine And.intro ?_ ?_)))))
  simp only [Ux.wpPlan, Ux.pickOps, Ux.keeps, List.getElem?_toArray, List.getElem?_cons_succ, List.getElem?_cons_zero]
  repeat (first
    | go_big_quiet_step (fail)
    | (with_reducible refine wpQuiet_nil ?_)
    | (refine Ux.quiet_held rfl ?_; apply Exists.intro; refine ⟨fun w' hS => ?_, ?_⟩; (focus ((try dsimp only at hS); go_simp; first | done | with_reducible rfl)); simp only [Act.put, List.setIfInBounds_toArray, List.set_cons_zero, List.set_cons_succ]))
  go_wp2_with fail
  have ta := (Ux.Touch.refl (fun _ => False) w.drew).alloc (.cells #[.pointer none, .int .i64 0] 77)
  refine ⟨⟨ta.cell c0 (fun f => f), ta.cell d0 (fun f => f), ta.cell d1 (fun f => f)⟩, ?_⟩
  repeat (first
    | go_big_quiet_step (fail)
    | (with_reducible refine wpQuiet_nil ?_)
    | (refine Ux.quiet_held rfl ?_; apply Exists.intro; refine ⟨fun w' hS => ?_, ?_⟩; (focus ((try dsimp only at hS); go_simp; first | done | with_reducible rfl)); simp only [Act.put, List.setIfInBounds_toArray, List.set_cons_zero, List.set_cons_succ]))
  go_wp2_with fail
  clear ta
  obtain ⟨W, hW⟩ : ∃ W, w.alloc (.cells #[.pointer (some ⟨x, 0, none⟩), .int .i64 i] 77) = W := ⟨_, rfl⟩
  have T : Ux.Touch (fun _ => False) w W := by rw [← hW]; exact (Ux.Touch.refl _ _).alloc _
  have hb : W.heap[w.heap.size]? = some (.cells #[.pointer (some ⟨x, 0, none⟩), .int .i64 i] 77 (0, 0)) := by rw [← hW]; exact heap_alloc_new w _
  have b0 : W.cell? ⟨w.heap.size, 0, none⟩ = some (.pointer (some ⟨x, 0, none⟩)) := by rw [cell_of_row W _ 0 _ 77 (0, 0) hb]; rfl
  have b1 : W.cell? ⟨w.heap.size, 1, none⟩ = some (.int .i64 i) := by rw [cell_of_row W _ 1 _ 77 (0, 0) hb]; rfl
  have a0 := T.cell e0 (fun f => f)
  have a1 := T.cell e1 (fun f => f)
  have HT := Lib.hid T
  rw [hW]
  clear hW T hb c0 d0 d1 e0 e1 HO
  refine Ux.wp_region_plan (fun _ w' => w'.cell? ⟨w.heap.size, 0, none⟩ = some (.pointer (some ⟨x, 0, none⟩)) ∧ w'.cell? ⟨w.heap.size, 1, none⟩ = some (.int .i64 i) ∧ w'.cell? ⟨x, 1, none⟩ = some (.slice (some ⟨gk, 0, none⟩) n ck) ∧ w'.cell? ⟨gk, i, none⟩ = some (.int .i64 k)) (.q [0, 5] (.h false [1, 6] (.q [2, 3] (.h false [4] (.q [7] (.h false [8] (.line [9])))))))
    (by kernel_rfl) (by kernel_rfl) (by intro _ _ d _ _ h; cases d <;> exact h) ?hS ?_
  case hS => (intro c; cases c <;> (simp only [World.cell?_drew]; first | exact True.intro | (refine ⟨?_, ?_⟩ <;> assumption) | assumption | (repeat (first | assumption | (refine And.intro ?_ ?_)))))
  simp only [Ux.wpPlan, Ux.pickOps, Ux.keeps, List.getElem?_toArray, List.getElem?_cons_succ, List.getElem?_cons_zero]
  repeat (first
    | go_big_quiet_step (fail)
    | (with_reducible refine wpQuiet_nil ?_)
    | (refine Ux.quiet_held rfl ?_; apply Exists.intro; refine ⟨fun w' hS => ?_, ?_⟩; (focus ((try dsimp only at hS); go_simp; first | done | with_reducible rfl)); simp only [Act.put, List.setIfInBounds_toArray, List.set_cons_zero, List.set_cons_succ]))
  go_wp2
  go_ret
  exact ⟨rfl, HT.out.drew.drew⟩

theorem key13 {cb : Nat} {root : T} {FP : List Nat} {q fan d : Nat} {fc : List Nat} {w : World} (h : CurAt w cb root FP (some q) fc) (hf : 4 ≤ fan) (h64 : fan ≤ 64) (hg : Ux.Good fan d root) (hs : root.size ≤ fan) (hd : d ≤ 1000) (p : ByteArray × Int) (hp : (flat root)[q]? = some p) :
    (Calls Try.prog 13 #[.pointer (some ⟨cb, 0, none⟩)] w fun e w' => e = .returned (.string p.1) ∧ Ux.Touch (fun _ => False) w w') ∧
    (Calls Try.prog 18 #[.pointer (some ⟨cb, 0, none⟩)] w fun e w' => e = .returned (.int .i64 p.2) ∧ Ux.Touch (fun _ => False) w w') := by
  obtain ⟨st, lv, h1, h2, rfl, h4, h5⟩ := h
  obtain ⟨hl, _⟩ := h5.length hf hg hs
  obtain ⟨pre, l, x, i, p', rfl, hi, hp'⟩ := h5.key
  rw [hp] at hp'
  cases hp'
  have hz : l.length ≤ fan := by
    obtain ⟨_, pre', l', x', i', e, hz⟩ := h5.length hf hg hs
    have := (List.append_inj' e (by simp)).2
    simp at this
    rw [this.1]
    exact hz
  have c0 : w.cell? ⟨cb, 0, none⟩ = some lv := by rw [cell_of_row w cb 0 _ 75 (0, 0) h1]; rfl
  simp only [List.length_append, List.length_cons, List.length_nil] at hl h2
  obtain ⟨g, gc, cur, rfl, _, _, hgc, _, htk⟩ := Ux.own_pos h2 (by omega)
  obtain ⟨d0, d1⟩ := top_cells hgc htk
  obtain ⟨_, hlf⟩ := (h4 (.leaf l, x, i) (by simp)).leaf
  obtain ⟨gk, ck, gr, cr, e0, e1, e2, e3⟩ := hlf i p hi
  have hil := (List.getElem?_eq_some_iff.1 hi).1
  exact ⟨key13_row cb g gc pre.length l.length ck x i gk ck p.1 w c0 (by omega) d0 d1 e0 (by omega) (by omega) e1,
    row18_row cb g gc pre.length l.length cr x i gr cr p.2 w c0 (by omega) d0 d1 e2 (by omega) (by omega) e3⟩

set_option maxHeartbeats 1000000 in
theorem key13_none (cb : Nat) (a : Option Addr) (c : Nat) (w : World) (c0 : w.cell? ⟨cb, 0, none⟩ = some (.slice a 0 c)) :
    (Calls Try.prog 13 #[.pointer (some ⟨cb, 0, none⟩)] w fun e w' => e = .returned (.string ⟨#[]⟩) ∧ w = w') ∧ (Calls Try.prog 18 #[.pointer (some ⟨cb, 0, none⟩)] w fun e w' => e = .returned (.int .i64 0) ∧ w = w') := by
  have O := ok12_row cb _ 0 c w (Nat.zero_le _) c0
  have HO := Lib.hid O
  clear O
  constructor
  · go_enter Try.func13, Try.ntmps13
    go_wp2_with (go_at_call 12; refine HO.out.mono ?_; rintro e w' ⟨rfl, rfl⟩)
    go_ret
    exact ⟨rfl, rfl⟩
  · go_enter Try.func18, Try.ntmps18
    go_wp2_with (go_at_call 12; refine HO.out.mono ?_; rintro e w' ⟨rfl, rfl⟩)
    go_ret
    exact ⟨rfl, rfl⟩

end Go.Proofs.Ytdfgpminonpeaaa
