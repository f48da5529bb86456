/- PART OF THE PROOF THAT THIS CLAIM HOLDS OF THE GIVEN PROGRAM, FOR EVERY INPUT THAT THE STATEMENT NAMES. No condition besides the statement's own. -/
import Derived.Test.YtlibbngcdeblmaaDoorKeyZ
import Derived.Test.YtlibbngcdeblmaaDoorTurnedZ
import Derived.Test.YtlibbngcdeblmaaDoorRows
import Derived.WalkKit
import Derived.Handy
import Derived.Laws.EntriesVeiled
import Derived.WalkSpells
import Derived.WalkLawsBesides
import Derived.BigQuiet
import Derived.Deep.QuietTactic
import Derived.Deep.Cut
import Derived.Deep.DeepCutAuto
import Derived.Lib.Overlaps
import Derived.Laws.Externs
import Derived.Lib.Hide
import Derived.Test.YtlibbngcdeblmaaDoorUxPlanAllZ
import Derived.Test.YtlibbngcdeblmaaDoorUxTreeAllZ
import Derived.Deep.LoopGhost
namespace Go.Proofs.YtlibbngcdeblmaaDoor
open Go.RowKit
-- imports: YtlibbngcdeblmaaDoorKey YtlibbngcdeblmaaDoorTurned
open Go.RowKit

theorem conv1 (b : UInt8) (c : Int) (hc : (b.toNat : Int) = c) (w : World) (g : Nat) (h : w.cell? ⟨g, 0, none⟩ = some (.int .u8 c)) : (convert 52 9 (.slice (some ⟨g, 0, none⟩) 1 1)).run Tryd.prog w = .ok (.string ⟨#[b]⟩) w :=
  run_convert_bytes_back (P := Tryd.prog) w 52 9 5 ⟨g, 0, none⟩ 1 [b] Tryd.underlying52 Tryd.underlying5 Tryd.underlying9 fun j hj => by
    have hj0 : j = 0 := by simpa using hj
    subst hj0
    have e : (⟨g, 0, none⟩ : Addr).add 0 = ⟨g, 0, none⟩ := by unfold Addr.add; split <;> simp_all
    rw [e, h, ← hc]
    rfl

/-- a value's bytes have come out -/
def ValPost (d : Bool) (w : World) (e : Ending) (w' : World) : Prop := ∃ X : ByteArray, Ux.IsVal X.data.toList ∧ X.size ≤ 1000000 ∧ e = .returned (.string ⟨(Ux.turnIf d X.data.toList).toArray⟩) ∧ Ux.Touch (fun _ => False) w w'

theorem val_plain {X : ByteArray} {w w' : World} (h : Ux.IsVal X.data.toList ∧ X.size ≤ 1000000) (T : Ux.Touch (fun _ => False) w w') : ValPost false w (.returned (.string X)) w' :=
  ⟨X, h.1, h.2, congrArg (fun z => Ending.returned (.string z)) (ByteArray.ext (by simp [Ux.turnIf])), T⟩
theorem val_turn {X : ByteArray} {w w' : World} (h : Ux.IsVal X.data.toList ∧ X.size ≤ 1000000) (T : Ux.Touch (fun _ => False) w w') : ValPost true w (.returned (.string ⟨(Ux.turn X.data.toList).toArray⟩)) w' :=
  ⟨X, h.1, h.2, rfl, T⟩
theorem val_lim {X : ByteArray} (h : Ux.IsVal X.data.toList ∧ X.size ≤ 1000000) : X.size ≤ 9223372036854775807 := by omega
theorem lim3 (N : ByteArray) (h : N.size = 8) : (¬ 9223372036854775807 < 1 + N.size) ∧ Ux.IsVal ((⟨#[3]⟩ : ByteArray) ++ N).data.toList ∧ ((⟨#[3]⟩ : ByteArray) ++ N).size ≤ 1000000 := by
  refine ⟨by omega, ?_, ?_⟩
  · have e : ((⟨#[3]⟩ : ByteArray) ++ N).data.toList = 3 :: N.data.toList := by simp
    rw [e]
    exact Ux.IsVal.int _ (by simpa using h)
  · rw [ByteArray.size_append]
    have : (⟨#[3]⟩ : ByteArray).size = 1 := rfl
    omega
theorem lim4 (s : ByteArray) (hs : s.size ≤ 1000) (t E : ByteArray) (h : t.size ≤ s.size) (hE : (⟨(Ux.esc t.data.toList).toArray⟩ : ByteArray) = E) : (¬ 9223372036854775807 < 1 + E.size) ∧ Ux.IsVal ((⟨#[4]⟩ : ByteArray) ++ E).data.toList ∧ ((⟨#[4]⟩ : ByteArray) ++ E).size ≤ 1000000 := by
  have hEl : E.data.toList = Ux.esc t.data.toList := by rw [← hE]
  have h1 := (Ux.escB_length t.data.toList).2
  have h2 : E.data.toList.length = (Ux.esc t.data.toList).length := by rw [hEl]
  have h3 : E.data.toList.length = E.size := by simp
  have h4 : t.data.toList.length = t.size := by simp
  unfold Ux.esc at h2
  rw [List.length_append] at h2
  simp only [List.length_cons, List.length_nil] at h2
  refine ⟨by omega, ?_, ?_⟩
  · have e : ((⟨#[4]⟩ : ByteArray) ++ E).data.toList = 4 :: E.data.toList := by simp
    rw [e, hEl]
    exact Ux.IsVal.text _
  · rw [ByteArray.size_append]
    have : (⟨#[4]⟩ : ByteArray).size = 1 := rfl
    omega

set_option maxHeartbeats 8000000 in
set_option maxRecDepth 100000 in
theorem value15 (k n : Int) (s : ByteArray) (d : Bool) (m : Int) (w : World) (hm : w.cell? ⟨0, 0, none⟩ = some (.int .i64 m)) (hs : s.size ≤ 1000) :
    Calls Tryd.prog 15 #[.agg #[.int .i64 k, .int .i64 n, .string s], .agg #[.int .i64 0, .int .i64 0, .bool false, .bool false, .pointer none, .bool d]] w (ValPost d w) := by
  have c23 := Lib.hid is23
  have HM := Lib.hid (And.intro hm hs)
  obtain ⟨B, hB⟩ : ∃ B, w.heap.size = B := ⟨_, rfl⟩
  have hB0 : 0 < B := by rw [← hB]; exact block_lt_of_cell hm
  have HB := Lib.hid hB
  clear hm hs
  go_enter Tryd.func15, Tryd.ntmps15
  go_wp2_with (go_at_call 23; fail)
  refine (c23.out k n s _).mono ?_
  rintro e w2 ⟨k', n', s', rfl, hok, hss, T2⟩
  have hA : ((w.alloc (.cells #[.int .i64 k, .int .i64 n, .string s] 36)).alloc (.cells #[.int .i64 0, .int .i64 0, .bool false, .bool false, .pointer none, .bool d] 43)).heap[B]? = some (.cells #[.int .i64 k, .int .i64 n, .string s] 36 (0, 0)) := by
    rw [← hB]; exact ((Ux.Touch.refl (fun _ => False) _).alloc _).heap (heap_alloc_new w _) (fun f => f)
  have hC : ((w.alloc (.cells #[.int .i64 k, .int .i64 n, .string s] 36)).alloc (.cells #[.int .i64 0, .int .i64 0, .bool false, .bool false, .pointer none, .bool d] 43)).heap[B + 1]? = some (.cells #[.int .i64 0, .int .i64 0, .bool false, .bool false, .pointer none, .bool d] 43 (0, 0)) := by
    rw [← hB]; have := heap_alloc_new (w.alloc (.cells #[.int .i64 k, .int .i64 n, .string s] 36)) (.cells #[.int .i64 0, .int .i64 0, .bool false, .bool false, .pointer none, .bool d] 43); rwa [World.size_alloc] at this
  have hA2 := T2.heap hA (fun f => f)
  have hC2 := T2.heap hC (fun f => f)
  have T02 : Ux.Touch (fun _ => False) w w2 := (((Ux.Touch.refl _ w).alloc _).alloc _).trans T2 (fun _ _ f => f)
  have e0 : w2.cell? ⟨B, 0, none⟩ = some (.int .i64 k) := by rw [cell_of_row w2 B 0 _ 36 (0, 0) hA2]; rfl
  have e1 : w2.cell? ⟨B, 1, none⟩ = some (.int .i64 n) := by rw [cell_of_row w2 B 1 _ 36 (0, 0) hA2]; rfl
  have e2 : w2.cell? ⟨B, 2, none⟩ = some (.string s) := by rw [cell_of_row w2 B 2 _ 36 (0, 0) hA2]; rfl
  have f0 : w2.frozen? ⟨B, 0, none⟩ = false := frozen_of_row w2 B 0 _ 36 hA2
  have f1 : w2.frozen? ⟨B, 1, none⟩ = false := frozen_of_row w2 B 1 _ 36 hA2
  have f2 : w2.frozen? ⟨B, 2, none⟩ = false := frozen_of_row w2 B 2 _ 36 hA2
  have H2 := Lib.hid (And.intro T02 (And.intro hA2 (And.intro hC2 (And.intro hok hss))))
  clear T2 hA hC hA2 hC2 T02 hok hss
  go_upto_region 3 with (fail)
  obtain ⟨w3, hw3⟩ : ∃ w3, ((w2.setCell ⟨B, 0, none⟩ (.int .i64 k')).setCell ⟨B, 1, none⟩ (.int .i64 n')).setCell ⟨B, 2, none⟩ (.string s') = w3 := ⟨_, rfl⟩
  rw [hw3]
  have T23 : Ux.Touch (fun b => b = B) w2 w3 := by rw [← hw3]; exact (((Ux.Touch.refl (fun b => b = B) w2).setCell (p := ⟨B, 0, none⟩) (fun _ => rfl) _).setCell (p := ⟨B, 1, none⟩) (fun _ => rfl) _).setCell (p := ⟨B, 2, none⟩) (fun _ => rfl) _
  have T03 : Ux.Touch (fun _ => False) w w3 := H2.out.1.trans T23 (fun b h e => by have := HB.out; omega)
  have hA3 : w3.heap[B]? = some (.cells #[.int .i64 k', .int .i64 n', .string s'] 36 (0, 0)) := by
    rw [← hw3]
    exact heap_setCell_same _ B 2 _ 36 _ (heap_setCell_same _ B 1 _ 36 _ (heap_setCell_same _ B 0 _ 36 _ H2.out.2.1))
  have hC3 := T23.heap H2.out.2.2.1 (by omega)
  have a0 : w3.cell? ⟨B, 0, none⟩ = some (.int .i64 k') := by rw [cell_of_row w3 B 0 _ 36 (0, 0) hA3]; rfl
  have a1 : w3.cell? ⟨B, 1, none⟩ = some (.int .i64 n') := by rw [cell_of_row w3 B 1 _ 36 (0, 0) hA3]; rfl
  have a2 : w3.cell? ⟨B, 2, none⟩ = some (.string s') := by rw [cell_of_row w3 B 2 _ 36 (0, 0) hA3]; rfl
  have b0 : w3.cell? ⟨B + 1, 0, none⟩ = some (.int .i64 0) := by rw [cell_of_row w3 (B + 1) 0 _ 43 (0, 0) hC3]; rfl
  have b1 : w3.cell? ⟨B + 1, 1, none⟩ = some (.int .i64 0) := by rw [cell_of_row w3 (B + 1) 1 _ 43 (0, 0) hC3]; rfl
  have b2 : w3.cell? ⟨B + 1, 2, none⟩ = some (.bool false) := by rw [cell_of_row w3 (B + 1) 2 _ 43 (0, 0) hC3]; rfl
  have b3 : w3.cell? ⟨B + 1, 3, none⟩ = some (.bool false) := by rw [cell_of_row w3 (B + 1) 3 _ 43 (0, 0) hC3]; rfl
  have b4 : w3.cell? ⟨B + 1, 4, none⟩ = some (.pointer none) := by rw [cell_of_row w3 (B + 1) 4 _ 43 (0, 0) hC3]; rfl
  have b5 : w3.cell? ⟨B + 1, 5, none⟩ = some (.bool d) := by rw [cell_of_row w3 (B + 1) 5 _ 43 (0, 0) hC3]; rfl
  have H3 := Lib.hid (And.intro T03 (And.intro (T03.cell HM.out.1 (fun f => f)) (And.intro HM.out.2 H2.out.2.2.2.2)))
  have hok := H2.out.2.2.2.1
  clear hw3 T23 T03 hA3 hC3 e0 e1 e2 f0 f1 f2 H2 HM
  rcases hok with rfl | ⟨rfl, hn⟩ | rfl | rfl
  · -- nothing
    have b6 := ((Ux.Touch.refl (fun _ => False) w3).alloc (.cells #[.int .u8 1] 5)).cell b5 (fun f => f)
    have hv : Ux.IsVal (⟨#[1]⟩ : ByteArray).data.toList ∧ (⟨#[1]⟩ : ByteArray).size ≤ 1000000 := ⟨Ux.IsVal.null, by decide⟩
    cases d with
    | false =>
      go_wp2_with (refine Ux.is_convert 52 9 rfl ?_; refine Ux.wpList_bytes [1] rfl 52 9 5 _ rfl _ _ rfl Tryd.underlying52 Tryd.underlying5 Tryd.underlying9 ?_ ?_)
      go_ret
      exact val_plain (X := ⟨#[1]⟩) hv (H3.out.1.alloc _)
    | true =>
      go_wp2_with (first
        | (go_at_call 21; refine (turn21 _ _ (val_lim hv)).mono ?_; rintro e w9 ⟨rfl, T9⟩; have HT := Lib.hid T9; clear T9)
        | (refine Ux.is_convert 52 9 rfl ?_; refine Ux.wpList_bytes [1] rfl 52 9 5 _ rfl _ _ rfl Tryd.underlying52 Tryd.underlying5 Tryd.underlying9 ?_ ?_))
      go_ret
      exact val_turn (X := ⟨#[1]⟩) hv ((H3.out.1.alloc _).trans HT.out (fun _ _ f => f))
  · -- a truth
    rcases hn with rfl | rfl
    · have b6 := ((Ux.Touch.refl (fun _ => False) w3).alloc (.cells #[.int .u8 2, .int .u8 0] 5)).cell b5 (fun f => f)
      have hv : Ux.IsVal (⟨#[2, 0]⟩ : ByteArray).data.toList ∧ (⟨#[2, 0]⟩ : ByteArray).size ≤ 1000000 := ⟨Ux.IsVal.bool 0 (by decide), by decide⟩
      cases d with
      | false =>
        go_wp2_with (refine Ux.is_convert 52 9 rfl ?_; refine Ux.wpList_bytes [2, 0] rfl 52 9 5 _ rfl _ _ rfl Tryd.underlying52 Tryd.underlying5 Tryd.underlying9 ?_ ?_)
        · intro j hj
          have hj0 : j = 0 ∨ j = 1 := by have hj' : j < 2 := hj; omega
          rcases hj0 with rfl | rfl <;> rfl
        · go_ret
          exact val_plain (X := ⟨#[2, 0]⟩) hv (H3.out.1.alloc _)
      | true =>
        go_wp2_with (first
          | (go_at_call 21; refine (turn21 _ _ (val_lim (X := ⟨#[2, 0]⟩) hv)).mono ?_; rintro e w9 ⟨rfl, T9⟩; have HT := Lib.hid T9; clear T9)
          | (refine Ux.is_convert 52 9 rfl ?_; refine Ux.wpList_bytes [2, 0] rfl 52 9 5 _ rfl _ _ rfl Tryd.underlying52 Tryd.underlying5 Tryd.underlying9 ?_ ?_))
        · intro j hj
          have hj0 : j = 0 ∨ j = 1 := by have hj' : j < 2 := hj; omega
          rcases hj0 with rfl | rfl <;> rfl
        · go_ret
          exact val_turn (X := ⟨#[2, 0]⟩) hv ((H3.out.1.alloc _).trans HT.out (fun _ _ f => f))
    · have b6 := ((Ux.Touch.refl (fun _ => False) w3).alloc (.cells #[.int .u8 2, .int .u8 1] 5)).cell b5 (fun f => f)
      have hv : Ux.IsVal (⟨#[2, 1]⟩ : ByteArray).data.toList ∧ (⟨#[2, 1]⟩ : ByteArray).size ≤ 1000000 := ⟨Ux.IsVal.bool 1 (by decide), by decide⟩
      cases d with
      | false =>
        go_wp2_with (refine Ux.is_convert 52 9 rfl ?_; refine Ux.wpList_bytes [2, 1] rfl 52 9 5 _ rfl _ _ rfl Tryd.underlying52 Tryd.underlying5 Tryd.underlying9 ?_ ?_)
        · intro j hj
          have hj0 : j = 0 ∨ j = 1 := by have hj' : j < 2 := hj; omega
          rcases hj0 with rfl | rfl <;> rfl
        · go_ret
          exact val_plain (X := ⟨#[2, 1]⟩) hv (H3.out.1.alloc _)
      | true =>
        go_wp2_with (first
          | (go_at_call 21; refine (turn21 _ _ (val_lim (X := ⟨#[2, 1]⟩) hv)).mono ?_; rintro e w9 ⟨rfl, T9⟩; have HT := Lib.hid T9; clear T9)
          | (refine Ux.is_convert 52 9 rfl ?_; refine Ux.wpList_bytes [2, 1] rfl 52 9 5 _ rfl _ _ rfl Tryd.underlying52 Tryd.underlying5 Tryd.underlying9 ?_ ?_))
        · intro j hj
          have hj0 : j = 0 ∨ j = 1 := by have hj' : j < 2 := hj; omega
          rcases hj0 with rfl | rfl <;> rfl
        · go_ret
          exact val_turn (X := ⟨#[2, 1]⟩) hv ((H3.out.1.alloc _).trans HT.out (fun _ _ f => f))
  · -- a number
    have c24 := Lib.hid (number24 n')
    have cv := Lib.hid (conv1 3 3 rfl)
    have LIM := Lib.hid lim3
    go_wp2_with (fail)
    refine Ux.wp_region_plan (fun _ w' => w'.cell? ⟨B, 1, none⟩ = some (.int .i64 n')) (.q [2] (.h false [3] (.br 0 (.br 1 (.e 4 true true (.q [5] (.line [6]))) 4 (.e 1 true true (.q [5] (.line [6])))) 4 (.e 0 true true (.e 1 true true (.q [5] (.line [6])))))))
      (by kernel_rfl) (by kernel_rfl) (by intro _ _ d _ _ h; cases d <;> exact h) ?hS ?_
    case hS => (intro c; cases c <;> (simp only [World.cell?_drew]; first | exact True.intro | (refine ⟨?_, ?_⟩ <;> assumption) | assumption | (repeat (first | assumption | (refine And.intro ?_ ?_)))))
    simp only [Ux.wpPlan, Ux.pickOps, Ux.keeps, List.getElem?_toArray, List.getElem?_cons_succ, List.getElem?_cons_zero]
    repeat (first
      | go_big_quiet_step (fail)
      | (with_reducible refine wpQuiet_nil ?_)
      | (refine Ux.quiet_held rfl ?_; apply Exists.intro; refine ⟨fun w' hS => ?_, ?_⟩; (focus ((try dsimp only at hS); go_simp; first | done | with_reducible rfl)); simp only [Act.put, List.setIfInBounds_toArray, List.set_cons_zero, List.set_cons_succ]))
    obtain ⟨w4, hw4⟩ : ∃ w4, w3.drew = w4 := ⟨_, rfl⟩
    have T4 : Ux.Touch (fun _ => False) w3 w4 := by rw [← hw4]; exact (Ux.Touch.refl _ _).drew
    rw [hw4]
    have c1_4 := T4.cell a1 (fun f => f)
    have B5_4 := Lib.hid (T4.cell b5 (fun f => f))
    have HT_4 := Lib.hid T4
    clear a0 a1 a2 b0 b1 b2 b3 b4 b5 T4 hw4
    refine ⟨?_, ?_⟩
    · obtain ⟨g, hg⟩ : ∃ g, w4.heap.size = g := ⟨_, rfl⟩
      have T_5 := (Ux.Touch.refl (fun _ => False) w4).alloc (.cells #[.int .u8 3] 5)
      obtain ⟨w5, hw5⟩ : ∃ w5, w4.alloc (.cells #[.int .u8 3] 5) = w5 := ⟨_, rfl⟩
      rw [hw5] at T_5
      have G_5 := Lib.hid (show w5.cell? ⟨g, 0, none⟩ = some (.int .u8 3) by rw [← hw5, ← hg, cell_newb]; rfl)
      have c1_5 := T_5.cell c1_4 (fun f => f)
      have HT_5 := Lib.hid (HT_4.out.trans T_5 (fun _ _ f => f))
      have B5_5 := Lib.hid (T_5.cell B5_4.out (fun f => f))
      clear T_5 HT_4 B5_4 c1_4
      go_wp2_with (fail)
      clear hw5 hg
      refine ⟨⟨c1_5, c1_5⟩, ?_⟩
      refine ⟨?_, ?_⟩
      · have hcv := cv.out w5 g G_5.out
        go_wp2_with (fail)
        clear hcv
        refine ⟨⟨c1_5, c1_5⟩, ?_⟩
        go_wp2_with (go_at_call 24; fail)
        refine (c24.out _).mono ?_
        rintro e w6 ⟨N, rfl, hN, T_6⟩
        have q := (LIM.out N hN).1
        have HX := Lib.hid (LIM.out N hN).2
        clear hN
        have c1_6 := T_6.cell c1_5 (fun f => f)
        have G_6 := Lib.hid (T_6.cell G_5.out (fun f => f))
        have HT_6 := Lib.hid (HT_5.out.trans T_6 (fun _ _ f => f))
        have B5_6 := Lib.hid (T_6.cell B5_5.out (fun f => f))
        clear T_6 HT_5 B5_5 c1_5
        go_wp2_with (fail)
        refine ⟨⟨c1_6, c1_6⟩, ?_⟩
        repeat (first
          | go_big_quiet_step (fail)
          | (with_reducible refine wpQuiet_nil ?_)
          | (refine Ux.quiet_held rfl ?_; apply Exists.intro; refine ⟨fun w' hS => ?_, ?_⟩; (focus ((try dsimp only at hS); go_simp; first | done | with_reducible rfl)); simp only [Act.put, List.setIfInBounds_toArray, List.set_cons_zero, List.set_cons_succ]))
        have b6 := B5_6.out
        clear c1_6
        cases d with
        | false =>
          go_wp2_with (fail)
          go_ret
          exact val_plain HX.out (H3.out.1.trans HT_6.out (fun _ _ f => f))
        | true =>
          go_wp2_with (go_at_call 21; refine (turn21 _ _ (val_lim HX.out)).mono ?_; rintro e w9 ⟨rfl, T9⟩)
          go_ret
          exact val_turn HX.out ((H3.out.1.trans HT_6.out (fun _ _ f => f)).trans T9 (fun _ _ f => f))
      · go_wp2_with (go_at_call 24; fail)
        refine (c24.out _).mono ?_
        rintro e w6 ⟨N, rfl, hN, T_6⟩
        have q := (LIM.out N hN).1
        have HX := Lib.hid (LIM.out N hN).2
        clear hN
        have c1_6 := T_6.cell c1_5 (fun f => f)
        have G_6 := Lib.hid (T_6.cell G_5.out (fun f => f))
        have HT_6 := Lib.hid (HT_5.out.trans T_6 (fun _ _ f => f))
        have B5_6 := Lib.hid (T_6.cell B5_5.out (fun f => f))
        clear T_6 HT_5 B5_5 c1_5
        go_wp2_with (fail)
        refine ⟨⟨c1_6, c1_6⟩, ?_⟩
        have hcv := cv.out w6 g G_6.out
        go_wp2_with (fail)
        clear hcv
        refine ⟨⟨c1_6, c1_6⟩, ?_⟩
        repeat (first
          | go_big_quiet_step (fail)
          | (with_reducible refine wpQuiet_nil ?_)
          | (refine Ux.quiet_held rfl ?_; apply Exists.intro; refine ⟨fun w' hS => ?_, ?_⟩; (focus ((try dsimp only at hS); go_simp; first | done | with_reducible rfl)); simp only [Act.put, List.setIfInBounds_toArray, List.set_cons_zero, List.set_cons_succ]))
        have b6 := B5_6.out
        clear c1_6
        cases d with
        | false =>
          go_wp2_with (fail)
          go_ret
          exact val_plain HX.out (H3.out.1.trans HT_6.out (fun _ _ f => f))
        | true =>
          go_wp2_with (go_at_call 21; refine (turn21 _ _ (val_lim HX.out)).mono ?_; rintro e w9 ⟨rfl, T9⟩)
          go_ret
          exact val_turn HX.out ((H3.out.1.trans HT_6.out (fun _ _ f => f)).trans T9 (fun _ _ f => f))
    · go_wp2_with (go_at_call 24; fail)
      refine (c24.out _).mono ?_
      rintro e w5 ⟨N, rfl, hN, T_5⟩
      have q := (LIM.out N hN).1
      have HX := Lib.hid (LIM.out N hN).2
      clear hN
      have c1_5 := T_5.cell c1_4 (fun f => f)
      have HT_5 := Lib.hid (HT_4.out.trans T_5 (fun _ _ f => f))
      have B5_5 := Lib.hid (T_5.cell B5_4.out (fun f => f))
      clear T_5 HT_4 B5_4 c1_4
      go_wp2_with (fail)
      refine ⟨⟨c1_5, c1_5⟩, ?_⟩
      obtain ⟨g, hg⟩ : ∃ g, w5.heap.size = g := ⟨_, rfl⟩
      have T_6 := (Ux.Touch.refl (fun _ => False) w5).alloc (.cells #[.int .u8 3] 5)
      obtain ⟨w6, hw6⟩ : ∃ w6, w5.alloc (.cells #[.int .u8 3] 5) = w6 := ⟨_, rfl⟩
      rw [hw6] at T_6
      have G_6 := Lib.hid (show w6.cell? ⟨g, 0, none⟩ = some (.int .u8 3) by rw [← hw6, ← hg, cell_newb]; rfl)
      have c1_6 := T_6.cell c1_5 (fun f => f)
      have HT_6 := Lib.hid (HT_5.out.trans T_6 (fun _ _ f => f))
      have B5_6 := Lib.hid (T_6.cell B5_5.out (fun f => f))
      clear T_6 HT_5 B5_5 c1_5
      go_wp2_with (fail)
      clear hw6 hg
      refine ⟨⟨c1_6, c1_6⟩, ?_⟩
      have hcv := cv.out w6 g G_6.out
      go_wp2_with (fail)
      clear hcv
      refine ⟨⟨c1_6, c1_6⟩, ?_⟩
      repeat (first
        | go_big_quiet_step (fail)
        | (with_reducible refine wpQuiet_nil ?_)
        | (refine Ux.quiet_held rfl ?_; apply Exists.intro; refine ⟨fun w' hS => ?_, ?_⟩; (focus ((try dsimp only at hS); go_simp; first | done | with_reducible rfl)); simp only [Act.put, List.setIfInBounds_toArray, List.set_cons_zero, List.set_cons_succ]))
      have b6 := B5_6.out
      clear c1_6
      cases d with
      | false =>
        go_wp2_with (fail)
        go_ret
        exact val_plain HX.out (H3.out.1.trans HT_6.out (fun _ _ f => f))
      | true =>
        go_wp2_with (go_at_call 21; refine (turn21 _ _ (val_lim HX.out)).mono ?_; rintro e w9 ⟨rfl, T9⟩)
        go_ret
        exact val_turn HX.out ((H3.out.1.trans HT_6.out (fun _ _ f => f)).trans T9 (fun _ _ f => f))
  · -- a text
    have c25h := fun w => key25 s' w (by have := H3.out.2.2.1; have := H3.out.2.2.2; omega)
    unfold coll0 at c25h
    have c25 := Lib.hid c25h
    clear c25h
    have c9h : Hid (∀ (t : ByteArray) (w' : World), Ux.Touch (fun _ => False) w3 w' → t.size ≤ s'.size → Calls Tryd.prog 9 #[.string t] w' fun e w'' => e = .returned (.string ⟨(Ux.esc t.data.toList).toArray⟩) ∧ Ux.Touch (fun _ => False) w' w'') := Lib.hid fun t w' T h => escape9 t m w' (T.cell H3.out.2.1 (fun f => f)) (by have := H3.out.2.2.1; have := H3.out.2.2.2; omega)
    have cv := Lib.hid (conv1 4 4 rfl)
    have LIM4 := Lib.hid (lim4 s' (by have := H3.out.2.2.1; have := H3.out.2.2.2; omega))
    go_wp2_with (fail)
    refine Ux.wp_region_plan (fun _ w' => w'.cell? ⟨B + 1, 0, none⟩ = some (.int .i64 0) ∧ w'.cell? ⟨B + 1, 1, none⟩ = some (.int .i64 0) ∧ w'.cell? ⟨B + 1, 2, none⟩ = some (.bool false) ∧ w'.cell? ⟨B + 1, 3, none⟩ = some (.bool false) ∧ w'.cell? ⟨B + 1, 4, none⟩ = some (.pointer none) ∧ w'.cell? ⟨B, 2, none⟩ = some (.string s')) (.q [2, 4] (.h false [3, 5] (.br 0 (.br 1 (.e 6 true true (.e 7 true true (.q [8] (.line [9])))) 6 (.br 1 (.e 7 true true (.q [8] (.line [9]))) 7 (.e 1 true true (.q [8] (.line [9]))))) 6 (.br 0 (.br 1 (.e 7 true true (.q [8] (.line [9]))) 7 (.e 1 true true (.q [8] (.line [9])))) 7 (.e 0 true true (.e 1 true true (.q [8] (.line [9]))))))))
      (by kernel_rfl) (by kernel_rfl) (by intro _ _ d _ _ h; cases d <;> exact h) ?hS ?_
    case hS => (intro c; cases c <;> (simp only [World.cell?_drew]; first | exact True.intro | (refine ⟨?_, ?_⟩ <;> assumption) | assumption | (repeat (first | assumption | (refine And.intro ?_ ?_)))))
    simp only [Ux.wpPlan, Ux.pickOps, Ux.keeps, List.getElem?_toArray, List.getElem?_cons_succ, List.getElem?_cons_zero]
    repeat (first
      | go_big_quiet_step (fail)
      | (with_reducible refine wpQuiet_nil ?_)
      | (refine Ux.quiet_held rfl ?_; apply Exists.intro; refine ⟨fun w' hS => ?_, ?_⟩; (focus ((try dsimp only at hS); go_simp; first | done | with_reducible rfl)); simp only [Act.put, List.setIfInBounds_toArray, List.set_cons_zero, List.set_cons_succ]))
    obtain ⟨w4, hw4⟩ : ∃ w4, w3.drew = w4 := ⟨_, rfl⟩
    have T4 : Ux.Touch (fun _ => False) w3 w4 := by rw [← hw4]; exact (Ux.Touch.refl _ _).drew
    rw [hw4]
    have s0_4 := T4.cell b0 (fun f => f)
    have s1_4 := T4.cell b1 (fun f => f)
    have s2_4 := T4.cell b2 (fun f => f)
    have s3_4 := T4.cell b3 (fun f => f)
    have s4_4 := T4.cell b4 (fun f => f)
    have c2_4 := T4.cell a2 (fun f => f)
    have B5_4 := Lib.hid (T4.cell b5 (fun f => f))
    have HT_4 := Lib.hid T4
    clear a0 a1 a2 b0 b1 b2 b3 b4 b5 T4 hw4
    refine ⟨?_, ?_⟩
    · obtain ⟨g, hg⟩ : ∃ g, w4.heap.size = g := ⟨_, rfl⟩
      have T_5 := (Ux.Touch.refl (fun _ => False) w4).alloc (.cells #[.int .u8 4] 5)
      obtain ⟨w5, hw5⟩ : ∃ w5, w4.alloc (.cells #[.int .u8 4] 5) = w5 := ⟨_, rfl⟩
      rw [hw5] at T_5
      have G_5 := Lib.hid (show w5.cell? ⟨g, 0, none⟩ = some (.int .u8 4) by rw [← hw5, ← hg, cell_newb]; rfl)
      have s0_5 := T_5.cell s0_4 (fun f => f)
      have s1_5 := T_5.cell s1_4 (fun f => f)
      have s2_5 := T_5.cell s2_4 (fun f => f)
      have s3_5 := T_5.cell s3_4 (fun f => f)
      have s4_5 := T_5.cell s4_4 (fun f => f)
      have c2_5 := T_5.cell c2_4 (fun f => f)
      have HT_5 := Lib.hid (HT_4.out.trans T_5 (fun _ _ f => f))
      have B5_5 := Lib.hid (T_5.cell B5_4.out (fun f => f))
      clear T_5 HT_4 B5_4 s0_4 s1_4 s2_4 s3_4 s4_4 c2_4
      go_wp2_with (fail)
      clear hw5 hg
      refine ⟨⟨⟨s0_5, s1_5, s2_5, s3_5, s4_5, c2_5⟩, ⟨s0_5, s1_5, s2_5, s3_5, s4_5, c2_5⟩⟩, ?_⟩
      refine ⟨?_, ?_⟩
      · have hcv := cv.out w5 g G_5.out
        go_wp2_with (fail)
        clear hcv
        refine ⟨⟨⟨s0_5, s1_5, s2_5, s3_5, s4_5, c2_5⟩, ⟨s0_5, s1_5, s2_5, s3_5, s4_5, c2_5⟩⟩, ?_⟩
        go_wp2_with (go_at_call 25; fail)
        refine (c25.out _).mono ?_
        rintro e w6 ⟨t, rfl, ht, T_6⟩
        have HTS := Lib.hid ht
        clear ht
        have s0_6 := T_6.cell s0_5 (fun f => f)
        have s1_6 := T_6.cell s1_5 (fun f => f)
        have s2_6 := T_6.cell s2_5 (fun f => f)
        have s3_6 := T_6.cell s3_5 (fun f => f)
        have s4_6 := T_6.cell s4_5 (fun f => f)
        have c2_6 := T_6.cell c2_5 (fun f => f)
        have G_6 := Lib.hid (T_6.cell G_5.out (fun f => f))
        have HT_6 := Lib.hid (HT_5.out.trans T_6 (fun _ _ f => f))
        have B5_6 := Lib.hid (T_6.cell B5_5.out (fun f => f))
        clear T_6 HT_5 B5_5 s0_5 s1_5 s2_5 s3_5 s4_5 c2_5
        go_wp2_with (fail)
        refine ⟨⟨⟨s0_6, s1_6, s2_6, s3_6, s4_6, c2_6⟩, ⟨s0_6, s1_6, s2_6, s3_6, s4_6, c2_6⟩⟩, ?_⟩
        have c9 := c9h.out t w6 HT_6.out HTS.out
        obtain ⟨E, hE⟩ : ∃ E : ByteArray, (⟨(Ux.esc t.data.toList).toArray⟩ : ByteArray) = E := ⟨_, rfl⟩
        rw [hE] at c9
        have q := (LIM4.out t E HTS.out hE).1
        have HX := Lib.hid (LIM4.out t E HTS.out hE).2
        have C9 := Lib.hid c9
        clear hE c9
        go_wp2_with (go_at_call 9; fail)
        refine C9.out.mono ?_
        rintro e w7 ⟨rfl, T_7⟩
        clear C9
        have s0_7 := T_7.cell s0_6 (fun f => f)
        have s1_7 := T_7.cell s1_6 (fun f => f)
        have s2_7 := T_7.cell s2_6 (fun f => f)
        have s3_7 := T_7.cell s3_6 (fun f => f)
        have s4_7 := T_7.cell s4_6 (fun f => f)
        have c2_7 := T_7.cell c2_6 (fun f => f)
        have G_7 := Lib.hid (T_7.cell G_6.out (fun f => f))
        have HT_7 := Lib.hid (HT_6.out.trans T_7 (fun _ _ f => f))
        have B5_7 := Lib.hid (T_7.cell B5_6.out (fun f => f))
        clear T_7 HT_6 B5_6 s0_6 s1_6 s2_6 s3_6 s4_6 c2_6
        go_wp2_with (fail)
        refine ⟨⟨⟨s0_7, s1_7, s2_7, s3_7, s4_7, c2_7⟩, ⟨s0_7, s1_7, s2_7, s3_7, s4_7, c2_7⟩⟩, ?_⟩
        repeat (first
          | go_big_quiet_step (fail)
          | (with_reducible refine wpQuiet_nil ?_)
          | (refine Ux.quiet_held rfl ?_; apply Exists.intro; refine ⟨fun w' hS => ?_, ?_⟩; (focus ((try dsimp only at hS); go_simp; first | done | with_reducible rfl)); simp only [Act.put, List.setIfInBounds_toArray, List.set_cons_zero, List.set_cons_succ]))
        have b6 := B5_7.out
        clear s0_7 s1_7 s2_7 s3_7 s4_7 c2_7
        cases d with
        | false =>
          go_wp2_with (fail)
          go_ret
          exact val_plain HX.out (H3.out.1.trans HT_7.out (fun _ _ f => f))
        | true =>
          go_wp2_with (go_at_call 21; refine (turn21 _ _ (val_lim HX.out)).mono ?_; rintro e w9 ⟨rfl, T9⟩)
          go_ret
          exact val_turn HX.out ((H3.out.1.trans HT_7.out (fun _ _ f => f)).trans T9 (fun _ _ f => f))
      · go_wp2_with (go_at_call 25; fail)
        refine (c25.out _).mono ?_
        rintro e w6 ⟨t, rfl, ht, T_6⟩
        have HTS := Lib.hid ht
        clear ht
        have s0_6 := T_6.cell s0_5 (fun f => f)
        have s1_6 := T_6.cell s1_5 (fun f => f)
        have s2_6 := T_6.cell s2_5 (fun f => f)
        have s3_6 := T_6.cell s3_5 (fun f => f)
        have s4_6 := T_6.cell s4_5 (fun f => f)
        have c2_6 := T_6.cell c2_5 (fun f => f)
        have G_6 := Lib.hid (T_6.cell G_5.out (fun f => f))
        have HT_6 := Lib.hid (HT_5.out.trans T_6 (fun _ _ f => f))
        have B5_6 := Lib.hid (T_6.cell B5_5.out (fun f => f))
        clear T_6 HT_5 B5_5 s0_5 s1_5 s2_5 s3_5 s4_5 c2_5
        go_wp2_with (fail)
        refine ⟨⟨⟨s0_6, s1_6, s2_6, s3_6, s4_6, c2_6⟩, ⟨s0_6, s1_6, s2_6, s3_6, s4_6, c2_6⟩⟩, ?_⟩
        refine ⟨?_, ?_⟩
        · have hcv := cv.out w6 g G_6.out
          go_wp2_with (fail)
          clear hcv
          refine ⟨⟨⟨s0_6, s1_6, s2_6, s3_6, s4_6, c2_6⟩, ⟨s0_6, s1_6, s2_6, s3_6, s4_6, c2_6⟩⟩, ?_⟩
          have c9 := c9h.out t w6 HT_6.out HTS.out
          obtain ⟨E, hE⟩ : ∃ E : ByteArray, (⟨(Ux.esc t.data.toList).toArray⟩ : ByteArray) = E := ⟨_, rfl⟩
          rw [hE] at c9
          have q := (LIM4.out t E HTS.out hE).1
          have HX := Lib.hid (LIM4.out t E HTS.out hE).2
          have C9 := Lib.hid c9
          clear hE c9
          go_wp2_with (go_at_call 9; fail)
          refine C9.out.mono ?_
          rintro e w7 ⟨rfl, T_7⟩
          clear C9
          have s0_7 := T_7.cell s0_6 (fun f => f)
          have s1_7 := T_7.cell s1_6 (fun f => f)
          have s2_7 := T_7.cell s2_6 (fun f => f)
          have s3_7 := T_7.cell s3_6 (fun f => f)
          have s4_7 := T_7.cell s4_6 (fun f => f)
          have c2_7 := T_7.cell c2_6 (fun f => f)
          have G_7 := Lib.hid (T_7.cell G_6.out (fun f => f))
          have HT_7 := Lib.hid (HT_6.out.trans T_7 (fun _ _ f => f))
          have B5_7 := Lib.hid (T_7.cell B5_6.out (fun f => f))
          clear T_7 HT_6 B5_6 s0_6 s1_6 s2_6 s3_6 s4_6 c2_6
          go_wp2_with (fail)
          refine ⟨⟨⟨s0_7, s1_7, s2_7, s3_7, s4_7, c2_7⟩, ⟨s0_7, s1_7, s2_7, s3_7, s4_7, c2_7⟩⟩, ?_⟩
          repeat (first
            | go_big_quiet_step (fail)
            | (with_reducible refine wpQuiet_nil ?_)
            | (refine Ux.quiet_held rfl ?_; apply Exists.intro; refine ⟨fun w' hS => ?_, ?_⟩; (focus ((try dsimp only at hS); go_simp; first | done | with_reducible rfl)); simp only [Act.put, List.setIfInBounds_toArray, List.set_cons_zero, List.set_cons_succ]))
          have b6 := B5_7.out
          clear s0_7 s1_7 s2_7 s3_7 s4_7 c2_7
          cases d with
          | false =>
            go_wp2_with (fail)
            go_ret
            exact val_plain HX.out (H3.out.1.trans HT_7.out (fun _ _ f => f))
          | true =>
            go_wp2_with (go_at_call 21; refine (turn21 _ _ (val_lim HX.out)).mono ?_; rintro e w9 ⟨rfl, T9⟩)
            go_ret
            exact val_turn HX.out ((H3.out.1.trans HT_7.out (fun _ _ f => f)).trans T9 (fun _ _ f => f))
        · have c9 := c9h.out t w6 HT_6.out HTS.out
          obtain ⟨E, hE⟩ : ∃ E : ByteArray, (⟨(Ux.esc t.data.toList).toArray⟩ : ByteArray) = E := ⟨_, rfl⟩
          rw [hE] at c9
          have q := (LIM4.out t E HTS.out hE).1
          have HX := Lib.hid (LIM4.out t E HTS.out hE).2
          have C9 := Lib.hid c9
          clear hE c9
          go_wp2_with (go_at_call 9; fail)
          refine C9.out.mono ?_
          rintro e w7 ⟨rfl, T_7⟩
          clear C9
          have s0_7 := T_7.cell s0_6 (fun f => f)
          have s1_7 := T_7.cell s1_6 (fun f => f)
          have s2_7 := T_7.cell s2_6 (fun f => f)
          have s3_7 := T_7.cell s3_6 (fun f => f)
          have s4_7 := T_7.cell s4_6 (fun f => f)
          have c2_7 := T_7.cell c2_6 (fun f => f)
          have G_7 := Lib.hid (T_7.cell G_6.out (fun f => f))
          have HT_7 := Lib.hid (HT_6.out.trans T_7 (fun _ _ f => f))
          have B5_7 := Lib.hid (T_7.cell B5_6.out (fun f => f))
          clear T_7 HT_6 B5_6 s0_6 s1_6 s2_6 s3_6 s4_6 c2_6
          go_wp2_with (fail)
          refine ⟨⟨⟨s0_7, s1_7, s2_7, s3_7, s4_7, c2_7⟩, ⟨s0_7, s1_7, s2_7, s3_7, s4_7, c2_7⟩⟩, ?_⟩
          have hcv := cv.out w7 g G_7.out
          go_wp2_with (fail)
          clear hcv
          refine ⟨⟨⟨s0_7, s1_7, s2_7, s3_7, s4_7, c2_7⟩, ⟨s0_7, s1_7, s2_7, s3_7, s4_7, c2_7⟩⟩, ?_⟩
          repeat (first
            | go_big_quiet_step (fail)
            | (with_reducible refine wpQuiet_nil ?_)
            | (refine Ux.quiet_held rfl ?_; apply Exists.intro; refine ⟨fun w' hS => ?_, ?_⟩; (focus ((try dsimp only at hS); go_simp; first | done | with_reducible rfl)); simp only [Act.put, List.setIfInBounds_toArray, List.set_cons_zero, List.set_cons_succ]))
          have b6 := B5_7.out
          clear s0_7 s1_7 s2_7 s3_7 s4_7 c2_7
          cases d with
          | false =>
            go_wp2_with (fail)
            go_ret
            exact val_plain HX.out (H3.out.1.trans HT_7.out (fun _ _ f => f))
          | true =>
            go_wp2_with (go_at_call 21; refine (turn21 _ _ (val_lim HX.out)).mono ?_; rintro e w9 ⟨rfl, T9⟩)
            go_ret
            exact val_turn HX.out ((H3.out.1.trans HT_7.out (fun _ _ f => f)).trans T9 (fun _ _ f => f))
    · go_wp2_with (go_at_call 25; fail)
      refine (c25.out _).mono ?_
      rintro e w5 ⟨t, rfl, ht, T_5⟩
      have HTS := Lib.hid ht
      clear ht
      have s0_5 := T_5.cell s0_4 (fun f => f)
      have s1_5 := T_5.cell s1_4 (fun f => f)
      have s2_5 := T_5.cell s2_4 (fun f => f)
      have s3_5 := T_5.cell s3_4 (fun f => f)
      have s4_5 := T_5.cell s4_4 (fun f => f)
      have c2_5 := T_5.cell c2_4 (fun f => f)
      have HT_5 := Lib.hid (HT_4.out.trans T_5 (fun _ _ f => f))
      have B5_5 := Lib.hid (T_5.cell B5_4.out (fun f => f))
      clear T_5 HT_4 B5_4 s0_4 s1_4 s2_4 s3_4 s4_4 c2_4
      go_wp2_with (fail)
      refine ⟨⟨⟨s0_5, s1_5, s2_5, s3_5, s4_5, c2_5⟩, ⟨s0_5, s1_5, s2_5, s3_5, s4_5, c2_5⟩⟩, ?_⟩
      refine ⟨?_, ?_⟩
      · obtain ⟨g, hg⟩ : ∃ g, w5.heap.size = g := ⟨_, rfl⟩
        have T_6 := (Ux.Touch.refl (fun _ => False) w5).alloc (.cells #[.int .u8 4] 5)
        obtain ⟨w6, hw6⟩ : ∃ w6, w5.alloc (.cells #[.int .u8 4] 5) = w6 := ⟨_, rfl⟩
        rw [hw6] at T_6
        have G_6 := Lib.hid (show w6.cell? ⟨g, 0, none⟩ = some (.int .u8 4) by rw [← hw6, ← hg, cell_newb]; rfl)
        have s0_6 := T_6.cell s0_5 (fun f => f)
        have s1_6 := T_6.cell s1_5 (fun f => f)
        have s2_6 := T_6.cell s2_5 (fun f => f)
        have s3_6 := T_6.cell s3_5 (fun f => f)
        have s4_6 := T_6.cell s4_5 (fun f => f)
        have c2_6 := T_6.cell c2_5 (fun f => f)
        have HT_6 := Lib.hid (HT_5.out.trans T_6 (fun _ _ f => f))
        have B5_6 := Lib.hid (T_6.cell B5_5.out (fun f => f))
        clear T_6 HT_5 B5_5 s0_5 s1_5 s2_5 s3_5 s4_5 c2_5
        go_wp2_with (fail)
        clear hw6 hg
        refine ⟨⟨⟨s0_6, s1_6, s2_6, s3_6, s4_6, c2_6⟩, ⟨s0_6, s1_6, s2_6, s3_6, s4_6, c2_6⟩⟩, ?_⟩
        refine ⟨?_, ?_⟩
        · have hcv := cv.out w6 g G_6.out
          go_wp2_with (fail)
          clear hcv
          refine ⟨⟨⟨s0_6, s1_6, s2_6, s3_6, s4_6, c2_6⟩, ⟨s0_6, s1_6, s2_6, s3_6, s4_6, c2_6⟩⟩, ?_⟩
          have c9 := c9h.out t w6 HT_6.out HTS.out
          obtain ⟨E, hE⟩ : ∃ E : ByteArray, (⟨(Ux.esc t.data.toList).toArray⟩ : ByteArray) = E := ⟨_, rfl⟩
          rw [hE] at c9
          have q := (LIM4.out t E HTS.out hE).1
          have HX := Lib.hid (LIM4.out t E HTS.out hE).2
          have C9 := Lib.hid c9
          clear hE c9
          go_wp2_with (go_at_call 9; fail)
          refine C9.out.mono ?_
          rintro e w7 ⟨rfl, T_7⟩
          clear C9
          have s0_7 := T_7.cell s0_6 (fun f => f)
          have s1_7 := T_7.cell s1_6 (fun f => f)
          have s2_7 := T_7.cell s2_6 (fun f => f)
          have s3_7 := T_7.cell s3_6 (fun f => f)
          have s4_7 := T_7.cell s4_6 (fun f => f)
          have c2_7 := T_7.cell c2_6 (fun f => f)
          have G_7 := Lib.hid (T_7.cell G_6.out (fun f => f))
          have HT_7 := Lib.hid (HT_6.out.trans T_7 (fun _ _ f => f))
          have B5_7 := Lib.hid (T_7.cell B5_6.out (fun f => f))
          clear T_7 HT_6 B5_6 s0_6 s1_6 s2_6 s3_6 s4_6 c2_6
          go_wp2_with (fail)
          refine ⟨⟨⟨s0_7, s1_7, s2_7, s3_7, s4_7, c2_7⟩, ⟨s0_7, s1_7, s2_7, s3_7, s4_7, c2_7⟩⟩, ?_⟩
          repeat (first
            | go_big_quiet_step (fail)
            | (with_reducible refine wpQuiet_nil ?_)
            | (refine Ux.quiet_held rfl ?_; apply Exists.intro; refine ⟨fun w' hS => ?_, ?_⟩; (focus ((try dsimp only at hS); go_simp; first | done | with_reducible rfl)); simp only [Act.put, List.setIfInBounds_toArray, List.set_cons_zero, List.set_cons_succ]))
          have b6 := B5_7.out
          clear s0_7 s1_7 s2_7 s3_7 s4_7 c2_7
          cases d with
          | false =>
            go_wp2_with (fail)
            go_ret
            exact val_plain HX.out (H3.out.1.trans HT_7.out (fun _ _ f => f))
          | true =>
            go_wp2_with (go_at_call 21; refine (turn21 _ _ (val_lim HX.out)).mono ?_; rintro e w9 ⟨rfl, T9⟩)
            go_ret
            exact val_turn HX.out ((H3.out.1.trans HT_7.out (fun _ _ f => f)).trans T9 (fun _ _ f => f))
        · have c9 := c9h.out t w6 HT_6.out HTS.out
          obtain ⟨E, hE⟩ : ∃ E : ByteArray, (⟨(Ux.esc t.data.toList).toArray⟩ : ByteArray) = E := ⟨_, rfl⟩
          rw [hE] at c9
          have q := (LIM4.out t E HTS.out hE).1
          have HX := Lib.hid (LIM4.out t E HTS.out hE).2
          have C9 := Lib.hid c9
          clear hE c9
          go_wp2_with (go_at_call 9; fail)
          refine C9.out.mono ?_
          rintro e w7 ⟨rfl, T_7⟩
          clear C9
          have s0_7 := T_7.cell s0_6 (fun f => f)
          have s1_7 := T_7.cell s1_6 (fun f => f)
          have s2_7 := T_7.cell s2_6 (fun f => f)
          have s3_7 := T_7.cell s3_6 (fun f => f)
          have s4_7 := T_7.cell s4_6 (fun f => f)
          have c2_7 := T_7.cell c2_6 (fun f => f)
          have G_7 := Lib.hid (T_7.cell G_6.out (fun f => f))
          have HT_7 := Lib.hid (HT_6.out.trans T_7 (fun _ _ f => f))
          have B5_7 := Lib.hid (T_7.cell B5_6.out (fun f => f))
          clear T_7 HT_6 B5_6 s0_6 s1_6 s2_6 s3_6 s4_6 c2_6
          go_wp2_with (fail)
          refine ⟨⟨⟨s0_7, s1_7, s2_7, s3_7, s4_7, c2_7⟩, ⟨s0_7, s1_7, s2_7, s3_7, s4_7, c2_7⟩⟩, ?_⟩
          have hcv := cv.out w7 g G_7.out
          go_wp2_with (fail)
          clear hcv
          refine ⟨⟨⟨s0_7, s1_7, s2_7, s3_7, s4_7, c2_7⟩, ⟨s0_7, s1_7, s2_7, s3_7, s4_7, c2_7⟩⟩, ?_⟩
          repeat (first
            | go_big_quiet_step (fail)
            | (with_reducible refine wpQuiet_nil ?_)
            | (refine Ux.quiet_held rfl ?_; apply Exists.intro; refine ⟨fun w' hS => ?_, ?_⟩; (focus ((try dsimp only at hS); go_simp; first | done | with_reducible rfl)); simp only [Act.put, List.setIfInBounds_toArray, List.set_cons_zero, List.set_cons_succ]))
          have b6 := B5_7.out
          clear s0_7 s1_7 s2_7 s3_7 s4_7 c2_7
          cases d with
          | false =>
            go_wp2_with (fail)
            go_ret
            exact val_plain HX.out (H3.out.1.trans HT_7.out (fun _ _ f => f))
          | true =>
            go_wp2_with (go_at_call 21; refine (turn21 _ _ (val_lim HX.out)).mono ?_; rintro e w9 ⟨rfl, T9⟩)
            go_ret
            exact val_turn HX.out ((H3.out.1.trans HT_7.out (fun _ _ f => f)).trans T9 (fun _ _ f => f))
      · have c9 := c9h.out t w5 HT_5.out HTS.out
        obtain ⟨E, hE⟩ : ∃ E : ByteArray, (⟨(Ux.esc t.data.toList).toArray⟩ : ByteArray) = E := ⟨_, rfl⟩
        rw [hE] at c9
        have q := (LIM4.out t E HTS.out hE).1
        have HX := Lib.hid (LIM4.out t E HTS.out hE).2
        have C9 := Lib.hid c9
        clear hE c9
        go_wp2_with (go_at_call 9; fail)
        refine C9.out.mono ?_
        rintro e w6 ⟨rfl, T_6⟩
        clear C9
        have s0_6 := T_6.cell s0_5 (fun f => f)
        have s1_6 := T_6.cell s1_5 (fun f => f)
        have s2_6 := T_6.cell s2_5 (fun f => f)
        have s3_6 := T_6.cell s3_5 (fun f => f)
        have s4_6 := T_6.cell s4_5 (fun f => f)
        have c2_6 := T_6.cell c2_5 (fun f => f)
        have HT_6 := Lib.hid (HT_5.out.trans T_6 (fun _ _ f => f))
        have B5_6 := Lib.hid (T_6.cell B5_5.out (fun f => f))
        clear T_6 HT_5 B5_5 s0_5 s1_5 s2_5 s3_5 s4_5 c2_5
        go_wp2_with (fail)
        refine ⟨⟨⟨s0_6, s1_6, s2_6, s3_6, s4_6, c2_6⟩, ⟨s0_6, s1_6, s2_6, s3_6, s4_6, c2_6⟩⟩, ?_⟩
        obtain ⟨g, hg⟩ : ∃ g, w6.heap.size = g := ⟨_, rfl⟩
        have T_7 := (Ux.Touch.refl (fun _ => False) w6).alloc (.cells #[.int .u8 4] 5)
        obtain ⟨w7, hw7⟩ : ∃ w7, w6.alloc (.cells #[.int .u8 4] 5) = w7 := ⟨_, rfl⟩
        rw [hw7] at T_7
        have G_7 := Lib.hid (show w7.cell? ⟨g, 0, none⟩ = some (.int .u8 4) by rw [← hw7, ← hg, cell_newb]; rfl)
        have s0_7 := T_7.cell s0_6 (fun f => f)
        have s1_7 := T_7.cell s1_6 (fun f => f)
        have s2_7 := T_7.cell s2_6 (fun f => f)
        have s3_7 := T_7.cell s3_6 (fun f => f)
        have s4_7 := T_7.cell s4_6 (fun f => f)
        have c2_7 := T_7.cell c2_6 (fun f => f)
        have HT_7 := Lib.hid (HT_6.out.trans T_7 (fun _ _ f => f))
        have B5_7 := Lib.hid (T_7.cell B5_6.out (fun f => f))
        clear T_7 HT_6 B5_6 s0_6 s1_6 s2_6 s3_6 s4_6 c2_6
        go_wp2_with (fail)
        clear hw7 hg
        refine ⟨⟨⟨s0_7, s1_7, s2_7, s3_7, s4_7, c2_7⟩, ⟨s0_7, s1_7, s2_7, s3_7, s4_7, c2_7⟩⟩, ?_⟩
        have hcv := cv.out w7 g G_7.out
        go_wp2_with (fail)
        clear hcv
        refine ⟨⟨⟨s0_7, s1_7, s2_7, s3_7, s4_7, c2_7⟩, ⟨s0_7, s1_7, s2_7, s3_7, s4_7, c2_7⟩⟩, ?_⟩
        repeat (first
          | go_big_quiet_step (fail)
          | (with_reducible refine wpQuiet_nil ?_)
          | (refine Ux.quiet_held rfl ?_; apply Exists.intro; refine ⟨fun w' hS => ?_, ?_⟩; (focus ((try dsimp only at hS); go_simp; first | done | with_reducible rfl)); simp only [Act.put, List.setIfInBounds_toArray, List.set_cons_zero, List.set_cons_succ]))
        have b6 := B5_7.out
        clear s0_7 s1_7 s2_7 s3_7 s4_7 c2_7
        cases d with
        | false =>
          go_wp2_with (fail)
          go_ret
          exact val_plain HX.out (H3.out.1.trans HT_7.out (fun _ _ f => f))
        | true =>
          go_wp2_with (go_at_call 21; refine (turn21 _ _ (val_lim HX.out)).mono ?_; rintro e w9 ⟨rfl, T9⟩)
          go_ret
          exact val_turn HX.out ((H3.out.1.trans HT_7.out (fun _ _ f => f)).trans T9 (fun _ _ f => f))

end Go.Proofs.YtlibbngcdeblmaaDoor
