/- PART OF THE PROOF THAT PlanMeetsSaid HOLDS OF THE GIVEN PROGRAM, FOR EVERY INPUT THAT THE STATEMENT NAMES. No condition besides the statement's own. -/
import Derived.Test.YtachpdokclejlaaLawZ
import Derived.Test.YtachpdokclejlaaRows
import Derived.WalkKit
import Derived.Handy
import Derived.WalkSpells
import Derived.WalkLawsBesides
import Derived.BigQuiet
import Derived.Deep.QuietTactic
import Derived.Deep.Cut
import Derived.Laws.Externs
import Derived.Lib.Hide
import Derived.Lib.MinMaxS
import Derived.Test.YtachpdokclejlaaUxPlanZ
import Derived.Test.YtachpdokclejlaaUxHeapZ
import Derived.Test.YtachpdokclejlaaUxOrdZ
namespace Go.Proofs.Ytachpdokclejlaa
open Go.RowKit
-- import: YtachpdokclejlaaLaw
set_option maxHeartbeats 4000000 in
set_option maxRecDepth 100000 in
theorem law3_fffxft (la ha lb hb k lm hm : ByteArray) (om : Bool) (xb : Bool) (hle : (Op.bytesLess ha.toList la.toList || ha.toList == la.toList) = false) (M : Hid ((∀ w, Calls Try.prog 6 #[rng la ha false, rng lb hb false] w fun e w' => e = .returned (rng lm hm om) ∧ Below w.heap.size w w') ∧
    (∀ w, Calls Try.prog 7 #[rng la ha false, .string k] w fun e w' => e = .returned (.bool false) ∧ Below w.heap.size w w') ∧
    (∀ w, Calls Try.prog 7 #[rng lb hb false, .string k] w fun e w' => e = .returned (.bool xb) ∧ Below w.heap.size w w') ∧
    (∀ w, Calls Try.prog 7 #[rng lm hm om, .string k] w fun e w' => e = .returned (.bool false) ∧ Below w.heap.size w w') ∧
    (∀ w, Calls Try.prog 8 #[rng la ha false] w fun e w' => e = .returned (.bool false) ∧ Below w.heap.size w w') ∧
    (∀ w, Calls Try.prog 8 #[rng lm hm om] w fun e w' => e = .returned (.bool false) ∧ Below w.heap.size w w'))) (w : World) : Calls Try.prog 3 #[rng la ha false, rng lb hb false, .string k] w fun e w' => e = .returned (.bool true) ∧ Ux.Touch (fun _ => False) w w' := by
  unfold rng at *
  go_enter Try.func3, Try.ntmps3
  go_wp2_with (first | (go_at_call 6; refine (M.out.1 _).mono ?_; rintro e w1 ⟨rfl, hb1⟩) | (go_at_call 5; refine (awake5 _).mono ?_; rintro e w1 ⟨rfl, hb1⟩))
  all_goals
    obtain ⟨w2, hw2⟩ : ∃ w2, w1.alloc (.cells #[.string lm, .string hm, .bool om] 23) = w2 := ⟨_, rfl⟩
    rw [hw2]
    have HS := Lib.hid (cells_kept w w1 w2 la ha lb hb lm hm false false om hb1 hw2)
    obtain ⟨a0, a1, a2, b0, b1, b2, m0, m1, m2⟩ := HS.out.2 w2 (Ux.Touch.refl _ _)
    clear hw2 hb1
    refine Ux.wp_region_plan (fun _ w' => w'.cell? ⟨w.heap.size, 0, none⟩ = some (.string la) ∧ w'.cell? ⟨w.heap.size, 1, none⟩ = some (.string ha) ∧ w'.cell? ⟨w.heap.size, 2, none⟩ = some (.bool false) ∧ w'.cell? ⟨w.heap.size + 1, 0, none⟩ = some (.string lb) ∧ w'.cell? ⟨w.heap.size + 1, 1, none⟩ = some (.string hb) ∧ w'.cell? ⟨w.heap.size + 1, 2, none⟩ = some (.bool false) ∧ w'.cell? ⟨w1.heap.size, 0, none⟩ = some (.string lm) ∧ w'.cell? ⟨w1.heap.size, 1, none⟩ = some (.string hm) ∧ w'.cell? ⟨w1.heap.size, 2, none⟩ = some (.bool om)) (.h false [0, 3] (.q [1, 4] (.e 2 true false (.e 5 true false (.q [6, 8] (.h false [7] (.e 9 true false (.q [10, 11] (.line [])))))))))
      (by kernel_rfl) (by kernel_rfl) (by intro _ _ d _ _ h; cases d <;> exact h) ?hS ?_
    case hS => (intro c; cases c <;> (simp only [World.cell?_drew]; first | trivial | (refine ⟨?_, ?_⟩ <;> assumption) | assumption | (repeat (first | assumption | (refine And.intro ?_ ?_)))))
    simp only [Ux.wpPlan, Ux.pickOps, Ux.keeps, List.getElem?_toArray, List.getElem?_cons_succ, List.getElem?_cons_zero]
    repeat (first
      | go_big_quiet_step (fail)
      | (with_reducible refine wpQuiet_nil ?_)
      | (refine Ux.quiet_held rfl ?_; apply Exists.intro; refine ⟨fun w' hS => ?_, ?_⟩; (focus ((try dsimp only at hS); go_simp; first | done | with_reducible rfl)); simp only [Act.put, List.setIfInBounds_toArray, List.set_cons_zero, List.set_cons_succ]))
    clear a0 a1 a2 b0 b1 b2 m0 m1 m2
    go_wp2_with fail
    refine (M.out.2.2.2.1 _).mono ?_
    rintro e w3 ⟨rfl, hc3⟩
    have T3 : Ux.Touch (fun _ => False) w2 w3 := ((Ux.Touch.refl (fun _ => False) w2).drew).trans (Ux.Touch.of_below (R := fun _ => False) hc3) (fun _ _ f => f)
    go_wp2_with fail
    refine ⟨HS.out.2 _ T3, ?_⟩
    repeat (first
      | go_big_quiet_step (fail)
      | (with_reducible refine wpQuiet_nil ?_)
      | (refine Ux.quiet_held rfl ?_; apply Exists.intro; refine ⟨fun w' hS => ?_, ?_⟩; (focus ((try dsimp only at hS); go_simp; first | done | with_reducible rfl)); simp only [Act.put, List.setIfInBounds_toArray, List.set_cons_zero, List.set_cons_succ]))
    go_wp2_with fail
    refine (M.out.2.1 _).mono ?_
    rintro e w4 ⟨rfl, hc4⟩
    have T4 := T3.trans (Ux.Touch.of_below (R := fun _ => False) hc4) (fun _ _ f => f)
    go_wp2_with fail
    refine ⟨HS.out.2 _ T4, ?_⟩
    repeat (first
      | go_big_quiet_step (fail)
      | (with_reducible refine wpQuiet_nil ?_)
      | (refine Ux.quiet_held rfl ?_; apply Exists.intro; refine ⟨fun w' hS => ?_, ?_⟩; (focus ((try dsimp only at hS); go_simp; first | done | with_reducible rfl)); simp only [Act.put, List.setIfInBounds_toArray, List.set_cons_zero, List.set_cons_succ]))
    go_wp2_with fail
    refine ⟨HS.out.2 _ T4, ?_⟩
    repeat (first
      | go_big_quiet_step (fail)
      | (with_reducible refine wpQuiet_nil ?_)
      | (refine Ux.quiet_held rfl ?_; apply Exists.intro; refine ⟨fun w' hS => ?_, ?_⟩; (focus ((try dsimp only at hS); go_simp; first | done | with_reducible rfl)); simp only [Act.put, List.setIfInBounds_toArray, List.set_cons_zero, List.set_cons_succ]))
    go_wp2_with fail
    obtain ⟨a0, a1, a2, b0, b1, b2, m0, m1, m2⟩ := HS.out.2 _ T4
    refine Ux.wp_region_plan (fun _ w' => w'.cell? ⟨w.heap.size, 0, none⟩ = some (.string la) ∧ w'.cell? ⟨w.heap.size, 1, none⟩ = some (.string ha) ∧ w'.cell? ⟨w.heap.size, 2, none⟩ = some (.bool false) ∧ w'.cell? ⟨w.heap.size + 1, 0, none⟩ = some (.string lb) ∧ w'.cell? ⟨w.heap.size + 1, 1, none⟩ = some (.string hb) ∧ w'.cell? ⟨w.heap.size + 1, 2, none⟩ = some (.bool false) ∧ w'.cell? ⟨w1.heap.size, 0, none⟩ = some (.string lm) ∧ w'.cell? ⟨w1.heap.size, 1, none⟩ = some (.string hm) ∧ w'.cell? ⟨w1.heap.size, 2, none⟩ = some (.bool om)) (.h false [0] (.q [2] (.h false [3] (.q [4] (.e 1 true false (.q [5, 6, 8] (.h false [7, 9] (.q [10, 11, 12, 13] (.h false [14] (.e 15 true false (.q [16, 17, 19] (.h false [18] (.e 20 true false (.q [21, 22, 23, 24] (.e 25 true false (.q [26] (.line [27])))))))))))))))))
      (by kernel_rfl) (by kernel_rfl) (by intro _ _ d _ _ h; cases d <;> exact h) ?hS ?_
    case hS => (intro c; cases c <;> (simp only [World.cell?_drew]; first | trivial | (refine ⟨?_, ?_⟩ <;> assumption) | assumption | (repeat (first | assumption | (refine And.intro ?_ ?_)))))
    simp only [Ux.wpPlan, Ux.pickOps, Ux.keeps, List.getElem?_toArray, List.getElem?_cons_succ, List.getElem?_cons_zero]
    repeat (first
      | go_big_quiet_step (fail)
      | (with_reducible refine wpQuiet_nil ?_)
      | (refine Ux.quiet_held rfl ?_; apply Exists.intro; refine ⟨fun w' hS => ?_, ?_⟩; (focus ((try dsimp only at hS); go_simp; first | done | with_reducible rfl)); simp only [Act.put, List.setIfInBounds_toArray, List.set_cons_zero, List.set_cons_succ]))
    clear a0 a1 a2 b0 b1 b2 m0 m1 m2
    go_wp2_with fail
    refine (M.out.2.2.2.2.1 _).mono ?_
    rintro e w5 ⟨rfl, hc5⟩
    have T5 := T4.drew.trans (Ux.Touch.of_below (R := fun _ => False) hc5) (fun _ _ f => f)
    go_wp2_with fail
    refine ⟨HS.out.2 _ T5, ?_⟩
    repeat (first
      | go_big_quiet_step (fail)
      | (with_reducible refine wpQuiet_nil ?_)
      | (refine Ux.quiet_held rfl ?_; apply Exists.intro; refine ⟨fun w' hS => ?_, ?_⟩; (focus ((try dsimp only at hS); go_simp; first | done | with_reducible rfl)); simp only [Act.put, List.setIfInBounds_toArray, List.set_cons_zero, List.set_cons_succ]))
    go_wp2_with fail
    refine (M.out.2.2.2.2.2 _).mono ?_
    rintro e w6 ⟨rfl, hc6⟩
    have T6 := T5.trans (Ux.Touch.of_below (R := fun _ => False) hc6) (fun _ _ f => f)
    go_wp2_with fail
    refine ⟨HS.out.2 _ T6, ?_⟩
    repeat (first
      | go_big_quiet_step (fail)
      | (with_reducible refine wpQuiet_nil ?_)
      | (refine Ux.quiet_held rfl ?_; apply Exists.intro; refine ⟨fun w' hS => ?_, ?_⟩; (focus ((try dsimp only at hS); go_simp; first | done | with_reducible rfl)); simp only [Act.put, List.setIfInBounds_toArray, List.set_cons_zero, List.set_cons_succ]))
    go_wp2_with fail
    refine ⟨HS.out.2 _ T6, ?_⟩
    repeat (first
      | go_big_quiet_step (fail)
      | (with_reducible refine wpQuiet_nil ?_)
      | (refine Ux.quiet_held rfl ?_; apply Exists.intro; refine ⟨fun w' hS => ?_, ?_⟩; (focus ((try dsimp only at hS); go_simp; first | done | with_reducible rfl)); simp only [Act.put, List.setIfInBounds_toArray, List.set_cons_zero, List.set_cons_succ]))
    go_wp2_with fail
    refine (awake5 _).mono ?_
    rintro e w7 ⟨rfl, hc7⟩
    have T7 := T6.trans hc7 (fun _ _ f => f)
    go_wp2_with fail
    refine ⟨HS.out.2 _ T7, ?_⟩
    repeat (first
      | go_big_quiet_step (fail)
      | (with_reducible refine wpQuiet_nil ?_)
      | (refine Ux.quiet_held rfl ?_; apply Exists.intro; refine ⟨fun w' hS => ?_, ?_⟩; (focus ((try dsimp only at hS); go_simp; first | done | with_reducible rfl)); simp only [Act.put, List.setIfInBounds_toArray, List.set_cons_zero, List.set_cons_succ]))
    go_wp2
    go_returns
    exact ⟨rfl, HS.out.1.trans T7 (fun _ _ f => f)⟩

set_option maxHeartbeats 4000000 in
set_option maxRecDepth 100000 in
theorem law3_fftfff (la ha lb hb k lm hm : ByteArray) (om : Bool) (hle : (Op.bytesLess ha.toList la.toList || ha.toList == la.toList) = true) (M : Hid ((∀ w, Calls Try.prog 6 #[rng la ha false, rng lb hb false] w fun e w' => e = .returned (rng lm hm om) ∧ Below w.heap.size w w') ∧
    (∀ w, Calls Try.prog 7 #[rng la ha false, .string k] w fun e w' => e = .returned (.bool true) ∧ Below w.heap.size w w') ∧
    (∀ w, Calls Try.prog 7 #[rng lb hb false, .string k] w fun e w' => e = .returned (.bool false) ∧ Below w.heap.size w w') ∧
    (∀ w, Calls Try.prog 7 #[rng lm hm om, .string k] w fun e w' => e = .returned (.bool false) ∧ Below w.heap.size w w') ∧
    (∀ w, Calls Try.prog 8 #[rng la ha false] w fun e w' => e = .returned (.bool true) ∧ Below w.heap.size w w') ∧
    (∀ w, Calls Try.prog 8 #[rng lm hm om] w fun e w' => e = .returned (.bool false) ∧ Below w.heap.size w w'))) (w : World) : Calls Try.prog 3 #[rng la ha false, rng lb hb false, .string k] w fun e w' => e = .returned (.bool true) ∧ Ux.Touch (fun _ => False) w w' := by
  unfold rng at *
  go_enter Try.func3, Try.ntmps3
  go_wp2_with (first | (go_at_call 6; refine (M.out.1 _).mono ?_; rintro e w1 ⟨rfl, hb1⟩) | (go_at_call 5; refine (awake5 _).mono ?_; rintro e w1 ⟨rfl, hb1⟩))
  all_goals
    obtain ⟨w2, hw2⟩ : ∃ w2, w1.alloc (.cells #[.string lm, .string hm, .bool om] 23) = w2 := ⟨_, rfl⟩
    rw [hw2]
    have HS := Lib.hid (cells_kept w w1 w2 la ha lb hb lm hm false false om hb1 hw2)
    obtain ⟨a0, a1, a2, b0, b1, b2, m0, m1, m2⟩ := HS.out.2 w2 (Ux.Touch.refl _ _)
    clear hw2 hb1
    refine Ux.wp_region_plan (fun _ w' => w'.cell? ⟨w.heap.size, 0, none⟩ = some (.string la) ∧ w'.cell? ⟨w.heap.size, 1, none⟩ = some (.string ha) ∧ w'.cell? ⟨w.heap.size, 2, none⟩ = some (.bool false) ∧ w'.cell? ⟨w.heap.size + 1, 0, none⟩ = some (.string lb) ∧ w'.cell? ⟨w.heap.size + 1, 1, none⟩ = some (.string hb) ∧ w'.cell? ⟨w.heap.size + 1, 2, none⟩ = some (.bool false) ∧ w'.cell? ⟨w1.heap.size, 0, none⟩ = some (.string lm) ∧ w'.cell? ⟨w1.heap.size, 1, none⟩ = some (.string hm) ∧ w'.cell? ⟨w1.heap.size, 2, none⟩ = some (.bool om)) (.h false [0, 3] (.q [1, 4] (.e 2 true false (.e 5 true false (.q [6, 8] (.h false [7] (.e 9 true false (.q [10, 11] (.line [])))))))))
      (by kernel_rfl) (by kernel_rfl) (by intro _ _ d _ _ h; cases d <;> exact h) ?hS ?_
    case hS => (intro c; cases c <;> (simp only [World.cell?_drew]; first | trivial | (refine ⟨?_, ?_⟩ <;> assumption) | assumption | (repeat (first | assumption | (refine And.intro ?_ ?_)))))
    simp only [Ux.wpPlan, Ux.pickOps, Ux.keeps, List.getElem?_toArray, List.getElem?_cons_succ, List.getElem?_cons_zero]
    repeat (first
      | go_big_quiet_step (fail)
      | (with_reducible refine wpQuiet_nil ?_)
      | (refine Ux.quiet_held rfl ?_; apply Exists.intro; refine ⟨fun w' hS => ?_, ?_⟩; (focus ((try dsimp only at hS); go_simp; first | done | with_reducible rfl)); simp only [Act.put, List.setIfInBounds_toArray, List.set_cons_zero, List.set_cons_succ]))
    clear a0 a1 a2 b0 b1 b2 m0 m1 m2
    go_wp2_with fail
    refine (M.out.2.2.2.1 _).mono ?_
    rintro e w3 ⟨rfl, hc3⟩
    have T3 : Ux.Touch (fun _ => False) w2 w3 := ((Ux.Touch.refl (fun _ => False) w2).drew).trans (Ux.Touch.of_below (R := fun _ => False) hc3) (fun _ _ f => f)
    go_wp2_with fail
    refine ⟨HS.out.2 _ T3, ?_⟩
    repeat (first
      | go_big_quiet_step (fail)
      | (with_reducible refine wpQuiet_nil ?_)
      | (refine Ux.quiet_held rfl ?_; apply Exists.intro; refine ⟨fun w' hS => ?_, ?_⟩; (focus ((try dsimp only at hS); go_simp; first | done | with_reducible rfl)); simp only [Act.put, List.setIfInBounds_toArray, List.set_cons_zero, List.set_cons_succ]))
    go_wp2_with fail
    refine (M.out.2.1 _).mono ?_
    rintro e w4 ⟨rfl, hc4⟩
    have T4 := T3.trans (Ux.Touch.of_below (R := fun _ => False) hc4) (fun _ _ f => f)
    go_wp2_with fail
    refine ⟨HS.out.2 _ T4, ?_⟩
    repeat (first
      | go_big_quiet_step (fail)
      | (with_reducible refine wpQuiet_nil ?_)
      | (refine Ux.quiet_held rfl ?_; apply Exists.intro; refine ⟨fun w' hS => ?_, ?_⟩; (focus ((try dsimp only at hS); go_simp; first | done | with_reducible rfl)); simp only [Act.put, List.setIfInBounds_toArray, List.set_cons_zero, List.set_cons_succ]))
    go_wp2_with fail
    refine (M.out.2.2.1 _).mono ?_
    rintro e w5 ⟨rfl, hc5⟩
    have T5 := T4.trans (Ux.Touch.of_below (R := fun _ => False) hc5) (fun _ _ f => f)
    go_wp2_with fail
    refine ⟨HS.out.2 _ T5, ?_⟩
    repeat (first
      | go_big_quiet_step (fail)
      | (with_reducible refine wpQuiet_nil ?_)
      | (refine Ux.quiet_held rfl ?_; apply Exists.intro; refine ⟨fun w' hS => ?_, ?_⟩; (focus ((try dsimp only at hS); go_simp; first | done | with_reducible rfl)); simp only [Act.put, List.setIfInBounds_toArray, List.set_cons_zero, List.set_cons_succ]))
    go_wp2_with fail
    obtain ⟨a0, a1, a2, b0, b1, b2, m0, m1, m2⟩ := HS.out.2 _ T5
    refine Ux.wp_region_plan (fun _ w' => w'.cell? ⟨w.heap.size, 0, none⟩ = some (.string la) ∧ w'.cell? ⟨w.heap.size, 1, none⟩ = some (.string ha) ∧ w'.cell? ⟨w.heap.size, 2, none⟩ = some (.bool false) ∧ w'.cell? ⟨w.heap.size + 1, 0, none⟩ = some (.string lb) ∧ w'.cell? ⟨w.heap.size + 1, 1, none⟩ = some (.string hb) ∧ w'.cell? ⟨w.heap.size + 1, 2, none⟩ = some (.bool false) ∧ w'.cell? ⟨w1.heap.size, 0, none⟩ = some (.string lm) ∧ w'.cell? ⟨w1.heap.size, 1, none⟩ = some (.string hm) ∧ w'.cell? ⟨w1.heap.size, 2, none⟩ = some (.bool om)) (.h false [0] (.q [2] (.h false [3] (.q [4] (.e 1 true false (.q [5, 6, 8] (.h false [7, 9] (.q [10, 11, 12, 13] (.h false [14] (.e 15 true false (.q [16, 17, 19] (.h false [18] (.e 20 true false (.q [21, 22, 23, 24] (.e 25 true false (.q [26] (.line [27])))))))))))))))))
      (by kernel_rfl) (by kernel_rfl) (by intro _ _ d _ _ h; cases d <;> exact h) ?hS ?_
    case hS => (intro c; cases c <;> (simp only [World.cell?_drew]; first | trivial | (refine ⟨?_, ?_⟩ <;> assumption) | assumption | (repeat (first | assumption | (refine And.intro ?_ ?_)))))
    simp only [Ux.wpPlan, Ux.pickOps, Ux.keeps, List.getElem?_toArray, List.getElem?_cons_succ, List.getElem?_cons_zero]
    repeat (first
      | go_big_quiet_step (fail)
      | (with_reducible refine wpQuiet_nil ?_)
      | (refine Ux.quiet_held rfl ?_; apply Exists.intro; refine ⟨fun w' hS => ?_, ?_⟩; (focus ((try dsimp only at hS); go_simp; first | done | with_reducible rfl)); simp only [Act.put, List.setIfInBounds_toArray, List.set_cons_zero, List.set_cons_succ]))
    clear a0 a1 a2 b0 b1 b2 m0 m1 m2
    go_wp2_with fail
    refine (M.out.2.2.2.2.1 _).mono ?_
    rintro e w6 ⟨rfl, hc6⟩
    have T6 := T5.drew.trans (Ux.Touch.of_below (R := fun _ => False) hc6) (fun _ _ f => f)
    go_wp2_with fail
    refine ⟨HS.out.2 _ T6, ?_⟩
    repeat (first
      | go_big_quiet_step (fail)
      | (with_reducible refine wpQuiet_nil ?_)
      | (refine Ux.quiet_held rfl ?_; apply Exists.intro; refine ⟨fun w' hS => ?_, ?_⟩; (focus ((try dsimp only at hS); go_simp; first | done | with_reducible rfl)); simp only [Act.put, List.setIfInBounds_toArray, List.set_cons_zero, List.set_cons_succ]))
    go_wp2_with fail
    refine (M.out.2.2.2.2.2 _).mono ?_
    rintro e w7 ⟨rfl, hc7⟩
    have T7 := T6.trans (Ux.Touch.of_below (R := fun _ => False) hc7) (fun _ _ f => f)
    go_wp2_with fail
    refine ⟨HS.out.2 _ T7, ?_⟩
    repeat (first
      | go_big_quiet_step (fail)
      | (with_reducible refine wpQuiet_nil ?_)
      | (refine Ux.quiet_held rfl ?_; apply Exists.intro; refine ⟨fun w' hS => ?_, ?_⟩; (focus ((try dsimp only at hS); go_simp; first | done | with_reducible rfl)); simp only [Act.put, List.setIfInBounds_toArray, List.set_cons_zero, List.set_cons_succ]))
    go_wp2_with fail
    refine ⟨HS.out.2 _ T7, ?_⟩
    repeat (first
      | go_big_quiet_step (fail)
      | (with_reducible refine wpQuiet_nil ?_)
      | (refine Ux.quiet_held rfl ?_; apply Exists.intro; refine ⟨fun w' hS => ?_, ?_⟩; (focus ((try dsimp only at hS); go_simp; first | done | with_reducible rfl)); simp only [Act.put, List.setIfInBounds_toArray, List.set_cons_zero, List.set_cons_succ]))
    go_wp2_with fail
    refine (awake5 _).mono ?_
    rintro e w8 ⟨rfl, hc8⟩
    have T8 := T7.trans hc8 (fun _ _ f => f)
    go_wp2_with fail
    refine ⟨HS.out.2 _ T8, ?_⟩
    repeat (first
      | go_big_quiet_step (fail)
      | (with_reducible refine wpQuiet_nil ?_)
      | (refine Ux.quiet_held rfl ?_; apply Exists.intro; refine ⟨fun w' hS => ?_, ?_⟩; (focus ((try dsimp only at hS); go_simp; first | done | with_reducible rfl)); simp only [Act.put, List.setIfInBounds_toArray, List.set_cons_zero, List.set_cons_succ]))
    go_wp2
    go_returns
    exact ⟨rfl, HS.out.1.trans T8 (fun _ _ f => f)⟩

set_option maxHeartbeats 4000000 in
set_option maxRecDepth 100000 in
theorem law3_fftftt (la ha lb hb k lm hm : ByteArray) (om : Bool) (hle : (Op.bytesLess ha.toList la.toList || ha.toList == la.toList) = false) (M : Hid ((∀ w, Calls Try.prog 6 #[rng la ha false, rng lb hb false] w fun e w' => e = .returned (rng lm hm om) ∧ Below w.heap.size w w') ∧
    (∀ w, Calls Try.prog 7 #[rng la ha false, .string k] w fun e w' => e = .returned (.bool true) ∧ Below w.heap.size w w') ∧
    (∀ w, Calls Try.prog 7 #[rng lb hb false, .string k] w fun e w' => e = .returned (.bool false) ∧ Below w.heap.size w w') ∧
    (∀ w, Calls Try.prog 7 #[rng lm hm om, .string k] w fun e w' => e = .returned (.bool false) ∧ Below w.heap.size w w') ∧
    (∀ w, Calls Try.prog 8 #[rng la ha false] w fun e w' => e = .returned (.bool false) ∧ Below w.heap.size w w') ∧
    (∀ w, Calls Try.prog 8 #[rng lm hm om] w fun e w' => e = .returned (.bool true) ∧ Below w.heap.size w w'))) (w : World) : Calls Try.prog 3 #[rng la ha false, rng lb hb false, .string k] w fun e w' => e = .returned (.bool true) ∧ Ux.Touch (fun _ => False) w w' := by
  unfold rng at *
  go_enter Try.func3, Try.ntmps3
  go_wp2_with (first | (go_at_call 6; refine (M.out.1 _).mono ?_; rintro e w1 ⟨rfl, hb1⟩) | (go_at_call 5; refine (awake5 _).mono ?_; rintro e w1 ⟨rfl, hb1⟩))
  all_goals
    obtain ⟨w2, hw2⟩ : ∃ w2, w1.alloc (.cells #[.string lm, .string hm, .bool om] 23) = w2 := ⟨_, rfl⟩
    rw [hw2]
    have HS := Lib.hid (cells_kept w w1 w2 la ha lb hb lm hm false false om hb1 hw2)
    obtain ⟨a0, a1, a2, b0, b1, b2, m0, m1, m2⟩ := HS.out.2 w2 (Ux.Touch.refl _ _)
    clear hw2 hb1
    refine Ux.wp_region_plan (fun _ w' => w'.cell? ⟨w.heap.size, 0, none⟩ = some (.string la) ∧ w'.cell? ⟨w.heap.size, 1, none⟩ = some (.string ha) ∧ w'.cell? ⟨w.heap.size, 2, none⟩ = some (.bool false) ∧ w'.cell? ⟨w.heap.size + 1, 0, none⟩ = some (.string lb) ∧ w'.cell? ⟨w.heap.size + 1, 1, none⟩ = some (.string hb) ∧ w'.cell? ⟨w.heap.size + 1, 2, none⟩ = some (.bool false) ∧ w'.cell? ⟨w1.heap.size, 0, none⟩ = some (.string lm) ∧ w'.cell? ⟨w1.heap.size, 1, none⟩ = some (.string hm) ∧ w'.cell? ⟨w1.heap.size, 2, none⟩ = some (.bool om)) (.h false [0, 3] (.q [1, 4] (.e 2 true false (.e 5 true false (.q [6, 8] (.h false [7] (.e 9 true false (.q [10, 11] (.line [])))))))))
      (by kernel_rfl) (by kernel_rfl) (by intro _ _ d _ _ h; cases d <;> exact h) ?hS ?_
    case hS => (intro c; cases c <;> (simp only [World.cell?_drew]; first | trivial | (refine ⟨?_, ?_⟩ <;> assumption) | assumption | (repeat (first | assumption | (refine And.intro ?_ ?_)))))
    simp only [Ux.wpPlan, Ux.pickOps, Ux.keeps, List.getElem?_toArray, List.getElem?_cons_succ, List.getElem?_cons_zero]
    repeat (first
      | go_big_quiet_step (fail)
      | (with_reducible refine wpQuiet_nil ?_)
      | (refine Ux.quiet_held rfl ?_; apply Exists.intro; refine ⟨fun w' hS => ?_, ?_⟩; (focus ((try dsimp only at hS); go_simp; first | done | with_reducible rfl)); simp only [Act.put, List.setIfInBounds_toArray, List.set_cons_zero, List.set_cons_succ]))
    clear a0 a1 a2 b0 b1 b2 m0 m1 m2
    go_wp2_with fail
    refine (M.out.2.2.2.1 _).mono ?_
    rintro e w3 ⟨rfl, hc3⟩
    have T3 : Ux.Touch (fun _ => False) w2 w3 := ((Ux.Touch.refl (fun _ => False) w2).drew).trans (Ux.Touch.of_below (R := fun _ => False) hc3) (fun _ _ f => f)
    go_wp2_with fail
    refine ⟨HS.out.2 _ T3, ?_⟩
    repeat (first
      | go_big_quiet_step (fail)
      | (with_reducible refine wpQuiet_nil ?_)
      | (refine Ux.quiet_held rfl ?_; apply Exists.intro; refine ⟨fun w' hS => ?_, ?_⟩; (focus ((try dsimp only at hS); go_simp; first | done | with_reducible rfl)); simp only [Act.put, List.setIfInBounds_toArray, List.set_cons_zero, List.set_cons_succ]))
    go_wp2_with fail
    refine (M.out.2.1 _).mono ?_
    rintro e w4 ⟨rfl, hc4⟩
    have T4 := T3.trans (Ux.Touch.of_below (R := fun _ => False) hc4) (fun _ _ f => f)
    go_wp2_with fail
    refine ⟨HS.out.2 _ T4, ?_⟩
    repeat (first
      | go_big_quiet_step (fail)
      | (with_reducible refine wpQuiet_nil ?_)
      | (refine Ux.quiet_held rfl ?_; apply Exists.intro; refine ⟨fun w' hS => ?_, ?_⟩; (focus ((try dsimp only at hS); go_simp; first | done | with_reducible rfl)); simp only [Act.put, List.setIfInBounds_toArray, List.set_cons_zero, List.set_cons_succ]))
    go_wp2_with fail
    refine (M.out.2.2.1 _).mono ?_
    rintro e w5 ⟨rfl, hc5⟩
    have T5 := T4.trans (Ux.Touch.of_below (R := fun _ => False) hc5) (fun _ _ f => f)
    go_wp2_with fail
    refine ⟨HS.out.2 _ T5, ?_⟩
    repeat (first
      | go_big_quiet_step (fail)
      | (with_reducible refine wpQuiet_nil ?_)
      | (refine Ux.quiet_held rfl ?_; apply Exists.intro; refine ⟨fun w' hS => ?_, ?_⟩; (focus ((try dsimp only at hS); go_simp; first | done | with_reducible rfl)); simp only [Act.put, List.setIfInBounds_toArray, List.set_cons_zero, List.set_cons_succ]))
    go_wp2_with fail
    obtain ⟨a0, a1, a2, b0, b1, b2, m0, m1, m2⟩ := HS.out.2 _ T5
    refine Ux.wp_region_plan (fun _ w' => w'.cell? ⟨w.heap.size, 0, none⟩ = some (.string la) ∧ w'.cell? ⟨w.heap.size, 1, none⟩ = some (.string ha) ∧ w'.cell? ⟨w.heap.size, 2, none⟩ = some (.bool false) ∧ w'.cell? ⟨w.heap.size + 1, 0, none⟩ = some (.string lb) ∧ w'.cell? ⟨w.heap.size + 1, 1, none⟩ = some (.string hb) ∧ w'.cell? ⟨w.heap.size + 1, 2, none⟩ = some (.bool false) ∧ w'.cell? ⟨w1.heap.size, 0, none⟩ = some (.string lm) ∧ w'.cell? ⟨w1.heap.size, 1, none⟩ = some (.string hm) ∧ w'.cell? ⟨w1.heap.size, 2, none⟩ = some (.bool om)) (.h false [0] (.q [2] (.h false [3] (.q [4] (.e 1 true false (.q [5, 6, 8] (.h false [7, 9] (.q [10, 11, 12, 13] (.h false [14] (.e 15 true false (.q [16, 17, 19] (.h false [18] (.e 20 true false (.q [21, 22, 23, 24] (.e 25 true false (.q [26] (.line [27])))))))))))))))))
      (by kernel_rfl) (by kernel_rfl) (by intro _ _ d _ _ h; cases d <;> exact h) ?hS ?_
    case hS => (intro c; cases c <;> (simp only [World.cell?_drew]; first | trivial | (refine ⟨?_, ?_⟩ <;> assumption) | assumption | (repeat (first | assumption | (refine And.intro ?_ ?_)))))
    simp only [Ux.wpPlan, Ux.pickOps, Ux.keeps, List.getElem?_toArray, List.getElem?_cons_succ, List.getElem?_cons_zero]
    repeat (first
      | go_big_quiet_step (fail)
      | (with_reducible refine wpQuiet_nil ?_)
      | (refine Ux.quiet_held rfl ?_; apply Exists.intro; refine ⟨fun w' hS => ?_, ?_⟩; (focus ((try dsimp only at hS); go_simp; first | done | with_reducible rfl)); simp only [Act.put, List.setIfInBounds_toArray, List.set_cons_zero, List.set_cons_succ]))
    clear a0 a1 a2 b0 b1 b2 m0 m1 m2
    go_wp2_with fail
    refine (M.out.2.2.2.2.1 _).mono ?_
    rintro e w6 ⟨rfl, hc6⟩
    have T6 := T5.drew.trans (Ux.Touch.of_below (R := fun _ => False) hc6) (fun _ _ f => f)
    go_wp2_with fail
    refine ⟨HS.out.2 _ T6, ?_⟩
    repeat (first
      | go_big_quiet_step (fail)
      | (with_reducible refine wpQuiet_nil ?_)
      | (refine Ux.quiet_held rfl ?_; apply Exists.intro; refine ⟨fun w' hS => ?_, ?_⟩; (focus ((try dsimp only at hS); go_simp; first | done | with_reducible rfl)); simp only [Act.put, List.setIfInBounds_toArray, List.set_cons_zero, List.set_cons_succ]))
    go_wp2_with fail
    refine (M.out.2.2.2.2.2 _).mono ?_
    rintro e w7 ⟨rfl, hc7⟩
    have T7 := T6.trans (Ux.Touch.of_below (R := fun _ => False) hc7) (fun _ _ f => f)
    go_wp2_with fail
    refine ⟨HS.out.2 _ T7, ?_⟩
    repeat (first
      | go_big_quiet_step (fail)
      | (with_reducible refine wpQuiet_nil ?_)
      | (refine Ux.quiet_held rfl ?_; apply Exists.intro; refine ⟨fun w' hS => ?_, ?_⟩; (focus ((try dsimp only at hS); go_simp; first | done | with_reducible rfl)); simp only [Act.put, List.setIfInBounds_toArray, List.set_cons_zero, List.set_cons_succ]))
    go_wp2_with fail
    refine (M.out.2.2.2.1 _).mono ?_
    rintro e w8 ⟨rfl, hc8⟩
    have T8 := T7.trans (Ux.Touch.of_below (R := fun _ => False) hc8) (fun _ _ f => f)
    go_wp2_with fail
    refine ⟨HS.out.2 _ T8, ?_⟩
    repeat (first
      | go_big_quiet_step (fail)
      | (with_reducible refine wpQuiet_nil ?_)
      | (refine Ux.quiet_held rfl ?_; apply Exists.intro; refine ⟨fun w' hS => ?_, ?_⟩; (focus ((try dsimp only at hS); go_simp; first | done | with_reducible rfl)); simp only [Act.put, List.setIfInBounds_toArray, List.set_cons_zero, List.set_cons_succ]))
    go_wp2_with fail
    refine (awake5 _).mono ?_
    rintro e w9 ⟨rfl, hc9⟩
    have T9 := T8.trans hc9 (fun _ _ f => f)
    go_wp2_with fail
    refine ⟨HS.out.2 _ T9, ?_⟩
    repeat (first
      | go_big_quiet_step (fail)
      | (with_reducible refine wpQuiet_nil ?_)
      | (refine Ux.quiet_held rfl ?_; apply Exists.intro; refine ⟨fun w' hS => ?_, ?_⟩; (focus ((try dsimp only at hS); go_simp; first | done | with_reducible rfl)); simp only [Act.put, List.setIfInBounds_toArray, List.set_cons_zero, List.set_cons_succ]))
    go_wp2
    go_returns
    exact ⟨rfl, HS.out.1.trans T9 (fun _ _ f => f)⟩

set_option maxHeartbeats 4000000 in
set_option maxRecDepth 100000 in
theorem law3_ftfxff (la ha lb hb k lm hm : ByteArray) (om : Bool) (xb : Bool) (hle : (Op.bytesLess ha.toList la.toList || ha.toList == la.toList) = true) (M : Hid ((∀ w, Calls Try.prog 6 #[rng la ha false, rng lb hb true] w fun e w' => e = .returned (rng lm hm om) ∧ Below w.heap.size w w') ∧
    (∀ w, Calls Try.prog 7 #[rng la ha false, .string k] w fun e w' => e = .returned (.bool false) ∧ Below w.heap.size w w') ∧
    (∀ w, Calls Try.prog 7 #[rng lb hb true, .string k] w fun e w' => e = .returned (.bool xb) ∧ Below w.heap.size w w') ∧
    (∀ w, Calls Try.prog 7 #[rng lm hm om, .string k] w fun e w' => e = .returned (.bool false) ∧ Below w.heap.size w w') ∧
    (∀ w, Calls Try.prog 8 #[rng la ha false] w fun e w' => e = .returned (.bool true) ∧ Below w.heap.size w w') ∧
    (∀ w, Calls Try.prog 8 #[rng lm hm om] w fun e w' => e = .returned (.bool false) ∧ Below w.heap.size w w'))) (w : World) : Calls Try.prog 3 #[rng la ha false, rng lb hb true, .string k] w fun e w' => e = .returned (.bool true) ∧ Ux.Touch (fun _ => False) w w' := by
  unfold rng at *
  go_enter Try.func3, Try.ntmps3
  go_wp2_with (first | (go_at_call 6; refine (M.out.1 _).mono ?_; rintro e w1 ⟨rfl, hb1⟩) | (go_at_call 5; refine (awake5 _).mono ?_; rintro e w1 ⟨rfl, hb1⟩))
  all_goals first | (go_returns; exact ⟨rfl, (((Ux.Touch.refl (fun _ => False) w).alloc _).alloc _).trans hb1 (fun _ _ f => f)⟩) | skip
  all_goals
    obtain ⟨w2, hw2⟩ : ∃ w2, w1.alloc (.cells #[.string lm, .string hm, .bool om] 23) = w2 := ⟨_, rfl⟩
    rw [hw2]
    have HS := Lib.hid (cells_kept w w1 w2 la ha lb hb lm hm false true om hb1 hw2)
    obtain ⟨a0, a1, a2, b0, b1, b2, m0, m1, m2⟩ := HS.out.2 w2 (Ux.Touch.refl _ _)
    clear hw2 hb1
    refine Ux.wp_region_plan (fun _ w' => w'.cell? ⟨w.heap.size, 0, none⟩ = some (.string la) ∧ w'.cell? ⟨w.heap.size, 1, none⟩ = some (.string ha) ∧ w'.cell? ⟨w.heap.size, 2, none⟩ = some (.bool false) ∧ w'.cell? ⟨w.heap.size + 1, 0, none⟩ = some (.string lb) ∧ w'.cell? ⟨w.heap.size + 1, 1, none⟩ = some (.string hb) ∧ w'.cell? ⟨w.heap.size + 1, 2, none⟩ = some (.bool true) ∧ w'.cell? ⟨w1.heap.size, 0, none⟩ = some (.string lm) ∧ w'.cell? ⟨w1.heap.size, 1, none⟩ = some (.string hm) ∧ w'.cell? ⟨w1.heap.size, 2, none⟩ = some (.bool om)) (.h false [0, 3] (.q [1, 4] (.e 2 true false (.e 5 true false (.q [6, 8] (.h false [7] (.e 9 true false (.q [10, 11] (.line [])))))))))
      (by kernel_rfl) (by kernel_rfl) (by intro _ _ d _ _ h; cases d <;> exact h) ?hS ?_
    case hS => (intro c; cases c <;> (simp only [World.cell?_drew]; first | trivial | (refine ⟨?_, ?_⟩ <;> assumption) | assumption | (repeat (first | assumption | (refine And.intro ?_ ?_)))))
    simp only [Ux.wpPlan, Ux.pickOps, Ux.keeps, List.getElem?_toArray, List.getElem?_cons_succ, List.getElem?_cons_zero]
    repeat (first
      | go_big_quiet_step (fail)
      | (with_reducible refine wpQuiet_nil ?_)
      | (refine Ux.quiet_held rfl ?_; apply Exists.intro; refine ⟨fun w' hS => ?_, ?_⟩; (focus ((try dsimp only at hS); go_simp; first | done | with_reducible rfl)); simp only [Act.put, List.setIfInBounds_toArray, List.set_cons_zero, List.set_cons_succ]))
    clear a0 a1 a2 b0 b1 b2 m0 m1 m2
    go_wp2_with fail
    refine (M.out.2.2.2.1 _).mono ?_
    rintro e w3 ⟨rfl, hc3⟩
    have T3 : Ux.Touch (fun _ => False) w2 w3 := ((Ux.Touch.refl (fun _ => False) w2).drew).trans (Ux.Touch.of_below (R := fun _ => False) hc3) (fun _ _ f => f)
    go_wp2_with fail
    refine ⟨HS.out.2 _ T3, ?_⟩
    repeat (first
      | go_big_quiet_step (fail)
      | (with_reducible refine wpQuiet_nil ?_)
      | (refine Ux.quiet_held rfl ?_; apply Exists.intro; refine ⟨fun w' hS => ?_, ?_⟩; (focus ((try dsimp only at hS); go_simp; first | done | with_reducible rfl)); simp only [Act.put, List.setIfInBounds_toArray, List.set_cons_zero, List.set_cons_succ]))
    go_wp2_with fail
    refine (M.out.2.1 _).mono ?_
    rintro e w4 ⟨rfl, hc4⟩
    have T4 := T3.trans (Ux.Touch.of_below (R := fun _ => False) hc4) (fun _ _ f => f)
    go_wp2_with fail
    refine ⟨HS.out.2 _ T4, ?_⟩
    repeat (first
      | go_big_quiet_step (fail)
      | (with_reducible refine wpQuiet_nil ?_)
      | (refine Ux.quiet_held rfl ?_; apply Exists.intro; refine ⟨fun w' hS => ?_, ?_⟩; (focus ((try dsimp only at hS); go_simp; first | done | with_reducible rfl)); simp only [Act.put, List.setIfInBounds_toArray, List.set_cons_zero, List.set_cons_succ]))
    go_wp2_with fail
    refine ⟨HS.out.2 _ T4, ?_⟩
    repeat (first
      | go_big_quiet_step (fail)
      | (with_reducible refine wpQuiet_nil ?_)
      | (refine Ux.quiet_held rfl ?_; apply Exists.intro; refine ⟨fun w' hS => ?_, ?_⟩; (focus ((try dsimp only at hS); go_simp; first | done | with_reducible rfl)); simp only [Act.put, List.setIfInBounds_toArray, List.set_cons_zero, List.set_cons_succ]))
    go_wp2_with fail
    obtain ⟨a0, a1, a2, b0, b1, b2, m0, m1, m2⟩ := HS.out.2 _ T4
    refine Ux.wp_region_plan (fun _ w' => w'.cell? ⟨w.heap.size, 0, none⟩ = some (.string la) ∧ w'.cell? ⟨w.heap.size, 1, none⟩ = some (.string ha) ∧ w'.cell? ⟨w.heap.size, 2, none⟩ = some (.bool false) ∧ w'.cell? ⟨w.heap.size + 1, 0, none⟩ = some (.string lb) ∧ w'.cell? ⟨w.heap.size + 1, 1, none⟩ = some (.string hb) ∧ w'.cell? ⟨w.heap.size + 1, 2, none⟩ = some (.bool true) ∧ w'.cell? ⟨w1.heap.size, 0, none⟩ = some (.string lm) ∧ w'.cell? ⟨w1.heap.size, 1, none⟩ = some (.string hm) ∧ w'.cell? ⟨w1.heap.size, 2, none⟩ = some (.bool om)) (.h false [0] (.q [2] (.h false [3] (.q [4] (.e 1 true false (.q [5, 6, 8] (.h false [7, 9] (.q [10, 11, 12, 13] (.h false [14] (.e 15 true false (.q [16, 17, 19] (.h false [18] (.e 20 true false (.q [21, 22, 23, 24] (.e 25 true false (.q [26] (.line [27])))))))))))))))))
      (by kernel_rfl) (by kernel_rfl) (by intro _ _ d _ _ h; cases d <;> exact h) ?hS ?_
    case hS => (intro c; cases c <;> (simp only [World.cell?_drew]; first | trivial | (refine ⟨?_, ?_⟩ <;> assumption) | assumption | (repeat (first | assumption | (refine And.intro ?_ ?_)))))
    simp only [Ux.wpPlan, Ux.pickOps, Ux.keeps, List.getElem?_toArray, List.getElem?_cons_succ, List.getElem?_cons_zero]
    repeat (first
      | go_big_quiet_step (fail)
      | (with_reducible refine wpQuiet_nil ?_)
      | (refine Ux.quiet_held rfl ?_; apply Exists.intro; refine ⟨fun w' hS => ?_, ?_⟩; (focus ((try dsimp only at hS); go_simp; first | done | with_reducible rfl)); simp only [Act.put, List.setIfInBounds_toArray, List.set_cons_zero, List.set_cons_succ]))
    clear a0 a1 a2 b0 b1 b2 m0 m1 m2
    go_wp2_with fail
    refine (M.out.2.2.2.2.1 _).mono ?_
    rintro e w5 ⟨rfl, hc5⟩
    have T5 := T4.drew.trans (Ux.Touch.of_below (R := fun _ => False) hc5) (fun _ _ f => f)
    go_wp2_with fail
    refine ⟨HS.out.2 _ T5, ?_⟩
    repeat (first
      | go_big_quiet_step (fail)
      | (with_reducible refine wpQuiet_nil ?_)
      | (refine Ux.quiet_held rfl ?_; apply Exists.intro; refine ⟨fun w' hS => ?_, ?_⟩; (focus ((try dsimp only at hS); go_simp; first | done | with_reducible rfl)); simp only [Act.put, List.setIfInBounds_toArray, List.set_cons_zero, List.set_cons_succ]))
    go_wp2_with fail
    refine (M.out.2.2.2.2.2 _).mono ?_
    rintro e w6 ⟨rfl, hc6⟩
    have T6 := T5.trans (Ux.Touch.of_below (R := fun _ => False) hc6) (fun _ _ f => f)
    go_wp2_with fail
    refine ⟨HS.out.2 _ T6, ?_⟩
    repeat (first
      | go_big_quiet_step (fail)
      | (with_reducible refine wpQuiet_nil ?_)
      | (refine Ux.quiet_held rfl ?_; apply Exists.intro; refine ⟨fun w' hS => ?_, ?_⟩; (focus ((try dsimp only at hS); go_simp; first | done | with_reducible rfl)); simp only [Act.put, List.setIfInBounds_toArray, List.set_cons_zero, List.set_cons_succ]))
    go_wp2_with fail
    refine ⟨HS.out.2 _ T6, ?_⟩
    repeat (first
      | go_big_quiet_step (fail)
      | (with_reducible refine wpQuiet_nil ?_)
      | (refine Ux.quiet_held rfl ?_; apply Exists.intro; refine ⟨fun w' hS => ?_, ?_⟩; (focus ((try dsimp only at hS); go_simp; first | done | with_reducible rfl)); simp only [Act.put, List.setIfInBounds_toArray, List.set_cons_zero, List.set_cons_succ]))
    go_wp2_with fail
    refine (awake5 _).mono ?_
    rintro e w7 ⟨rfl, hc7⟩
    have T7 := T6.trans hc7 (fun _ _ f => f)
    go_wp2_with fail
    refine ⟨HS.out.2 _ T7, ?_⟩
    repeat (first
      | go_big_quiet_step (fail)
      | (with_reducible refine wpQuiet_nil ?_)
      | (refine Ux.quiet_held rfl ?_; apply Exists.intro; refine ⟨fun w' hS => ?_, ?_⟩; (focus ((try dsimp only at hS); go_simp; first | done | with_reducible rfl)); simp only [Act.put, List.setIfInBounds_toArray, List.set_cons_zero, List.set_cons_succ]))
    go_wp2
    go_returns
    exact ⟨rfl, HS.out.1.trans T7 (fun _ _ f => f)⟩

set_option maxHeartbeats 4000000 in
set_option maxRecDepth 100000 in
theorem law3_ftfxtt (la ha lb hb k lm hm : ByteArray) (om : Bool) (xb : Bool) (hle : (Op.bytesLess ha.toList la.toList || ha.toList == la.toList) = false) (M : Hid ((∀ w, Calls Try.prog 6 #[rng la ha false, rng lb hb true] w fun e w' => e = .returned (rng lm hm om) ∧ Below w.heap.size w w') ∧
    (∀ w, Calls Try.prog 7 #[rng la ha false, .string k] w fun e w' => e = .returned (.bool false) ∧ Below w.heap.size w w') ∧
    (∀ w, Calls Try.prog 7 #[rng lb hb true, .string k] w fun e w' => e = .returned (.bool xb) ∧ Below w.heap.size w w') ∧
    (∀ w, Calls Try.prog 7 #[rng lm hm om, .string k] w fun e w' => e = .returned (.bool false) ∧ Below w.heap.size w w') ∧
    (∀ w, Calls Try.prog 8 #[rng la ha false] w fun e w' => e = .returned (.bool false) ∧ Below w.heap.size w w') ∧
    (∀ w, Calls Try.prog 8 #[rng lm hm om] w fun e w' => e = .returned (.bool true) ∧ Below w.heap.size w w'))) (w : World) : Calls Try.prog 3 #[rng la ha false, rng lb hb true, .string k] w fun e w' => e = .returned (.bool true) ∧ Ux.Touch (fun _ => False) w w' := by
  unfold rng at *
  go_enter Try.func3, Try.ntmps3
  go_wp2_with (first | (go_at_call 6; refine (M.out.1 _).mono ?_; rintro e w1 ⟨rfl, hb1⟩) | (go_at_call 5; refine (awake5 _).mono ?_; rintro e w1 ⟨rfl, hb1⟩))
  all_goals first | (go_returns; exact ⟨rfl, (((Ux.Touch.refl (fun _ => False) w).alloc _).alloc _).trans hb1 (fun _ _ f => f)⟩) | skip
  all_goals
    obtain ⟨w2, hw2⟩ : ∃ w2, w1.alloc (.cells #[.string lm, .string hm, .bool om] 23) = w2 := ⟨_, rfl⟩
    rw [hw2]
    have HS := Lib.hid (cells_kept w w1 w2 la ha lb hb lm hm false true om hb1 hw2)
    obtain ⟨a0, a1, a2, b0, b1, b2, m0, m1, m2⟩ := HS.out.2 w2 (Ux.Touch.refl _ _)
    clear hw2 hb1
    refine Ux.wp_region_plan (fun _ w' => w'.cell? ⟨w.heap.size, 0, none⟩ = some (.string la) ∧ w'.cell? ⟨w.heap.size, 1, none⟩ = some (.string ha) ∧ w'.cell? ⟨w.heap.size, 2, none⟩ = some (.bool false) ∧ w'.cell? ⟨w.heap.size + 1, 0, none⟩ = some (.string lb) ∧ w'.cell? ⟨w.heap.size + 1, 1, none⟩ = some (.string hb) ∧ w'.cell? ⟨w.heap.size + 1, 2, none⟩ = some (.bool true) ∧ w'.cell? ⟨w1.heap.size, 0, none⟩ = some (.string lm) ∧ w'.cell? ⟨w1.heap.size, 1, none⟩ = some (.string hm) ∧ w'.cell? ⟨w1.heap.size, 2, none⟩ = some (.bool om)) (.h false [0, 3] (.q [1, 4] (.e 2 true false (.e 5 true false (.q [6, 8] (.h false [7] (.e 9 true false (.q [10, 11] (.line [])))))))))
      (by kernel_rfl) (by kernel_rfl) (by intro _ _ d _ _ h; cases d <;> exact h) ?hS ?_
    case hS => (intro c; cases c <;> (simp only [World.cell?_drew]; first | trivial | (refine ⟨?_, ?_⟩ <;> assumption) | assumption | (repeat (first | assumption | (refine And.intro ?_ ?_)))))
    simp only [Ux.wpPlan, Ux.pickOps, Ux.keeps, List.getElem?_toArray, List.getElem?_cons_succ, List.getElem?_cons_zero]
    repeat (first
      | go_big_quiet_step (fail)
      | (with_reducible refine wpQuiet_nil ?_)
      | (refine Ux.quiet_held rfl ?_; apply Exists.intro; refine ⟨fun w' hS => ?_, ?_⟩; (focus ((try dsimp only at hS); go_simp; first | done | with_reducible rfl)); simp only [Act.put, List.setIfInBounds_toArray, List.set_cons_zero, List.set_cons_succ]))
    clear a0 a1 a2 b0 b1 b2 m0 m1 m2
    go_wp2_with fail
    refine (M.out.2.2.2.1 _).mono ?_
    rintro e w3 ⟨rfl, hc3⟩
    have T3 : Ux.Touch (fun _ => False) w2 w3 := ((Ux.Touch.refl (fun _ => False) w2).drew).trans (Ux.Touch.of_below (R := fun _ => False) hc3) (fun _ _ f => f)
    go_wp2_with fail
    refine ⟨HS.out.2 _ T3, ?_⟩
    repeat (first
      | go_big_quiet_step (fail)
      | (with_reducible refine wpQuiet_nil ?_)
      | (refine Ux.quiet_held rfl ?_; apply Exists.intro; refine ⟨fun w' hS => ?_, ?_⟩; (focus ((try dsimp only at hS); go_simp; first | done | with_reducible rfl)); simp only [Act.put, List.setIfInBounds_toArray, List.set_cons_zero, List.set_cons_succ]))
    go_wp2_with fail
    refine (M.out.2.1 _).mono ?_
    rintro e w4 ⟨rfl, hc4⟩
    have T4 := T3.trans (Ux.Touch.of_below (R := fun _ => False) hc4) (fun _ _ f => f)
    go_wp2_with fail
    refine ⟨HS.out.2 _ T4, ?_⟩
    repeat (first
      | go_big_quiet_step (fail)
      | (with_reducible refine wpQuiet_nil ?_)
      | (refine Ux.quiet_held rfl ?_; apply Exists.intro; refine ⟨fun w' hS => ?_, ?_⟩; (focus ((try dsimp only at hS); go_simp; first | done | with_reducible rfl)); simp only [Act.put, List.setIfInBounds_toArray, List.set_cons_zero, List.set_cons_succ]))
    go_wp2_with fail
    refine ⟨HS.out.2 _ T4, ?_⟩
    repeat (first
      | go_big_quiet_step (fail)
      | (with_reducible refine wpQuiet_nil ?_)
      | (refine Ux.quiet_held rfl ?_; apply Exists.intro; refine ⟨fun w' hS => ?_, ?_⟩; (focus ((try dsimp only at hS); go_simp; first | done | with_reducible rfl)); simp only [Act.put, List.setIfInBounds_toArray, List.set_cons_zero, List.set_cons_succ]))
    go_wp2_with fail
    obtain ⟨a0, a1, a2, b0, b1, b2, m0, m1, m2⟩ := HS.out.2 _ T4
    refine Ux.wp_region_plan (fun _ w' => w'.cell? ⟨w.heap.size, 0, none⟩ = some (.string la) ∧ w'.cell? ⟨w.heap.size, 1, none⟩ = some (.string ha) ∧ w'.cell? ⟨w.heap.size, 2, none⟩ = some (.bool false) ∧ w'.cell? ⟨w.heap.size + 1, 0, none⟩ = some (.string lb) ∧ w'.cell? ⟨w.heap.size + 1, 1, none⟩ = some (.string hb) ∧ w'.cell? ⟨w.heap.size + 1, 2, none⟩ = some (.bool true) ∧ w'.cell? ⟨w1.heap.size, 0, none⟩ = some (.string lm) ∧ w'.cell? ⟨w1.heap.size, 1, none⟩ = some (.string hm) ∧ w'.cell? ⟨w1.heap.size, 2, none⟩ = some (.bool om)) (.h false [0] (.q [2] (.h false [3] (.q [4] (.e 1 true false (.q [5, 6, 8] (.h false [7, 9] (.q [10, 11, 12, 13] (.h false [14] (.e 15 true false (.q [16, 17, 19] (.h false [18] (.e 20 true false (.q [21, 22, 23, 24] (.e 25 true false (.q [26] (.line [27])))))))))))))))))
      (by kernel_rfl) (by kernel_rfl) (by intro _ _ d _ _ h; cases d <;> exact h) ?hS ?_
    case hS => (intro c; cases c <;> (simp only [World.cell?_drew]; first | trivial | (refine ⟨?_, ?_⟩ <;> assumption) | assumption | (repeat (first | assumption | (refine And.intro ?_ ?_)))))
    simp only [Ux.wpPlan, Ux.pickOps, Ux.keeps, List.getElem?_toArray, List.getElem?_cons_succ, List.getElem?_cons_zero]
    repeat (first
      | go_big_quiet_step (fail)
      | (with_reducible refine wpQuiet_nil ?_)
      | (refine Ux.quiet_held rfl ?_; apply Exists.intro; refine ⟨fun w' hS => ?_, ?_⟩; (focus ((try dsimp only at hS); go_simp; first | done | with_reducible rfl)); simp only [Act.put, List.setIfInBounds_toArray, List.set_cons_zero, List.set_cons_succ]))
    clear a0 a1 a2 b0 b1 b2 m0 m1 m2
    go_wp2_with fail
    refine (M.out.2.2.2.2.1 _).mono ?_
    rintro e w5 ⟨rfl, hc5⟩
    have T5 := T4.drew.trans (Ux.Touch.of_below (R := fun _ => False) hc5) (fun _ _ f => f)
    go_wp2_with fail
    refine ⟨HS.out.2 _ T5, ?_⟩
    repeat (first
      | go_big_quiet_step (fail)
      | (with_reducible refine wpQuiet_nil ?_)
      | (refine Ux.quiet_held rfl ?_; apply Exists.intro; refine ⟨fun w' hS => ?_, ?_⟩; (focus ((try dsimp only at hS); go_simp; first | done | with_reducible rfl)); simp only [Act.put, List.setIfInBounds_toArray, List.set_cons_zero, List.set_cons_succ]))
    go_wp2_with fail
    refine (M.out.2.2.2.2.2 _).mono ?_
    rintro e w6 ⟨rfl, hc6⟩
    have T6 := T5.trans (Ux.Touch.of_below (R := fun _ => False) hc6) (fun _ _ f => f)
    go_wp2_with fail
    refine ⟨HS.out.2 _ T6, ?_⟩
    repeat (first
      | go_big_quiet_step (fail)
      | (with_reducible refine wpQuiet_nil ?_)
      | (refine Ux.quiet_held rfl ?_; apply Exists.intro; refine ⟨fun w' hS => ?_, ?_⟩; (focus ((try dsimp only at hS); go_simp; first | done | with_reducible rfl)); simp only [Act.put, List.setIfInBounds_toArray, List.set_cons_zero, List.set_cons_succ]))
    go_wp2_with fail
    refine (M.out.2.2.2.1 _).mono ?_
    rintro e w7 ⟨rfl, hc7⟩
    have T7 := T6.trans (Ux.Touch.of_below (R := fun _ => False) hc7) (fun _ _ f => f)
    go_wp2_with fail
    refine ⟨HS.out.2 _ T7, ?_⟩
    repeat (first
      | go_big_quiet_step (fail)
      | (with_reducible refine wpQuiet_nil ?_)
      | (refine Ux.quiet_held rfl ?_; apply Exists.intro; refine ⟨fun w' hS => ?_, ?_⟩; (focus ((try dsimp only at hS); go_simp; first | done | with_reducible rfl)); simp only [Act.put, List.setIfInBounds_toArray, List.set_cons_zero, List.set_cons_succ]))
    go_wp2_with fail
    refine (awake5 _).mono ?_
    rintro e w8 ⟨rfl, hc8⟩
    have T8 := T7.trans hc8 (fun _ _ f => f)
    go_wp2_with fail
    refine ⟨HS.out.2 _ T8, ?_⟩
    repeat (first
      | go_big_quiet_step (fail)
      | (with_reducible refine wpQuiet_nil ?_)
      | (refine Ux.quiet_held rfl ?_; apply Exists.intro; refine ⟨fun w' hS => ?_, ?_⟩; (focus ((try dsimp only at hS); go_simp; first | done | with_reducible rfl)); simp only [Act.put, List.setIfInBounds_toArray, List.set_cons_zero, List.set_cons_succ]))
    go_wp2
    go_returns
    exact ⟨rfl, HS.out.1.trans T8 (fun _ _ f => f)⟩

set_option maxHeartbeats 4000000 in
set_option maxRecDepth 100000 in
theorem law3_fttftf (la ha lb hb k lm hm : ByteArray) (om : Bool) (hle : (Op.bytesLess ha.toList la.toList || ha.toList == la.toList) = true) (M : Hid ((∀ w, Calls Try.prog 6 #[rng la ha false, rng lb hb true] w fun e w' => e = .returned (rng lm hm om) ∧ Below w.heap.size w w') ∧
    (∀ w, Calls Try.prog 7 #[rng la ha false, .string k] w fun e w' => e = .returned (.bool true) ∧ Below w.heap.size w w') ∧
    (∀ w, Calls Try.prog 7 #[rng lb hb true, .string k] w fun e w' => e = .returned (.bool false) ∧ Below w.heap.size w w') ∧
    (∀ w, Calls Try.prog 7 #[rng lm hm om, .string k] w fun e w' => e = .returned (.bool false) ∧ Below w.heap.size w w') ∧
    (∀ w, Calls Try.prog 8 #[rng la ha false] w fun e w' => e = .returned (.bool true) ∧ Below w.heap.size w w') ∧
    (∀ w, Calls Try.prog 8 #[rng lm hm om] w fun e w' => e = .returned (.bool true) ∧ Below w.heap.size w w'))) (w : World) : Calls Try.prog 3 #[rng la ha false, rng lb hb true, .string k] w fun e w' => e = .returned (.bool true) ∧ Ux.Touch (fun _ => False) w w' := by
  unfold rng at *
  go_enter Try.func3, Try.ntmps3
  go_wp2_with (first | (go_at_call 6; refine (M.out.1 _).mono ?_; rintro e w1 ⟨rfl, hb1⟩) | (go_at_call 5; refine (awake5 _).mono ?_; rintro e w1 ⟨rfl, hb1⟩))
  all_goals first | (go_returns; exact ⟨rfl, (((Ux.Touch.refl (fun _ => False) w).alloc _).alloc _).trans hb1 (fun _ _ f => f)⟩) | skip
  all_goals
    obtain ⟨w2, hw2⟩ : ∃ w2, w1.alloc (.cells #[.string lm, .string hm, .bool om] 23) = w2 := ⟨_, rfl⟩
    rw [hw2]
    have HS := Lib.hid (cells_kept w w1 w2 la ha lb hb lm hm false true om hb1 hw2)
    obtain ⟨a0, a1, a2, b0, b1, b2, m0, m1, m2⟩ := HS.out.2 w2 (Ux.Touch.refl _ _)
    clear hw2 hb1
    refine Ux.wp_region_plan (fun _ w' => w'.cell? ⟨w.heap.size, 0, none⟩ = some (.string la) ∧ w'.cell? ⟨w.heap.size, 1, none⟩ = some (.string ha) ∧ w'.cell? ⟨w.heap.size, 2, none⟩ = some (.bool false) ∧ w'.cell? ⟨w.heap.size + 1, 0, none⟩ = some (.string lb) ∧ w'.cell? ⟨w.heap.size + 1, 1, none⟩ = some (.string hb) ∧ w'.cell? ⟨w.heap.size + 1, 2, none⟩ = some (.bool true) ∧ w'.cell? ⟨w1.heap.size, 0, none⟩ = some (.string lm) ∧ w'.cell? ⟨w1.heap.size, 1, none⟩ = some (.string hm) ∧ w'.cell? ⟨w1.heap.size, 2, none⟩ = some (.bool om)) (.h false [0, 3] (.q [1, 4] (.e 2 true false (.e 5 true false (.q [6, 8] (.h false [7] (.e 9 true false (.q [10, 11] (.line [])))))))))
      (by kernel_rfl) (by kernel_rfl) (by intro _ _ d _ _ h; cases d <;> exact h) ?hS ?_
    case hS => (intro c; cases c <;> (simp only [World.cell?_drew]; first | trivial | (refine ⟨?_, ?_⟩ <;> assumption) | assumption | (repeat (first | assumption | (refine And.intro ?_ ?_)))))
    simp only [Ux.wpPlan, Ux.pickOps, Ux.keeps, List.getElem?_toArray, List.getElem?_cons_succ, List.getElem?_cons_zero]
    repeat (first
      | go_big_quiet_step (fail)
      | (with_reducible refine wpQuiet_nil ?_)
      | (refine Ux.quiet_held rfl ?_; apply Exists.intro; refine ⟨fun w' hS => ?_, ?_⟩; (focus ((try dsimp only at hS); go_simp; first | done | with_reducible rfl)); simp only [Act.put, List.setIfInBounds_toArray, List.set_cons_zero, List.set_cons_succ]))
    clear a0 a1 a2 b0 b1 b2 m0 m1 m2
    go_wp2_with fail
    refine (M.out.2.2.2.1 _).mono ?_
    rintro e w3 ⟨rfl, hc3⟩
    have T3 : Ux.Touch (fun _ => False) w2 w3 := ((Ux.Touch.refl (fun _ => False) w2).drew).trans (Ux.Touch.of_below (R := fun _ => False) hc3) (fun _ _ f => f)
    go_wp2_with fail
    refine ⟨HS.out.2 _ T3, ?_⟩
    repeat (first
      | go_big_quiet_step (fail)
      | (with_reducible refine wpQuiet_nil ?_)
      | (refine Ux.quiet_held rfl ?_; apply Exists.intro; refine ⟨fun w' hS => ?_, ?_⟩; (focus ((try dsimp only at hS); go_simp; first | done | with_reducible rfl)); simp only [Act.put, List.setIfInBounds_toArray, List.set_cons_zero, List.set_cons_succ]))
    go_wp2_with fail
    refine (M.out.2.1 _).mono ?_
    rintro e w4 ⟨rfl, hc4⟩
    have T4 := T3.trans (Ux.Touch.of_below (R := fun _ => False) hc4) (fun _ _ f => f)
    go_wp2_with fail
    refine ⟨HS.out.2 _ T4, ?_⟩
    repeat (first
      | go_big_quiet_step (fail)
      | (with_reducible refine wpQuiet_nil ?_)
      | (refine Ux.quiet_held rfl ?_; apply Exists.intro; refine ⟨fun w' hS => ?_, ?_⟩; (focus ((try dsimp only at hS); go_simp; first | done | with_reducible rfl)); simp only [Act.put, List.setIfInBounds_toArray, List.set_cons_zero, List.set_cons_succ]))
    go_wp2_with fail
    refine (M.out.2.2.1 _).mono ?_
    rintro e w5 ⟨rfl, hc5⟩
    have T5 := T4.trans (Ux.Touch.of_below (R := fun _ => False) hc5) (fun _ _ f => f)
    go_wp2_with fail
    refine ⟨HS.out.2 _ T5, ?_⟩
    repeat (first
      | go_big_quiet_step (fail)
      | (with_reducible refine wpQuiet_nil ?_)
      | (refine Ux.quiet_held rfl ?_; apply Exists.intro; refine ⟨fun w' hS => ?_, ?_⟩; (focus ((try dsimp only at hS); go_simp; first | done | with_reducible rfl)); simp only [Act.put, List.setIfInBounds_toArray, List.set_cons_zero, List.set_cons_succ]))
    go_wp2_with fail
    obtain ⟨a0, a1, a2, b0, b1, b2, m0, m1, m2⟩ := HS.out.2 _ T5
    refine Ux.wp_region_plan (fun _ w' => w'.cell? ⟨w.heap.size, 0, none⟩ = some (.string la) ∧ w'.cell? ⟨w.heap.size, 1, none⟩ = some (.string ha) ∧ w'.cell? ⟨w.heap.size, 2, none⟩ = some (.bool false) ∧ w'.cell? ⟨w.heap.size + 1, 0, none⟩ = some (.string lb) ∧ w'.cell? ⟨w.heap.size + 1, 1, none⟩ = some (.string hb) ∧ w'.cell? ⟨w.heap.size + 1, 2, none⟩ = some (.bool true) ∧ w'.cell? ⟨w1.heap.size, 0, none⟩ = some (.string lm) ∧ w'.cell? ⟨w1.heap.size, 1, none⟩ = some (.string hm) ∧ w'.cell? ⟨w1.heap.size, 2, none⟩ = some (.bool om)) (.h false [0] (.q [2] (.h false [3] (.q [4] (.e 1 true false (.q [5, 6, 8] (.h false [7, 9] (.q [10, 11, 12, 13] (.h false [14] (.e 15 true false (.q [16, 17, 19] (.h false [18] (.e 20 true false (.q [21, 22, 23, 24] (.e 25 true false (.q [26] (.line [27])))))))))))))))))
      (by kernel_rfl) (by kernel_rfl) (by intro _ _ d _ _ h; cases d <;> exact h) ?hS ?_
    case hS => (intro c; cases c <;> (simp only [World.cell?_drew]; first | trivial | (refine ⟨?_, ?_⟩ <;> assumption) | assumption | (repeat (first | assumption | (refine And.intro ?_ ?_)))))
    simp only [Ux.wpPlan, Ux.pickOps, Ux.keeps, List.getElem?_toArray, List.getElem?_cons_succ, List.getElem?_cons_zero]
    repeat (first
      | go_big_quiet_step (fail)
      | (with_reducible refine wpQuiet_nil ?_)
      | (refine Ux.quiet_held rfl ?_; apply Exists.intro; refine ⟨fun w' hS => ?_, ?_⟩; (focus ((try dsimp only at hS); go_simp; first | done | with_reducible rfl)); simp only [Act.put, List.setIfInBounds_toArray, List.set_cons_zero, List.set_cons_succ]))
    clear a0 a1 a2 b0 b1 b2 m0 m1 m2
    go_wp2_with fail
    refine (M.out.2.2.2.2.1 _).mono ?_
    rintro e w6 ⟨rfl, hc6⟩
    have T6 := T5.drew.trans (Ux.Touch.of_below (R := fun _ => False) hc6) (fun _ _ f => f)
    go_wp2_with fail
    refine ⟨HS.out.2 _ T6, ?_⟩
    repeat (first
      | go_big_quiet_step (fail)
      | (with_reducible refine wpQuiet_nil ?_)
      | (refine Ux.quiet_held rfl ?_; apply Exists.intro; refine ⟨fun w' hS => ?_, ?_⟩; (focus ((try dsimp only at hS); go_simp; first | done | with_reducible rfl)); simp only [Act.put, List.setIfInBounds_toArray, List.set_cons_zero, List.set_cons_succ]))
    go_wp2_with fail
    refine (M.out.2.2.2.2.2 _).mono ?_
    rintro e w7 ⟨rfl, hc7⟩
    have T7 := T6.trans (Ux.Touch.of_below (R := fun _ => False) hc7) (fun _ _ f => f)
    go_wp2_with fail
    refine ⟨HS.out.2 _ T7, ?_⟩
    repeat (first
      | go_big_quiet_step (fail)
      | (with_reducible refine wpQuiet_nil ?_)
      | (refine Ux.quiet_held rfl ?_; apply Exists.intro; refine ⟨fun w' hS => ?_, ?_⟩; (focus ((try dsimp only at hS); go_simp; first | done | with_reducible rfl)); simp only [Act.put, List.setIfInBounds_toArray, List.set_cons_zero, List.set_cons_succ]))
    go_wp2_with fail
    refine (M.out.2.2.2.1 _).mono ?_
    rintro e w8 ⟨rfl, hc8⟩
    have T8 := T7.trans (Ux.Touch.of_below (R := fun _ => False) hc8) (fun _ _ f => f)
    go_wp2_with fail
    refine ⟨HS.out.2 _ T8, ?_⟩
    repeat (first
      | go_big_quiet_step (fail)
      | (with_reducible refine wpQuiet_nil ?_)
      | (refine Ux.quiet_held rfl ?_; apply Exists.intro; refine ⟨fun w' hS => ?_, ?_⟩; (focus ((try dsimp only at hS); go_simp; first | done | with_reducible rfl)); simp only [Act.put, List.setIfInBounds_toArray, List.set_cons_zero, List.set_cons_succ]))
    go_wp2_with fail
    refine (awake5 _).mono ?_
    rintro e w9 ⟨rfl, hc9⟩
    have T9 := T8.trans hc9 (fun _ _ f => f)
    go_wp2_with fail
    refine ⟨HS.out.2 _ T9, ?_⟩
    repeat (first
      | go_big_quiet_step (fail)
      | (with_reducible refine wpQuiet_nil ?_)
      | (refine Ux.quiet_held rfl ?_; apply Exists.intro; refine ⟨fun w' hS => ?_, ?_⟩; (focus ((try dsimp only at hS); go_simp; first | done | with_reducible rfl)); simp only [Act.put, List.setIfInBounds_toArray, List.set_cons_zero, List.set_cons_succ]))
    go_wp2
    go_returns
    exact ⟨rfl, HS.out.1.trans T9 (fun _ _ f => f)⟩

set_option maxHeartbeats 4000000 in
set_option maxRecDepth 100000 in
theorem law3_ftttft (la ha lb hb k lm hm : ByteArray) (om : Bool) (hle : (Op.bytesLess ha.toList la.toList || ha.toList == la.toList) = false) (M : Hid ((∀ w, Calls Try.prog 6 #[rng la ha false, rng lb hb true] w fun e w' => e = .returned (rng lm hm om) ∧ Below w.heap.size w w') ∧
    (∀ w, Calls Try.prog 7 #[rng la ha false, .string k] w fun e w' => e = .returned (.bool true) ∧ Below w.heap.size w w') ∧
    (∀ w, Calls Try.prog 7 #[rng lb hb true, .string k] w fun e w' => e = .returned (.bool true) ∧ Below w.heap.size w w') ∧
    (∀ w, Calls Try.prog 7 #[rng lm hm om, .string k] w fun e w' => e = .returned (.bool true) ∧ Below w.heap.size w w') ∧
    (∀ w, Calls Try.prog 8 #[rng la ha false] w fun e w' => e = .returned (.bool false) ∧ Below w.heap.size w w') ∧
    (∀ w, Calls Try.prog 8 #[rng lm hm om] w fun e w' => e = .returned (.bool false) ∧ Below w.heap.size w w'))) (w : World) : Calls Try.prog 3 #[rng la ha false, rng lb hb true, .string k] w fun e w' => e = .returned (.bool true) ∧ Ux.Touch (fun _ => False) w w' := by
  unfold rng at *
  go_enter Try.func3, Try.ntmps3
  go_wp2_with (first | (go_at_call 6; refine (M.out.1 _).mono ?_; rintro e w1 ⟨rfl, hb1⟩) | (go_at_call 5; refine (awake5 _).mono ?_; rintro e w1 ⟨rfl, hb1⟩))
  all_goals first | (go_returns; exact ⟨rfl, (((Ux.Touch.refl (fun _ => False) w).alloc _).alloc _).trans hb1 (fun _ _ f => f)⟩) | skip
  all_goals
    obtain ⟨w2, hw2⟩ : ∃ w2, w1.alloc (.cells #[.string lm, .string hm, .bool om] 23) = w2 := ⟨_, rfl⟩
    rw [hw2]
    have HS := Lib.hid (cells_kept w w1 w2 la ha lb hb lm hm false true om hb1 hw2)
    obtain ⟨a0, a1, a2, b0, b1, b2, m0, m1, m2⟩ := HS.out.2 w2 (Ux.Touch.refl _ _)
    clear hw2 hb1
    refine Ux.wp_region_plan (fun _ w' => w'.cell? ⟨w.heap.size, 0, none⟩ = some (.string la) ∧ w'.cell? ⟨w.heap.size, 1, none⟩ = some (.string ha) ∧ w'.cell? ⟨w.heap.size, 2, none⟩ = some (.bool false) ∧ w'.cell? ⟨w.heap.size + 1, 0, none⟩ = some (.string lb) ∧ w'.cell? ⟨w.heap.size + 1, 1, none⟩ = some (.string hb) ∧ w'.cell? ⟨w.heap.size + 1, 2, none⟩ = some (.bool true) ∧ w'.cell? ⟨w1.heap.size, 0, none⟩ = some (.string lm) ∧ w'.cell? ⟨w1.heap.size, 1, none⟩ = some (.string hm) ∧ w'.cell? ⟨w1.heap.size, 2, none⟩ = some (.bool om)) (.h false [0, 3] (.q [1, 4] (.e 2 true false (.e 5 true false (.q [6, 8] (.h false [7] (.e 9 true false (.q [10, 11] (.line [])))))))))
      (by kernel_rfl) (by kernel_rfl) (by intro _ _ d _ _ h; cases d <;> exact h) ?hS ?_
    case hS => (intro c; cases c <;> (simp only [World.cell?_drew]; first | trivial | (refine ⟨?_, ?_⟩ <;> assumption) | assumption | (repeat (first | assumption | (refine And.intro ?_ ?_)))))
    simp only [Ux.wpPlan, Ux.pickOps, Ux.keeps, List.getElem?_toArray, List.getElem?_cons_succ, List.getElem?_cons_zero]
    repeat (first
      | go_big_quiet_step (fail)
      | (with_reducible refine wpQuiet_nil ?_)
      | (refine Ux.quiet_held rfl ?_; apply Exists.intro; refine ⟨fun w' hS => ?_, ?_⟩; (focus ((try dsimp only at hS); go_simp; first | done | with_reducible rfl)); simp only [Act.put, List.setIfInBounds_toArray, List.set_cons_zero, List.set_cons_succ]))
    clear a0 a1 a2 b0 b1 b2 m0 m1 m2
    go_wp2_with fail
    refine (M.out.2.2.2.1 _).mono ?_
    rintro e w3 ⟨rfl, hc3⟩
    have T3 : Ux.Touch (fun _ => False) w2 w3 := ((Ux.Touch.refl (fun _ => False) w2).drew).trans (Ux.Touch.of_below (R := fun _ => False) hc3) (fun _ _ f => f)
    go_wp2_with fail
    refine ⟨HS.out.2 _ T3, ?_⟩
    repeat (first
      | go_big_quiet_step (fail)
      | (with_reducible refine wpQuiet_nil ?_)
      | (refine Ux.quiet_held rfl ?_; apply Exists.intro; refine ⟨fun w' hS => ?_, ?_⟩; (focus ((try dsimp only at hS); go_simp; first | done | with_reducible rfl)); simp only [Act.put, List.setIfInBounds_toArray, List.set_cons_zero, List.set_cons_succ]))
    go_wp2_with fail
    refine (M.out.2.1 _).mono ?_
    rintro e w4 ⟨rfl, hc4⟩
    have T4 := T3.trans (Ux.Touch.of_below (R := fun _ => False) hc4) (fun _ _ f => f)
    go_wp2_with fail
    refine ⟨HS.out.2 _ T4, ?_⟩
    repeat (first
      | go_big_quiet_step (fail)
      | (with_reducible refine wpQuiet_nil ?_)
      | (refine Ux.quiet_held rfl ?_; apply Exists.intro; refine ⟨fun w' hS => ?_, ?_⟩; (focus ((try dsimp only at hS); go_simp; first | done | with_reducible rfl)); simp only [Act.put, List.setIfInBounds_toArray, List.set_cons_zero, List.set_cons_succ]))
    go_wp2_with fail
    refine (M.out.2.2.1 _).mono ?_
    rintro e w5 ⟨rfl, hc5⟩
    have T5 := T4.trans (Ux.Touch.of_below (R := fun _ => False) hc5) (fun _ _ f => f)
    go_wp2_with fail
    refine ⟨HS.out.2 _ T5, ?_⟩
    repeat (first
      | go_big_quiet_step (fail)
      | (with_reducible refine wpQuiet_nil ?_)
      | (refine Ux.quiet_held rfl ?_; apply Exists.intro; refine ⟨fun w' hS => ?_, ?_⟩; (focus ((try dsimp only at hS); go_simp; first | done | with_reducible rfl)); simp only [Act.put, List.setIfInBounds_toArray, List.set_cons_zero, List.set_cons_succ]))
    go_wp2_with fail
    obtain ⟨a0, a1, a2, b0, b1, b2, m0, m1, m2⟩ := HS.out.2 _ T5
    refine Ux.wp_region_plan (fun _ w' => w'.cell? ⟨w.heap.size, 0, none⟩ = some (.string la) ∧ w'.cell? ⟨w.heap.size, 1, none⟩ = some (.string ha) ∧ w'.cell? ⟨w.heap.size, 2, none⟩ = some (.bool false) ∧ w'.cell? ⟨w.heap.size + 1, 0, none⟩ = some (.string lb) ∧ w'.cell? ⟨w.heap.size + 1, 1, none⟩ = some (.string hb) ∧ w'.cell? ⟨w.heap.size + 1, 2, none⟩ = some (.bool true) ∧ w'.cell? ⟨w1.heap.size, 0, none⟩ = some (.string lm) ∧ w'.cell? ⟨w1.heap.size, 1, none⟩ = some (.string hm) ∧ w'.cell? ⟨w1.heap.size, 2, none⟩ = some (.bool om)) (.h false [0] (.q [2] (.h false [3] (.q [4] (.e 1 true false (.q [5, 6, 8] (.h false [7, 9] (.q [10, 11, 12, 13] (.h false [14] (.e 15 true false (.q [16, 17, 19] (.h false [18] (.e 20 true false (.q [21, 22, 23, 24] (.e 25 true false (.q [26] (.line [27])))))))))))))))))
      (by kernel_rfl) (by kernel_rfl) (by intro _ _ d _ _ h; cases d <;> exact h) ?hS ?_
    case hS => (intro c; cases c <;> (simp only [World.cell?_drew]; first | trivial | (refine ⟨?_, ?_⟩ <;> assumption) | assumption | (repeat (first | assumption | (refine And.intro ?_ ?_)))))
    simp only [Ux.wpPlan, Ux.pickOps, Ux.keeps, List.getElem?_toArray, List.getElem?_cons_succ, List.getElem?_cons_zero]
    repeat (first
      | go_big_quiet_step (fail)
      | (with_reducible refine wpQuiet_nil ?_)
      | (refine Ux.quiet_held rfl ?_; apply Exists.intro; refine ⟨fun w' hS => ?_, ?_⟩; (focus ((try dsimp only at hS); go_simp; first | done | with_reducible rfl)); simp only [Act.put, List.setIfInBounds_toArray, List.set_cons_zero, List.set_cons_succ]))
    clear a0 a1 a2 b0 b1 b2 m0 m1 m2
    go_wp2_with fail
    refine (M.out.2.2.2.2.1 _).mono ?_
    rintro e w6 ⟨rfl, hc6⟩
    have T6 := T5.drew.trans (Ux.Touch.of_below (R := fun _ => False) hc6) (fun _ _ f => f)
    go_wp2_with fail
    refine ⟨HS.out.2 _ T6, ?_⟩
    repeat (first
      | go_big_quiet_step (fail)
      | (with_reducible refine wpQuiet_nil ?_)
      | (refine Ux.quiet_held rfl ?_; apply Exists.intro; refine ⟨fun w' hS => ?_, ?_⟩; (focus ((try dsimp only at hS); go_simp; first | done | with_reducible rfl)); simp only [Act.put, List.setIfInBounds_toArray, List.set_cons_zero, List.set_cons_succ]))
    go_wp2_with fail
    refine (M.out.2.2.2.2.2 _).mono ?_
    rintro e w7 ⟨rfl, hc7⟩
    have T7 := T6.trans (Ux.Touch.of_below (R := fun _ => False) hc7) (fun _ _ f => f)
    go_wp2_with fail
    refine ⟨HS.out.2 _ T7, ?_⟩
    repeat (first
      | go_big_quiet_step (fail)
      | (with_reducible refine wpQuiet_nil ?_)
      | (refine Ux.quiet_held rfl ?_; apply Exists.intro; refine ⟨fun w' hS => ?_, ?_⟩; (focus ((try dsimp only at hS); go_simp; first | done | with_reducible rfl)); simp only [Act.put, List.setIfInBounds_toArray, List.set_cons_zero, List.set_cons_succ]))
    go_wp2_with fail
    refine ⟨HS.out.2 _ T7, ?_⟩
    repeat (first
      | go_big_quiet_step (fail)
      | (with_reducible refine wpQuiet_nil ?_)
      | (refine Ux.quiet_held rfl ?_; apply Exists.intro; refine ⟨fun w' hS => ?_, ?_⟩; (focus ((try dsimp only at hS); go_simp; first | done | with_reducible rfl)); simp only [Act.put, List.setIfInBounds_toArray, List.set_cons_zero, List.set_cons_succ]))
    go_wp2_with fail
    refine (awake5 _).mono ?_
    rintro e w8 ⟨rfl, hc8⟩
    have T8 := T7.trans hc8 (fun _ _ f => f)
    go_wp2_with fail
    refine ⟨HS.out.2 _ T8, ?_⟩
    repeat (first
      | go_big_quiet_step (fail)
      | (with_reducible refine wpQuiet_nil ?_)
      | (refine Ux.quiet_held rfl ?_; apply Exists.intro; refine ⟨fun w' hS => ?_, ?_⟩; (focus ((try dsimp only at hS); go_simp; first | done | with_reducible rfl)); simp only [Act.put, List.setIfInBounds_toArray, List.set_cons_zero, List.set_cons_succ]))
    go_wp2
    go_returns
    exact ⟨rfl, HS.out.1.trans T8 (fun _ _ f => f)⟩

set_option maxHeartbeats 4000000 in
set_option maxRecDepth 100000 in
theorem law3_tftfff (la ha lb hb k lm hm : ByteArray) (om : Bool) (M : Hid ((∀ w, Calls Try.prog 6 #[rng la ha true, rng lb hb false] w fun e w' => e = .returned (rng lm hm om) ∧ Below w.heap.size w w') ∧
    (∀ w, Calls Try.prog 7 #[rng la ha true, .string k] w fun e w' => e = .returned (.bool true) ∧ Below w.heap.size w w') ∧
    (∀ w, Calls Try.prog 7 #[rng lb hb false, .string k] w fun e w' => e = .returned (.bool false) ∧ Below w.heap.size w w') ∧
    (∀ w, Calls Try.prog 7 #[rng lm hm om, .string k] w fun e w' => e = .returned (.bool false) ∧ Below w.heap.size w w') ∧
    (∀ w, Calls Try.prog 8 #[rng la ha true] w fun e w' => e = .returned (.bool false) ∧ Below w.heap.size w w') ∧
    (∀ w, Calls Try.prog 8 #[rng lm hm om] w fun e w' => e = .returned (.bool false) ∧ Below w.heap.size w w'))) (w : World) : Calls Try.prog 3 #[rng la ha true, rng lb hb false, .string k] w fun e w' => e = .returned (.bool true) ∧ Ux.Touch (fun _ => False) w w' := by
  unfold rng at *
  go_enter Try.func3, Try.ntmps3
  go_wp2_with (first | (go_at_call 6; refine (M.out.1 _).mono ?_; rintro e w1 ⟨rfl, hb1⟩) | (go_at_call 5; refine (awake5 _).mono ?_; rintro e w1 ⟨rfl, hb1⟩))
  all_goals first | (go_returns; exact ⟨rfl, (((Ux.Touch.refl (fun _ => False) w).alloc _).alloc _).trans hb1 (fun _ _ f => f)⟩) | skip
  all_goals
    obtain ⟨w2, hw2⟩ : ∃ w2, w1.alloc (.cells #[.string lm, .string hm, .bool om] 23) = w2 := ⟨_, rfl⟩
    rw [hw2]
    have HS := Lib.hid (cells_kept w w1 w2 la ha lb hb lm hm true false om hb1 hw2)
    obtain ⟨a0, a1, a2, b0, b1, b2, m0, m1, m2⟩ := HS.out.2 w2 (Ux.Touch.refl _ _)
    clear hw2 hb1
    refine Ux.wp_region_plan (fun _ w' => w'.cell? ⟨w.heap.size, 0, none⟩ = some (.string la) ∧ w'.cell? ⟨w.heap.size, 1, none⟩ = some (.string ha) ∧ w'.cell? ⟨w.heap.size, 2, none⟩ = some (.bool true) ∧ w'.cell? ⟨w.heap.size + 1, 0, none⟩ = some (.string lb) ∧ w'.cell? ⟨w.heap.size + 1, 1, none⟩ = some (.string hb) ∧ w'.cell? ⟨w.heap.size + 1, 2, none⟩ = some (.bool false) ∧ w'.cell? ⟨w1.heap.size, 0, none⟩ = some (.string lm) ∧ w'.cell? ⟨w1.heap.size, 1, none⟩ = some (.string hm) ∧ w'.cell? ⟨w1.heap.size, 2, none⟩ = some (.bool om)) (.h false [0, 3] (.q [1, 4] (.e 2 true false (.e 5 true false (.q [6, 8] (.h false [7] (.e 9 true false (.q [10, 11] (.line [])))))))))
      (by kernel_rfl) (by kernel_rfl) (by intro _ _ d _ _ h; cases d <;> exact h) ?hS ?_
    case hS => (intro c; cases c <;> (simp only [World.cell?_drew]; first | trivial | (refine ⟨?_, ?_⟩ <;> assumption) | assumption | (repeat (first | assumption | (refine And.intro ?_ ?_)))))
    simp only [Ux.wpPlan, Ux.pickOps, Ux.keeps, List.getElem?_toArray, List.getElem?_cons_succ, List.getElem?_cons_zero]
    repeat (first
      | go_big_quiet_step (fail)
      | (with_reducible refine wpQuiet_nil ?_)
      | (refine Ux.quiet_held rfl ?_; apply Exists.intro; refine ⟨fun w' hS => ?_, ?_⟩; (focus ((try dsimp only at hS); go_simp; first | done | with_reducible rfl)); simp only [Act.put, List.setIfInBounds_toArray, List.set_cons_zero, List.set_cons_succ]))
    clear a0 a1 a2 b0 b1 b2 m0 m1 m2
    go_wp2_with fail
    refine (M.out.2.2.2.1 _).mono ?_
    rintro e w3 ⟨rfl, hc3⟩
    have T3 : Ux.Touch (fun _ => False) w2 w3 := ((Ux.Touch.refl (fun _ => False) w2).drew).trans (Ux.Touch.of_below (R := fun _ => False) hc3) (fun _ _ f => f)
    go_wp2_with fail
    refine ⟨HS.out.2 _ T3, ?_⟩
    repeat (first
      | go_big_quiet_step (fail)
      | (with_reducible refine wpQuiet_nil ?_)
      | (refine Ux.quiet_held rfl ?_; apply Exists.intro; refine ⟨fun w' hS => ?_, ?_⟩; (focus ((try dsimp only at hS); go_simp; first | done | with_reducible rfl)); simp only [Act.put, List.setIfInBounds_toArray, List.set_cons_zero, List.set_cons_succ]))
    go_wp2_with fail
    refine (M.out.2.1 _).mono ?_
    rintro e w4 ⟨rfl, hc4⟩
    have T4 := T3.trans (Ux.Touch.of_below (R := fun _ => False) hc4) (fun _ _ f => f)
    go_wp2_with fail
    refine ⟨HS.out.2 _ T4, ?_⟩
    repeat (first
      | go_big_quiet_step (fail)
      | (with_reducible refine wpQuiet_nil ?_)
      | (refine Ux.quiet_held rfl ?_; apply Exists.intro; refine ⟨fun w' hS => ?_, ?_⟩; (focus ((try dsimp only at hS); go_simp; first | done | with_reducible rfl)); simp only [Act.put, List.setIfInBounds_toArray, List.set_cons_zero, List.set_cons_succ]))
    go_wp2_with fail
    refine (M.out.2.2.1 _).mono ?_
    rintro e w5 ⟨rfl, hc5⟩
    have T5 := T4.trans (Ux.Touch.of_below (R := fun _ => False) hc5) (fun _ _ f => f)
    go_wp2_with fail
    refine ⟨HS.out.2 _ T5, ?_⟩
    repeat (first
      | go_big_quiet_step (fail)
      | (with_reducible refine wpQuiet_nil ?_)
      | (refine Ux.quiet_held rfl ?_; apply Exists.intro; refine ⟨fun w' hS => ?_, ?_⟩; (focus ((try dsimp only at hS); go_simp; first | done | with_reducible rfl)); simp only [Act.put, List.setIfInBounds_toArray, List.set_cons_zero, List.set_cons_succ]))
    go_wp2_with fail
    obtain ⟨a0, a1, a2, b0, b1, b2, m0, m1, m2⟩ := HS.out.2 _ T5
    refine Ux.wp_region_plan (fun _ w' => w'.cell? ⟨w.heap.size, 0, none⟩ = some (.string la) ∧ w'.cell? ⟨w.heap.size, 1, none⟩ = some (.string ha) ∧ w'.cell? ⟨w.heap.size, 2, none⟩ = some (.bool true) ∧ w'.cell? ⟨w.heap.size + 1, 0, none⟩ = some (.string lb) ∧ w'.cell? ⟨w.heap.size + 1, 1, none⟩ = some (.string hb) ∧ w'.cell? ⟨w.heap.size + 1, 2, none⟩ = some (.bool false) ∧ w'.cell? ⟨w1.heap.size, 0, none⟩ = some (.string lm) ∧ w'.cell? ⟨w1.heap.size, 1, none⟩ = some (.string hm) ∧ w'.cell? ⟨w1.heap.size, 2, none⟩ = some (.bool om)) (.h false [0] (.q [2] (.h false [3] (.q [4] (.e 1 true false (.q [5, 6, 8] (.h false [7, 9] (.q [10, 11, 12, 13] (.h false [14] (.e 15 true false (.q [16, 17, 19] (.h false [18] (.e 20 true false (.q [21, 22, 23, 24] (.e 25 true false (.q [26] (.line [27])))))))))))))))))
      (by kernel_rfl) (by kernel_rfl) (by intro _ _ d _ _ h; cases d <;> exact h) ?hS ?_
    case hS => (intro c; cases c <;> (simp only [World.cell?_drew]; first | trivial | (refine ⟨?_, ?_⟩ <;> assumption) | assumption | (repeat (first | assumption | (refine And.intro ?_ ?_)))))
    simp only [Ux.wpPlan, Ux.pickOps, Ux.keeps, List.getElem?_toArray, List.getElem?_cons_succ, List.getElem?_cons_zero]
    repeat (first
      | go_big_quiet_step (fail)
      | (with_reducible refine wpQuiet_nil ?_)
      | (refine Ux.quiet_held rfl ?_; apply Exists.intro; refine ⟨fun w' hS => ?_, ?_⟩; (focus ((try dsimp only at hS); go_simp; first | done | with_reducible rfl)); simp only [Act.put, List.setIfInBounds_toArray, List.set_cons_zero, List.set_cons_succ]))
    clear a0 a1 a2 b0 b1 b2 m0 m1 m2
    go_wp2_with fail
    refine (M.out.2.2.2.2.1 _).mono ?_
    rintro e w6 ⟨rfl, hc6⟩
    have T6 := T5.drew.trans (Ux.Touch.of_below (R := fun _ => False) hc6) (fun _ _ f => f)
    go_wp2_with fail
    refine ⟨HS.out.2 _ T6, ?_⟩
    repeat (first
      | go_big_quiet_step (fail)
      | (with_reducible refine wpQuiet_nil ?_)
      | (refine Ux.quiet_held rfl ?_; apply Exists.intro; refine ⟨fun w' hS => ?_, ?_⟩; (focus ((try dsimp only at hS); go_simp; first | done | with_reducible rfl)); simp only [Act.put, List.setIfInBounds_toArray, List.set_cons_zero, List.set_cons_succ]))
    go_wp2_with fail
    refine (M.out.2.2.2.2.2 _).mono ?_
    rintro e w7 ⟨rfl, hc7⟩
    have T7 := T6.trans (Ux.Touch.of_below (R := fun _ => False) hc7) (fun _ _ f => f)
    go_wp2_with fail
    refine ⟨HS.out.2 _ T7, ?_⟩
    repeat (first
      | go_big_quiet_step (fail)
      | (with_reducible refine wpQuiet_nil ?_)
      | (refine Ux.quiet_held rfl ?_; apply Exists.intro; refine ⟨fun w' hS => ?_, ?_⟩; (focus ((try dsimp only at hS); go_simp; first | done | with_reducible rfl)); simp only [Act.put, List.setIfInBounds_toArray, List.set_cons_zero, List.set_cons_succ]))
    go_wp2_with fail
    refine ⟨HS.out.2 _ T7, ?_⟩
    repeat (first
      | go_big_quiet_step (fail)
      | (with_reducible refine wpQuiet_nil ?_)
      | (refine Ux.quiet_held rfl ?_; apply Exists.intro; refine ⟨fun w' hS => ?_, ?_⟩; (focus ((try dsimp only at hS); go_simp; first | done | with_reducible rfl)); simp only [Act.put, List.setIfInBounds_toArray, List.set_cons_zero, List.set_cons_succ]))
    go_wp2_with fail
    refine (awake5 _).mono ?_
    rintro e w8 ⟨rfl, hc8⟩
    have T8 := T7.trans hc8 (fun _ _ f => f)
    go_wp2_with fail
    refine ⟨HS.out.2 _ T8, ?_⟩
    repeat (first
      | go_big_quiet_step (fail)
      | (with_reducible refine wpQuiet_nil ?_)
      | (refine Ux.quiet_held rfl ?_; apply Exists.intro; refine ⟨fun w' hS => ?_, ?_⟩; (focus ((try dsimp only at hS); go_simp; first | done | with_reducible rfl)); simp only [Act.put, List.setIfInBounds_toArray, List.set_cons_zero, List.set_cons_succ]))
    go_wp2
    go_returns
    exact ⟨rfl, HS.out.1.trans T8 (fun _ _ f => f)⟩

set_option maxHeartbeats 4000000 in
set_option maxRecDepth 100000 in
theorem law3_ttfxff (la ha lb hb k lm hm : ByteArray) (om : Bool) (xb : Bool) (M : Hid ((∀ w, Calls Try.prog 6 #[rng la ha true, rng lb hb true] w fun e w' => e = .returned (rng lm hm om) ∧ Below w.heap.size w w') ∧
    (∀ w, Calls Try.prog 7 #[rng la ha true, .string k] w fun e w' => e = .returned (.bool false) ∧ Below w.heap.size w w') ∧
    (∀ w, Calls Try.prog 7 #[rng lb hb true, .string k] w fun e w' => e = .returned (.bool xb) ∧ Below w.heap.size w w') ∧
    (∀ w, Calls Try.prog 7 #[rng lm hm om, .string k] w fun e w' => e = .returned (.bool false) ∧ Below w.heap.size w w') ∧
    (∀ w, Calls Try.prog 8 #[rng la ha true] w fun e w' => e = .returned (.bool false) ∧ Below w.heap.size w w') ∧
    (∀ w, Calls Try.prog 8 #[rng lm hm om] w fun e w' => e = .returned (.bool false) ∧ Below w.heap.size w w'))) (w : World) : Calls Try.prog 3 #[rng la ha true, rng lb hb true, .string k] w fun e w' => e = .returned (.bool true) ∧ Ux.Touch (fun _ => False) w w' := by
  unfold rng at *
  go_enter Try.func3, Try.ntmps3
  go_wp2_with (first | (go_at_call 6; refine (M.out.1 _).mono ?_; rintro e w1 ⟨rfl, hb1⟩) | (go_at_call 5; refine (awake5 _).mono ?_; rintro e w1 ⟨rfl, hb1⟩))
  all_goals first | (go_returns; exact ⟨rfl, (((Ux.Touch.refl (fun _ => False) w).alloc _).alloc _).trans hb1 (fun _ _ f => f)⟩) | skip
  all_goals
    obtain ⟨w2, hw2⟩ : ∃ w2, w1.alloc (.cells #[.string lm, .string hm, .bool om] 23) = w2 := ⟨_, rfl⟩
    rw [hw2]
    have HS := Lib.hid (cells_kept w w1 w2 la ha lb hb lm hm true true om hb1 hw2)
    obtain ⟨a0, a1, a2, b0, b1, b2, m0, m1, m2⟩ := HS.out.2 w2 (Ux.Touch.refl _ _)
    clear hw2 hb1
    refine Ux.wp_region_plan (fun _ w' => w'.cell? ⟨w.heap.size, 0, none⟩ = some (.string la) ∧ w'.cell? ⟨w.heap.size, 1, none⟩ = some (.string ha) ∧ w'.cell? ⟨w.heap.size, 2, none⟩ = some (.bool true) ∧ w'.cell? ⟨w.heap.size + 1, 0, none⟩ = some (.string lb) ∧ w'.cell? ⟨w.heap.size + 1, 1, none⟩ = some (.string hb) ∧ w'.cell? ⟨w.heap.size + 1, 2, none⟩ = some (.bool true) ∧ w'.cell? ⟨w1.heap.size, 0, none⟩ = some (.string lm) ∧ w'.cell? ⟨w1.heap.size, 1, none⟩ = some (.string hm) ∧ w'.cell? ⟨w1.heap.size, 2, none⟩ = some (.bool om)) (.h false [0, 3] (.q [1, 4] (.e 2 true false (.e 5 true false (.q [6, 8] (.h false [7] (.e 9 true false (.q [10, 11] (.line [])))))))))
      (by kernel_rfl) (by kernel_rfl) (by intro _ _ d _ _ h; cases d <;> exact h) ?hS ?_
    case hS => (intro c; cases c <;> (simp only [World.cell?_drew]; first | trivial | (refine ⟨?_, ?_⟩ <;> assumption) | assumption | (repeat (first | assumption | (refine And.intro ?_ ?_)))))
    simp only [Ux.wpPlan, Ux.pickOps, Ux.keeps, List.getElem?_toArray, List.getElem?_cons_succ, List.getElem?_cons_zero]
    repeat (first
      | go_big_quiet_step (fail)
      | (with_reducible refine wpQuiet_nil ?_)
      | (refine Ux.quiet_held rfl ?_; apply Exists.intro; refine ⟨fun w' hS => ?_, ?_⟩; (focus ((try dsimp only at hS); go_simp; first | done | with_reducible rfl)); simp only [Act.put, List.setIfInBounds_toArray, List.set_cons_zero, List.set_cons_succ]))
    clear a0 a1 a2 b0 b1 b2 m0 m1 m2
    go_wp2_with fail
    refine (M.out.2.2.2.1 _).mono ?_
    rintro e w3 ⟨rfl, hc3⟩
    have T3 : Ux.Touch (fun _ => False) w2 w3 := ((Ux.Touch.refl (fun _ => False) w2).drew).trans (Ux.Touch.of_below (R := fun _ => False) hc3) (fun _ _ f => f)
    go_wp2_with fail
    refine ⟨HS.out.2 _ T3, ?_⟩
    repeat (first
      | go_big_quiet_step (fail)
      | (with_reducible refine wpQuiet_nil ?_)
      | (refine Ux.quiet_held rfl ?_; apply Exists.intro; refine ⟨fun w' hS => ?_, ?_⟩; (focus ((try dsimp only at hS); go_simp; first | done | with_reducible rfl)); simp only [Act.put, List.setIfInBounds_toArray, List.set_cons_zero, List.set_cons_succ]))
    go_wp2_with fail
    refine (M.out.2.1 _).mono ?_
    rintro e w4 ⟨rfl, hc4⟩
    have T4 := T3.trans (Ux.Touch.of_below (R := fun _ => False) hc4) (fun _ _ f => f)
    go_wp2_with fail
    refine ⟨HS.out.2 _ T4, ?_⟩
    repeat (first
      | go_big_quiet_step (fail)
      | (with_reducible refine wpQuiet_nil ?_)
      | (refine Ux.quiet_held rfl ?_; apply Exists.intro; refine ⟨fun w' hS => ?_, ?_⟩; (focus ((try dsimp only at hS); go_simp; first | done | with_reducible rfl)); simp only [Act.put, List.setIfInBounds_toArray, List.set_cons_zero, List.set_cons_succ]))
    go_wp2_with fail
    refine ⟨HS.out.2 _ T4, ?_⟩
    repeat (first
      | go_big_quiet_step (fail)
      | (with_reducible refine wpQuiet_nil ?_)
      | (refine Ux.quiet_held rfl ?_; apply Exists.intro; refine ⟨fun w' hS => ?_, ?_⟩; (focus ((try dsimp only at hS); go_simp; first | done | with_reducible rfl)); simp only [Act.put, List.setIfInBounds_toArray, List.set_cons_zero, List.set_cons_succ]))
    go_wp2_with fail
    obtain ⟨a0, a1, a2, b0, b1, b2, m0, m1, m2⟩ := HS.out.2 _ T4
    refine Ux.wp_region_plan (fun _ w' => w'.cell? ⟨w.heap.size, 0, none⟩ = some (.string la) ∧ w'.cell? ⟨w.heap.size, 1, none⟩ = some (.string ha) ∧ w'.cell? ⟨w.heap.size, 2, none⟩ = some (.bool true) ∧ w'.cell? ⟨w.heap.size + 1, 0, none⟩ = some (.string lb) ∧ w'.cell? ⟨w.heap.size + 1, 1, none⟩ = some (.string hb) ∧ w'.cell? ⟨w.heap.size + 1, 2, none⟩ = some (.bool true) ∧ w'.cell? ⟨w1.heap.size, 0, none⟩ = some (.string lm) ∧ w'.cell? ⟨w1.heap.size, 1, none⟩ = some (.string hm) ∧ w'.cell? ⟨w1.heap.size, 2, none⟩ = some (.bool om)) (.h false [0] (.q [2] (.h false [3] (.q [4] (.e 1 true false (.q [5, 6, 8] (.h false [7, 9] (.q [10, 11, 12, 13] (.h false [14] (.e 15 true false (.q [16, 17, 19] (.h false [18] (.e 20 true false (.q [21, 22, 23, 24] (.e 25 true false (.q [26] (.line [27])))))))))))))))))
      (by kernel_rfl) (by kernel_rfl) (by intro _ _ d _ _ h; cases d <;> exact h) ?hS ?_
    case hS => (intro c; cases c <;> (simp only [World.cell?_drew]; first | trivial | (refine ⟨?_, ?_⟩ <;> assumption) | assumption | (repeat (first | assumption | (refine And.intro ?_ ?_)))))
    simp only [Ux.wpPlan, Ux.pickOps, Ux.keeps, List.getElem?_toArray, List.getElem?_cons_succ, List.getElem?_cons_zero]
    repeat (first
      | go_big_quiet_step (fail)
      | (with_reducible refine wpQuiet_nil ?_)
      | (refine Ux.quiet_held rfl ?_; apply Exists.intro; refine ⟨fun w' hS => ?_, ?_⟩; (focus ((try dsimp only at hS); go_simp; first | done | with_reducible rfl)); simp only [Act.put, List.setIfInBounds_toArray, List.set_cons_zero, List.set_cons_succ]))
    clear a0 a1 a2 b0 b1 b2 m0 m1 m2
    go_wp2_with fail
    refine (M.out.2.2.2.2.1 _).mono ?_
    rintro e w5 ⟨rfl, hc5⟩
    have T5 := T4.drew.trans (Ux.Touch.of_below (R := fun _ => False) hc5) (fun _ _ f => f)
    go_wp2_with fail
    refine ⟨HS.out.2 _ T5, ?_⟩
    repeat (first
      | go_big_quiet_step (fail)
      | (with_reducible refine wpQuiet_nil ?_)
      | (refine Ux.quiet_held rfl ?_; apply Exists.intro; refine ⟨fun w' hS => ?_, ?_⟩; (focus ((try dsimp only at hS); go_simp; first | done | with_reducible rfl)); simp only [Act.put, List.setIfInBounds_toArray, List.set_cons_zero, List.set_cons_succ]))
    go_wp2_with fail
    refine (M.out.2.2.2.2.2 _).mono ?_
    rintro e w6 ⟨rfl, hc6⟩
    have T6 := T5.trans (Ux.Touch.of_below (R := fun _ => False) hc6) (fun _ _ f => f)
    go_wp2_with fail
    refine ⟨HS.out.2 _ T6, ?_⟩
    repeat (first
      | go_big_quiet_step (fail)
      | (with_reducible refine wpQuiet_nil ?_)
      | (refine Ux.quiet_held rfl ?_; apply Exists.intro; refine ⟨fun w' hS => ?_, ?_⟩; (focus ((try dsimp only at hS); go_simp; first | done | with_reducible rfl)); simp only [Act.put, List.setIfInBounds_toArray, List.set_cons_zero, List.set_cons_succ]))
    go_wp2_with fail
    refine ⟨HS.out.2 _ T6, ?_⟩
    repeat (first
      | go_big_quiet_step (fail)
      | (with_reducible refine wpQuiet_nil ?_)
      | (refine Ux.quiet_held rfl ?_; apply Exists.intro; refine ⟨fun w' hS => ?_, ?_⟩; (focus ((try dsimp only at hS); go_simp; first | done | with_reducible rfl)); simp only [Act.put, List.setIfInBounds_toArray, List.set_cons_zero, List.set_cons_succ]))
    go_wp2_with fail
    refine (awake5 _).mono ?_
    rintro e w7 ⟨rfl, hc7⟩
    have T7 := T6.trans hc7 (fun _ _ f => f)
    go_wp2_with fail
    refine ⟨HS.out.2 _ T7, ?_⟩
    repeat (first
      | go_big_quiet_step (fail)
      | (with_reducible refine wpQuiet_nil ?_)
      | (refine Ux.quiet_held rfl ?_; apply Exists.intro; refine ⟨fun w' hS => ?_, ?_⟩; (focus ((try dsimp only at hS); go_simp; first | done | with_reducible rfl)); simp only [Act.put, List.setIfInBounds_toArray, List.set_cons_zero, List.set_cons_succ]))
    go_wp2
    go_returns
    exact ⟨rfl, HS.out.1.trans T7 (fun _ _ f => f)⟩

set_option maxHeartbeats 4000000 in
set_option maxRecDepth 100000 in
theorem law3_tttftf (la ha lb hb k lm hm : ByteArray) (om : Bool) (M : Hid ((∀ w, Calls Try.prog 6 #[rng la ha true, rng lb hb true] w fun e w' => e = .returned (rng lm hm om) ∧ Below w.heap.size w w') ∧
    (∀ w, Calls Try.prog 7 #[rng la ha true, .string k] w fun e w' => e = .returned (.bool true) ∧ Below w.heap.size w w') ∧
    (∀ w, Calls Try.prog 7 #[rng lb hb true, .string k] w fun e w' => e = .returned (.bool false) ∧ Below w.heap.size w w') ∧
    (∀ w, Calls Try.prog 7 #[rng lm hm om, .string k] w fun e w' => e = .returned (.bool false) ∧ Below w.heap.size w w') ∧
    (∀ w, Calls Try.prog 8 #[rng la ha true] w fun e w' => e = .returned (.bool false) ∧ Below w.heap.size w w') ∧
    (∀ w, Calls Try.prog 8 #[rng lm hm om] w fun e w' => e = .returned (.bool true) ∧ Below w.heap.size w w'))) (w : World) : Calls Try.prog 3 #[rng la ha true, rng lb hb true, .string k] w fun e w' => e = .returned (.bool true) ∧ Ux.Touch (fun _ => False) w w' := by
  unfold rng at *
  go_enter Try.func3, Try.ntmps3
  go_wp2_with (first | (go_at_call 6; refine (M.out.1 _).mono ?_; rintro e w1 ⟨rfl, hb1⟩) | (go_at_call 5; refine (awake5 _).mono ?_; rintro e w1 ⟨rfl, hb1⟩))
  all_goals first | (go_returns; exact ⟨rfl, (((Ux.Touch.refl (fun _ => False) w).alloc _).alloc _).trans hb1 (fun _ _ f => f)⟩) | skip
  all_goals
    obtain ⟨w2, hw2⟩ : ∃ w2, w1.alloc (.cells #[.string lm, .string hm, .bool om] 23) = w2 := ⟨_, rfl⟩
    rw [hw2]
    have HS := Lib.hid (cells_kept w w1 w2 la ha lb hb lm hm true true om hb1 hw2)
    obtain ⟨a0, a1, a2, b0, b1, b2, m0, m1, m2⟩ := HS.out.2 w2 (Ux.Touch.refl _ _)
    clear hw2 hb1
    refine Ux.wp_region_plan (fun _ w' => w'.cell? ⟨w.heap.size, 0, none⟩ = some (.string la) ∧ w'.cell? ⟨w.heap.size, 1, none⟩ = some (.string ha) ∧ w'.cell? ⟨w.heap.size, 2, none⟩ = some (.bool true) ∧ w'.cell? ⟨w.heap.size + 1, 0, none⟩ = some (.string lb) ∧ w'.cell? ⟨w.heap.size + 1, 1, none⟩ = some (.string hb) ∧ w'.cell? ⟨w.heap.size + 1, 2, none⟩ = some (.bool true) ∧ w'.cell? ⟨w1.heap.size, 0, none⟩ = some (.string lm) ∧ w'.cell? ⟨w1.heap.size, 1, none⟩ = some (.string hm) ∧ w'.cell? ⟨w1.heap.size, 2, none⟩ = some (.bool om)) (.h false [0, 3] (.q [1, 4] (.e 2 true false (.e 5 true false (.q [6, 8] (.h false [7] (.e 9 true false (.q [10, 11] (.line [])))))))))
      (by kernel_rfl) (by kernel_rfl) (by intro _ _ d _ _ h; cases d <;> exact h) ?hS ?_
    case hS => (intro c; cases c <;> (simp only [World.cell?_drew]; first | trivial | (refine ⟨?_, ?_⟩ <;> assumption) | assumption | (repeat (first | assumption | (refine And.intro ?_ ?_)))))
    simp only [Ux.wpPlan, Ux.pickOps, Ux.keeps, List.getElem?_toArray, List.getElem?_cons_succ, List.getElem?_cons_zero]
    repeat (first
      | go_big_quiet_step (fail)
      | (with_reducible refine wpQuiet_nil ?_)
      | (refine Ux.quiet_held rfl ?_; apply Exists.intro; refine ⟨fun w' hS => ?_, ?_⟩; (focus ((try dsimp only at hS); go_simp; first | done | with_reducible rfl)); simp only [Act.put, List.setIfInBounds_toArray, List.set_cons_zero, List.set_cons_succ]))
    clear a0 a1 a2 b0 b1 b2 m0 m1 m2
    go_wp2_with fail
    refine (M.out.2.2.2.1 _).mono ?_
    rintro e w3 ⟨rfl, hc3⟩
    have T3 : Ux.Touch (fun _ => False) w2 w3 := ((Ux.Touch.refl (fun _ => False) w2).drew).trans (Ux.Touch.of_below (R := fun _ => False) hc3) (fun _ _ f => f)
    go_wp2_with fail
    refine ⟨HS.out.2 _ T3, ?_⟩
    repeat (first
      | go_big_quiet_step (fail)
      | (with_reducible refine wpQuiet_nil ?_)
      | (refine Ux.quiet_held rfl ?_; apply Exists.intro; refine ⟨fun w' hS => ?_, ?_⟩; (focus ((try dsimp only at hS); go_simp; first | done | with_reducible rfl)); simp only [Act.put, List.setIfInBounds_toArray, List.set_cons_zero, List.set_cons_succ]))
    go_wp2_with fail
    refine (M.out.2.1 _).mono ?_
    rintro e w4 ⟨rfl, hc4⟩
    have T4 := T3.trans (Ux.Touch.of_below (R := fun _ => False) hc4) (fun _ _ f => f)
    go_wp2_with fail
    refine ⟨HS.out.2 _ T4, ?_⟩
    repeat (first
      | go_big_quiet_step (fail)
      | (with_reducible refine wpQuiet_nil ?_)
      | (refine Ux.quiet_held rfl ?_; apply Exists.intro; refine ⟨fun w' hS => ?_, ?_⟩; (focus ((try dsimp only at hS); go_simp; first | done | with_reducible rfl)); simp only [Act.put, List.setIfInBounds_toArray, List.set_cons_zero, List.set_cons_succ]))
    go_wp2_with fail
    refine (M.out.2.2.1 _).mono ?_
    rintro e w5 ⟨rfl, hc5⟩
    have T5 := T4.trans (Ux.Touch.of_below (R := fun _ => False) hc5) (fun _ _ f => f)
    go_wp2_with fail
    refine ⟨HS.out.2 _ T5, ?_⟩
    repeat (first
      | go_big_quiet_step (fail)
      | (with_reducible refine wpQuiet_nil ?_)
      | (refine Ux.quiet_held rfl ?_; apply Exists.intro; refine ⟨fun w' hS => ?_, ?_⟩; (focus ((try dsimp only at hS); go_simp; first | done | with_reducible rfl)); simp only [Act.put, List.setIfInBounds_toArray, List.set_cons_zero, List.set_cons_succ]))
    go_wp2_with fail
    obtain ⟨a0, a1, a2, b0, b1, b2, m0, m1, m2⟩ := HS.out.2 _ T5
    refine Ux.wp_region_plan (fun _ w' => w'.cell? ⟨w.heap.size, 0, none⟩ = some (.string la) ∧ w'.cell? ⟨w.heap.size, 1, none⟩ = some (.string ha) ∧ w'.cell? ⟨w.heap.size, 2, none⟩ = some (.bool true) ∧ w'.cell? ⟨w.heap.size + 1, 0, none⟩ = some (.string lb) ∧ w'.cell? ⟨w.heap.size + 1, 1, none⟩ = some (.string hb) ∧ w'.cell? ⟨w.heap.size + 1, 2, none⟩ = some (.bool true) ∧ w'.cell? ⟨w1.heap.size, 0, none⟩ = some (.string lm) ∧ w'.cell? ⟨w1.heap.size, 1, none⟩ = some (.string hm) ∧ w'.cell? ⟨w1.heap.size, 2, none⟩ = some (.bool om)) (.h false [0] (.q [2] (.h false [3] (.q [4] (.e 1 true false (.q [5, 6, 8] (.h false [7, 9] (.q [10, 11, 12, 13] (.h false [14] (.e 15 true false (.q [16, 17, 19] (.h false [18] (.e 20 true false (.q [21, 22, 23, 24] (.e 25 true false (.q [26] (.line [27])))))))))))))))))
      (by kernel_rfl) (by kernel_rfl) (by intro _ _ d _ _ h; cases d <;> exact h) ?hS ?_
    case hS => (intro c; cases c <;> (simp only [World.cell?_drew]; first | trivial | (refine ⟨?_, ?_⟩ <;> assumption) | assumption | (repeat (first | assumption | (refine And.intro ?_ ?_)))))
    simp only [Ux.wpPlan, Ux.pickOps, Ux.keeps, List.getElem?_toArray, List.getElem?_cons_succ, List.getElem?_cons_zero]
    repeat (first
      | go_big_quiet_step (fail)
      | (with_reducible refine wpQuiet_nil ?_)
      | (refine Ux.quiet_held rfl ?_; apply Exists.intro; refine ⟨fun w' hS => ?_, ?_⟩; (focus ((try dsimp only at hS); go_simp; first | done | with_reducible rfl)); simp only [Act.put, List.setIfInBounds_toArray, List.set_cons_zero, List.set_cons_succ]))
    clear a0 a1 a2 b0 b1 b2 m0 m1 m2
    go_wp2_with fail
    refine (M.out.2.2.2.2.1 _).mono ?_
    rintro e w6 ⟨rfl, hc6⟩
    have T6 := T5.drew.trans (Ux.Touch.of_below (R := fun _ => False) hc6) (fun _ _ f => f)
    go_wp2_with fail
    refine ⟨HS.out.2 _ T6, ?_⟩
    repeat (first
      | go_big_quiet_step (fail)
      | (with_reducible refine wpQuiet_nil ?_)
      | (refine Ux.quiet_held rfl ?_; apply Exists.intro; refine ⟨fun w' hS => ?_, ?_⟩; (focus ((try dsimp only at hS); go_simp; first | done | with_reducible rfl)); simp only [Act.put, List.setIfInBounds_toArray, List.set_cons_zero, List.set_cons_succ]))
    go_wp2_with fail
    refine (M.out.2.2.2.2.2 _).mono ?_
    rintro e w7 ⟨rfl, hc7⟩
    have T7 := T6.trans (Ux.Touch.of_below (R := fun _ => False) hc7) (fun _ _ f => f)
    go_wp2_with fail
    refine ⟨HS.out.2 _ T7, ?_⟩
    repeat (first
      | go_big_quiet_step (fail)
      | (with_reducible refine wpQuiet_nil ?_)
      | (refine Ux.quiet_held rfl ?_; apply Exists.intro; refine ⟨fun w' hS => ?_, ?_⟩; (focus ((try dsimp only at hS); go_simp; first | done | with_reducible rfl)); simp only [Act.put, List.setIfInBounds_toArray, List.set_cons_zero, List.set_cons_succ]))
    go_wp2_with fail
    refine (M.out.2.2.2.1 _).mono ?_
    rintro e w8 ⟨rfl, hc8⟩
    have T8 := T7.trans (Ux.Touch.of_below (R := fun _ => False) hc8) (fun _ _ f => f)
    go_wp2_with fail
    refine ⟨HS.out.2 _ T8, ?_⟩
    repeat (first
      | go_big_quiet_step (fail)
      | (with_reducible refine wpQuiet_nil ?_)
      | (refine Ux.quiet_held rfl ?_; apply Exists.intro; refine ⟨fun w' hS => ?_, ?_⟩; (focus ((try dsimp only at hS); go_simp; first | done | with_reducible rfl)); simp only [Act.put, List.setIfInBounds_toArray, List.set_cons_zero, List.set_cons_succ]))
    go_wp2_with fail
    refine (awake5 _).mono ?_
    rintro e w9 ⟨rfl, hc9⟩
    have T9 := T8.trans hc9 (fun _ _ f => f)
    go_wp2_with fail
    refine ⟨HS.out.2 _ T9, ?_⟩
    repeat (first
      | go_big_quiet_step (fail)
      | (with_reducible refine wpQuiet_nil ?_)
      | (refine Ux.quiet_held rfl ?_; apply Exists.intro; refine ⟨fun w' hS => ?_, ?_⟩; (focus ((try dsimp only at hS); go_simp; first | done | with_reducible rfl)); simp only [Act.put, List.setIfInBounds_toArray, List.set_cons_zero, List.set_cons_succ]))
    go_wp2
    go_returns
    exact ⟨rfl, HS.out.1.trans T9 (fun _ _ f => f)⟩

end Go.Proofs.Ytachpdokclejlaa
