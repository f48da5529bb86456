/- PART OF THE PROOF THAT PlanMeetsSaid HOLDS OF THE GIVEN PROGRAM, FOR EVERY INPUT THAT THE STATEMENT NAMES. No condition besides the statement's own. -/
import Derived.Test.YtachpdokclejlaaAndZ
import Derived.Test.YtachpdokclejlaaRows
import Derived.WalkKit
import Derived.Handy
import Derived.WalkSpells
import Derived.WalkLawsBesides
import Derived.BigQuiet
import Derived.Deep.QuietTactic
import Derived.Deep.Cut
import Derived.Laws.Externs
import Derived.Lib.Hide
import Derived.Lib.MinMaxS
import Derived.Test.YtachpdokclejlaaUxPlanZ
import Derived.Test.YtachpdokclejlaaUxHeapZ
import Derived.Test.YtachpdokclejlaaUxOrdZ
namespace Go.Proofs.Ytachpdokclejlaa
open Go.RowKit
-- import: YtachpdokclejlaaAnd
set_option maxHeartbeats 400000 in
theorem sames_nil (w : World) : Calls Try.prog 12 #[.slice none 0 0, .slice none 0 0] w fun e w' => e = .returned (.bool true) ∧ Ux.Touch (fun _ => False) w w' := by
  go_enter Try.func12, Try.ntmps12
  go_wp2
  go_rounds 1
  go_returns
  exact ⟨rfl, Ux.Touch.refl _ _⟩

set_option maxHeartbeats 400000 in
theorem same_leaf (k op : Int) (s t : ByteArray) (n : Int) (w : World) : Calls Try.prog 17 #[.agg (nod k op s t n (.slice none 0 0)).toArray, .agg (nod k op s t n (.slice none 0 0)).toArray] w fun e w' => e = .returned (.bool true) ∧ Ux.Touch (fun _ => False) w w' := by
  unfold nod
  go_enter Try.func17, Try.ntmps17
  go_wp2_with (go_at_call 12; refine (sames_nil _).mono ?_; rintro e w' ⟨rfl, ht⟩)
  go_returns
  exact ⟨rfl, (((Ux.Touch.refl (fun _ => False) w).alloc _).alloc _).trans ht (fun _ _ f => f)⟩

def nA : List Value := nod 4 0 ⟨#[97]⟩ ⟨#[]⟩ 0 (.slice none 0 0)
def nB : List Value := nod 1 0 ⟨#[]⟩ ⟨#[]⟩ 0 (.slice none 0 0)

theorem four (w : World) (o1 o2 o3 o4 : Obj) : ((((w.alloc o1).alloc o2).alloc o3).alloc o4).heap[w.heap.size]? = some o1 ∧ ((((w.alloc o1).alloc o2).alloc o3).alloc o4).heap[w.heap.size + 1 + 1]? = some o3 ∧ ((((w.alloc o1).alloc o2).alloc o3).alloc o4).heap[w.heap.size + 1 + 1 + 1]? = some o4 := by
  have s2 : ((w.alloc o1).alloc o2).heap.size = w.heap.size + 1 + 1 := by rw [World.size_alloc, World.size_alloc]
  have s3 : (((w.alloc o1).alloc o2).alloc o3).heap.size = w.heap.size + 1 + 1 + 1 := by rw [World.size_alloc, s2]
  refine ⟨((((Ux.Touch.refl (fun _ => False) (w.alloc o1)).alloc o2).alloc o3).alloc o4).heap (heap_alloc_new w o1) (fun f => f), ?_, ?_⟩
  · rw [← s2]; exact ((Ux.Touch.refl (fun _ => False) _).alloc o4).heap (heap_alloc_new _ o3) (fun f => f)
  · rw [← s3]; exact heap_alloc_new _ o4

set_option maxHeartbeats 2000000 in
set_option maxRecDepth 100000 in
theorem awake5 (w : World) : Calls Try.prog 5 #[] w fun e w' => e = .returned (.bool true) ∧ Ux.Touch (fun _ => False) w w' := by
  go_enter Try.func5, Try.ntmps5
  go_wp2_with fail
  obtain ⟨w1, hw1⟩ : ∃ w1, (((w.alloc (.cells nA.toArray 31)).alloc (.cells nB.toArray 31)).alloc (.cells (nA ++ nB).toArray 31)).alloc (.cells (nod 6 18 ⟨#[]⟩ ⟨#[]⟩ 0 (.slice (some ⟨w.heap.size + 1 + 1, 0, none⟩) 2 2)).toArray 31) = w1 := ⟨_, rfl⟩
  have t1 : Ux.Touch (fun _ => False) w w1 := by rw [← hw1]; exact ((((Ux.Touch.refl _ w).alloc _).alloc _).alloc _).alloc _
  have hx : w1.heap[w.heap.size + 1 + 1 + 1]? = some (.cells (nod 6 18 ⟨#[]⟩ ⟨#[]⟩ 0 (.slice (some ⟨w.heap.size + 1 + 1, 0, none⟩) 2 2)).toArray 31 (0, 0)) := by
    rw [← hw1]; exact (four w _ _ _ _).2.2
  have hg : w1.heap[w.heap.size + 1 + 1]? = some (.cells (nA ++ nB).toArray 31 (0, 0)) := by
    rw [← hw1]; exact (four w _ _ _ _).2.1
  have hA : w1.heap[w.heap.size]? = some (.cells nA.toArray 31 (0, 0)) := by
    rw [← hw1]; exact (four w _ _ _ _).1
  refine Calls.mono (R := fun e w' => ∃ h, e = .returned (.slice (some ⟨h, 0, none⟩) 2 2) ∧ Ux.Touch (fun _ => False) w1 w' ∧ ∀ j u, (nA ++ nB)[j]? = some u → w'.cell? ⟨h, j, none⟩ = some u) ?_ ?_
  · have hw1' := hw1
    simp only [nA, nB, nod, List.cons_append, List.nil_append] at hw1'
    rw [hw1']
    exact conj_and w1 (w.heap.size + 1 + 1 + 1) (w.heap.size + 1 + 1) 4 0 ⟨#[97]⟩ ⟨#[]⟩ 0 (.slice none 0 0) 1 0 ⟨#[]⟩ ⟨#[]⟩ 0 (.slice none 0 0) (by decide) (by decide) rfl rfl hx hg
  rintro e w2 ⟨h, rfl, t2, hc⟩
  have a0 := fun j u (hj : nA[j]? = some u) => t2.cell (a := ⟨w.heap.size, j, none⟩) (v := u) (by rw [cell_of_row w1 _ _ _ 31 (0, 0) hA]; simpa using hj) (fun f => f)
  have b0 := hc 0 _ rfl
  have b1 := hc 1 _ rfl
  have b2 := hc 2 _ rfl
  have b3 := hc 3 _ rfl
  have b4 := hc 4 _ rfl
  have b5 := hc 5 _ rfl
  have d0 := a0 0 _ rfl
  have d1 := a0 1 _ rfl
  have d2 := a0 2 _ rfl
  have d3 := a0 3 _ rfl
  have d4 := a0 4 _ rfl
  have d5 := a0 5 _ rfl
  have T2 : Ux.Touch (fun _ => False) w w2 := t1.trans t2 (fun _ _ f => f)
  have HT := Lib.hid T2
  clear hc a0 hx hg hA hw1 t1 t2 T2
  go_wp2
  refine Ux.wp_region_plan (fun _ w' => w'.cell? ⟨h, 0, none⟩ = some (.int .i64 4) ∧ w'.cell? ⟨h, 1, none⟩ = some (.int .i64 0) ∧ w'.cell? ⟨h, 2, none⟩ = some (.string ⟨#[97]⟩) ∧ w'.cell? ⟨h, 3, none⟩ = some (.string ⟨#[]⟩) ∧ w'.cell? ⟨h, 4, none⟩ = some (.int .i64 0) ∧ w'.cell? ⟨h, 5, none⟩ = some (.slice none 0 0) ∧ w'.cell? ⟨w.heap.size, 0, none⟩ = some (.int .i64 4) ∧ w'.cell? ⟨w.heap.size, 1, none⟩ = some (.int .i64 0) ∧ w'.cell? ⟨w.heap.size, 2, none⟩ = some (.string ⟨#[97]⟩) ∧ w'.cell? ⟨w.heap.size, 3, none⟩ = some (.string ⟨#[]⟩) ∧ w'.cell? ⟨w.heap.size, 4, none⟩ = some (.int .i64 0) ∧ w'.cell? ⟨w.heap.size, 5, none⟩ = some (.slice none 0 0)) (.q [0, 1, 2, 3, 4, 5] (.h false [6, 7] (.e 8 false false (.q [9, 10] (.e 11 true false (.q [12, 13, 14, 15] (.e 16 true false (.q [17, 18, 19, 20] (.e 21 true false (.q [22] (.line [23])))))))))))
    (by kernel_rfl) (by kernel_rfl) (by intro _ _ d _ _ h; cases d <;> exact h) ?hS ?_
  case hS => (intro c; cases c <;> (simp only [World.cell?_drew]; first | trivial | (refine ⟨?_, ?_⟩ <;> assumption) | assumption | (repeat (first | assumption | (refine And.intro ?_ ?_)))))
  simp only [Ux.wpPlan, Ux.pickOps, Ux.keeps, List.getElem?_toArray, List.getElem?_cons_succ, List.getElem?_cons_zero]
  repeat (first
    | go_big_quiet_step (fail)
    | (with_reducible refine wpQuiet_nil ?_)
    | (refine Ux.quiet_held rfl ?_; apply Exists.intro; refine ⟨fun w' hS => ?_, ?_⟩; (focus ((try dsimp only at hS); go_simp; first | done | with_reducible rfl)); simp only [Act.put, List.setIfInBounds_toArray, List.set_cons_zero, List.set_cons_succ]))
  go_wp2_with fail
  refine (same_leaf 4 0 ⟨#[97]⟩ ⟨#[]⟩ 0 _).mono ?_
  rintro e w3 ⟨rfl, t3⟩
  go_wp2_with fail
  repeat (first
    | go_big_quiet_step (fail)
    | (with_reducible refine wpQuiet_nil ?_)
    | (refine Ux.quiet_held rfl ?_; apply Exists.intro; refine ⟨fun w' hS => ?_, ?_⟩; (focus ((try dsimp only at hS); go_simp; first | done | with_reducible rfl)); simp only [Act.put, List.setIfInBounds_toArray, List.set_cons_zero, List.set_cons_succ]))
  go_wp2_with fail
  have hS : ∀ w', Ux.Touch (fun _ => False) w2.drew w' → w'.cell? ⟨h, 0, none⟩ = some (.int .i64 4) ∧ w'.cell? ⟨h, 1, none⟩ = some (.int .i64 0) ∧ w'.cell? ⟨h, 2, none⟩ = some (.string ⟨#[97]⟩) ∧ w'.cell? ⟨h, 3, none⟩ = some (.string ⟨#[]⟩) ∧ w'.cell? ⟨h, 4, none⟩ = some (.int .i64 0) ∧ w'.cell? ⟨h, 5, none⟩ = some (.slice none 0 0) ∧ w'.cell? ⟨w.heap.size, 0, none⟩ = some (.int .i64 4) ∧ w'.cell? ⟨w.heap.size, 1, none⟩ = some (.int .i64 0) ∧ w'.cell? ⟨w.heap.size, 2, none⟩ = some (.string ⟨#[97]⟩) ∧ w'.cell? ⟨w.heap.size, 3, none⟩ = some (.string ⟨#[]⟩) ∧ w'.cell? ⟨w.heap.size, 4, none⟩ = some (.int .i64 0) ∧ w'.cell? ⟨w.heap.size, 5, none⟩ = some (.slice none 0 0) := fun w' t => ⟨t.cell b0 (fun f => f), t.cell b1 (fun f => f), t.cell b2 (fun f => f), t.cell b3 (fun f => f), t.cell b4 (fun f => f), t.cell b5 (fun f => f), t.cell d0 (fun f => f), t.cell d1 (fun f => f), t.cell d2 (fun f => f), t.cell d3 (fun f => f), t.cell d4 (fun f => f), t.cell d5 (fun f => f)⟩
  have HS := Lib.hid hS
  clear hS b0 b1 b2 b3 b4 b5 d0 d1 d2 d3 d4 d5
  refine (conj_nil _).mono ?_
  rintro e w4 ⟨rfl, rfl⟩
  go_wp2_with fail
  refine ⟨HS.out _ t3, ?_⟩
  repeat (first
    | go_big_quiet_step (fail)
    | (with_reducible refine wpQuiet_nil ?_)
    | (refine Ux.quiet_held rfl ?_; apply Exists.intro; refine ⟨fun w' hS => ?_, ?_⟩; (focus ((try dsimp only at hS); go_simp; first | done | with_reducible rfl)); simp only [Act.put, List.setIfInBounds_toArray, List.set_cons_zero, List.set_cons_succ]))
  go_wp2_with fail
  refine (join_nil _).mono ?_
  rintro e w4 ⟨rfl, rfl⟩
  go_wp2_with fail
  refine ⟨HS.out _ t3, ?_⟩
  repeat (first
    | go_big_quiet_step (fail)
    | (with_reducible refine wpQuiet_nil ?_)
    | (refine Ux.quiet_held rfl ?_; apply Exists.intro; refine ⟨fun w' hS => ?_, ?_⟩; (focus ((try dsimp only at hS); go_simp; first | done | with_reducible rfl)); simp only [Act.put, List.setIfInBounds_toArray, List.set_cons_zero, List.set_cons_succ]))
  go_wp2_with fail
  refine (empty8 ⟨#[98]⟩ ⟨#[97]⟩ false _).mono ?_
  rintro e w4 ⟨rfl, hb⟩
  go_wp2_with fail
  refine ⟨HS.out _ (t3.trans (Ux.Touch.of_below hb) (fun _ _ f => f)), ?_⟩
  repeat (first
    | go_big_quiet_step (fail)
    | (with_reducible refine wpQuiet_nil ?_)
    | (refine Ux.quiet_held rfl ?_; apply Exists.intro; refine ⟨fun w' hS => ?_, ?_⟩; (focus ((try dsimp only at hS); go_simp; first | done | with_reducible rfl)); simp only [Act.put, List.setIfInBounds_toArray, List.set_cons_zero, List.set_cons_succ]))
  go_wp2
  go_returns
  exact ⟨by simp [Ux.slt, Op.bytesLess], HT.out.trans ((Ux.Touch.of_drew t3).trans (Ux.Touch.of_below hb) (fun _ _ f => f)) (fun _ _ f => f)⟩
end Go.Proofs.Ytachpdokclejlaa
