/- PART OF THE PROOF THAT PlanMeetsSaid HOLDS OF THE GIVEN PROGRAM, FOR EVERY INPUT THAT THE STATEMENT NAMES. No condition besides the statement's own. -/
import Derived.Test.YtachpdokclejlaaGrowZ
import Derived.Test.YtachpdokclejlaaRows
import Derived.WalkKit
import Derived.Handy
import Derived.WalkSpells
import Derived.WalkLawsBesides
import Derived.BigQuiet
import Derived.Deep.QuietTactic
import Derived.Deep.Cut
import Derived.Laws.Externs
import Derived.Lib.Hide
import Derived.Lib.MinMaxS
import Derived.Test.YtachpdokclejlaaUxPlanZ
import Derived.Test.YtachpdokclejlaaUxHeapZ
import Derived.Test.YtachpdokclejlaaUxOrdZ
namespace Go.Proofs.Ytachpdokclejlaa
open Go.RowKit
-- import: YtachpdokclejlaaGrow
set_option maxHeartbeats 400000 in
theorem clip21 (g c : Nat) (w : World) (hc : 2 ≤ c) : Calls Try.prog 21 #[.slice (some ⟨g, 0, none⟩) 2 c] w fun e w' => e = .returned (.slice (some ⟨g, 0, none⟩) 2 2) ∧ w = w' := by
  go_enter Try.func21, Try.ntmps21
  go_wp2
  go_returns
  exact ⟨rfl, rfl⟩

set_option maxHeartbeats 2000000 in
set_option maxRecDepth 100000 in
theorem conj_and (w : World) (x g : Nat) (ka oa : Int) (sa ta : ByteArray) (na : Int) (va : Value) (kb ob : Int) (sb tb : ByteArray) (nb : Int) (vb : Value) (hka : ka ≠ 6) (hkb : kb ≠ 6)
    (hva : va.oneCell' = true) (hvb : vb.oneCell' = true)
    (hx : w.heap[x]? = some (.cells (nod 6 18 ⟨#[]⟩ ⟨#[]⟩ 0 (.slice (some ⟨g, 0, none⟩) 2 2)).toArray 31 (0, 0)))
    (hg : w.heap[g]? = some (.cells (nod ka oa sa ta na va ++ nod kb ob sb tb nb vb).toArray 31 (0, 0))) :
    Calls Try.prog 11 #[.pointer (some ⟨x, 0, none⟩)] w fun e w' => ∃ h, e = .returned (.slice (some ⟨h, 0, none⟩) 2 2) ∧ Ux.Touch (fun _ => False) w w' ∧ ∀ j u, (nod ka oa sa ta na va ++ nod kb ob sb tb nb vb)[j]? = some u → w'.cell? ⟨h, j, none⟩ = some u := by
  have c0 : w.cell? ⟨x, 0, none⟩ = some (.int .i64 6) := by rw [cell_of_row w x 0 _ 31 (0, 0) hx]; rfl
  have c1 : w.cell? ⟨x, 1, none⟩ = some (.int .i64 18) := by rw [cell_of_row w x 1 _ 31 (0, 0) hx]; rfl
  have c5 : w.cell? ⟨x, 5, none⟩ = some (.slice (some ⟨g, 0, none⟩) 2 2) := by rw [cell_of_row w x 5 _ 31 (0, 0) hx]; rfl
  have HG := Lib.hid hg
  clear hg hx
  go_enter Try.func11, Try.ntmps11
  go_wp2
  refine Ux.wp_region_plan (fun _ w' => w'.cell? ⟨x, 5, none⟩ = some (.slice (some ⟨g, 0, none⟩) 2 2)) (.q [0, 1, 2, 6, 7, 8] (.h false [3, 9] (.q [4, 10] (.e 5 true false (.e 11 true false (.e 12 true false (.e 13 true false (.e 14 true false (.line [15])))))))))
    (by kernel_rfl) (by kernel_rfl) (by intro _ _ d _ _ h; cases d <;> exact h) ?hS ?_
  case hS => (intro c; cases c <;> (simp only [World.cell?_drew]; first | trivial | (refine ⟨?_, ?_⟩ <;> assumption) | assumption | (repeat (first | assumption | (refine And.intro ?_ ?_)))))
  simp only [Ux.wpPlan, Ux.pickOps, Ux.keeps, List.getElem?_toArray, List.getElem?_cons_succ, List.getElem?_cons_zero]
  repeat (first
    | go_big_quiet_step (fail)
    | (with_reducible refine wpQuiet_nil ?_)
    | (refine Ux.quiet_held rfl ?_; apply Exists.intro; refine ⟨fun w' hS => ?_, ?_⟩; (focus ((try dsimp only at hS); go_simp; first | done | with_reducible rfl)); simp only [Act.put, List.setIfInBounds_toArray, List.set_cons_zero, List.set_cons_succ]))
  go_wp2_with fail
  have s1 : Six w g 0 (nod ka oa sa ta na va) := fun j u hj => by
    rw [Nat.zero_add, cell_of_row w g j _ 31 (0, 0) HG.out]
    simp only [nod] at hj ⊢
    rcases j with _ | _ | _ | _ | _ | _ | j <;> simp_all
  have s2 : Six w g 6 (nod kb ob sb tb nb vb) := fun j u hj => by
    rw [cell_of_row w g (6 + j) _ 31 (0, 0) HG.out]
    simp only [nod] at hj ⊢
    rcases j with _ | _ | _ | _ | _ | _ | j <;> simp_all
  refine (conj_leaf w.drew g 0 ka oa sa ta (.int .i64 na) va hka s1).mono ?_
  rintro e w1 ⟨rfl, hh1, t1⟩
  replace t1 := Ux.Touch.of_drew t1
  have HH1 := Lib.hid hh1
  clear hh1
  have c5' := t1.cell c5 (fun f => f)
  go_wp2_with fail
  refine ⟨c5', ?_⟩
  repeat (first
    | go_big_quiet_step (fail)
    | (with_reducible refine wpQuiet_nil ?_)
    | (refine Ux.quiet_held rfl ?_; apply Exists.intro; refine ⟨fun w' hS => ?_, ?_⟩; (focus ((try dsimp only at hS); go_simp; first | done | with_reducible rfl)); simp only [Act.put, List.setIfInBounds_toArray, List.set_cons_zero, List.set_cons_succ]))
  go_wp2_with fail
  refine (conj_leaf w1 g 6 kb ob sb tb (.int .i64 nb) vb hkb (fun j u hj => t1.cell (s2 j u hj) (fun f => f))).mono ?_
  rintro e w2 ⟨rfl, hh2, t2⟩
  have HH2 := Lib.hid hh2
  clear hh2
  have c5'' := t2.cell c5' (fun f => f)
  go_wp2_with fail
  refine ⟨c5'', ?_⟩
  repeat (first
    | go_big_quiet_step (fail)
    | (with_reducible refine wpQuiet_nil ?_)
    | (refine Ux.quiet_held rfl ?_; apply Exists.intro; refine ⟨fun w' hS => ?_, ?_⟩; (focus ((try dsimp only at hS); go_simp; first | done | with_reducible rfl)); simp only [Act.put, List.setIfInBounds_toArray, List.set_cons_zero, List.set_cons_succ]))
  go_wp2
  obtain ⟨w3, hw3⟩ : ∃ w3, w2.alloc (.cells #[.slice (some ⟨w.heap.size, 0, none⟩) 1 1, .slice (some ⟨w1.heap.size, 0, none⟩) 1 1] 29) = w3 := ⟨_, rfl⟩
  rw [hw3]
  have t3 : Ux.Touch (fun _ => False) w2 w3 := by rw [← hw3]; exact (Ux.Touch.refl _ w2).alloc _
  have hh1 : w1.heap[w.heap.size]? = some (.cells (nod ka oa sa ta na va).toArray 31 (0, 0)) := HH1.out
  have hh2 : w2.heap[w1.heap.size]? = some (.cells (nod kb ob sb tb nb vb).toArray 31 (0, 0)) := HH2.out
  have hh3 : w3.heap[w2.heap.size]? = some (.cells #[.slice (some ⟨w.heap.size, 0, none⟩) 1 1, .slice (some ⟨w1.heap.size, 0, none⟩) 1 1] 29 (0, 0)) := by rw [← hw3]; exact heap_alloc_new w2 _
  refine ⟨t3.cell c5'' (fun f => f), ?_⟩
  repeat (first
    | go_big_quiet_step (fail)
    | (with_reducible refine wpQuiet_nil ?_)
    | (refine Ux.quiet_held rfl ?_; apply Exists.intro; refine ⟨fun w' hS => ?_, ?_⟩; (focus ((try dsimp only at hS); go_simp; first | done | with_reducible rfl)); simp only [Act.put, List.setIfInBounds_toArray, List.set_cons_zero, List.set_cons_succ]))
  go_wp2_with fail
  refine (concat22 w3 w2.heap.size w.heap.size w1.heap.size _ _ hh3 (t3.heap (t2.heap hh1 (fun f => f)) (fun f => f)) (t3.heap hh2 (fun f => f)) rfl rfl ?_ ?_).mono ?_
  · simp [nod, hva]; simp [Value.oneCell']
  · simp [nod, hvb]; simp [Value.oneCell']
  rintro e w4 ⟨v4, rfl, ho, t4⟩
  obtain ⟨h, c, cur, rfl, hc1, hc2, hh, hcs, htk⟩ := Ux.own_pos ho (by omega)
  have T4 : Ux.Touch (fun _ => False) w w4 := ((t1.trans t2 (fun _ _ f => f)).trans t3 (fun _ _ f => f)).trans t4 (fun _ _ f => f)
  go_wp2_with fail
  refine ⟨t4.cell (t3.cell c5'' (fun f => f)) (fun f => f), ?_⟩
  repeat (first
    | go_big_quiet_step (fail)
    | (with_reducible refine wpQuiet_nil ?_)
    | (refine Ux.quiet_held rfl ?_; apply Exists.intro; refine ⟨fun w' hS => ?_, ?_⟩; (focus ((try dsimp only at hS); go_simp; first | done | with_reducible rfl)); simp only [Act.put, List.setIfInBounds_toArray, List.set_cons_zero, List.set_cons_succ]))
  go_wp2_with fail
  refine (clip21 h c w4 hc1).mono ?_
  rintro e w' ⟨rfl, rfl⟩
  go_wp2_with fail
  refine ⟨t4.cell (t3.cell c5'' (fun f => f)) (fun f => f), ?_⟩
  go_wp2
  go_returns
  refine ⟨h, rfl, T4, fun j u hj => ?_⟩
  exact Ux.row_cell hh htk j u hj
end Go.Proofs.Ytachpdokclejlaa
