/- PART OF THE PROOF THAT THIS CLAIM HOLDS OF THE GIVEN PROGRAM, FOR EVERY INPUT THAT THE STATEMENT NAMES. No condition besides the statement's own. -/
import Derived.Test.YtlibbngcdeblmaaDoorValsZ
import Derived.Test.YtlibbngcdeblmaaDoorReftakeZ
import Derived.Test.YtlibbngcdeblmaaDoorAwakeZ
import Derived.Test.YtlibbngcdeblmaaDoorRows
import Derived.WalkKit
import Derived.Handy
import Derived.Laws.EntriesVeiled
import Derived.WalkSpells
import Derived.WalkLawsBesides
import Derived.BigQuiet
import Derived.Deep.QuietTactic
import Derived.Deep.Cut
import Derived.Deep.DeepCutAuto
import Derived.Lib.Overlaps
import Derived.Laws.Externs
import Derived.Lib.Hide
import Derived.Test.YtlibbngcdeblmaaDoorUxPlanAllZ
import Derived.Test.YtlibbngcdeblmaaDoorUxTreeAllZ
import Derived.Deep.LoopGhost
namespace Go.Proofs.YtlibbngcdeblmaaDoor
open Go.RowKit
-- imports: YtlibbngcdeblmaaDoorVals YtlibbngcdeblmaaDoorReftake YtlibbngcdeblmaaDoorAwake
open Go.RowKit

set_option maxHeartbeats 8000000 in
set_option maxRecDepth 100000 in
theorem takes5 (key : ByteArray) (d : Bool) (k n : Int) (s : ByteArray) (k2 n2 : Int) (s2 : ByteArray) (more : ByteArray) (m : Int) (w : World) (hm : w.cell? ⟨0, 0, none⟩ = some (.int .i64 m))
    (h1 : key.size ≤ 140737488355328) (h2 : more.size ≤ 140737488355328) (h3 : s.size ≤ 140737488355328) (h4 : s2.size ≤ 140737488355328) :
    Calls Tryd.prog 5 #[.string key, .bool d, .agg #[.int .i64 k, .int .i64 n, .string s], .agg #[.int .i64 k2, .int .i64 n2, .string s2], .string more] w fun e w' => e = .returned (.bool true) ∧ Ux.Touch (fun _ => False) w w' := by
  have AW := Lib.hid awake8
  obtain ⟨B, hB⟩ : ∃ B, w.heap.size = B := ⟨_, rfl⟩
  obtain ⟨ks, hks⟩ : ∃ ks, key.size = ks := ⟨_, rfl⟩
  obtain ⟨ms, hms⟩ : ∃ ms, more.size = ms := ⟨_, rfl⟩
  obtain ⟨ss, hss⟩ : ∃ ss, s.size = ss := ⟨_, rfl⟩
  obtain ⟨ts, hts⟩ : ∃ ts, s2.size = ts := ⟨_, rfl⟩
  have T0 : Ux.Touch (fun _ => False) w ((w.alloc (.cells #[.int .i64 k, .int .i64 n, .string s] 36)).alloc (.cells #[.int .i64 k2, .int .i64 n2, .string s2] 36)) := ((Ux.Touch.refl _ w).alloc _).alloc _
  have H0 := Lib.hid (And.intro hm T0)
  have HB := Lib.hid hB
  have g1 : (ks : Int) ≤ 140737488355328 := by omega
  have g2 : (ms : Int) ≤ 140737488355328 := by omega
  have g3 : (ss : Int) ≤ 140737488355328 := by omega
  have g4 : (ts : Int) ≤ 140737488355328 := by omega
  have HM := Lib.hid hm
  clear T0 hm h1 h2 h3 h4
  go_enter Tryd.func5, Tryd.ntmps5
  by_cases hbig : ks + ms > 500 ∨ ss + ts > 200
  · have t0 : ((ks : Int) + ms > 500) ∨ (¬ ((ks : Int) + ms > 500) ∧ (ss : Int) + ts > 200) := by omega
    clear hbig
    rcases t0 with t0 | ⟨t0, t1⟩
    · go_wp2_with (go_at_call 8; refine (AW.out _).mono ?_; rintro e w7 ⟨rfl, ht7⟩)
      go_ret
      exact ⟨rfl, H0.out.2.trans ht7 (fun _ _ h => h)⟩
    · go_wp2_with (go_at_call 8; refine (AW.out _).mono ?_; rintro e w7 ⟨rfl, ht7⟩)
      go_ret
      exact ⟨rfl, H0.out.2.trans ht7 (fun _ _ h => h)⟩
  · have t0 : ¬ ((ks : Int) + ms > 500) := by omega
    have t1 : ¬ ((ss : Int) + ts > 200) := by omega
    have HS := Lib.hid hbig
    clear hbig
    obtain ⟨r1, r2, hr⟩ : ∃ (r1 r2 : Int), tkV (Ux.tk (Ux.turnIf d key.data.toList)) = .tuple #[.int .i64 r1, .int .i64 r2] := ⟨_, _, rfl⟩
    have c13 : ∀ w', Calls Tryd.prog 13 #[.string key, .bool d] w' fun e w'' => e = .returned (.tuple #[.int .i64 r1, .int .i64 r2]) ∧ Ux.Touch (fun _ => False) w' w'' := fun w' => by
      rw [← hr]; exact take13 key d w' (by omega)
    have c14 : ∀ w', Calls Tryd.prog 14 #[.string key, .bool d] w' fun e w'' => e = .returned (.tuple #[.int .i64 r1, .int .i64 r2]) ∧ Ux.Touch (fun _ => False) w' w'' := fun w' => by
      rw [← hr]; exact refTake14 key d w' (by omega)
    have C13 := Lib.hid c13
    have C14 := Lib.hid c14
    have HSZ := Lib.hid (And.intro hks (And.intro hms (And.intro hss hts)))
    have hA : ((w.alloc (.cells #[.int .i64 k, .int .i64 n, .string s] 36)).alloc (.cells #[.int .i64 k2, .int .i64 n2, .string s2] 36)).heap[B]? = some (.cells #[.int .i64 k, .int .i64 n, .string s] 36 (0, 0)) := by
      rw [← hB]; exact ((Ux.Touch.refl (fun _ => False) _).alloc _).heap (heap_alloc_new w _) (fun f => f)
    have hC : ((w.alloc (.cells #[.int .i64 k, .int .i64 n, .string s] 36)).alloc (.cells #[.int .i64 k2, .int .i64 n2, .string s2] 36)).heap[B + 1]? = some (.cells #[.int .i64 k2, .int .i64 n2, .string s2] 36 (0, 0)) := by
      rw [← hB]; have := heap_alloc_new (w.alloc (.cells #[.int .i64 k, .int .i64 n, .string s] 36)) (.cells #[.int .i64 k2, .int .i64 n2, .string s2] 36); rwa [World.size_alloc] at this
    have HC := Lib.hid (And.intro hA hC)
    clear hr c13 c14 hA hC
    go_wp2_with (go_at_call 13; fail)
    refine (C13.out _).mono ?_
    rintro e w1 ⟨rfl, T1⟩
    have HT1 := Lib.hid T1
    clear T1
    go_wp2_with (go_at_call 14; fail)
    refine (C14.out _).mono ?_
    rintro e w2 ⟨rfl, T2⟩
    have T02 := (HT1.out.trans T2 (fun _ _ f => f))
    have a2 := T02.heap HC.out.1 (fun f => f)
    have b2 := T02.heap HC.out.2 (fun f => f)
    have TW2 := H0.out.2.trans T02 (fun _ _ f => f)
    have H2 := Lib.hid (And.intro a2 (And.intro b2 TW2))
    clear T2 T02 a2 b2 TW2 HT1 HC C13 C14 H0
    go_upto_region 6 with (fail)
    obtain ⟨Q, hQ⟩ : ∃ Q, w2.heap.size = Q := ⟨_, rfl⟩
    obtain ⟨w3, hw3⟩ : ∃ w3, w2.alloc (.cells #[.int .i64 0, .int .i64 0, .bool false, .bool false, .pointer none, .bool d] 43) = w3 := ⟨_, rfl⟩
    rw [hw3, hQ]
    have T3 : Ux.Touch (fun _ => False) w2 w3 := by rw [← hw3]; exact (Ux.Touch.refl _ w2).alloc _
    have hp3 : w3.heap[Q]? = some (.cells #[.int .i64 0, .int .i64 0, .bool false, .bool false, .pointer none, .bool d] 43 (0, 0)) := by rw [← hw3, ← hQ]; exact heap_alloc_new w2 _
    have a3 := T3.heap H2.out.1 (fun f => f)
    have b3 := T3.heap H2.out.2.1 (fun f => f)
    have TW3 := H2.out.2.2.trans T3 (fun _ _ f => f)
    have hS : ∀ w', Ux.Touch (fun _ => False) w3 w' → w'.cell? ⟨B, 0, none⟩ = some (.int .i64 k) ∧ w'.cell? ⟨B, 1, none⟩ = some (.int .i64 n) ∧ w'.cell? ⟨B, 2, none⟩ = some (.string s) ∧
        w'.cell? ⟨B + 1, 0, none⟩ = some (.int .i64 k2) ∧ w'.cell? ⟨B + 1, 1, none⟩ = some (.int .i64 n2) ∧ w'.cell? ⟨B + 1, 2, none⟩ = some (.string s2) ∧
        w'.cell? ⟨Q, 0, none⟩ = some (.int .i64 0) ∧ w'.cell? ⟨Q, 1, none⟩ = some (.int .i64 0) ∧ w'.cell? ⟨Q, 2, none⟩ = some (.bool false) ∧ w'.cell? ⟨Q, 3, none⟩ = some (.bool false) ∧ w'.cell? ⟨Q, 4, none⟩ = some (.pointer none) ∧ w'.cell? ⟨Q, 5, none⟩ = some (.bool d) := fun w' T => by
      have a4 := T.heap a3 (fun f => f)
      have b4 := T.heap b3 (fun f => f)
      have p4 := T.heap hp3 (fun f => f)
      refine ⟨?_, ?_, ?_, ?_, ?_, ?_, ?_, ?_, ?_, ?_, ?_, ?_⟩
      · rw [cell_of_row w' B 0 _ 36 (0, 0) a4]; rfl
      · rw [cell_of_row w' B 1 _ 36 (0, 0) a4]; rfl
      · rw [cell_of_row w' B 2 _ 36 (0, 0) a4]; rfl
      · rw [cell_of_row w' (B + 1) 0 _ 36 (0, 0) b4]; rfl
      · rw [cell_of_row w' (B + 1) 1 _ 36 (0, 0) b4]; rfl
      · rw [cell_of_row w' (B + 1) 2 _ 36 (0, 0) b4]; rfl
      · rw [cell_of_row w' Q 0 _ 43 (0, 0) p4]; rfl
      · rw [cell_of_row w' Q 1 _ 43 (0, 0) p4]; rfl
      · rw [cell_of_row w' Q 2 _ 43 (0, 0) p4]; rfl
      · rw [cell_of_row w' Q 3 _ 43 (0, 0) p4]; rfl
      · rw [cell_of_row w' Q 4 _ 43 (0, 0) p4]; rfl
      · rw [cell_of_row w' Q 5 _ 43 (0, 0) p4]; rfl
    have H3 := Lib.hid (And.intro hS TW3)
    have CA : Hid (∀ w', Ux.Touch (fun _ => False) w3 w' → Calls Tryd.prog 15 #[.agg #[.int .i64 k, .int .i64 n, .string s], .agg #[.int .i64 0, .int .i64 0, .bool false, .bool false, .pointer none, .bool d]] w' (ValPost d w')) :=
      Lib.hid fun w' T => value15 k n s d m w' (T.cell (TW3.cell HM.out (fun f => f)) (fun f => f)) (by have := HSZ.out.2.2.1; omega)
    have CB : Hid (∀ w', Ux.Touch (fun _ => False) w3 w' → Calls Tryd.prog 15 #[.agg #[.int .i64 k2, .int .i64 n2, .string s2], .agg #[.int .i64 0, .int .i64 0, .bool false, .bool false, .pointer none, .bool d]] w' (ValPost d w')) :=
      Lib.hid fun w' T => value15 k2 n2 s2 d m w' (T.cell (TW3.cell HM.out (fun f => f)) (fun f => f)) (by have := HSZ.out.2.2.2; omega)
    obtain ⟨c0, c1, c2, c3, c4, c5, c6, c7, c8, c9, c10, c11⟩ := hS w3 (Ux.Touch.refl _ _)
    clear a3 b3 hp3 T3 TW3 hw3 hQ hS H2
    refine Ux.wp_region_plan (fun _ w' => w'.cell? ⟨B, 0, none⟩ = some (.int .i64 k) ∧ w'.cell? ⟨B, 1, none⟩ = some (.int .i64 n) ∧ w'.cell? ⟨B, 2, none⟩ = some (.string s) ∧ w'.cell? ⟨B + 1, 0, none⟩ = some (.int .i64 k2) ∧ w'.cell? ⟨B + 1, 1, none⟩ = some (.int .i64 n2) ∧ w'.cell? ⟨B + 1, 2, none⟩ = some (.string s2) ∧ w'.cell? ⟨Q, 0, none⟩ = some (.int .i64 0) ∧ w'.cell? ⟨Q, 1, none⟩ = some (.int .i64 0) ∧ w'.cell? ⟨Q, 2, none⟩ = some (.bool false) ∧ w'.cell? ⟨Q, 3, none⟩ = some (.bool false) ∧ w'.cell? ⟨Q, 4, none⟩ = some (.pointer none) ∧ w'.cell? ⟨Q, 5, none⟩ = some (.bool d)) (.h false [0, 1, 3, 4] (.e 2 true false (.e 5 true false (.q [6] (.line [7])))))
      (by kernel_rfl) (by kernel_rfl) (by intro _ _ d _ _ h; cases d <;> exact h) ?hS ?_
    case hS => (intro c; cases c <;> (simp only [World.cell?_drew]; first | exact True.intro | (refine ⟨?_, ?_⟩ <;> assumption) | assumption | (repeat (first | assumption | (refine And.intro ?_ ?_)))))
    simp only [Ux.wpPlan, Ux.pickOps, Ux.keeps, List.getElem?_toArray, List.getElem?_cons_succ, List.getElem?_cons_zero]
    repeat (first
      | go_big_quiet_step (fail)
      | (with_reducible refine wpQuiet_nil ?_)
      | (refine Ux.quiet_held rfl ?_; apply Exists.intro; refine ⟨fun w' hS => ?_, ?_⟩; (focus ((try dsimp only at hS); go_simp; first | done | with_reducible rfl)); simp only [Act.put, List.setIfInBounds_toArray, List.set_cons_zero, List.set_cons_succ]))
    clear c0 c1 c2 c3 c4 c5 c6 c7 c8 c9 c10 c11
    go_wp2_with (go_at_call 15; fail)
    refine (CA.out _ (Ux.Touch.refl (fun _ => False) w3).drew).mono ?_
    rintro e w4 ⟨X, hX, hXs, rfl, T4⟩
    have T34 := ((Ux.Touch.refl (fun _ => False) w3).drew).trans T4 (fun _ _ f => f)
    have hs4 := H3.out.1 w4 T34
    have HX := Lib.hid (And.intro hX (And.intro hXs T34))
    clear hX hXs T4 T34
    obtain ⟨VA, hVA⟩ : ∃ VA : ByteArray, (⟨(Ux.turnIf d X.data.toList).toArray⟩ : ByteArray) = VA := ⟨_, rfl⟩
    rw [hVA]
    have HVA := Lib.hid hVA
    clear hVA
    go_wp2_with (fail)
    refine ⟨hs4, ?_⟩
    clear hs4
    repeat (first
      | go_big_quiet_step (fail)
      | (with_reducible refine wpQuiet_nil ?_)
      | (refine Ux.quiet_held rfl ?_; apply Exists.intro; refine ⟨fun w' hS => ?_, ?_⟩; (focus ((try dsimp only at hS); go_simp; first | done | with_reducible rfl)); simp only [Act.put, List.setIfInBounds_toArray, List.set_cons_zero, List.set_cons_succ]))
    go_wp2_with (go_at_call 15; fail)
    refine (CB.out _ HX.out.2.2).mono ?_
    rintro e w5 ⟨Y, hY, hYs, rfl, T5⟩
    have T35 := HX.out.2.2.trans T5 (fun _ _ f => f)
    have hs5 := H3.out.1 w5 T35
    have HY := Lib.hid (And.intro hY (And.intro hYs T35))
    clear hY hYs T5 T35
    obtain ⟨VB, hVB⟩ : ∃ VB : ByteArray, (⟨(Ux.turnIf d Y.data.toList).toArray⟩ : ByteArray) = VB := ⟨_, rfl⟩
    rw [hVB]
    have HVB := Lib.hid hVB
    clear hVB
    go_wp2_with (fail)
    refine ⟨hs5, ?_⟩
    clear hs5
    repeat (first
      | go_big_quiet_step (fail)
      | (with_reducible refine wpQuiet_nil ?_)
      | (refine Ux.quiet_held rfl ?_; apply Exists.intro; refine ⟨fun w' hS => ?_, ?_⟩; (focus ((try dsimp only at hS); go_simp; first | done | with_reducible rfl)); simp only [Act.put, List.setIfInBounds_toArray, List.set_cons_zero, List.set_cons_succ]))
    obtain ⟨va, hva⟩ : ∃ va, VA.size = va := ⟨_, rfl⟩
    obtain ⟨vb, hvb⟩ : ∃ vb, VB.size = vb := ⟨_, rfl⟩
    have lA : VA.data.toList = Ux.turnIf d X.data.toList := by rw [← HVA.out]
    have lB : VB.data.toList = Ux.turnIf d Y.data.toList := by rw [← HVB.out]
    have zA : (Ux.turnIf d X.data.toList).length = va := by rw [← lA, ← hva]; simp
    have zB : (Ux.turnIf d Y.data.toList).length = vb := by rw [← lB, ← hvb]; simp
    have yA : va ≤ 1000000 := by rw [← zA, Ux.turnIf_length]; have := HX.out.2.1; simpa using this
    have yB : vb ≤ 1000000 := by rw [← zB, Ux.turnIf_length]; have := HY.out.2.1; simpa using this
    have c13 : ∀ w', Calls Tryd.prog 13 #[.string (VA ++ more), .bool d] w' fun e w'' => e = .returned (.tuple #[.int .i64 va, .int .i64 0]) ∧ Ux.Touch (fun _ => False) w' w'' := fun w' => by
      have h := take13 (VA ++ more) d w' (by rw [ByteArray.size_append]; omega)
      have h2 : (VA ++ more).data.toList = Ux.turnIf d X.data.toList ++ more.data.toList := by rw [← lA]; simp
      rw [h2, Ux.take_val HX.out.1 d, zA] at h
      exact h
    have hend : VA.data.toList <+: VB.data.toList → VA = VB := fun h => by
      rw [lA, lB] at h
      have h2 := Ux.no_begin_turned HX.out.1 HY.out.1 d h
      rw [← lA, ← lB] at h2
      exact ByteArray.ext (by rw [← Array.toList_inj]; exact h2)
    have C13 := Lib.hid c13
    have HE := Lib.hid (And.intro hend (And.intro yA yB))
    have q : ¬ 9223372036854775807 < va + ms := by omega
    have i0 : (va : Int) ≤ 1000000 := by omega
    have i1 : (vb : Int) ≤ 1000000 := by omega
    clear c13 hend yA yB lA lB zA zB
    go_wp2_with (go_at_call 13; fail)
    refine (C13.out _).mono ?_
    rintro e w6 ⟨rfl, T6⟩
    have TW6 := H3.out.2.trans (HY.out.2.2.trans T6 (fun _ _ f => f)) (fun _ _ f => f)
    have H6 := Lib.hid TW6
    clear T6 TW6 q
    go_upto_region 10 with (fail)
    have HF : Hid (VA.toList = (VB.extract 0 va).toList → VA.toList = VB.toList) := Lib.hid fun h => congrArg ByteArray.toList (HE.out.1 (by
      rw [Lib.toList_data, Lib.toList_data] at h
      rw [h]
      have : (VB.extract 0 va).data.toList = VB.data.toList.take va := by simp
      rw [this]
      exact List.take_prefix _ _))
    by_cases hlt : va > vb
    · have p0 : (va : Int) > vb := by omega
      clear hlt
      go_wp2_with (go_at_call 8; refine (AW.out _).mono ?_; rintro e w7 ⟨rfl, ht7⟩)
      go_ret
      exact ⟨rfl, H6.out.trans ht7 (fun _ _ f => f)⟩
    · have p0 : ¬ ((va : Int) > vb) := by omega
      go_wp2_with (go_at_call 8; refine (AW.out _).mono ?_; rintro e w7 ⟨rfl, ht7⟩)
      all_goals first
        | (go_ret; exact ⟨rfl, H6.out.trans ht7 (fun _ _ f => f)⟩)
        | (exfalso; have e1 : VA.toList = (VB.extract 0 va).toList := ‹_›; have e2 := HF.out e1; rw [e1] at e2; simp_all)

end Go.Proofs.YtlibbngcdeblmaaDoor
