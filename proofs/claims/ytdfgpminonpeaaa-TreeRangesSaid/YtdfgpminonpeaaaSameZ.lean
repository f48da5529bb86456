/- PART OF THE PROOF THAT THIS CLAIM HOLDS OF THE GIVEN PROGRAM, FOR EVERY INPUT THAT THE STATEMENT NAMES. No condition besides the statement's own. -/
import Derived.Test.YtdfgpminonpeaaaRngbZ
import Derived.Test.YtdfgpminonpeaaaRows
import Derived.WalkKit
import Derived.Handy
import Derived.Laws.EntriesVeiled
import Derived.WalkSpells
import Derived.WalkLawsBesides
import Derived.BigQuiet
import Derived.Deep.QuietTactic
import Derived.Deep.Cut
import Derived.Deep.DeepCutAuto
import Derived.Lib.Overlaps
import Derived.Laws.Externs
import Derived.Lib.Hide
import Derived.Test.YtdfgpminonpeaaaUxPlanAllZ
import Derived.Test.YtdfgpminonpeaaaUxTreeAllZ
import Derived.Deep.LoopGhost
namespace Go.Proofs.Ytdfgpminonpeaaa
open Go.RowKit
-- imports: YtdfgpminonpeaaaRngb
open Ux (slt lb has Rises keys ins del seekN)
attribute [local go_sem] Oper.semAt_some

theorem want_all (l : List (ByteArray × Int)) (hi : ByteArray) : Ux.wantOf l ⟨#[]⟩ hi true = l := by
  unfold Ux.wantOf
  rw [Ux.lb_empty, List.drop_zero]
  induction l with
  | nil => rfl
  | cons a l ih => rw [List.takeWhile_cons]; simp only [Ux.fits, Bool.true_or, if_true]; congr 1

theorem calls_marks {f : FuncId} {fn : Func} {c : Code} {args : Array Value} {w : World} {R : Ending → World → Prop} (hf : Try.prog.funcs[f]? = some fn) (hb : fn.body = some c)
    (h : c.wp Try.prog (bodyPostM Fence.wide 6 Try.prog fn R) { tmps := args ++ Array.replicate (fn.ntmps - args.size) undef, defers := [] } w) : Calls Try.prog f args w R :=
  (callsIn_wide (n := 6)).1 (callsIn_of_wp_marks hf hb trivial (wpIn_wide.2 h) rfl)

/-- where nothing panics -/
def Calm (Q : Exit → Act → World → Prop) : Exit → Act → World → Prop
  | .panic _, _, _ => False
  | e, a, w => Q e a w
theorem wp_calm {c : Code} {K : Act → World → Prop} {Q : Exit → Act → World → Prop} {a : Act} {w : World} (h : c.wp Try.prog (Exit.then K (Calm Q)) a w) : c.wp Try.prog (Exit.then K Q) a w :=
  wp_mono h fun e a w h => by cases e <;> first | exact h | exact h.elim

theorem neq_nil (c : Array Value) (w : World) : (binOp .eql 54 (.func (.func 43) #[] c) .nilFunc).run Try.prog w = .ok (.bool false) w := by kernel_rfl

theorem wp_calm2 {c : Code} {Q : Exit → Act → World → Prop} {a : Act} {w : World} (h : c.wp Try.prog (Calm Q) a w) : c.wp Try.prog Q a w :=
  wp_mono h fun e a w h => by cases e <;> first | exact h | exact h.elim

/-- what a round of 'same' leaves -/
def SameI (bn bo : Nat) (w4 : World) (pre : List (ByteArray × Int)) (W : World) : Prop :=
  W.heap[bn]? = some (.cells #[.int .i64 pre.length] 3 (0, 0)) ∧ W.heap[bo]? = some (.cells #[.bool true] 4 (0, 0)) ∧ Ux.Touch (fun b => b = bn ∨ b = bo ∨ w4.heap.size ≤ b) w4 W

set_option maxHeartbeats 4000000 in
set_option maxRecDepth 100000 in
theorem same26 {w : World} {tb F N : Nat} {l : List (ByteArray × Int)} {v : Value} (hT : HasTree w tb F l N) (hP : PairsAt w v l) (hL : l.length ≤ 1000) :
    Calls Try.prog 26 #[.pointer (some ⟨tb, 0, none⟩), v] w fun e w' => e = .returned (.bool true) ∧ Ux.Touch (fun _ => False) w w' := by
  obtain ⟨lv, lc, rfl, _⟩ := hP.cells
  have HTB := hT.bound
  have T1 : Ux.Touch (fun _ => False) w (w.alloc (.cells #[.slice lv l.length lc] 46)) := (Ux.Touch.refl _ w).alloc _
  have H0 := Lib.hid (And.intro HTB (And.intro hP T1))
  have hbox := heap_alloc_new w (.cells #[.slice lv l.length lc] 46)
  have RNG := range27 (w.alloc (.cells #[.slice lv l.length lc] 46)) tb ⟨#[]⟩ ⟨#[]⟩ true
  rw [World.size_alloc] at RNG
  have HRNG := Lib.hid RNG
  clear RNG
  have HBOX := Lib.hid hbox
  clear HTB T1 hbox hT hP
  refine calls_marks Try.func26 rfl ?_
  simp only [Try.ntmps26, List.size_toArray, List.length_cons, List.length_nil, Nat.reduceAdd, Nat.reduceSub, Array.replicate_succ, Array.replicate_zero, List.push_toArray, List.append_toArray, List.nil_append, List.cons_append]
  go_wp2_with (go_at_call 27; fail)
  refine HRNG.out.mono ?_
  rintro e w2 ⟨rfl, E2, T2, hs2⟩
  obtain ⟨B, hB⟩ : ∃ B, w.heap.size = B := ⟨_, rfl⟩
  rw [hB] at E2 hs2 H0 HBOX
  rw [hB]
  have TB2 := H0.out.2.2.trans T2 (fun _ _ f => f)
  have hbox2 := T2.heap HBOX.out (fun f => f)
  have cbox : w2.cell? ⟨B, 0, none⟩ = some (.slice lv l.length lc) := by rw [cell_of_row w2 B 0 _ 46 (0, 0) hbox2]; rfl
  have hT2 := H0.out.1.touch TB2 (fun _ _ f => f)
  have HLEN := Lib.hid (lenL (hT2.tree.still (Ux.Touch.refl (fun _ => False) w2).drew))
  have HCHK := Lib.hid (checkL (hT2.tree.still (Ux.Touch.refl (fun _ => False) w2).drew) (by omega))
  have H2 := Lib.hid (And.intro E2 (And.intro TB2 (And.intro hs2 (And.intro hbox2 hT2))))
  have HNB := Lib.hid hB
  clear E2 T2 hs2 TB2 hbox2 hT2 hB HRNG HBOX
  go_wp2_with (fail)
  have hnn := neq_nil
  refine wp_calm ?_
  refine Ux.wp_region_plan (fun _ w' => w'.cell? ⟨B, 0, none⟩ = some (.slice lv l.length lc)) (.q [0, 1, 2, 3] (.h false [5] (.q [6] (.e 4 true false (.q [7, 8, 9, 10] (.e 11 true false (.q [12, 13, 14, 15] (.h false [18] (.q [19, 20] (.e 16 true false (.q [17, 21, 22] (.line []))))))))))))
    (by kernel_rfl) (by kernel_rfl) (by intro _ _ d _ _ h; cases d <;> exact h) ?hS ?_
  case hS => (intro c; cases c <;> (simp only [World.cell?_drew]; first | exact True.intro | (refine ⟨?_, ?_⟩ <;> assumption) | assumption | (repeat (first | assumption | (refine And.intro ?_ ?_)))))
  simp only [Ux.wpPlan, Ux.pickOps, Ux.keeps, List.getElem?_toArray, List.getElem?_cons_succ, List.getElem?_cons_zero]
  repeat (first
    | go_big_quiet_step (fail)
    | (with_reducible refine wpQuiet_nil ?_)
    | (refine Ux.quiet_held rfl ?_; apply Exists.intro; refine ⟨fun w' hS => ?_, ?_⟩; (focus ((try dsimp only at hS); go_simp; first | done | with_reducible rfl)); simp only [Act.put, List.setIfInBounds_toArray, List.set_cons_zero, List.set_cons_succ]))
  go_wp2_with (go_at_call 15; refine HLEN.out.mono ?_; rintro e w' ⟨rfl, rfl⟩)
  refine ⟨cbox, ?_⟩
  repeat (first
    | go_big_quiet_step (fail)
    | (with_reducible refine wpQuiet_nil ?_)
    | (refine Ux.quiet_held rfl ?_; apply Exists.intro; refine ⟨fun w' hS => ?_, ?_⟩; (focus ((try dsimp only at hS); go_simp; first | done | with_reducible rfl)); simp only [Act.put, List.setIfInBounds_toArray, List.set_cons_zero, List.set_cons_succ]))
  go_wp2_with (go_at_call 22; fail)
  refine HCHK.out.mono ?_
  rintro e w3 ⟨rfl, T3⟩
  have cb3 := T3.cell (a := ⟨B, 0, none⟩) cbox (fun f => f)
  have T23 := ((Ux.Touch.refl (fun _ => False) w2).drew).trans T3 (fun _ _ f => f)
  have HDEP := Lib.hid (depthL (H2.out.2.2.2.2.tree.still T23) (by omega))
  have HT3 := Lib.hid T23
  clear T3 T23 cbox HLEN HCHK
  go_wp2_with (fail)
  refine ⟨cb3, ?_⟩
  repeat (first
    | go_big_quiet_step (fail)
    | (with_reducible refine wpQuiet_nil ?_)
    | (refine Ux.quiet_held rfl ?_; apply Exists.intro; refine ⟨fun w' hS => ?_, ?_⟩; (focus ((try dsimp only at hS); go_simp; first | done | with_reducible rfl)); simp only [Act.put, List.setIfInBounds_toArray, List.set_cons_zero, List.set_cons_succ]))
  go_wp2_with (go_at_call 24; fail)
  refine HDEP.out.mono ?_
  rintro e w' ⟨⟨d, rfl, hd0, hd1⟩, rfl⟩
  obtain ⟨b, hb1, hb2, hb3⟩ : ∃ b, ((d : Int) == 0) = b ∧ ((l.length : Int) == 0) = b ∧ (l.length == 0) = b := by
    by_cases e : l = []
    · exact ⟨true, by rw [hd0 e]; rfl, by rw [e]; rfl, by rw [e]; rfl⟩
    · refine ⟨false, ?_, ?_, ?_⟩
      · rw [beq_eq_false_iff_ne]; have := (hd1 e).1; omega
      · rw [beq_eq_false_iff_ne]; have := List.length_pos_iff.2 e; omega
      · rw [beq_eq_false_iff_ne]; have := List.length_pos_iff.2 e; omega
  clear hd0 hd1 HDEP
  go_wp2_with (fail)
  refine ⟨cb3, ?_⟩
  repeat (first
    | go_big_quiet_step (fail)
    | (with_reducible refine wpQuiet_nil ?_)
    | (refine Ux.quiet_held rfl ?_; apply Exists.intro; refine ⟨fun w' hS => ?_, ?_⟩; (focus ((try dsimp only at hS); go_simp; first | done | with_reducible rfl)); simp only [Act.put, List.setIfInBounds_toArray, List.set_cons_zero, List.set_cons_succ]))
  go_wp2_with (fail)
  clear hb1 hb2 hb3 hnn cb3
  obtain ⟨w4, hw4⟩ : ∃ w4, (w3.alloc (.cells #[.int .i64 0] 3)).alloc (.cells #[.bool true] 4) = w4 := ⟨_, rfl⟩
  obtain ⟨bn, hbn⟩ : ∃ bn, w3.heap.size = bn := ⟨_, rfl⟩
  have T34 : Ux.Touch (fun _ => False) w3 w4 := by rw [← hw4]; exact ((Ux.Touch.refl _ w3).alloc _).alloc _
  have hn4 : w4.heap[bn]? = some (.cells #[.int .i64 0] 3 (0, 0)) := by rw [← hw4, ← hbn]; exact ((Ux.Touch.refl (fun _ => False) _).alloc _).heap (heap_alloc_new w3 _) (fun f => f)
  have ho4 : w4.heap[bn + 1]? = some (.cells #[.bool true] 4 (0, 0)) := by rw [← hw4, ← hbn]; have := heap_alloc_new (w3.alloc (.cells #[.int .i64 0] 3)) (.cells #[.bool true] 4); rwa [World.size_alloc] at this
  have hs4 : w4.heap.size = bn + 2 := by rw [← hw4, ← hbn]; simp
  rw [hw4, hbn]
  have T24 := HT3.out.trans T34 (fun _ _ f => f)
  have hsz : B + 5 ≤ bn := by have := H2.out.2.2.1; have := HT3.out.size; omega
  have TW4 := H2.out.2.1.trans T24 (fun _ _ f => f)
  have hb4 := T24.heap H2.out.2.2.2.1 (fun f => f)
  have hp4 := H0.out.2.1.touch TW4 (fun _ _ f => f)
  have E4 : RngEnv w4 (B + 1) (B + 1 + 1) (B + 1 + 1 + 1 + 1) (B + 1 + 1 + 1) tb ⟨#[]⟩ ⟨#[]⟩ true := ⟨T24.cell H2.out.1.t (fun f => f), T24.cell H2.out.1.lo (fun f => f), T24.cell H2.out.1.op (fun f => f), T24.cell H2.out.1.hi (fun f => f)⟩
  have hT4 := H2.out.2.2.2.2.touch T24 (fun _ _ f => f)
  have H4 := Lib.hid (And.intro hn4 (And.intro ho4 (And.intro hs4 (And.intro hb4 (And.intro hp4 (And.intro TW4 (And.intro hsz HNB.out)))))))
  clear T34 hn4 ho4 T24 TW4 hb4 hp4 hw4 hbn HT3
  refine' wp_range (L := l) (op := true) rfl E4 hT4 (by omega) (by omega) rfl (fun b => b = bn ∨ b = bn + 1) ?cc (SameI bn (bn + 1) w4) (fun _ _ _ => False) ?hI ?hIx ?h0 _ ?assign ?body ?done ?stop
  case cc => intro b hb; omega
  case hI => exact fun pre W W' ⟨h1, h2, h3⟩ T => ⟨T.heap h1 (by omega), T.heap h2 (by omega), h3.trans T (fun b _ h => .inr (.inr h))⟩
  case hIx => exact fun _ _ _ _ h _ => h
  case h0 => exact ⟨H4.out.1, H4.out.2.1, Ux.Touch.refl _ _⟩
  case assign =>
    intro l' x W K hK
    gi_wp2
    exact hK
  case stop => exact fun _ _ _ _ _ h _ _ => h.elim
  case body =>
    intro l' j x W hx hI
    rw [want_all] at hx hI ⊢
    obtain ⟨h1, h2, T⟩ := hI
    have hjl : j < l.length := (List.getElem?_eq_some_iff.1 hx).1
    have hlen : (l.take j).length = j := by simp; omega
    rw [hlen] at h1
    have hB : ¬ (B = bn ∨ B = bn + 1 ∨ w4.heap.size ≤ B) := by have := H4.out.2.2.2.2.2.2.1; have := H4.out.2.2.1; omega
    have cb : W.cell? ⟨B, 0, none⟩ = some (.slice lv l.length lc) := by rw [cell_of_row W B 0 _ 46 (0, 0) (T.heap H4.out.2.2.2.1 hB)]; rfl
    have hpW := H4.out.2.2.2.2.1.touch T (fun b hb hR => by have := H0.out.2.1.lt b hb; have := H4.out.2.2.2.2.2.2.1; have := H4.out.2.2.2.2.2.2.2; have := H4.out.2.2.1; omega)
    obtain ⟨g, rfl, c0, c1⟩ := hpW.cell hx
    have cn : W.cell? ⟨bn, 0, none⟩ = some (.int .i64 j) := by rw [cell_of_row W bn 0 _ 3 (0, 0) h1]; rfl
    have co : W.cell? ⟨bn + 1, 0, none⟩ = some (.bool true) := by rw [cell_of_row W (bn + 1) 0 _ 4 (0, 0) h2]; rfl
    have fn : W.frozen? ⟨bn, 0, none⟩ = false := frozen_of_row W bn 0 _ 3 h1
    have fo : W.frozen? ⟨bn + 1, 0, none⟩ = false := frozen_of_row W (bn + 1) 0 _ 4 h2
    have HI := Lib.hid (And.intro h1 (And.intro h2 (And.intro T hjl)))
    have j0 : (j : Int) < l.length := by omega
    have j1 : (l.length : Int) ≤ 1000 := by omega
    have j2 : (0 : Int) ≤ j := by omega
    clear h1 h2 T hjl hlen hpW hB hx
    gi_wp2
    have hl1 : ((l.take (j + 1)).length : Int) = (j : Int) + 1 := by have := HI.out.2.2.2; simp; omega
    have T1 : Ux.Touch (fun b => b = bn ∨ b = bn + 1) W ((W.setCell ⟨bn + 1, 0, none⟩ (.bool true)).setCell ⟨bn, 0, none⟩ (.int .i64 ((j : Int) + 1))) := ((Ux.Touch.refl _ W).setCell (p := ⟨bn + 1, 0, none⟩) (fun _ => .inr rfl) _).setCell (p := ⟨bn, 0, none⟩) (fun _ => .inl rfl) _
    refine ⟨T1, ?_, ?_, HI.out.2.2.1.trans T1 (fun b _ h => h.elim .inl (fun h => .inr (.inl h)))⟩
    · rw [hl1]
      exact heap_setCell_same _ bn 0 _ 3 (.int .i64 ((j : Int) + 1)) ((heap_setCell_other W ⟨bn + 1, 0, none⟩ bn (.bool true) (by simp)).trans HI.out.1)
    · refine (heap_setCell_other _ ⟨bn, 0, none⟩ (bn + 1) _ (by simp)).trans ?_
      exact heap_setCell_same W (bn + 1) 0 _ 4 (.bool true) HI.out.2.1
  case done =>
    intro D W hI hD hDs
    rw [want_all] at hI
    obtain ⟨h1, h2, T⟩ := hI
    have hB : ¬ (B = bn ∨ B = bn + 1 ∨ w4.heap.size ≤ B) := by have := H4.out.2.2.2.2.2.2.1; have := H4.out.2.2.1; omega
    have cb : W.cell? ⟨B, 0, none⟩ = some (.slice lv l.length lc) := by rw [cell_of_row W B 0 _ 46 (0, 0) (T.heap H4.out.2.2.2.1 hB)]; rfl
    have cn : W.cell? ⟨bn, 0, none⟩ = some (.int .i64 l.length) := by rw [cell_of_row W bn 0 _ 3 (0, 0) h1]; rfl
    have co : W.cell? ⟨bn + 1, 0, none⟩ = some (.bool true) := by rw [cell_of_row W (bn + 1) 0 _ 4 (0, 0) h2]; rfl
    have HI := Lib.hid (And.intro T (And.intro hD hDs))
    clear h1 h2 T hB hD hDs
    go_wp2
    refine ⟨by simp, .inl ⟨_, _, rfl, run_takeDeferred HI.out.2.1, ?_⟩⟩
    refine ⟨_, results_tmp rfl _ _ _, rfl, ?_⟩
    have h8 := H4.out.2.2.2.2.2.2.2
    have h7 := H4.out.2.2.2.2.2.2.1
    have h3 := H4.out.2.2.1
    have T5 : Ux.Touch (fun _ => False) w W := (H4.out.2.2.2.2.2.1.trans HI.out.1 (fun b hb h => by omega))
    exact (T5.mono (fun _ _ f => f.elim) : Ux.Touch (fun b => w.heap.size ≤ b) w W) |> fun T => (touch_putObj T D (by have := HI.out.2.2; omega) _).mono (fun b hb h => by omega)

end Go.Proofs.Ytdfgpminonpeaaa
