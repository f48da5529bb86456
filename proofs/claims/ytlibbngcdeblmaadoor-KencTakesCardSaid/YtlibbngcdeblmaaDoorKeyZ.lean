/- PART OF THE PROOF THAT THIS CLAIM HOLDS OF THE GIVEN PROGRAM, FOR EVERY INPUT THAT THE STATEMENT NAMES. No condition besides the statement's own. -/
import Derived.Test.YtlibbngcdeblmaaDoorIterZ
import Derived.Test.YtlibbngcdeblmaaDoorRows
import Derived.WalkKit
import Derived.Handy
import Derived.Laws.EntriesVeiled
import Derived.WalkSpells
import Derived.WalkLawsBesides
import Derived.BigQuiet
import Derived.Deep.QuietTactic
import Derived.Deep.Cut
import Derived.Deep.DeepCutAuto
import Derived.Lib.Overlaps
import Derived.Laws.Externs
import Derived.Lib.Hide
import Derived.Test.YtlibbngcdeblmaaDoorUxPlanAllZ
import Derived.Test.YtlibbngcdeblmaaDoorUxTreeAllZ
import Derived.Deep.LoopGhost
namespace Go.Proofs.YtlibbngcdeblmaaDoor
open Go.RowKit
-- imports: YtlibbngcdeblmaaDoorIter
open Go.RowKit
attribute [local go_sem] Oper.semAt_some

set_option maxHeartbeats 4000000 in
theorem stream31 (s : ByteArray) (w : World) : Calls Tryd.prog 31 #[.agg coll0, .string s] w fun e w' =>
    e = .returned (.func (.func 38) #[] #[.pointer (some ⟨w.heap.size, 0, none⟩), .pointer (some ⟨w.heap.size + 1, 0, none⟩)]) ∧ w' = (w.alloc (.cells coll0 41)).alloc (.cells #[.string s] 9) := by
  unfold coll0
  go_enter Tryd.func31, Tryd.ntmps31
  go_wp2
  go_returns
  exact ⟨rfl, rfl⟩

theorem calls_marks {f : FuncId} {fn : Func} {c : Code} {args : Array Value} {w : World} {R : Ending → World → Prop} (hf : Tryd.prog.funcs[f]? = some fn) (hb : fn.body = some c)
    (h : c.wp Tryd.prog (bodyPostM Fence.wide 6 Tryd.prog fn R) { tmps := args ++ Array.replicate (fn.ntmps - args.size) undef, defers := [] } w) : Calls Tryd.prog f args w R :=
  (callsIn_wide (n := 6)).1 (callsIn_of_wp_marks hf hb trivial (wpIn_wide.2 h) rfl)

/-- the bytes gathered so far -/
def KeyI (bt : Nat) (w4 : World) (pre : List UInt8) (W : World) : Prop :=
  ∃ v xs, W.heap[bt]? = some (.cells #[v] 52 (0, 0)) ∧ W.ownsRow 0 5 1 v xs.length (bv xs) ∧ xs.length = pre.length ∧ (∀ b, v.ownBlock = some b → w4.heap.size + 2 ≤ b) ∧ Ux.Touch (fun b => b = bt) w4 W

set_option maxHeartbeats 4000000 in
set_option maxRecDepth 100000 in
theorem key25 (s : ByteArray) (w : World) (hs : s.size ≤ 100000) : Calls Tryd.prog 25 #[.agg coll0, .string s] w fun e w' => ∃ t : ByteArray, e = .returned (.string t) ∧ t.size ≤ s.size ∧ Ux.Touch (fun _ => False) w w' := by
  have c31 := Lib.hid (stream31 s)
  unfold coll0
  unfold coll0 at c31
  have HS := Lib.hid hs
  clear hs
  refine calls_marks Tryd.func25 rfl ?_
  simp only [Tryd.ntmps25, List.size_toArray, List.length_cons, List.length_nil, Nat.reduceAdd, Nat.reduceSub, Array.replicate_succ, Array.replicate_zero, List.push_toArray, List.append_toArray, List.nil_append, List.cons_append]
  go_wp2_with (go_at_call 31; fail)
  refine (c31.out _).mono ?_
  rintro e w4 ⟨rfl, hw4⟩
  rw [show ((w.alloc (.cells #[.int .i64 0, .int .i64 0, .bool false, .bool false, .pointer none] 41)).alloc (.cells #[.slice none 0 0] 52)).heap.size = w.heap.size + 2 by simp]
  obtain ⟨B, hB⟩ : ∃ B, w.heap.size = B := ⟨_, rfl⟩
  have hs4 : w4.heap.size = B + 4 := by rw [hw4, ← hB]; simp
  have T4 : Ux.Touch (fun _ => False) w w4 := by rw [hw4]; exact ((((Ux.Touch.refl _ w).alloc _).alloc _).alloc _).alloc _
  have ht4 : w4.heap[B + 1]? = some (.cells #[.slice none 0 0] 52 (0, 0)) := by
    rw [hw4, ← hB]
    have := heap_alloc_new (w.alloc (.cells #[.int .i64 0, .int .i64 0, .bool false, .bool false, .pointer none] 41)) (.cells #[.slice none 0 0] 52)
    rw [World.size_alloc] at this
    exact (((Ux.Touch.refl (fun _ => False) _).alloc _).alloc _).heap this (fun f => f)
  have hc4 : w4.heap[B + 2]? = some (.cells #[.int .i64 0, .int .i64 0, .bool false, .bool false, .pointer none] 41 (0, 0)) := by
    rw [hw4, ← hB]
    have := heap_alloc_new ((w.alloc (.cells #[.int .i64 0, .int .i64 0, .bool false, .bool false, .pointer none] 41)).alloc (.cells #[.slice none 0 0] 52)) (.cells #[.int .i64 0, .int .i64 0, .bool false, .bool false, .pointer none] 41)
    rw [World.size_alloc, World.size_alloc] at this
    exact ((Ux.Touch.refl (fun _ => False) _).alloc _).heap this (fun f => f)
  have he4 : w4.heap[B + 3]? = some (.cells #[.string s] 9 (0, 0)) := by
    rw [hw4, ← hB]
    have := heap_alloc_new (((w.alloc (.cells #[.int .i64 0, .int .i64 0, .bool false, .bool false, .pointer none] 41)).alloc (.cells #[.slice none 0 0] 52)).alloc (.cells #[.int .i64 0, .int .i64 0, .bool false, .bool false, .pointer none] 41)) (.cells #[.string s] 9)
    rw [World.size_alloc, World.size_alloc, World.size_alloc] at this
    exact this
  rw [hB]
  have H4 := Lib.hid (And.intro hs4 (And.intro T4 (And.intro ht4 (And.intro hc4 (And.intro he4 hB)))))
  clear hs4 T4 ht4 hc4 he4 hw4 hB
  go_wp2_with (fail)
  refine' Ux.wp_rangeB (gf := 38) (enc := encB) (want := s.data.toList) rfl Tryd.func38 rfl rfl (fun _ => rfl) (fun b => b = B + 1 ∨ w4.heap.size + 2 ≤ b) (fun _ => False) ?cc (fun _ h => h.elim) ?hit (KeyI (B + 1) w4) (fun _ _ _ => False) ?hI ?hIx ?h0 _ ?assign ?body ?done ?stop
  case cc => intro b hb; have := H4.out.1; omega
  case hit =>
    intro l C W1 J Jx hl hC hs1 T1 hR hJ
    exact iter38 l s HS.out C _ J Jx W1 (B + 1 + 1) (B + 1 + 1 + 1) hR (fun h => by have := hC _ h; have := H4.out.1; omega) (fun h => by have := hC _ h; have := H4.out.1; omega) (T1.heap H4.out.2.2.2.1 (fun f => f)) (T1.heap H4.out.2.2.2.2.1 (fun f => f)) hJ
  case hI =>
    rintro pre W W' ⟨v, xs, h1, h2, h3, h4, h5⟩ T
    have := H4.out.1
    exact ⟨v, xs, T.heap h1 (fun h => h.elim (fun h => by omega) (fun h => h)), Ux.own_touch h2 T (fun b hb h => h.elim (fun h => by have := h4 b hb; omega) (fun h => h)), h3, h4, h5.trans T (fun b hb h => h.elim (fun h => by omega) (fun h => h.elim))⟩
  case hIx => exact fun _ _ _ _ h _ => h
  case h0 => exact ⟨.slice none 0 0, [], H4.out.2.2.1, World.ownsRow_nil _ 0 5 1, rfl, (fun b h => by cases h), Ux.Touch.refl _ _⟩
  case assign =>
    intro l' x W K hK
    unfold encB
    gi_wp2
    exact hK
  case stop => exact fun _ _ _ _ _ h _ _ => h.elim
  case body =>
    intro l' j x W hx hI hW2
    obtain ⟨v, xs, h1, h2, h3, h4, h5⟩ := hI
    have hjl : j < s.data.toList.length := (List.getElem?_eq_some_iff.1 hx).1
    have hlen : (s.data.toList.take j).length = j := by rw [List.length_take]; omega
    have hlen2 : (s.data.toList.take (j + 1)).length = j + 1 := by rw [List.length_take]; omega
    have hss : s.data.toList.length = s.size := by simp
    rw [hlen] at h3
    have cb : W.cell? ⟨B + 1, 0, none⟩ = some v := by rw [cell_of_row W (B + 1) 0 _ 52 (0, 0) h1]; rfl
    have fb : W.frozen? ⟨B + 1, 0, none⟩ = false := frozen_of_row W (B + 1) 0 _ 52 h1
    obtain ⟨r2, w2, run2, row2, t2, own2⟩ := app52one v xs W h2 (by have := HS.out; omega) x
    obtain ⟨a4, c4, hs4⟩ := bytes_slice row2
    have hk4 : (xs ++ [x]).length = j + 1 := by rw [List.length_append]; simp [h3]
    rw [hk4] at hs4
    subst hs4
    have hne : ∀ b, v.ownBlock = some b → b ≠ B + 1 := fun b hb => by have := h4 b hb; have := H4.out.1; omega
    have c2 := t2.cell cb (fun h => hne _ h rfl)
    have g2 := t2.heap h1 (fun h => hne _ h rfl)
    have f2 : w2.frozen? ⟨B + 1, 0, none⟩ = false := frozen_of_row w2 (B + 1) 0 _ 52 g2
    have own3 : ∀ b, (Value.slice a4 (j + 1 : Nat) c4).ownBlock = some b → w4.heap.size + 2 ≤ b := fun b hb => by
      rcases own2 with h | ⟨g, h, h'⟩
      · exact h4 b (by rw [← h]; exact hb)
      · rw [h] at hb; cases hb; omega
    have T3 : Ux.Touch (fun b => v.ownBlock = some b ∨ b = B + 1) W (w2.setCell ⟨B + 1, 0, none⟩ (.slice a4 (j + 1 : Nat) c4)) := (t2.mono (fun b _ h => .inl h) : Ux.Touch (fun b => v.ownBlock = some b ∨ b = B + 1) W w2).setCell (p := ⟨B + 1, 0, none⟩) (fun _ => .inr rfl) _
    have hfin : Ux.Touch (fun b => b = B + 1 ∨ w4.heap.size + 2 ≤ b) W (w2.setCell ⟨B + 1, 0, none⟩ (.slice a4 (j + 1 : Nat) c4)) ∧ KeyI (B + 1) w4 (s.data.toList.take (j + 1)) (w2.setCell ⟨B + 1, 0, none⟩ (.slice a4 (j + 1 : Nat) c4)) := by
      refine ⟨T3.mono (fun b _ h => h.elim (fun h => .inr (h4 b h)) .inl), _, xs ++ [x], heap_setCell_same w2 (B + 1) 0 _ 52 _ g2, ?_, by rw [hk4, hlen2], own3, h5.trans T3 (fun b hb h => h.elim (fun h => by have := h4 b h; omega) id)⟩
      exact Ux.own_touch row2 ((Ux.Touch.refl (fun b => b = B + 1) w2).setCell (p := ⟨B + 1, 0, none⟩) (fun _ => rfl) _) (fun b hb h => by have := own3 b hb; have := H4.out.1; omega)
    have HF := Lib.hid hfin
    have R2 := Lib.hid run2
    clear hfin T3 run2 row2 t2 own2 own3 hne g2 h1 h2 h3 h4 h5 hx hlen hlen2 hss hk4
    gi_wp2_with (gi_at_builtin; refine Ux.wpListIn_app (v1 := v) (x1 := .slice (some ⟨W.heap.size, 0, none⟩) 1 1) rfl _ _ _ _ rfl rfl rfl (R2.out _) ?_)
    exact HF.out
  case done =>
    intro D W hI hD hDs
    obtain ⟨v, xs, h1, h2, h3, h4, h5⟩ := hI
    have cb : W.cell? ⟨B + 1, 0, none⟩ = some v := by rw [cell_of_row W (B + 1) 0 _ 52 (0, 0) h1]; rfl
    have hcv := conv52 h2
    have hss : s.data.toList.length = s.size := by simp
    have HI := Lib.hid (And.intro h5 (And.intro hD (And.intro hDs (And.intro h3 hss))))
    clear h1 h2 h3 h4 h5 hD hDs hss
    go_wp2
    refine ⟨by simp, .inl ⟨_, _, rfl, run_takeDeferred HI.out.2.1, ?_⟩⟩
    refine ⟨_, results_tmp rfl _ _ _, _, rfl, ?_, ?_⟩
    · show xs.toArray.size ≤ _
      have := HI.out.2.2.2.1
      have := HI.out.2.2.2.2
      simp only [List.size_toArray]
      omega
    · have h4s := H4.out.1
      have T5 : Ux.Touch (fun _ => False) w W := (H4.out.2.1.trans HI.out.1 (fun b hb h => by have := H4.out.2.2.2.2.2; omega))
      exact (T5.mono (fun _ _ f => f.elim) : Ux.Touch (fun b => w.heap.size ≤ b) w W) |> fun T => (Ux.touch_putObj T D (by have := HI.out.2.2.1; have := H4.out.2.2.2.2.2; omega) _).mono (fun b hb h => by omega)

end Go.Proofs.YtlibbngcdeblmaaDoor
