import Derived.Test.YtkeodddpnmnheaaGreatDoorTableAZ
import Derived.Test.YtkeodddpnmnheaaGreatDoorRows
import Derived.WalkKit
import Derived.Handy
import Derived.Laws.EntriesVeiled
import Derived.WalkSpells
import Derived.WalkLawsBesides
import Derived.BigQuiet
import Derived.Deep.QuietTactic
import Derived.Deep.Cut
import Derived.Deep.DeepCutAuto
import Derived.Lib.Overlaps
import Derived.Laws.Externs
import Derived.Lib.Hide
import Derived.Test.YtkeodddpnmnheaaGreatDoorUxPlanAllZ
import Derived.Test.YtkeodddpnmnheaaGreatDoorUxMemAZ
import Derived.Test.YtkeodddpnmnheaaGreatDoorUxCollAZ
import Derived.Deep.LoopGhost
import Derived.Test.YtkeodddpnmnheaaGreatDoorUxTabAZ
import Derived.Test.YtkeodddpnmnheaaGreatDoorSignAZ
import Derived.Test.YtkeodddpnmnheaaGreatDoorRroot2Z
import Derived.Test.YtkeodddpnmnheaaGreatDoorMapsAZ
import Derived.Test.YtkeodddpnmnheaaGreatDoorCollAZ
import Derived.Deep.MidRow
/- PART OF THE PROOF THAT THIS CLAIM HOLDS OF THE GIVEN PROGRAM, FOR EVERY INPUT THAT THE STATEMENT NAMES. No condition besides the statement's own. -/
namespace Go.Proofs.YtkeodddpnmnheaaGreatDoor
open Go.RowKit
open Go.RowKit
open Ux (Ent)

theorem cellIn {w : World} {b j : Nat} {cs : Array Value} {t : TypeId} {u : Value} (h : w.heap[b]? = some (.cells cs t (0, 0))) (hc : w.cell? ⟨b, j, none⟩ = some u) : u ∈ cs.toList := by
  rw [cell_of_row w b j _ _ (0, 0) h] at hc
  exact List.mem_of_getElem? (by rw [Array.getElem?_toList]; exact hc)
/-- a table stays when only blocks are written that hold no part of it -/
theorem TableAt.touchK {R : Nat → Prop} {w w' : World} {B mb : Nat} {E : List Ent} (h : TableAt w B mb E) (ht : Ux.Touch R w w')
    (hR : ∀ b, R b → ∃ cs t, w.heap[b]? = some (.cells cs t (0, 0)) ∧ t ≠ 119 ∧ t ≠ 160 ∧ ∀ u ∈ cs.toList, (∀ m, u ≠ .map m) ∧ ∀ z, u ≠ .int .i32 z) : TableAt w' B mb E := by
  obtain ⟨h1, t, ks, f, h2, ⟨bb, c, am, G, g1, g2, g3, g4, g5⟩, h4⟩ := h
  have nm : ∀ (b : Nat) (n : Nat) (F : Lit → Option Value) (k : TypeId), Ux.MapIs Tryz.prog k w b n F → ¬ R b := fun b n F k hm hb => by
    obtain ⟨cs, t, e, _, _⟩ := hR b hb
    obtain ⟨D, ⟨es, clock, h1, _⟩, _⟩ := hm
    rw [h1] at e
    cases e
  have nB : ¬ R B := fun hb => by
    obtain ⟨cs, t, e, _, h3, _⟩ := hR B hb
    rw [h2] at e
    cases e
    exact h3 rfl
  have nt : ¬ R t := fun hb => by
    obtain ⟨cs, t', e, _, _, hs⟩ := hR t hb
    exact (hs _ (cellIn e g2)).1 _ rfl
  refine ⟨h1.touch ht ?_ ?_, t, ks, f, ht.heap h2 nB, ⟨bb, c, am, G, ht.cell g1 nt, ht.cell g2 nt, fun j v hv => ht.cell (g3 j v hv) ?_, g4.touch ht (nm _ _ _ _ g4), g5⟩, h4⟩
  · obtain ⟨_, F, hm, _⟩ := h1
    exact nm _ _ _ _ hm
  · intro g cs hg hb
    obtain ⟨cs', t', e, hne, _⟩ := hR g hb
    rw [hg] at e
    cases e
    exact hne rfl
  · intro hb
    obtain ⟨cs, t', e, _, _, hs⟩ := hR bb hb
    have hm := List.mem_of_getElem? hv
    unfold blCells at hm
    obtain ⟨x, _, hx⟩ := List.mem_flatMap.1 hm
    obtain ⟨z, _, rfl⟩ := List.mem_map.1 hx
    exact (hs _ (cellIn e (g3 j _ hv))).2 z rfl

end Go.Proofs.YtkeodddpnmnheaaGreatDoor
namespace Go.Proofs.YtkeodddpnmnheaaGreatDoor
open Go.RowKit
open Go.RowKit
open Ux (Row iv sv Ent rootE rootT)
open Ux.Sign (cp raw signs)

set_option maxHeartbeats 4000000 in
theorem signEnd_ (q : Nat) (a : Option Addr) (c : Nat) (w : World) (h0 : w.cell? ⟨q, 0, none⟩ = some (.slice a 0 c)) (h2 : w.cell? ⟨q, 2, none⟩ = some (.int .i64 0)) :
    Calls Tryz.prog 112 #[.pointer (some ⟨q, 0, none⟩)] w fun e w' => e = .returned (.int .i64 (-1)) ∧ Ux.Touch (fun _ => False) w w' := by
  go_enter Tryz.func112, Tryz.ntmps112
  go_upto_region 1 with (fail)
  refine Ux.wp_region_plan (fun _ w' => w'.cell? ⟨q, 0, none⟩ = some (.slice a 0 c) ∧ w'.cell? ⟨q, 2, none⟩ = some (.int .i64 0)) (.q [0, 1, 2, 4, 5, 6] (.h false [3, 7] (.q [8, 9] (.line []))))
    (by kernel_rfl) (by kernel_rfl) (by intro _ _ d _ _ h; cases d <;> exact h) ?hS ?_
  case hS => (intro c; cases c <;> (simp only [World.cell?_drew]; first | exact True.intro | (refine ⟨?_, ?_⟩ <;> assumption) | assumption | (repeat (first | assumption | (refine And.intro ?_ ?_)))))
  simp only [Ux.wpPlan, Ux.pickOps, Ux.keeps, List.getElem?_toArray, List.getElem?_cons_succ, List.getElem?_cons_zero]
  repeat (first
    | go_big_quiet_step (fail)
    | (with_reducible refine wpQuiet_nil ?_)
    | (refine Ux.quiet_held rfl ?_; apply Exists.intro; refine ⟨fun w' hS => ?_, ?_⟩; (focus ((try dsimp only at hS); go_simp; first | done | with_reducible rfl)); simp only [Act.put, List.setIfInBounds_toArray, List.set_cons_zero, List.set_cons_succ]))
  go_wp2
  go_returns
  exact ⟨rfl, (Ux.Touch.refl _ w).drew⟩
set_option maxHeartbeats 4000000 in
theorem blankEnd_ (q : Nat) (a : Option Addr) (c : Nat) (w : World) (h0 : w.cell? ⟨q, 0, none⟩ = some (.slice a 0 c)) (h2 : w.cell? ⟨q, 2, none⟩ = some (.int .i64 0)) :
    Calls Tryz.prog 111 #[.pointer (some ⟨q, 0, none⟩)] w fun e w' => e = .returned (.tuple #[]) ∧ Ux.Touch (fun _ => False) w w' := by
  have HS := Lib.hid (signEnd_ q a c w h0 h2)
  clear h0 h2
  go_enter Tryz.func111, Tryz.ntmps111
  go_wp2_with (go_at_call 112; fail)
  refine HS.out.mono ?_
  rintro e w2 ⟨rfl, T2⟩
  have H2 := Lib.hid T2
  clear T2
  go_wp2_with (fail)
  refine wp_loop_rounds 2 ?_
  rw [rounds_succ]
  go_wp2
  go_returns
  exact ⟨rfl, H2.out⟩
theorem signs_nil : signs (⟨#[]⟩ : ByteArray).data.toList = [] := by
  show signs [] = []
  unfold signs
  rfl
theorem clipR_none (w : World) : Calls Tryz.prog 114 #[.slice none 0 0] w fun e w' => e = .returned (.slice none 0 0) ∧ w' = w := by
  go_enter Tryz.func114, Tryz.ntmps114
  go_wp2
  go_ret
  exact ⟨rfl, rfl⟩
set_option maxHeartbeats 8000000 in
set_option maxRecDepth 100000 in
theorem parse0_ (w : World) (hT : Tabs w) : Calls Tryz.prog 84 #[.string ⟨#[]⟩] w fun e w' => e = .returned (.tuple #[.slice none 0 0, .int .i64 0, .int .i64 0]) ∧ Ux.Touch (fun _ => False) w w' := by
  have HS := Lib.hid (signs_ ⟨#[]⟩ w (by decide) hT)
  clear hT
  go_enter Tryz.func84, Tryz.ntmps84
  go_wp2_with (go_at_call 65; fail)
  refine HS.out.mono ?_
  rintro e w2 ⟨u, rfl, hu, T2⟩
  rw [signs_nil] at hu
  obtain ⟨a, c, hu1, _⟩ := hu.is
  have hu1 : u = .slice a 0 c := hu1
  subst hu1
  obtain ⟨q, hq⟩ : ∃ q, w2.heap.size = q := ⟨_, rfl⟩
  have hb : (w2.alloc (.cells #[.slice a 0 c, .slice none 0 0, .int .i64 0] 163)).heap[q]? = some (.cells #[.slice a 0 c, .slice none 0 0, .int .i64 0] 163 (0, 0)) := by rw [← hq]; exact heap_alloc_new w2 _
  have T3 : Ux.Touch (fun _ => False) w2 (w2.alloc (.cells #[.slice a 0 c, .slice none 0 0, .int .i64 0] 163)) := (Ux.Touch.refl _ _).alloc _
  obtain ⟨W3, hW3⟩ : ∃ W3, w2.alloc (.cells #[.slice a 0 c, .slice none 0 0, .int .i64 0] 163) = W3 := ⟨_, rfl⟩
  rw [hW3] at hb T3
  have b0 : W3.cell? ⟨q, 0, none⟩ = some (.slice a 0 c) := by rw [cell_of_row _ q 0 _ _ (0, 0) hb]; rfl
  have b1 : W3.cell? ⟨q, 1, none⟩ = some (.slice none 0 0) := by rw [cell_of_row _ q 1 _ _ (0, 0) hb]; rfl
  have z1 := Ux.frozen_row hb 1
  obtain ⟨r, w4, hrun, hG2, hT4⟩ := appI (Ux.Grow.nil W3 W3.heap.size 3) 1 [Value.int .i64 0] rfl (fun u hu => by rw [List.mem_singleton.1 hu]; rfl) (Nat.le_refl _) (by simp)
  have tA : Ux.Touch (fun _ => False) W3 w4 := hT4.mono fun b hb h => by have := h.2; cases this
  have hb4 := tA.heap hb (fun f => f)
  obtain ⟨ar, nr, cr, rfl, _⟩ := hG2.is
  have d0 : w4.cell? ⟨q, 0, none⟩ = some (.slice a 0 c) := by rw [cell_of_row _ q 0 _ _ (0, 0) hb4]; rfl
  have d1 : w4.cell? ⟨q, 1, none⟩ = some (.slice none 0 0) := by rw [cell_of_row _ q 1 _ _ (0, 0) hb4]; rfl
  have y1 := Ux.frozen_row hb4 1
  have hb5 := Ux.setCell_row hb4 1 (.slice ar nr cr)
  have T5 : Ux.Touch (fun b => b = q) w4 (w4.setCell ⟨q, 1, none⟩ (.slice ar nr cr)) := (Ux.Touch.refl (fun b => b = q) w4).setCell (p := ⟨q, 1, none⟩) (fun _ => rfl) _
  have TT : Ux.Touch (fun _ => False) w (w4.setCell ⟨q, 1, none⟩ (.slice ar nr cr)) := ((T2.trans T3 fun _ _ f => f).trans tA fun _ _ f => f).trans (R := fun _ => False) T5 fun b hb h => by have := T2.size; omega
  have e0 : (w4.setCell ⟨q, 1, none⟩ (.slice ar nr cr)).cell? ⟨q, 0, none⟩ = some (.slice a 0 c) := by rw [cell_of_row _ q 0 _ _ (0, 0) hb5]; rfl
  have e2 : (w4.setCell ⟨q, 1, none⟩ (.slice ar nr cr)).cell? ⟨q, 2, none⟩ = some (.int .i64 0) := by rw [cell_of_row _ q 2 _ _ (0, 0) hb5]; rfl
  have H5 := Lib.hid (And.intro TT (And.intro e0 e2))
  have HR := Lib.hid hrun
  have HW := Lib.hid hW3
  clear hb T3 hG2 hT4 tA hb4 hb5 T5 TT hrun hu T2 e0 e2 hW3
  go_wp2_with (fail)
  rw [HW.out]
  clear HW
  refine wp_loop_rounds 2 ?_
  rw [rounds_succ]
  go_wp2_with (at_builtin; refine Ux.wpList_app (v1 := .slice none 0 0) (x1 := .slice (some ⟨W3.heap.size, 0, none⟩) 1 1) rfl _ _ _ _ rfl rfl rfl (HR.out _) ?_)
  clear b0 b1 z1 d0 d1 y1
  obtain ⟨e0, e2⟩ := H5.out.2
  have HB := Lib.hid (blankEnd_ q a c _ e0 e2)
  go_wp2_with (go_at_call 111; fail)
  refine HB.out.mono ?_
  rintro e w6 ⟨rfl, T6⟩
  have f0 := T6.cell e0 (fun f => f)
  have f2 := T6.cell e2 (fun f => f)
  have H6 := Lib.hid (H5.out.1.trans T6 fun _ _ f => f)
  have HS6 := Lib.hid (signEnd_ q a c w6 f0 f2)
  clear T6 HB e0 e2 f0 f2
  go_wp2_with (fail)
  refine wp_loop_rounds 2 ?_
  rw [rounds_succ]
  go_wp2_with (go_at_call 112; fail)
  refine HS6.out.mono ?_
  rintro e w7 ⟨rfl, T7⟩
  have H7 := Lib.hid (H6.out.trans T7 fun _ _ f => f)
  clear T7
  go_wp2_with (go_at_call 114; refine (clipR_none _).mono ?_; rintro e w' ⟨rfl, rfl⟩)
  go_returns
  exact ⟨rfl, H7.out⟩

set_option maxHeartbeats 4000000 in
theorem apply0_ (B mb : Nat) (E : List Ent) (w : World) (hT : TableAt w B mb E) (hsig : ∀ e ∈ E, ∀ c ∈ e.1, cp c ∨ raw c) (hck : checkE E = true) :
    Calls Tryz.prog 85 #[.pointer (some ⟨B, 0, none⟩), .slice none 0 0] w fun e w' => e = .returned (.tuple #[.pointer (some ⟨B, 0, none⟩), .int .i64 0]) ∧ Ux.Touch (fun _ => False) w w' := by
  obtain ⟨q, hq⟩ : ∃ q, w.heap.size = q := ⟨_, rfl⟩
  have hb : (w.alloc (.cells #[.pointer (some ⟨B, 0, none⟩), .slice none 0 0] 172)).heap[q]? = some (.cells #[.pointer (some ⟨B, 0, none⟩), .slice none 0 0] 172 (0, 0)) := by rw [← hq]; exact heap_alloc_new w _
  have T0 : Ux.Touch (fun _ => False) w (w.alloc (.cells #[.pointer (some ⟨B, 0, none⟩), .slice none 0 0] 172)) := (Ux.Touch.refl _ _).alloc _
  have hck' := check_ B mb E _ (hT.touch0 T0) hsig
  obtain ⟨W, hW⟩ : ∃ W, w.alloc (.cells #[.pointer (some ⟨B, 0, none⟩), .slice none 0 0] 172) = W := ⟨_, rfl⟩
  rw [hW] at hb T0 hck'
  rw [hck, if_pos rfl] at hck'
  have b0 : W.cell? ⟨q, 0, none⟩ = some (.pointer (some ⟨B, 0, none⟩)) := by rw [cell_of_row _ q 0 _ _ (0, 0) hb]; rfl
  have HC := Lib.hid hck'
  have H0 := Lib.hid T0
  have HW := Lib.hid hW
  clear hT hsig hck hb T0 hW hck'
  go_enter Tryz.func85, Tryz.ntmps85
  go_wp2_with (fail)
  rw [HW.out]
  clear HW
  refine wp_loop_rounds 2 ?_
  rw [rounds_succ]
  go_wp2_with (go_at_call 116; fail)
  refine HC.out.mono ?_
  rintro e w2 ⟨rfl, T2⟩
  have b0 := T2.cell b0 (fun f => f)
  have H2 := Lib.hid (H0.out.trans T2 fun _ _ f => f)
  clear T2
  go_wp2
  go_returns
  exact ⟨rfl, H2.out⟩
set_option maxHeartbeats 4000000 in
theorem read0_ (w : World) (hT : Tabs w) : Calls Tryz.prog 49 #[.string ⟨#[]⟩] w fun e w' => ∃ B mb, e = .returned (.tuple #[.pointer (some ⟨B, 0, none⟩), .int .i64 0, .int .i64 0]) ∧ TableAt w' B mb rootE ∧ Ux.Touch (fun _ => False) w w' := by
  have HP := Lib.hid (parse0_ w hT)
  clear hT
  go_enter Tryz.func49, Tryz.ntmps49
  go_wp2_with (go_at_call 84; fail)
  refine HP.out.mono ?_
  rintro e w2 ⟨rfl, T2⟩
  have H2 := Lib.hid T2
  clear T2
  go_wp2_with (go_at_call 46; fail)
  refine (rootT_ _).mono ?_
  rintro e w3 ⟨B, mb, rfl, hTA, _, T3⟩
  have HA := Lib.hid (apply0_ B mb rootE w3 hTA rootE_sig rootE_check)
  have H3 := Lib.hid (And.intro hTA (H2.out.trans T3 fun _ _ f => f))
  clear hTA T3
  go_wp2_with (go_at_call 85; fail)
  refine HA.out.mono ?_
  rintro e w4 ⟨rfl, T4⟩
  have H4 := Lib.hid T4
  clear T4
  go_wp2
  go_returns
  exact ⟨B, mb, rfl, H3.out.1.touch0 H4.out, H3.out.2.trans H4.out fun _ _ f => f⟩

set_option maxHeartbeats 4000000 in
theorem rblank0_ (q : Nat) (w : World) (h0 : w.cell? ⟨q, 0, none⟩ = some (.string ⟨#[]⟩)) (h1 : w.cell? ⟨q, 1, none⟩ = some (.int .i64 0)) :
    Calls Tryz.prog 117 #[.pointer (some ⟨q, 0, none⟩)] w fun e w' => e = .returned (.tuple #[]) ∧ Ux.Touch (fun _ => False) w w' := by
  go_enter Tryz.func117, Tryz.ntmps117
  go_wp2_with (fail)
  refine wp_loop_rounds 2 ?_
  rw [rounds_succ]
  go_upto_region 0 with (fail)
  refine Ux.wp_region_plan (fun _ w' => w'.cell? ⟨q, 0, none⟩ = some (.string ⟨#[]⟩) ∧ w'.cell? ⟨q, 1, none⟩ = some (.int .i64 0)) (.q [0, 1, 2, 4, 5, 6] (.h false [3, 7] (.q [8, 9, 10, 11, 12, 13, 15, 16, 17] (.h false [14, 18] (.q [19, 20, 21, 22, 23, 24, 26, 27, 28] (.h false [25, 29] (.q [30, 31, 32, 33] (.line []))))))))
    (by kernel_rfl) (by kernel_rfl) (by intro _ _ d _ _ h; cases d <;> exact h) ?hS ?_
  case hS => (intro c; cases c <;> (simp only [World.cell?_drew]; first | exact True.intro | (refine ⟨?_, ?_⟩ <;> assumption) | assumption | (repeat (first | assumption | (refine And.intro ?_ ?_)))))
  simp only [Ux.wpPlan, Ux.pickOps, Ux.keeps, List.getElem?_toArray, List.getElem?_cons_succ, List.getElem?_cons_zero]
  repeat (first
    | go_big_quiet_step (fail)
    | (with_reducible refine wpQuiet_nil ?_)
    | (refine Ux.quiet_held rfl ?_; apply Exists.intro; refine ⟨fun w' hS => ?_, ?_⟩; (focus ((try dsimp only at hS); go_simp; first | done | with_reducible rfl)); simp only [Act.put, List.setIfInBounds_toArray, List.set_cons_zero, List.set_cons_succ]))
  go_wp2
  go_returns
  exact ⟨rfl, (Ux.Touch.refl _ w).drew⟩
set_option maxHeartbeats 8000000 in
theorem rparse0_ (w : World) : Calls Tryz.prog 86 #[.string ⟨#[]⟩] w fun e w' => e = .returned (.agg #[.slice none 0 0, .int .i64 0, .int .i64 0]) ∧ Ux.Touch (fun _ => False) w w' := by
  obtain ⟨q2, hq2⟩ : ∃ q2, w.heap.size = q2 := ⟨_, rfl⟩
  have hb2 : (w.alloc (.cells #[.slice none 0 0, .int .i64 0, .int .i64 0] 134)).heap[q2]? = some (.cells #[.slice none 0 0, .int .i64 0, .int .i64 0] 134 (0, 0)) := by rw [← hq2]; exact heap_alloc_new w _
  have T1 : Ux.Touch (fun _ => False) w (w.alloc (.cells #[.slice none 0 0, .int .i64 0, .int .i64 0] 134)) := (Ux.Touch.refl _ _).alloc _
  have hs1 : (w.alloc (.cells #[.slice none 0 0, .int .i64 0, .int .i64 0] 134)).heap.size = q2 + 1 := by rw [World.size_alloc, hq2]
  obtain ⟨W1, hW1⟩ : ∃ W, w.alloc (.cells #[.slice none 0 0, .int .i64 0, .int .i64 0] 134) = W := ⟨_, rfl⟩
  rw [hW1] at hb2 T1 hs1
  have hb3 : (W1.alloc (.cells #[.string ⟨#[]⟩, .int .i64 0] 177)).heap[q2 + 1]? = some (.cells #[.string ⟨#[]⟩, .int .i64 0] 177 (0, 0)) := by rw [← hs1]; exact heap_alloc_new W1 _
  have T2 : Ux.Touch (fun _ => False) W1 (W1.alloc (.cells #[.string ⟨#[]⟩, .int .i64 0] 177)) := (Ux.Touch.refl _ _).alloc _
  have hb2' := T2.heap hb2 (fun f => f)
  obtain ⟨W2, hW2⟩ : ∃ W, W1.alloc (.cells #[.string ⟨#[]⟩, .int .i64 0] 177) = W := ⟨_, rfl⟩
  rw [hW2] at hb3 T2 hb2'
  have HW := Lib.hid (And.intro hW1 (And.intro hW2 (And.intro hs1 hq2)))
  have H2 := Lib.hid (And.intro (T1.trans T2 fun _ _ f => f) (And.intro hb2' hb3))
  clear hb2 T1 hs1 hb3 T2 hb2' hW1 hW2 hq2
  go_enter Tryz.func86, Tryz.ntmps86
  go_wp2_with (fail)
  rw [HW.out.1, HW.out.2.1, HW.out.2.2.2]
  have b0 : W2.cell? ⟨q2 + 1, 0, none⟩ = some (.string ⟨#[]⟩) := by rw [cell_of_row _ (q2 + 1) 0 _ _ (0, 0) H2.out.2.2]; rfl
  have b1 : W2.cell? ⟨q2 + 1, 1, none⟩ = some (.int .i64 0) := by rw [cell_of_row _ (q2 + 1) 1 _ _ (0, 0) H2.out.2.2]; rfl
  refine wp_loop_rounds 2 ?_
  rw [rounds_succ]
  have HB := Lib.hid (rblank0_ (q2 + 1) W2 b0 b1)
  go_wp2_with (go_at_call 117; fail)
  refine HB.out.mono ?_
  rintro e w3 ⟨rfl, T3⟩
  have c0 := T3.cell b0 (fun f => f)
  have c1 := T3.cell b1 (fun f => f)
  have hb2 := T3.drew.heap H2.out.2.1 (fun f => f)
  have H3 := Lib.hid (H2.out.1.trans T3.drew fun _ _ f => f)
  clear T3 b0 b1 HB
  go_upto_region 4 with (fail)
  refine Ux.wp_region_plan (fun _ w' => w'.cell? ⟨q2 + 1, 0, none⟩ = some (.string ⟨#[]⟩) ∧ w'.cell? ⟨q2 + 1, 1, none⟩ = some (.int .i64 0)) (.q [0, 1, 2, 4, 5, 6] (.h false [3, 7] (.q [8, 9] (.line []))))
    (by kernel_rfl) (by kernel_rfl) (by intro _ _ d _ _ h; cases d <;> exact h) ?hS ?_
  case hS => (intro c; cases c <;> (simp only [World.cell?_drew]; first | exact True.intro | (refine ⟨?_, ?_⟩ <;> assumption) | assumption | (repeat (first | assumption | (refine And.intro ?_ ?_)))))
  simp only [Ux.wpPlan, Ux.pickOps, Ux.keeps, List.getElem?_toArray, List.getElem?_cons_succ, List.getElem?_cons_zero]
  repeat (first
    | go_big_quiet_step (fail)
    | (with_reducible refine wpQuiet_nil ?_)
    | (refine Ux.quiet_held rfl ?_; apply Exists.intro; refine ⟨fun w' hS => ?_, ?_⟩; (focus ((try dsimp only at hS); go_simp; first | done | with_reducible rfl)); simp only [Act.put, List.setIfInBounds_toArray, List.set_cons_zero, List.set_cons_succ]))
  clear c0 c1
  obtain ⟨W4, hW4⟩ : ∃ W, w3.drew = W := ⟨_, rfl⟩
  rw [hW4] at hb2 H3 ⊢
  have HB2 := Lib.hid hb2
  have d0 : W4.cell? ⟨q2, 0, none⟩ = some (.slice none 0 0) := by rw [cell_of_row _ q2 0 _ _ (0, 0) hb2]; rfl
  have d1 : W4.cell? ⟨q2, 1, none⟩ = some (.int .i64 0) := by rw [cell_of_row _ q2 1 _ _ (0, 0) hb2]; rfl
  have d2 : W4.cell? ⟨q2, 2, none⟩ = some (.int .i64 0) := by rw [cell_of_row _ q2 2 _ _ (0, 0) hb2]; rfl
  have z0 := Ux.frozen_row hb2 0
  have z1 := Ux.frozen_row hb2 1
  have z2 := Ux.frozen_row hb2 2
  clear hb2 hW4
  go_wp2
  have hx := Ux.setCell_row (Ux.setCell_row (Ux.setCell_row HB2.out 0 (.slice none 0 0)) 1 (.int .i64 0)) 2 (.int .i64 0)
  have e0 := cell_of_row _ q2 0 _ _ (0, 0) hx
  have e1 := cell_of_row _ q2 1 _ _ (0, 0) hx
  have e2 := cell_of_row _ q2 2 _ _ (0, 0) hx
  have T5 : Ux.Touch (fun b => b = q2) W4 (((W4.setCell ⟨q2, 0, none⟩ (.slice none 0 0)).setCell ⟨q2, 1, none⟩ (.int .i64 0)).setCell ⟨q2, 2, none⟩ (.int .i64 0)) := (((Ux.Touch.refl (fun b => b = q2) W4).setCell (p := ⟨q2, 0, none⟩) (fun _ => rfl) _).setCell (p := ⟨q2, 1, none⟩) (fun _ => rfl) _).setCell (p := ⟨q2, 2, none⟩) (fun _ => rfl) _
  have TT : Ux.Touch (fun _ => False) w (((W4.setCell ⟨q2, 0, none⟩ (.slice none 0 0)).setCell ⟨q2, 1, none⟩ (.int .i64 0)).setCell ⟨q2, 2, none⟩ (.int .i64 0)) := H3.out.trans (R := fun _ => False) T5 fun b hb h => by have := HW.out.2.2.2; omega
  generalize ((W4.setCell ⟨q2, 0, none⟩ (.slice none 0 0)).setCell ⟨q2, 1, none⟩ (.int .i64 0)).setCell ⟨q2, 2, none⟩ (.int .i64 0) = W5 at e0 e1 e2 TT ⊢
  simp at e0 e1 e2
  refine bodyPost_ret (by simp [results, Tryz.results86, go_sem, e0, e1, e2]; try rfl) rfl ?_
  exact ⟨rfl, TT⟩

end Go.Proofs.YtkeodddpnmnheaaGreatDoor
namespace Go.Proofs.YtkeodddpnmnheaaGreatDoor
open Go.RowKit
open Go.RowKit
open Ux (Row iv sv Ent rootE rootT)
open Ux.Sign (cp raw signs)

set_option maxHeartbeats 8000000 in
theorem rapply0_ (v : Value) (T : List Ent) (A : Nat → Prop) (w : World) (hT : RRows w A v T) (hn : T.length ≤ 1000) (h8 : ∀ e ∈ T, e.2.length ≤ 1000) (h3 : ∀ e ∈ T, 1 ≤ e.1.length ∧ e.1.length ≤ 3) (hck : checkE T = true) :
    Calls Tryz.prog 87 #[.agg #[v], .slice none 0 0] w fun e w' => e = .returned (.tuple #[.agg #[v], .int .i64 0]) ∧ Ux.Touch (fun _ => False) w w' := by
  have HCK := Lib.hid fun W (T1 : Ux.Touch (fun _ => False) w W) => rcheck_ v T A W (hT.touch0 T1) (by omega) h8 h3
  rw [hck, if_pos rfl] at HCK
  obtain ⟨_, a, ca, rfl, _, _⟩ := hT
  obtain ⟨n, hnn⟩ : ∃ n, T.length = n := ⟨_, rfl⟩
  rw [hnn] at HCK ⊢
  obtain ⟨q, hq⟩ : ∃ q, w.heap.size = q := ⟨_, rfl⟩
  have hb1 : (w.alloc (.cells #[.slice a n ca] 33)).heap[q]? = some (.cells #[.slice a n ca] 33 (0, 0)) := by rw [← hq]; exact heap_alloc_new w _
  have hs1 : (w.alloc (.cells #[.slice a n ca] 33)).heap.size = q + 1 := by rw [World.size_alloc, hq]
  have T1 : Ux.Touch (fun _ => False) w (w.alloc (.cells #[.slice a n ca] 33)) := (Ux.Touch.refl _ _).alloc _
  obtain ⟨W1, hW1⟩ : ∃ W, w.alloc (.cells #[.slice a n ca] 33) = W := ⟨_, rfl⟩
  rw [hW1] at hb1 hs1 T1
  have hb2 : (W1.alloc (.cells #[.slice none 0 0] 33)).heap[q + 1]? = some (.cells #[.slice none 0 0] 33 (0, 0)) := by rw [← hs1]; exact heap_alloc_new W1 _
  have T2 : Ux.Touch (fun _ => False) W1 (W1.alloc (.cells #[.slice none 0 0] 33)) := (Ux.Touch.refl _ _).alloc _
  have hb1' := T2.heap hb1 (fun f => f)
  obtain ⟨W2, hW2⟩ : ∃ W, W1.alloc (.cells #[.slice none 0 0] 33) = W := ⟨_, rfl⟩
  rw [hW2] at hb2 T2 hb1'
  have HW := Lib.hid (And.intro hW1 (And.intro hW2 hq))
  have H2 := Lib.hid (And.intro (T1.trans T2 fun _ _ f => f) (And.intro hb1' hb2))
  have b0 : W2.cell? ⟨q, 0, none⟩ = some (.slice a n ca) := by rw [cell_of_row _ q 0 _ _ (0, 0) hb1']; rfl
  clear hb1 hs1 T1 hb2 T2 hb1' hW1 hW2 hq hn h8 h3 hck hnn
  go_enter Tryz.func87, Tryz.ntmps87
  go_wp2_with (fail)
  rw [HW.out.1, HW.out.2.1, HW.out.2.2]
  refine wp_loop_rounds 2 ?_
  rw [rounds_succ]
  go_wp2_with (go_at_call 122; fail)
  refine (HCK.out W2 H2.out.1).mono ?_
  rintro e w3 ⟨rfl, T3⟩
  have b0 := T3.cell b0 (fun f => f)
  have hb2 := T3.heap H2.out.2.2 (fun f => f)
  have HB2 := Lib.hid hb2
  have d0 : w3.cell? ⟨q + 1, 0, none⟩ = some (.slice none 0 0) := by rw [cell_of_row _ (q + 1) 0 _ _ (0, 0) hb2]; rfl
  have z0 := Ux.frozen_row hb2 0
  have H3 := Lib.hid (H2.out.1.trans T3 fun _ _ f => f)
  clear T3 hb2
  go_wp2
  have hx := Ux.setCell_row HB2.out 0 (.slice a n ca)
  have e0 := cell_of_row _ (q + 1) 0 _ _ (0, 0) hx
  have T5 : Ux.Touch (fun b => b = q + 1) w3 (w3.setCell ⟨q + 1, 0, none⟩ (.slice a n ca)) := (Ux.Touch.refl (fun b => b = q + 1) w3).setCell (p := ⟨q + 1, 0, none⟩) (fun _ => rfl) _
  have TT : Ux.Touch (fun _ => False) w (w3.setCell ⟨q + 1, 0, none⟩ (.slice a n ca)) := H3.out.trans (R := fun _ => False) T5 fun b hb h => by have := HW.out.2.2; omega
  generalize w3.setCell ⟨q + 1, 0, none⟩ (.slice a n ca) = W5 at e0 TT ⊢
  simp at e0
  refine bodyPost_ret (by simp [results, Tryz.results87, go_sem, e0]; try rfl) rfl ?_
  exact ⟨rfl, TT⟩
set_option maxHeartbeats 16000000 in
set_option maxRecDepth 100000 in
theorem rread0_ (w : World) : Calls Tryz.prog 50 #[.string ⟨#[]⟩] w fun e w' => ∃ u, e = .returned (.tuple #[.agg #[u], .int .i64 0, .int .i64 0]) ∧ RRows w' (fun b => w.heap.size ≤ b) u (rootT 132) ∧ Ux.Touch (fun _ => False) w w' := by
  have hst := Ux.same_root
  have hkE := Ux.rootE_nodup
  have hokT := hst.ok ⟨hkE, Ux.rootE_ok⟩
  have hckT : checkE (rootT 132) = true := by
    rw [← checkE_perm hkE hst.1]
    exact rootE_check
  have HAP := Lib.hid fun W (u : Value) (A : Nat → Prop) (hR : RRows W A u (rootT 132)) => rapply0_ u (rootT 132) A W hR (by rw [← hst.1.length_eq, Ux.rootE_len]; decide) (fun e he => by have := (hokT.2 e he).2.1; omega) (fun e he => ⟨(hokT.2 e he).1.1, (hokT.2 e he).1.2.1⟩) hckT
  clear hst hokT hckT hkE
  obtain ⟨n6, hn6⟩ : ∃ n6, (rootT 132).length = n6 := ⟨_, rfl⟩
  have HN6 := Lib.hid hn6
  clear hn6
  obtain ⟨q, hq⟩ : ∃ q, w.heap.size = q := ⟨_, rfl⟩
  have hb1 : (w.alloc (.cells #[.slice none 0 0] 33)).heap[q]? = some (.cells #[.slice none 0 0] 33 (0, 0)) := by rw [← hq]; exact heap_alloc_new w _
  have T1 : Ux.Touch (fun _ => False) w (w.alloc (.cells #[.slice none 0 0] 33)) := (Ux.Touch.refl _ _).alloc _
  have hs1 : (w.alloc (.cells #[.slice none 0 0] 33)).heap.size = q + 1 := by rw [World.size_alloc, hq]
  obtain ⟨W1, hW1⟩ : ∃ W, w.alloc (.cells #[.slice none 0 0] 33) = W := ⟨_, rfl⟩
  rw [hW1] at hb1 T1 hs1
  have HW := Lib.hid (And.intro hW1 (And.intro hq hs1))
  have H1 := Lib.hid (And.intro T1 hb1)
  clear hb1 T1 hW1 hs1 hq
  go_enter Tryz.func50, Tryz.ntmps50
  go_wp2_with (go_at_call 86; fail)
  rw [HW.out.1]
  refine (rparse0_ W1).mono ?_
  rintro e w2 ⟨rfl, T2⟩
  obtain ⟨q5, hq5⟩ : ∃ q5, w2.heap.size = q5 := ⟨_, rfl⟩
  have hb5 : (w2.alloc (.cells #[.slice none 0 0, .int .i64 0, .int .i64 0] 134)).heap[q5]? = some (.cells #[.slice none 0 0, .int .i64 0, .int .i64 0] 134 (0, 0)) := by rw [← hq5]; exact heap_alloc_new w2 _
  have T3 : Ux.Touch (fun _ => False) w2 (w2.alloc (.cells #[.slice none 0 0, .int .i64 0, .int .i64 0] 134)) := (Ux.Touch.refl _ _).alloc _
  obtain ⟨W3, hW3⟩ : ∃ W, w2.alloc (.cells #[.slice none 0 0, .int .i64 0, .int .i64 0] 134) = W := ⟨_, rfl⟩
  rw [hW3] at hb5 T3
  have b0 : W3.cell? ⟨q5, 0, none⟩ = some (.slice none 0 0) := by rw [cell_of_row _ q5 0 _ _ (0, 0) hb5]; rfl
  have b2 : W3.cell? ⟨q5, 2, none⟩ = some (.int .i64 0) := by rw [cell_of_row _ q5 2 _ _ (0, 0) hb5]; rfl
  have HW3 := Lib.hid (And.intro hW3 hq5)
  have H3 := Lib.hid (And.intro (H1.out.1.trans (T2.trans T3 fun _ _ f => f) fun _ _ f => f) (T2.trans T3 fun _ _ f => f))
  have HC := Lib.hid fun W (T : Ux.Touch (fun _ => False) W3 W) => T.cell b0 (fun f => f)
  clear hb5 T2 T3 hW3 hq5
  go_upto_region 4 with (fail)
  rw [HW3.out.1, HW3.out.2]
  go_cut [6, 7] (fun s6 s7 wx => ∃ (q6 : Nat) (a9 : Option Addr) (n9 c9 : Nat), s6 = .pointer (some ⟨q6, 0, none⟩) ∧ s7 = .int .i64 0 ∧ wx.cell? ⟨q6, 0, none⟩ = some (.slice a9 n9 c9) ∧ Hid (RRows wx (fun b => q + 1 ≤ b) (.slice a9 n9 c9) (rootT 132) ∧ Ux.Touch (fun _ => False) W3 wx))
  case first =>
    clear b2
    refine Ux.wp_region_plan (fun _ w' => w'.cell? ⟨q5, 0, none⟩ = some (.slice none 0 0)) (.q [1] (.h false [2] (.br 0 (.br 3 (.q [4, 5, 6] (.e 7 true false (.e 8 false false (.line [9])))) 7 (.e 3 true true (.q [4, 5, 6] (.e 8 false false (.line [9]))))) 7 (.e 0 true true (.e 3 true true (.q [4, 5, 6] (.e 8 false false (.line [9]))))))))
      (by kernel_rfl) (by kernel_rfl) (by intro _ _ d _ _ h; cases d <;> exact h) ?hS ?_
    case hS => (intro c; cases c <;> (simp only [World.cell?_drew]; first | exact True.intro | (refine ⟨?_, ?_⟩ <;> assumption) | assumption | (repeat (first | assumption | (refine And.intro ?_ ?_)))))
    simp only [Ux.wpPlan, Ux.pickOps, Ux.keeps, List.getElem?_toArray, List.getElem?_cons_succ, List.getElem?_cons_zero]
    repeat (first
      | go_big_quiet_step (fail)
      | (with_reducible refine wpQuiet_nil ?_)
      | (refine Ux.quiet_held rfl ?_; apply Exists.intro; refine ⟨fun w' hS => ?_, ?_⟩; (focus ((try dsimp only at hS); go_simp; first | done | with_reducible rfl)); simp only [Act.put, List.setIfInBounds_toArray, List.set_cons_zero, List.set_cons_succ]))
    refine ⟨?_, ?_⟩
    · go_wp2_with (go_at_call 51; fail)
      refine (rroot_ _).mono ?_
      rintro e w6 ⟨u6, rfl, hR6, T6⟩
      have T6w : Ux.Touch (fun _ => False) W3 w6 := Ux.Touch.trans (by repeat (first | exact Ux.Touch.refl _ _ | refine Ux.Touch.drew ?_ | refine Ux.Touch.alloc ?_ _)) T6 fun _ _ f => f
      have hR7 := hR6.mono (A' := fun b => W3.heap.size + 1 ≤ b) fun g h1 h2 => by
        first
          | (have h2 : W3.heap.size + 2 ≤ g := h2; omega)
          | (have h2 : (W3.alloc (Obj.cells #[.slice none 0 0] 33)).heap.size + 2 ≤ g := h2
             rw [World.size_alloc] at h2
             omega)
      obtain ⟨_, a6, c6, hu6, _⟩ := hR6
      subst hu6
      rw [HN6.out] at hR7 ⊢
      try (
        have hb13 : w6.heap[W3.heap.size]? = some (.cells #[.slice none 0 0] 33 (0, 0)) := T6.heap (heap_alloc_new _ _) (fun f => f)
        have HB13 := Lib.hid hb13
        clear hb13)
      have H6 := Lib.hid hR7
      clear hR7 T6
      go_wp2_with (fail)
      first | refine ⟨⟨HC.out _ (by repeat (first | exact Ux.Touch.refl _ _ | exact T7w | exact T6w | refine Ux.Touch.drew ?_ | refine Ux.Touch.alloc ?_ _)), HC.out _ (by repeat (first | exact Ux.Touch.refl _ _ | exact T7w | exact T6w | refine Ux.Touch.drew ?_ | refine Ux.Touch.alloc ?_ _))⟩, ?_⟩ | refine ⟨HC.out _ (by repeat (first | exact Ux.Touch.refl _ _ | exact T7w | exact T6w | refine Ux.Touch.drew ?_ | refine Ux.Touch.alloc ?_ _)), ?_⟩
      refine ⟨?_, ?_⟩
      · go_wp2_with (go_at_call 87; fail)
        refine (HAP.out _ _ _ (H6.out.touch0 (by repeat (first | exact Ux.Touch.refl _ _ | refine Ux.Touch.drew ?_ | refine Ux.Touch.alloc ?_ _)))).mono ?_
        rintro e w7 ⟨rfl, T7⟩
        have T67 : Ux.Touch (fun _ => False) w6 w7 := Ux.Touch.trans (by repeat (first | exact Ux.Touch.refl _ _ | refine Ux.Touch.drew ?_ | refine Ux.Touch.alloc ?_ _)) T7 fun _ _ f => f
        have T7w : Ux.Touch (fun _ => False) W3 w7 := T6w.trans T67 fun _ _ f => f
        try (
          have hb14 : w7.heap[w6.heap.size]? = some (.cells #[.slice none 0 0] 33 (0, 0)) := T7.heap (heap_alloc_new _ _) (fun f => f)
          have f14 : w7.cell? ⟨w6.heap.size, 0, none⟩ = some (.slice none 0 0) := by
            rw [cell_of_row _ w6.heap.size 0 _ _ (0, 0) hb14]
            rfl
          have z14 := Ux.frozen_row hb14 0
          have HB14 := Lib.hid hb14
          clear hb14)
        try (
          have hb15 : w7.heap[W3.heap.size]? = some (.cells #[.slice none 0 0] 33 (0, 0)) := T67.heap HB13.out (fun f => f)
          have f15 : w7.cell? ⟨W3.heap.size, 0, none⟩ = some (.slice none 0 0) := by
            rw [cell_of_row _ W3.heap.size 0 _ _ (0, 0) hb15]
            rfl
          have z15 := Ux.frozen_row hb15 0
          have HB15 := Lib.hid hb15
          clear hb15)
        have H7 := Lib.hid T67
        clear T7 T67
        go_wp2_with (fail)
        first | refine ⟨⟨HC.out _ (by repeat (first | exact Ux.Touch.refl _ _ | exact T7w | exact T6w | refine Ux.Touch.drew ?_ | refine Ux.Touch.alloc ?_ _)), HC.out _ (by repeat (first | exact Ux.Touch.refl _ _ | exact T7w | exact T6w | refine Ux.Touch.drew ?_ | refine Ux.Touch.alloc ?_ _))⟩, ?_⟩ | refine ⟨HC.out _ (by repeat (first | exact Ux.Touch.refl _ _ | exact T7w | exact T6w | refine Ux.Touch.drew ?_ | refine Ux.Touch.alloc ?_ _)), ?_⟩
        repeat (first
          | go_big_quiet_step (fail)
          | (with_reducible refine wpQuiet_nil ?_)
          | (refine Ux.quiet_held rfl ?_; apply Exists.intro; refine ⟨fun w' hS => ?_, ?_⟩; (focus ((try dsimp only at hS); go_simp; first | done | with_reducible rfl)); simp only [Act.put, List.setIfInBounds_toArray, List.set_cons_zero, List.set_cons_succ]))
        go_wp2_with (fail)
        refine ⟨HC.out _ (by repeat (first | exact Ux.Touch.refl _ _ | exact T7w | exact T6w | refine Ux.Touch.drew ?_ | refine Ux.Touch.alloc ?_ _)), ?_⟩
        go_wp2_with (fail)
        go_wp2_with (fail)
        go_meet
        have hR8 := H6.out.touch0 H7.out
        have hw3 : q + 1 ≤ W3.heap.size := by have := HW.out.2.2; have := H3.out.2.size; omega
        have hw6 := T6w.size
        first
          | (have tA : Ux.Touch (fun _ => False) w7 (w7.alloc (.cells #[.slice a6 n6 c6] 33)) := (Ux.Touch.refl _ _).alloc _
             exact ⟨_, _, _, _, rfl, rfl, by rw [Ux.cell_newg]; rfl, Lib.hid ⟨(hR8.mono (A' := fun b => q + 1 ≤ b) fun g h1 h2 => by omega).touch0 tA, T7w.trans tA fun _ _ f => f⟩⟩)
          | (have tB : Ux.Touch (fun b => b = W3.heap.size) w7 (w7.setCell ⟨W3.heap.size, 0, none⟩ (.slice a6 n6 c6)) := (Ux.Touch.refl (fun b => b = W3.heap.size) w7).setCell (p := ⟨W3.heap.size, 0, none⟩) (fun _ => rfl) _
             exact ⟨_, _, _, _, rfl, rfl, by rw [cell_of_row _ W3.heap.size 0 _ _ (0, 0) (Ux.setCell_row HB15.out 0 (.slice a6 n6 c6))]; rfl, Lib.hid ⟨(hR8.touchB tB fun g _ h e => by omega).mono fun g h1 h2 => by omega, T7w.trans (R := fun _ => False) tB fun b hb h => by omega⟩⟩)
          | (have tB : Ux.Touch (fun b => b = w6.heap.size) w7 (w7.setCell ⟨w6.heap.size, 0, none⟩ (.slice a6 n6 c6)) := (Ux.Touch.refl (fun b => b = w6.heap.size) w7).setCell (p := ⟨w6.heap.size, 0, none⟩) (fun _ => rfl) _
             have hR9 := (H6.out.mono (A' := fun b => q + 1 ≤ b ∧ b ≠ w6.heap.size) fun g h1 h2 => ⟨by omega, by omega⟩).touch0 H7.out
             exact ⟨_, _, _, _, rfl, rfl, by rw [cell_of_row _ w6.heap.size 0 _ _ (0, 0) (Ux.setCell_row HB14.out 0 (.slice a6 n6 c6))]; rfl, Lib.hid ⟨(hR9.touchB tB fun g _ h e => h.2 e).mono fun g h1 h2 => h2.1, T7w.trans (R := fun _ => False) tB fun b hb h => by omega⟩⟩)
      · go_wp2_with (fail)
        first | refine ⟨⟨HC.out _ (by repeat (first | exact Ux.Touch.refl _ _ | exact T7w | exact T6w | refine Ux.Touch.drew ?_ | refine Ux.Touch.alloc ?_ _)), HC.out _ (by repeat (first | exact Ux.Touch.refl _ _ | exact T7w | exact T6w | refine Ux.Touch.drew ?_ | refine Ux.Touch.alloc ?_ _))⟩, ?_⟩ | refine ⟨HC.out _ (by repeat (first | exact Ux.Touch.refl _ _ | exact T7w | exact T6w | refine Ux.Touch.drew ?_ | refine Ux.Touch.alloc ?_ _)), ?_⟩
        go_wp2_with (go_at_call 87; fail)
        refine (HAP.out _ _ _ (H6.out.touch0 (by repeat (first | exact Ux.Touch.refl _ _ | refine Ux.Touch.drew ?_ | refine Ux.Touch.alloc ?_ _)))).mono ?_
        rintro e w7 ⟨rfl, T7⟩
        have T67 : Ux.Touch (fun _ => False) w6 w7 := Ux.Touch.trans (by repeat (first | exact Ux.Touch.refl _ _ | refine Ux.Touch.drew ?_ | refine Ux.Touch.alloc ?_ _)) T7 fun _ _ f => f
        have T7w : Ux.Touch (fun _ => False) W3 w7 := T6w.trans T67 fun _ _ f => f
        try (
          have hb14 : w7.heap[w6.heap.size]? = some (.cells #[.slice none 0 0] 33 (0, 0)) := T7.heap (heap_alloc_new _ _) (fun f => f)
          have f14 : w7.cell? ⟨w6.heap.size, 0, none⟩ = some (.slice none 0 0) := by
            rw [cell_of_row _ w6.heap.size 0 _ _ (0, 0) hb14]
            rfl
          have z14 := Ux.frozen_row hb14 0
          have HB14 := Lib.hid hb14
          clear hb14)
        try (
          have hb15 : w7.heap[W3.heap.size]? = some (.cells #[.slice none 0 0] 33 (0, 0)) := T67.heap HB13.out (fun f => f)
          have f15 : w7.cell? ⟨W3.heap.size, 0, none⟩ = some (.slice none 0 0) := by
            rw [cell_of_row _ W3.heap.size 0 _ _ (0, 0) hb15]
            rfl
          have z15 := Ux.frozen_row hb15 0
          have HB15 := Lib.hid hb15
          clear hb15)
        have H7 := Lib.hid T67
        clear T7 T67
        go_wp2_with (fail)
        first | refine ⟨⟨HC.out _ (by repeat (first | exact Ux.Touch.refl _ _ | exact T7w | exact T6w | refine Ux.Touch.drew ?_ | refine Ux.Touch.alloc ?_ _)), HC.out _ (by repeat (first | exact Ux.Touch.refl _ _ | exact T7w | exact T6w | refine Ux.Touch.drew ?_ | refine Ux.Touch.alloc ?_ _))⟩, ?_⟩ | refine ⟨HC.out _ (by repeat (first | exact Ux.Touch.refl _ _ | exact T7w | exact T6w | refine Ux.Touch.drew ?_ | refine Ux.Touch.alloc ?_ _)), ?_⟩
        repeat (first
          | go_big_quiet_step (fail)
          | (with_reducible refine wpQuiet_nil ?_)
          | (refine Ux.quiet_held rfl ?_; apply Exists.intro; refine ⟨fun w' hS => ?_, ?_⟩; (focus ((try dsimp only at hS); go_simp; first | done | with_reducible rfl)); simp only [Act.put, List.setIfInBounds_toArray, List.set_cons_zero, List.set_cons_succ]))
        go_wp2_with (fail)
        go_wp2_with (fail)
        go_meet
        have hR8 := H6.out.touch0 H7.out
        have hw3 : q + 1 ≤ W3.heap.size := by have := HW.out.2.2; have := H3.out.2.size; omega
        have hw6 := T6w.size
        first
          | (have tA : Ux.Touch (fun _ => False) w7 (w7.alloc (.cells #[.slice a6 n6 c6] 33)) := (Ux.Touch.refl _ _).alloc _
             exact ⟨_, _, _, _, rfl, rfl, by rw [Ux.cell_newg]; rfl, Lib.hid ⟨(hR8.mono (A' := fun b => q + 1 ≤ b) fun g h1 h2 => by omega).touch0 tA, T7w.trans tA fun _ _ f => f⟩⟩)
          | (have tB : Ux.Touch (fun b => b = W3.heap.size) w7 (w7.setCell ⟨W3.heap.size, 0, none⟩ (.slice a6 n6 c6)) := (Ux.Touch.refl (fun b => b = W3.heap.size) w7).setCell (p := ⟨W3.heap.size, 0, none⟩) (fun _ => rfl) _
             exact ⟨_, _, _, _, rfl, rfl, by rw [cell_of_row _ W3.heap.size 0 _ _ (0, 0) (Ux.setCell_row HB15.out 0 (.slice a6 n6 c6))]; rfl, Lib.hid ⟨(hR8.touchB tB fun g _ h e => by omega).mono fun g h1 h2 => by omega, T7w.trans (R := fun _ => False) tB fun b hb h => by omega⟩⟩)
          | (have tB : Ux.Touch (fun b => b = w6.heap.size) w7 (w7.setCell ⟨w6.heap.size, 0, none⟩ (.slice a6 n6 c6)) := (Ux.Touch.refl (fun b => b = w6.heap.size) w7).setCell (p := ⟨w6.heap.size, 0, none⟩) (fun _ => rfl) _
             have hR9 := (H6.out.mono (A' := fun b => q + 1 ≤ b ∧ b ≠ w6.heap.size) fun g h1 h2 => ⟨by omega, by omega⟩).touch0 H7.out
             exact ⟨_, _, _, _, rfl, rfl, by rw [cell_of_row _ w6.heap.size 0 _ _ (0, 0) (Ux.setCell_row HB14.out 0 (.slice a6 n6 c6))]; rfl, Lib.hid ⟨(hR9.touchB tB fun g _ h e => h.2 e).mono fun g h1 h2 => h2.1, T7w.trans (R := fun _ => False) tB fun b hb h => by omega⟩⟩)
    · go_wp2_with (fail)
      first | refine ⟨⟨HC.out _ (by repeat (first | exact Ux.Touch.refl _ _ | exact T7w | exact T6w | refine Ux.Touch.drew ?_ | refine Ux.Touch.alloc ?_ _)), HC.out _ (by repeat (first | exact Ux.Touch.refl _ _ | exact T7w | exact T6w | refine Ux.Touch.drew ?_ | refine Ux.Touch.alloc ?_ _))⟩, ?_⟩ | refine ⟨HC.out _ (by repeat (first | exact Ux.Touch.refl _ _ | exact T7w | exact T6w | refine Ux.Touch.drew ?_ | refine Ux.Touch.alloc ?_ _)), ?_⟩
      go_wp2_with (go_at_call 51; fail)
      refine (rroot_ _).mono ?_
      rintro e w6 ⟨u6, rfl, hR6, T6⟩
      have T6w : Ux.Touch (fun _ => False) W3 w6 := Ux.Touch.trans (by repeat (first | exact Ux.Touch.refl _ _ | refine Ux.Touch.drew ?_ | refine Ux.Touch.alloc ?_ _)) T6 fun _ _ f => f
      have hR7 := hR6.mono (A' := fun b => W3.heap.size + 1 ≤ b) fun g h1 h2 => by
        first
          | (have h2 : W3.heap.size + 2 ≤ g := h2; omega)
          | (have h2 : (W3.alloc (Obj.cells #[.slice none 0 0] 33)).heap.size + 2 ≤ g := h2
             rw [World.size_alloc] at h2
             omega)
      obtain ⟨_, a6, c6, hu6, _⟩ := hR6
      subst hu6
      rw [HN6.out] at hR7 ⊢
      try (
        have hb13 : w6.heap[W3.heap.size]? = some (.cells #[.slice none 0 0] 33 (0, 0)) := T6.heap (heap_alloc_new _ _) (fun f => f)
        have HB13 := Lib.hid hb13
        clear hb13)
      have H6 := Lib.hid hR7
      clear hR7 T6
      go_wp2_with (fail)
      first | refine ⟨⟨HC.out _ (by repeat (first | exact Ux.Touch.refl _ _ | exact T7w | exact T6w | refine Ux.Touch.drew ?_ | refine Ux.Touch.alloc ?_ _)), HC.out _ (by repeat (first | exact Ux.Touch.refl _ _ | exact T7w | exact T6w | refine Ux.Touch.drew ?_ | refine Ux.Touch.alloc ?_ _))⟩, ?_⟩ | refine ⟨HC.out _ (by repeat (first | exact Ux.Touch.refl _ _ | exact T7w | exact T6w | refine Ux.Touch.drew ?_ | refine Ux.Touch.alloc ?_ _)), ?_⟩
      go_wp2_with (go_at_call 87; fail)
      refine (HAP.out _ _ _ (H6.out.touch0 (by repeat (first | exact Ux.Touch.refl _ _ | refine Ux.Touch.drew ?_ | refine Ux.Touch.alloc ?_ _)))).mono ?_
      rintro e w7 ⟨rfl, T7⟩
      have T67 : Ux.Touch (fun _ => False) w6 w7 := Ux.Touch.trans (by repeat (first | exact Ux.Touch.refl _ _ | refine Ux.Touch.drew ?_ | refine Ux.Touch.alloc ?_ _)) T7 fun _ _ f => f
      have T7w : Ux.Touch (fun _ => False) W3 w7 := T6w.trans T67 fun _ _ f => f
      try (
        have hb14 : w7.heap[w6.heap.size]? = some (.cells #[.slice none 0 0] 33 (0, 0)) := T7.heap (heap_alloc_new _ _) (fun f => f)
        have f14 : w7.cell? ⟨w6.heap.size, 0, none⟩ = some (.slice none 0 0) := by
          rw [cell_of_row _ w6.heap.size 0 _ _ (0, 0) hb14]
          rfl
        have z14 := Ux.frozen_row hb14 0
        have HB14 := Lib.hid hb14
        clear hb14)
      try (
        have hb15 : w7.heap[W3.heap.size]? = some (.cells #[.slice none 0 0] 33 (0, 0)) := T67.heap HB13.out (fun f => f)
        have f15 : w7.cell? ⟨W3.heap.size, 0, none⟩ = some (.slice none 0 0) := by
          rw [cell_of_row _ W3.heap.size 0 _ _ (0, 0) hb15]
          rfl
        have z15 := Ux.frozen_row hb15 0
        have HB15 := Lib.hid hb15
        clear hb15)
      have H7 := Lib.hid T67
      clear T7 T67
      go_wp2_with (fail)
      first | refine ⟨⟨HC.out _ (by repeat (first | exact Ux.Touch.refl _ _ | exact T7w | exact T6w | refine Ux.Touch.drew ?_ | refine Ux.Touch.alloc ?_ _)), HC.out _ (by repeat (first | exact Ux.Touch.refl _ _ | exact T7w | exact T6w | refine Ux.Touch.drew ?_ | refine Ux.Touch.alloc ?_ _))⟩, ?_⟩ | refine ⟨HC.out _ (by repeat (first | exact Ux.Touch.refl _ _ | exact T7w | exact T6w | refine Ux.Touch.drew ?_ | refine Ux.Touch.alloc ?_ _)), ?_⟩
      repeat (first
        | go_big_quiet_step (fail)
        | (with_reducible refine wpQuiet_nil ?_)
        | (refine Ux.quiet_held rfl ?_; apply Exists.intro; refine ⟨fun w' hS => ?_, ?_⟩; (focus ((try dsimp only at hS); go_simp; first | done | with_reducible rfl)); simp only [Act.put, List.setIfInBounds_toArray, List.set_cons_zero, List.set_cons_succ]))
      go_wp2_with (fail)
      go_wp2_with (fail)
      go_meet
      have hR8 := H6.out.touch0 H7.out
      have hw3 : q + 1 ≤ W3.heap.size := by have := HW.out.2.2; have := H3.out.2.size; omega
      have hw6 := T6w.size
      first
        | (have tA : Ux.Touch (fun _ => False) w7 (w7.alloc (.cells #[.slice a6 n6 c6] 33)) := (Ux.Touch.refl _ _).alloc _
           exact ⟨_, _, _, _, rfl, rfl, by rw [Ux.cell_newg]; rfl, Lib.hid ⟨(hR8.mono (A' := fun b => q + 1 ≤ b) fun g h1 h2 => by omega).touch0 tA, T7w.trans tA fun _ _ f => f⟩⟩)
        | (have tB : Ux.Touch (fun b => b = W3.heap.size) w7 (w7.setCell ⟨W3.heap.size, 0, none⟩ (.slice a6 n6 c6)) := (Ux.Touch.refl (fun b => b = W3.heap.size) w7).setCell (p := ⟨W3.heap.size, 0, none⟩) (fun _ => rfl) _
           exact ⟨_, _, _, _, rfl, rfl, by rw [cell_of_row _ W3.heap.size 0 _ _ (0, 0) (Ux.setCell_row HB15.out 0 (.slice a6 n6 c6))]; rfl, Lib.hid ⟨(hR8.touchB tB fun g _ h e => by omega).mono fun g h1 h2 => by omega, T7w.trans (R := fun _ => False) tB fun b hb h => by omega⟩⟩)
        | (have tB : Ux.Touch (fun b => b = w6.heap.size) w7 (w7.setCell ⟨w6.heap.size, 0, none⟩ (.slice a6 n6 c6)) := (Ux.Touch.refl (fun b => b = w6.heap.size) w7).setCell (p := ⟨w6.heap.size, 0, none⟩) (fun _ => rfl) _
           have hR9 := (H6.out.mono (A' := fun b => q + 1 ≤ b ∧ b ≠ w6.heap.size) fun g h1 h2 => ⟨by omega, by omega⟩).touch0 H7.out
           exact ⟨_, _, _, _, rfl, rfl, by rw [cell_of_row _ w6.heap.size 0 _ _ (0, 0) (Ux.setCell_row HB14.out 0 (.slice a6 n6 c6))]; rfl, Lib.hid ⟨(hR9.touchB tB fun g _ h e => h.2 e).mono fun g h1 h2 => h2.1, T7w.trans (R := fun _ => False) tB fun b hb h => by omega⟩⟩)
  obtain ⟨q6, a9, n9, c9, rfl, rfl, hc6, HK⟩ := hcut
  have Tc := H3.out.2.trans HK.out.2 fun _ _ f => f
  have hbq := Tc.heap H1.out.2 (fun f => f)
  have HQ := Lib.hid hbq
  have d0 : wc.cell? ⟨q, 0, none⟩ = some (.slice none 0 0) := by rw [cell_of_row _ q 0 _ _ (0, 0) hbq]; rfl
  have z0 := Ux.frozen_row hbq 0
  rw [HW.out.2.1]
  clear hbq Tc b2 b0
  go_wp2
  have hx := Ux.setCell_row HQ.out 0 (.slice a9 n9 c9)
  have e0 := cell_of_row _ q 0 _ _ (0, 0) hx
  have T5 : Ux.Touch (fun b => b = q) wc (wc.setCell ⟨q, 0, none⟩ (.slice a9 n9 c9)) := (Ux.Touch.refl (fun b => b = q) wc).setCell (p := ⟨q, 0, none⟩) (fun _ => rfl) _
  have TT : Ux.Touch (fun _ => False) w (wc.setCell ⟨q, 0, none⟩ (.slice a9 n9 c9)) := (H3.out.1.trans HK.out.2 fun _ _ f => f).trans (R := fun _ => False) T5 fun b hb h => by have := HW.out.2.1; omega
  have hR9 := (HK.out.1.touchB T5 fun g _ h e => by omega).mono (A' := fun b => w.heap.size ≤ b) fun g h1 h2 => by have := HW.out.2.1; omega
  generalize wc.setCell ⟨q, 0, none⟩ (.slice a9 n9 c9) = W5 at e0 TT hR9 ⊢
  simp at e0
  refine bodyPost_ret (by simp [results, Tryz.results50, go_sem, e0]; try rfl) rfl ?_
  exact ⟨_, rfl, hR9, TT⟩

end Go.Proofs.YtkeodddpnmnheaaGreatDoor
namespace Go.Proofs.YtkeodddpnmnheaaGreatDoor
open Go.RowKit
open Go.RowKit
open Ux (Ent rootE rootT)
open Ux.Sign (cp raw signs)

/-- the document's collation as a value -/
def rcV (kd lv : Int) (sh bk : Bool) (u : Value) : Value := .agg #[.int .i64 kd, .int .i64 lv, .bool sh, .bool bk, u]
/-- the level that Make takes -/
def lvN (lv : Int) : Nat := (bits .and .i64 lv 65535).toNat % 3 + 1
theorem lvN_le (lv : Int) : 1 ≤ lvN lv ∧ lvN lv ≤ 3 := by unfold lvN; omega
theorem and16 (a : Int) : ∃ m : Nat, bits .and .i64 a 65535 = (m : Int) ∧ m < 65536 := by
  have h : (BitVec.ofInt 64 a &&& BitVec.ofInt 64 65535).toNat < 65536 := by
    rw [BitVec.toNat_and, show (BitVec.ofInt 64 65535).toNat = 2 ^ 16 - 1 from rfl, Nat.and_two_pow_sub_one_eq_mod]
    exact Nat.mod_lt _ (by decide)
  refine ⟨(BitVec.ofInt 64 a &&& BitVec.ofInt 64 65535).toNat, ?_, h⟩
  show IntKind.i64.wrap ((BitVec.ofInt 64 a &&& BitVec.ofInt 64 (65535 : Int)).toNat : Nat) = _
  rw [IntKind.wrap_i64]
  omega
/-- five cells of a block written -/
def set5 (w : World) (q : Nat) (v0 v1 v2 v3 v4 : Value) : World := ((((w.setCell ⟨q, 0, none⟩ v0).setCell ⟨q, 1, none⟩ v1).setCell ⟨q, 2, none⟩ v2).setCell ⟨q, 3, none⟩ v3).setCell ⟨q, 4, none⟩ v4
theorem set5_row {w : World} {q : Nat} {c0 c1 c2 c3 c4 : Value} {t : TypeId} (h : w.heap[q]? = some (.cells #[c0, c1, c2, c3, c4] t (0, 0))) (v0 v1 v2 v3 v4 : Value) : (set5 w q v0 v1 v2 v3 v4).heap[q]? = some (.cells #[v0, v1, v2, v3, v4] t (0, 0)) :=
  Ux.setCell_row (Ux.setCell_row (Ux.setCell_row (Ux.setCell_row (Ux.setCell_row h 0 v0) 1 v1) 2 v2) 3 v3) 4 v4
theorem set5_touch (w : World) (q : Nat) (v0 v1 v2 v3 v4 : Value) : Ux.Touch (fun b => b = q) w (set5 w q v0 v1 v2 v3 v4) :=
  (((((Ux.Touch.refl (fun b => b = q) w).setCell (p := ⟨q, 0, none⟩) (fun _ => rfl) _).setCell (p := ⟨q, 1, none⟩) (fun _ => rfl) _).setCell (p := ⟨q, 2, none⟩) (fun _ => rfl) _).setCell (p := ⟨q, 3, none⟩) (fun _ => rfl) _).setCell (p := ⟨q, 4, none⟩) (fun _ => rfl) _

theorem there_row {w : World} {q : Nat} {cs : Array Value} {t : TypeId} (h : w.heap[q]? = some (.cells cs t (0, 0))) : w.there q 0 cs.size := fun j hj => by
  rw [Nat.zero_add]
  refine ⟨?_, Ux.frozen_row h j⟩
  rw [cell_of_row w q j _ _ (0, 0) h, Array.getElem?_eq_getElem hj]
  rfl
set_option maxHeartbeats 8000000 in
set_option maxRecDepth 100000 in
theorem make3_ (k lv : Int) (hk : k ≠ 1 ∧ k ≠ 2) (sh bk : Bool) (w : World) (hT : Tabs w) :
    Calls Tryz.prog 18 #[.int .i64 k, .int .i64 lv, .bool sh, .bool bk, .string ⟨#[]⟩] w fun e w' => ∃ B mb u, e = .returned (.tuple #[cV 3 (lvN lv : Nat) sh bk (some ⟨B, 0, none⟩), rcV 3 (lvN lv : Nat) sh bk u, .bool true]) ∧ TableAt w' B mb rootE ∧ RRows w' (fun b => w.heap.size ≤ b) u (rootT 132) ∧ Ux.Touch (fun _ => False) w w' := by
  obtain ⟨m, hm, hm2⟩ := and16 lv
  have hlv : (((m : Int) % 3) + 1 : Int) = (lvN lv : Nat) := by
    unfold lvN
    rw [hm, Int.toNat_natCast]
    omega
  obtain ⟨LI, hLI⟩ : ∃ LI : Int, ((lvN lv : Nat) : Int) = LI := ⟨_, rfl⟩
  rw [hLI] at hlv ⊢
  have q1 : (k == 1) = false := by simpa using hk.1
  have q2 : (k == 2) = false := by simpa using hk.2
  have m0 : (0 : Int) ≤ m := by omega
  have m1 : (m : Int) < 65536 := by omega
  obtain ⟨q, hq⟩ : ∃ q, w.heap.size = q := ⟨_, rfl⟩
  have hb1 : (w.alloc (.cells #[.int .i64 0, .int .i64 0, .bool false, .bool false, .pointer none] 26)).heap[q]? = some (.cells #[.int .i64 0, .int .i64 0, .bool false, .bool false, .pointer none] 26 (0, 0)) := by rw [← hq]; exact heap_alloc_new w _
  have T1 : Ux.Touch (fun _ => False) w (w.alloc (.cells #[.int .i64 0, .int .i64 0, .bool false, .bool false, .pointer none] 26)) := (Ux.Touch.refl _ _).alloc _
  have hs1 : (w.alloc (.cells #[.int .i64 0, .int .i64 0, .bool false, .bool false, .pointer none] 26)).heap.size = q + 1 := by rw [World.size_alloc, hq]
  obtain ⟨W1, hW1⟩ : ∃ W, w.alloc (.cells #[.int .i64 0, .int .i64 0, .bool false, .bool false, .pointer none] 26) = W := ⟨_, rfl⟩
  rw [hW1] at hb1 T1 hs1
  have hb2 : (W1.alloc (.cells #[.int .i64 0, .int .i64 0, .bool false, .bool false, .slice none 0 0] 35)).heap[q + 1]? = some (.cells #[.int .i64 0, .int .i64 0, .bool false, .bool false, .slice none 0 0] 35 (0, 0)) := by rw [← hs1]; exact heap_alloc_new W1 _
  have T2 : Ux.Touch (fun _ => False) W1 (W1.alloc (.cells #[.int .i64 0, .int .i64 0, .bool false, .bool false, .slice none 0 0] 35)) := (Ux.Touch.refl _ _).alloc _
  have hs2 : (W1.alloc (.cells #[.int .i64 0, .int .i64 0, .bool false, .bool false, .slice none 0 0] 35)).heap.size = q + 2 := by rw [World.size_alloc, hs1]
  have hb1' := T2.heap hb1 (fun f => f)
  obtain ⟨W2, hW2⟩ : ∃ W, W1.alloc (.cells #[.int .i64 0, .int .i64 0, .bool false, .bool false, .slice none 0 0] 35) = W := ⟨_, rfl⟩
  rw [hW2] at hb2 T2 hs2 hb1'
  have HW := Lib.hid (And.intro hW1 (And.intro hW2 (And.intro hq hs2)))
  have H2 := Lib.hid (And.intro (T1.trans T2 fun _ _ f => f) (And.intro hb1' hb2))
  have HT := Lib.hid hT
  clear hb1 T1 hs1 hb2 T2 hs2 hb1' hW1 hW2 hq hk hm2 hT hLI
  go_enter Tryz.func18, Tryz.ntmps18
  go_wp2_with (go_at_call 49; fail)
  rw [HW.out.1, HW.out.2.1, HW.out.2.2.1]
  refine (read0_ W2 (HT.out.touch H2.out.1)).mono ?_
  rintro e w3 ⟨B, mb, rfl, hTA, T3⟩
  have H3 := Lib.hid (And.intro hTA T3)
  clear hTA T3
  go_wp2_with (go_at_call 50; fail)
  refine (rread0_ w3).mono ?_
  rintro e w4 ⟨u, rfl, hR, T4⟩
  have hR4 := hR
  obtain ⟨_, a4, c4, hu4, _⟩ := hR
  subst hu4
  obtain ⟨n4, hn4⟩ : ∃ n, (rootT 132).length = n := ⟨_, rfl⟩
  rw [hn4] at hR4 ⊢
  obtain ⟨q6, hq6⟩ : ∃ q6, w4.heap.size = q6 := ⟨_, rfl⟩
  have hb6 : (w4.alloc (.cells #[.slice a4 n4 c4] 33)).heap[q6]? = some (.cells #[.slice a4 n4 c4] 33 (0, 0)) := by rw [← hq6]; exact heap_alloc_new w4 _
  have T5 : Ux.Touch (fun _ => False) w4 (w4.alloc (.cells #[.slice a4 n4 c4] 33)) := (Ux.Touch.refl _ _).alloc _
  obtain ⟨W5, hW5⟩ : ∃ W, w4.alloc (.cells #[.slice a4 n4 c4] 33) = W := ⟨_, rfl⟩
  rw [hW5] at hb6 T5
  have T25 := H3.out.2.trans (T4.trans T5 fun _ _ f => f) fun _ _ f => f
  have HW5 := Lib.hid (And.intro hW5 hq6)
  have c6 : W5.cell? ⟨q6, 0, none⟩ = some (.slice a4 n4 c4) := by rw [cell_of_row _ q6 0 _ _ (0, 0) hb6]; rfl
  have H5 := Lib.hid (And.intro (H3.out.1.touch0 (T4.trans T5 fun _ _ f => f)) (And.intro (hR4.touch0 T5) (And.intro T25 (And.intro (T25.heap H2.out.2.1 (fun f => f)) (T25.heap H2.out.2.2 (fun f => f))))))
  have HN := Lib.hid (And.intro hn4 H3.out.2.size)
  have H6s := Lib.hid T4.size
  clear hR4 hb6 T4 T5 hW5 hq6 T25 hn4
  go_upto_region 11 with (fail)
  rw [HW5.out.1, HW5.out.2]
  have hq0 := H5.out.2.2.2.1
  have hq1 := H5.out.2.2.2.2
  have HQ := Lib.hid (And.intro hq0 hq1)
  clear hq0 hq1
  refine Ux.wp_region_plan (fun _ w' => w'.cell? ⟨q6, 0, none⟩ = some (.slice a4 n4 c4)) (.q [0, 1, 2, 3, 4, 5, 6, 7, 10, 11] (.h true [8] (.q [9] (.e 12 false true (.e 13 false false (.line [14]))))))
    (by kernel_rfl) (by kernel_rfl) (by intro _ _ d _ _ h; cases d <;> exact h) ?hS ?_
  case hS => (intro c; cases c <;> (simp only [World.cell?_drew]; first | exact True.intro | (refine ⟨?_, ?_⟩ <;> assumption) | assumption | (repeat (first | assumption | (refine And.intro ?_ ?_)))))
  simp only [Ux.wpPlan, Ux.pickOps, Ux.keeps, List.getElem?_toArray, List.getElem?_cons_succ, List.getElem?_cons_zero]
  repeat (first
    | go_big_quiet_step (fail)
    | (with_reducible refine wpQuiet_nil ?_)
    | (refine Ux.quiet_held rfl ?_; apply Exists.intro; refine ⟨fun w' hS => ?_, ?_⟩; (focus ((try dsimp only at hS); go_simp; first | done | with_reducible rfl)); simp only [Act.put, List.setIfInBounds_toArray, List.set_cons_zero, List.set_cons_succ]))
  refine wpList_store_mid rfl 26 _ _ rfl q 0 #[.int .i64 3, .int .i64 LI, .bool sh, .bool bk, .pointer (some ⟨B, 0, none⟩)] rfl rfl (by have h := there_row (w := W5.drew) HQ.out.1; exact h) (by kernel_rfl) (by simp [Value.oneCell']) ?_
  obtain ⟨W6, hW6⟩ : ∃ W, set5 W5.drew q (.int .i64 3) (.int .i64 LI) (.bool sh) (.bool bk) (.pointer (some ⟨B, 0, none⟩)) = W := ⟨_, rfl⟩
  have T6 : Ux.Touch (fun b => b = q) W5 W6 := by rw [← hW6]; exact Ux.Touch.of_drew (set5_touch W5.drew q _ _ _ _ _)
  have hr6 : W6.heap[q]? = some (.cells #[.int .i64 3, .int .i64 LI, .bool sh, .bool bk, .pointer (some ⟨B, 0, none⟩)] 26 (0, 0)) := by rw [← hW6]; exact set5_row (w := W5.drew) HQ.out.1 _ _ _ _ _
  have hq16 := T6.heap HQ.out.2 (by omega)
  have hqs : q + 2 ≤ q6 := by
    have h1 := HW5.out.2
    have h2 := HN.out.2
    have h3 := HW.out.2.2.2
    have h4 := H6s.out
    omega
  have c6 := T6.cell c6 (fun h => by have h : q6 = q := h; omega)
  unfold set5 at hW6
  simp only [World.setCells] at hW6 ⊢
  rw [hW6]
  have HW6 := Lib.hid (And.intro T6 (And.intro hr6 (And.intro hq16 hqs)))
  clear hW6 T6 hr6 hq16 hqs
  refine ⟨c6, ?_⟩
  repeat (first
    | go_big_quiet_step (fail)
    | (with_reducible refine wpQuiet_nil ?_)
    | (refine Ux.quiet_held rfl ?_; apply Exists.intro; refine ⟨fun w' hS => ?_, ?_⟩; (focus ((try dsimp only at hS); go_simp; first | done | with_reducible rfl)); simp only [Act.put, List.setIfInBounds_toArray, List.set_cons_zero, List.set_cons_succ]))
  refine wpList_store_mid rfl 35 _ _ rfl (q + 1) 0 #[.int .i64 3, .int .i64 LI, .bool sh, .bool bk, .slice a4 n4 c4] rfl rfl (by have h := there_row HW6.out.2.2.1; exact h) (by kernel_rfl) (by simp [Value.oneCell']) ?_
  clear c6
  obtain ⟨W7, hW7⟩ : ∃ W, set5 W6 (q + 1) (.int .i64 3) (.int .i64 LI) (.bool sh) (.bool bk) (.slice a4 n4 c4) = W := ⟨_, rfl⟩
  have T7 : Ux.Touch (fun b => b = q + 1) W6 W7 := by rw [← hW7]; exact set5_touch W6 (q + 1) _ _ _ _ _
  have hr7 : W7.heap[q + 1]? = some (.cells #[.int .i64 3, .int .i64 LI, .bool sh, .bool bk, .slice a4 n4 c4] 35 (0, 0)) := by rw [← hW7]; exact set5_row HW6.out.2.2.1 _ _ _ _ _
  have hr67 := T7.heap HW6.out.2.1 (by omega)
  unfold set5 at hW7
  simp only [World.setCells] at hW7 ⊢
  rw [hW7]
  have HW7 := Lib.hid (And.intro T7 (And.intro hr7 hr67))
  clear hW7 T7 hr7 hr67
  go_wp2
  have x0 := cell_of_row W7 q 0 _ _ (0, 0) HW7.out.2.2
  have y0 := cell_of_row W7 (q + 1) 0 _ _ (0, 0) HW7.out.2.1
  have x1 := cell_of_row W7 q 1 _ _ (0, 0) HW7.out.2.2
  have y1 := cell_of_row W7 (q + 1) 1 _ _ (0, 0) HW7.out.2.1
  have x2 := cell_of_row W7 q 2 _ _ (0, 0) HW7.out.2.2
  have y2 := cell_of_row W7 (q + 1) 2 _ _ (0, 0) HW7.out.2.1
  have x3 := cell_of_row W7 q 3 _ _ (0, 0) HW7.out.2.2
  have y3 := cell_of_row W7 (q + 1) 3 _ _ (0, 0) HW7.out.2.1
  have x4 := cell_of_row W7 q 4 _ _ (0, 0) HW7.out.2.2
  have y4 := cell_of_row W7 (q + 1) 4 _ _ (0, 0) HW7.out.2.1
  simp at x0 x1 x2 x3 x4 y0 y1 y2 y3 y4
  refine bodyPost_ret (by simp [results, Tryz.results18, go_sem, x0, x1, x2, x3, x4, y0, y1, y2, y3, y4]; try rfl) rfl ?_
  have hq := HW.out.2.2.1
  have hq3 : q + 2 ≤ w3.heap.size := by have h1 := HN.out.2; have h2 := HW.out.2.2.2; omega
  refine ⟨B, mb, _, rfl, ?_, ?_, ?_⟩
  · refine ((H5.out.1.touchK HW6.out.1 ?_).touchK HW7.out.1 ?_)
    · rintro b rfl
      exact ⟨_, _, HQ.out.1, by decide, by decide, fun u hu => by simp at hu; rcases hu with rfl | rfl | rfl <;> exact ⟨fun _ h => (by cases h), fun _ h => (by cases h)⟩⟩
    · rintro b rfl
      exact ⟨_, _, HW6.out.2.2.1, by decide, by decide, fun u hu => by simp at hu; rcases hu with rfl | rfl | rfl <;> exact ⟨fun _ h => (by cases h), fun _ h => (by cases h)⟩⟩
  · exact ((H5.out.2.1.touchB HW6.out.1 fun g _ h e => by omega).touchB HW7.out.1 fun g _ h e => by omega).mono fun g _ h => by omega
  · exact ((H2.out.1.trans H5.out.2.2.1 fun _ _ f => f).trans (R := fun _ => False) HW6.out.1 fun b hb h => by omega).trans (R := fun _ => False) HW7.out.1 fun b hb h => by omega

end Go.Proofs.YtkeodddpnmnheaaGreatDoor
namespace Go.Proofs.YtkeodddpnmnheaaGreatDoor
open Go.RowKit
open Go.RowKit
open Ux (Ent rootE rootT wghC eLetter eMark)
open Ux.Sign (cp raw signs)

theorem okC3 (lv : Int) (h1 : 1 ≤ lv) (h3 : lv ≤ 3) (p : Addr) : okC 3 lv (some p) = true := by
  unfold okC
  simp [h1, h3]
theorem cmpC3 (lv : Nat) (h : 1 ≤ lv ∧ lv ≤ 3) (sh bk : Bool) (p : Addr) (E : List Ent) (a b : ByteArray) : cmpC 3 (lv : Int) sh bk (some p) E a b = wghC sh bk (elB E a) (elB E b) 1 lv := by
  unfold cmpC
  rw [if_pos (okC3 lv (by omega) (by omega) p), if_pos rfl, Int.toNat_natCast]
theorem sg_cE9 : signs (⟨#[195, 137]⟩ : ByteArray).data.toList = [201] := by
  show signs [195, 137] = [201]
  rw [Ux.Sign.signs_cons (by simp)]
  have h1 : Ux.Sign.sg [195, 137] = (201, 2) := by decide +kernel
  rw [h1]
  show 201 :: signs [] = [201]
  unfold signs
  rfl
theorem sg_1 (x : UInt8) (hx : x.toNat < 128) : signs (⟨#[x]⟩ : ByteArray).data.toList = [x.toNat] := Ux.Sign.signs_ascii [x] (by intro b hb; rw [List.mem_singleton.1 hb]; exact hx)
theorem el_e : elB rootE ⟨#[101]⟩ = [eLetter 4 2] := by
  unfold elB
  rw [sg_1 101 (by decide)]
  decide +kernel
theorem el_cE9 : elB rootE ⟨#[195, 137]⟩ = [eLetter 4 8, eMark 769] := by
  unfold elB
  rw [sg_cE9]
  decide +kernel
theorem el_a : elB rootE ⟨#[97]⟩ = [eLetter 0 2] := by
  unfold elB
  rw [sg_1 97 (by decide)]
  decide +kernel
theorem el_cA : elB rootE ⟨#[65]⟩ = [eLetter 0 8] := by
  unfold elB
  rw [sg_1 65 (by decide)]
  decide +kernel
theorem ft_A : ftB ⟨#[65]⟩ = ⟨#[97]⟩ := by
  unfold ftB Ux.Sign.foldText
  rw [sg_1 65 (by decide)]
  decide +kernel
theorem ft_a : ftB ⟨#[97]⟩ = ⟨#[97]⟩ := by
  unfold ftB Ux.Sign.foldText
  rw [sg_1 97 (by decide)]
  decide +kernel
theorem aw1 (p : Addr) : cmpC 3 1 false false (some p) rootE ⟨#[101]⟩ ⟨#[195, 137]⟩ = 0 := by
  refine (cmpC3 1 (by omega) false false p rootE _ _).trans ?_
  rw [el_e, el_cE9]
  decide +kernel
theorem aw2 (p : Addr) : cmpC 3 2 false false (some p) rootE ⟨#[101]⟩ ⟨#[195, 137]⟩ = -1 := by
  refine (cmpC3 2 (by omega) false false p rootE _ _).trans ?_
  rw [el_e, el_cE9]
  decide +kernel
theorem aw3 (p : Addr) : cmpC 3 3 false false (some p) rootE ⟨#[97]⟩ ⟨#[65]⟩ = -1 := by
  refine (cmpC3 3 (by omega) false false p rootE _ _).trans ?_
  rw [el_a, el_cA]
  decide +kernel
theorem aw4 : (cmpC 2 0 false false none rootE ⟨#[65]⟩ ⟨#[97]⟩ == 0) = true := by
  unfold cmpC
  rw [if_pos (by rfl), if_neg (by decide), if_pos rfl, ft_A, ft_a]
  unfold cmpStr
  rw [Ux.slt_irrefl]
  rfl
theorem lvN0 : lvN 0 = 1 := by decide +kernel
theorem lvN1 : lvN 1 = 2 := by decide +kernel
theorem lvN2 : lvN 2 = 3 := by decide +kernel

set_option maxHeartbeats 16000000 in
set_option maxRecDepth 100000 in
theorem awake8_ (w : World) (hT : Tabs w) : Calls Tryz.prog 17 #[] w fun e w' => e = .returned (.bool true) ∧ Ux.Touch (fun _ => False) w w' := by
  have HT := Lib.hid hT
  clear hT
  have HM := Lib.hid fun (lv : Int) W (T : Ux.Touch (fun _ => False) w W) => make3_ 3 lv (by decide) false false W (HT.out.touch T)
  go_enter Tryz.func17, Tryz.ntmps17
  have m1 := HM.out 0 w (Ux.Touch.refl _ _)
  rw [lvN0] at m1
  have HM1 := Lib.hid m1
  clear m1
  go_wp2_with (go_at_call 18; fail)
  refine HM1.out.mono ?_
  rintro e w1 ⟨B1, mb1, u1, rfl, hT1, hR1, T1⟩
  obtain ⟨_, a1, c1, rfl, _⟩ := hR1
  unfold cV rcV
  obtain ⟨W1, hW1⟩ : ∃ W, (w1.alloc (.cells #[.int .i64 3, .int .i64 1, .bool false, .bool false, .pointer (some ⟨B1, 0, none⟩)] 26)).alloc (.cells #[.int .i64 3, .int .i64 1, .bool false, .bool false, .slice a1 (rootT 132).length c1] 35) = W := ⟨_, rfl⟩
  have t1 : Ux.Touch (fun _ => False) w1 W1 := by rw [← hW1]; exact ((Ux.Touch.refl _ _).alloc _).alloc _
  have r1 : W1.heap[w1.heap.size]? = some (.cells #[.int .i64 3, .int .i64 1, .bool false, .bool false, .pointer (some ⟨B1, 0, none⟩)] 26 (0, 0)) := by rw [← hW1]; exact ((Ux.Touch.refl (fun _ => False) _).alloc _).heap (heap_alloc_new w1 _) (fun f => f)
  obtain ⟨q1, hq1⟩ : ∃ q, w1.heap.size = q := ⟨_, rfl⟩
  rw [hq1] at r1
  have H1 := Lib.hid (And.intro (hT1.touch0 t1) (And.intro (CAt.of r1) (And.intro (T1.trans t1 fun _ _ f => f) (T1.trans t1 fun _ _ f => f))))
  have HW1 := Lib.hid (And.intro hW1 hq1)
  clear hT1 T1 t1 r1 hW1 hq1
  have m2 := HM.out 1 W1 H1.out.2.2.1
  rw [lvN1] at m2
  have HM2 := Lib.hid m2
  clear m2
  go_wp2_with (go_at_call 18; fail)
  rw [HW1.out.1, HW1.out.2]
  refine HM2.out.mono ?_
  rintro e w2 ⟨B2, mb2, u2, rfl, hT2, hR2, T2⟩
  obtain ⟨_, a2, c2, rfl, _⟩ := hR2
  unfold cV rcV
  obtain ⟨W2, hW2⟩ : ∃ W, (w2.alloc (.cells #[.int .i64 3, .int .i64 2, .bool false, .bool false, .pointer (some ⟨B2, 0, none⟩)] 26)).alloc (.cells #[.int .i64 3, .int .i64 2, .bool false, .bool false, .slice a2 (rootT 132).length c2] 35) = W := ⟨_, rfl⟩
  have t2 : Ux.Touch (fun _ => False) w2 W2 := by rw [← hW2]; exact ((Ux.Touch.refl _ _).alloc _).alloc _
  have r2 : W2.heap[w2.heap.size]? = some (.cells #[.int .i64 3, .int .i64 2, .bool false, .bool false, .pointer (some ⟨B2, 0, none⟩)] 26 (0, 0)) := by rw [← hW2]; exact ((Ux.Touch.refl (fun _ => False) _).alloc _).heap (heap_alloc_new w2 _) (fun f => f)
  obtain ⟨q2, hq2⟩ : ∃ q, w2.heap.size = q := ⟨_, rfl⟩
  rw [hq2] at r2
  have H2 := Lib.hid (And.intro (hT2.touch0 t2) (And.intro (CAt.of r2) (And.intro (H1.out.2.2.1.trans (T2.trans t2 fun _ _ f => f) fun _ _ f => f) (T2.trans t2 fun _ _ f => f))))
  have HW2 := Lib.hid (And.intro hW2 hq2)
  clear hT2 T2 t2 r2 hW2 hq2
  have m3 := HM.out 2 W2 H2.out.2.2.1
  rw [lvN2] at m3
  have HM3 := Lib.hid m3
  clear m3
  go_wp2_with (go_at_call 18; fail)
  rw [HW2.out.1, HW2.out.2]
  refine HM3.out.mono ?_
  rintro e w3 ⟨B3, mb3, u3, rfl, hT3, hR3, T3⟩
  obtain ⟨_, a3, c3, rfl, _⟩ := hR3
  unfold cV rcV
  obtain ⟨W3, hW3⟩ : ∃ W, (w3.alloc (.cells #[.int .i64 3, .int .i64 3, .bool false, .bool false, .pointer (some ⟨B3, 0, none⟩)] 26)).alloc (.cells #[.int .i64 3, .int .i64 3, .bool false, .bool false, .slice a3 (rootT 132).length c3] 35) = W := ⟨_, rfl⟩
  have t3 : Ux.Touch (fun _ => False) w3 W3 := by rw [← hW3]; exact ((Ux.Touch.refl _ _).alloc _).alloc _
  have r3 : W3.heap[w3.heap.size]? = some (.cells #[.int .i64 3, .int .i64 3, .bool false, .bool false, .pointer (some ⟨B3, 0, none⟩)] 26 (0, 0)) := by rw [← hW3]; exact ((Ux.Touch.refl (fun _ => False) _).alloc _).heap (heap_alloc_new w3 _) (fun f => f)
  obtain ⟨q3, hq3⟩ : ∃ q, w3.heap.size = q := ⟨_, rfl⟩
  rw [hq3] at r3
  have H3 := Lib.hid (And.intro (hT3.touch0 t3) (And.intro (CAt.of r3) (And.intro (H2.out.2.2.1.trans (T3.trans t3 fun _ _ f => f) fun _ _ f => f) (T3.trans t3 fun _ _ f => f))))
  have HW3 := Lib.hid (And.intro hW3 hq3)
  clear hT3 T3 t3 r3 hW3 hq3
  have t23 := H3.out.2.2.2
  have t13 := H2.out.2.2.2.trans H3.out.2.2.2 fun _ _ f => f
  have HK1 := Lib.hid fun W (T : Ux.Touch (fun _ => False) W3 W) => (H1.out.2.1.touch t13).touch T
  have HK2 := Lib.hid fun W (T : Ux.Touch (fun _ => False) W3 W) => (H2.out.2.1.touch t23).touch T
  have HK3 := Lib.hid fun W (T : Ux.Touch (fun _ => False) W3 W) => H3.out.2.1.touch T
  have HO1 := Lib.hid fun W => cok_ 3 1 false false (some ⟨B1, 0, none⟩) W
  rw [okC3 1 (by decide) (by decide)] at HO1
  have HC1 := Lib.hid fun W (T : Ux.Touch (fun _ => False) W3 W) => ccmp_ 3 1 false false (some ⟨B1, 0, none⟩) rootE ⟨#[101]⟩ ⟨#[195, 137]⟩ W (fun _ p hp => by cases hp; exact ⟨B1, mb1, rfl, (H1.out.1.touch0 t13).touch0 T⟩) (HT.out.touch (H3.out.2.2.1.trans T fun _ _ f => f)) (by decide) (by decide)
  have HC2 := Lib.hid fun W (T : Ux.Touch (fun _ => False) W3 W) => ccmp_ 3 2 false false (some ⟨B2, 0, none⟩) rootE ⟨#[101]⟩ ⟨#[195, 137]⟩ W (fun _ p hp => by cases hp; exact ⟨B2, mb2, rfl, (H2.out.1.touch0 t23).touch0 T⟩) (HT.out.touch (H3.out.2.2.1.trans T fun _ _ f => f)) (by decide) (by decide)
  have HC3 := Lib.hid fun W (T : Ux.Touch (fun _ => False) W3 W) => ccmp_ 3 3 false false (some ⟨B3, 0, none⟩) rootE ⟨#[97]⟩ ⟨#[65]⟩ W (fun _ p hp => by cases hp; exact ⟨B3, mb3, rfl, H3.out.1.touch0 T⟩) (HT.out.touch (H3.out.2.2.1.trans T fun _ _ f => f)) (by decide) (by decide)
  rw [aw1] at HC1
  rw [aw2] at HC2
  rw [aw3] at HC3
  have HC4 := Lib.hid fun W (T : Ux.Touch (fun _ => False) W3 W) => csame_ 2 0 false false none rootE ⟨#[65]⟩ ⟨#[97]⟩ W (fun h => by cases h) (HT.out.touch (H3.out.2.2.1.trans T fun _ _ f => f)) (by decide) (by decide)
  rw [aw4] at HC4
  clear t23 t13
  unfold cV at HO1 HC1 HC2 HC3 HC4
  go_upto_region 4 with (fail)
  rw [HW3.out.1, HW3.out.2]
  obtain ⟨x0, x1, x2, x3, x4⟩ := HK1.out W3 (Ux.Touch.refl _ _)
  go_wp2_with (go_at_call 20; fail)
  refine (HO1.out W3).mono ?_
  rintro e w4 ⟨rfl, T4⟩
  have H4 := Lib.hid T4
  clear T4 x0 x1 x2 x3 x4
  obtain ⟨x0, x1, x2, x3, x4⟩ := HK1.out w4 H4.out
  go_wp2_with (go_at_call 16; fail)
  refine (HC1.out w4 H4.out).mono ?_
  rintro e w5 ⟨rfl, T5⟩
  have H5 := Lib.hid (H4.out.trans T5 fun _ _ f => f)
  clear T5 x0 x1 x2 x3 x4
  obtain ⟨x0, x1, x2, x3, x4⟩ := HK2.out w5 H5.out
  go_wp2_with (go_at_call 16; fail)
  refine (HC2.out w5 H5.out).mono ?_
  rintro e w6 ⟨rfl, T6⟩
  have H6 := Lib.hid (H5.out.trans T6 fun _ _ f => f)
  clear T6 x0 x1 x2 x3 x4
  obtain ⟨x0, x1, x2, x3, x4⟩ := HK3.out w6 H6.out
  go_wp2_with (go_at_call 16; fail)
  refine (HC3.out w6 H6.out).mono ?_
  rintro e w7 ⟨rfl, T7⟩
  have H7 := Lib.hid (H6.out.trans T7 fun _ _ f => f)
  clear T7 x0 x1 x2 x3 x4
  go_wp2_with (go_at_call 21; fail)
  refine (HC4.out w7 H7.out).mono ?_
  rintro e w8 ⟨rfl, T8⟩
  have H8 := Lib.hid (H7.out.trans T8 fun _ _ f => f)
  clear T8
  go_wp2
  go_returns
  exact ⟨rfl, H3.out.2.2.1.trans H8.out fun _ _ f => f⟩

end Go.Proofs.YtkeodddpnmnheaaGreatDoor
namespace Go.Proofs.YtkeodddpnmnheaaGreatDoor
open Go.RowKit
open Go.RowKit
open Ux (Ent rootE rootT wghC eLetter eMark eMk)
open Ux.Sign (cp raw signs)

set_option maxHeartbeats 4000000 in
theorem croot_ (lv : Int) (sh bk : Bool) (w : World) : Calls Tryz.prog 15 #[.int .i64 lv, .bool sh, .bool bk] w fun e w' => ∃ B mb, e = .returned (cV 3 lv sh bk (some ⟨B, 0, none⟩)) ∧ TableAt w' B mb rootE ∧ Ux.Touch (fun _ => False) w w' := by
  obtain ⟨q, hq⟩ : ∃ q, w.heap.size = q := ⟨_, rfl⟩
  have hb1 : (w.alloc (.cells #[.int .i64 0, .int .i64 0, .bool false, .bool false, .pointer none] 26)).heap[q]? = some (.cells #[.int .i64 0, .int .i64 0, .bool false, .bool false, .pointer none] 26 (0, 0)) := by rw [← hq]; exact heap_alloc_new w _
  have T1 : Ux.Touch (fun _ => False) w (w.alloc (.cells #[.int .i64 0, .int .i64 0, .bool false, .bool false, .pointer none] 26)) := (Ux.Touch.refl _ _).alloc _
  obtain ⟨W1, hW1⟩ : ∃ W, w.alloc (.cells #[.int .i64 0, .int .i64 0, .bool false, .bool false, .pointer none] 26) = W := ⟨_, rfl⟩
  rw [hW1] at hb1 T1
  have HW := Lib.hid (And.intro hW1 hq)
  have H1 := Lib.hid (And.intro T1 hb1)
  clear hb1 T1 hW1 hq
  go_enter Tryz.func15, Tryz.ntmps15
  go_wp2_with (go_at_call 46; fail)
  rw [HW.out.1, HW.out.2]
  refine (rootT_ W1).mono ?_
  rintro e w2 ⟨B, mb, rfl, hTA, _, T2⟩
  have hb2 := T2.heap H1.out.2 (fun f => f)
  have H2 := Lib.hid (And.intro hTA (And.intro (H1.out.1.trans T2 fun _ _ f => f) hb2))
  clear hTA T2 hb2
  go_wp2_with (refine Ux.is_store 26 rfl ?_; refine wpList_store_mid rfl 26 _ _ rfl q 0 #[.int .i64 3, .int .i64 lv, .bool sh, .bool bk, .pointer (some ⟨B, 0, none⟩)] rfl rfl (by have h := there_row H2.out.2.2; exact h) (by kernel_rfl) (by simp [Value.oneCell']) ?_)
  obtain ⟨W6, hW6⟩ : ∃ W, set5 w2 q (.int .i64 3) (.int .i64 lv) (.bool sh) (.bool bk) (.pointer (some ⟨B, 0, none⟩)) = W := ⟨_, rfl⟩
  have T6 : Ux.Touch (fun b => b = q) w2 W6 := by rw [← hW6]; exact set5_touch w2 q _ _ _ _ _
  have hr6 : W6.heap[q]? = some (.cells #[.int .i64 3, .int .i64 lv, .bool sh, .bool bk, .pointer (some ⟨B, 0, none⟩)] 26 (0, 0)) := by rw [← hW6]; exact set5_row H2.out.2.2 _ _ _ _ _
  unfold set5 at hW6
  simp only [World.setCells] at hW6 ⊢
  rw [hW6]
  have x0 := cell_of_row W6 q 0 _ _ (0, 0) hr6
  have x1 := cell_of_row W6 q 1 _ _ (0, 0) hr6
  have x2 := cell_of_row W6 q 2 _ _ (0, 0) hr6
  have x3 := cell_of_row W6 q 3 _ _ (0, 0) hr6
  have x4 := cell_of_row W6 q 4 _ _ (0, 0) hr6
  simp at x0 x1 x2 x3 x4
  refine bodyPost_ret (by simp [results, Tryz.results15, go_sem, x0, x1, x2, x3, x4]; try rfl) rfl ?_
  refine ⟨B, mb, rfl, H2.out.1.touchK T6 ?_, H2.out.2.1.trans (R := fun _ => False) T6 fun b hb h => by have := HW.out.2; omega⟩
  rintro b rfl
  exact ⟨_, _, H2.out.2.2, by decide, by decide, fun u hu => by simp at hu; rcases hu with rfl | rfl | rfl <;> exact ⟨fun _ h => (by cases h), fun _ h => (by cases h)⟩⟩

end Go.Proofs.YtkeodddpnmnheaaGreatDoor
