/- PART OF THE PROOF THAT THIS CLAIM HOLDS OF THE GIVEN PROGRAM, FOR EVERY INPUT THAT THE STATEMENT NAMES. No condition besides the statement's own. -/
import Derived.Test.YtdfgpminonpeaaaSeekZ
import Derived.Test.YtdfgpminonpeaaaPrevZ
import Derived.Test.YtdfgpminonpeaaaRows
import Derived.WalkKit
import Derived.Handy
import Derived.Laws.EntriesVeiled
import Derived.WalkSpells
import Derived.WalkLawsBesides
import Derived.BigQuiet
import Derived.Deep.QuietTactic
import Derived.Deep.Cut
import Derived.Lib.Overlaps
import Derived.Laws.Externs
import Derived.Lib.Hide
import Derived.Test.YtdfgpminonpeaaaUxPlanAllZ
import Derived.Test.YtdfgpminonpeaaaUxTreeAllZ
import Derived.Deep.LoopGhost
namespace Go.Proofs.Ytdfgpminonpeaaa
open Go.RowKit
-- imports: YtdfgpminonpeaaaSeek YtdfgpminonpeaaaPrev
open Ux (slt lb has Rises T NodeAt NodesAt Shp wayN blk ptr flat flats keys ins Up CurAt FrAt Fr frCells Stands Ctx ahead TypeIn Go1Rel CurLeft SeekRel seekN)

/-- what Last gives -/
def LastPost (w : World) (root : T) (FP : List Nat) (o : Option Nat) (e : Ending) (w' : World) : Prop :=
  ∃ cb fc, e = .returned (.pointer (some ⟨cb, 0, none⟩)) ∧ CurAt w' cb root FP o fc ∧ (∀ b ∈ fc, w.heap.size ≤ b) ∧ Ux.Touch (fun _ => False) w w'

/-- On the way down to the last key: the frames so far, the node y that they lead to. -/
def EndRel (fan : Nat) (w0 : World) (cb : Nat) (root : T) (FP : List Nat) (g : Nat) (y : Nat) (w : World) : Prop :=
  ∃ pre t lv a, w.heap[cb]? = some (.cells #[lv] 75 (0, 0)) ∧ w.ownsRow 0 77 2 lv pre.length (frCells pre) ∧ (∀ b ∈ blk lv, w0.heap.size ≤ b) ∧ Ux.Touch (fun _ => False) w0 w ∧
    (∀ f ∈ pre, FrAt w0 FP f.1 f.2.1) ∧ FrAt w0 FP t y ∧ Ctx root pre t a [] ∧ Ux.Good fan g t ∧ 1 ≤ t.size

set_option maxHeartbeats 1000000 in
theorem last16_none (tb fan : Nat) (x : Nat) (root : T) (FP : List Nat) (w : World) (c1 : w.cell? ⟨tb, 1, none⟩ = some (.int .i64 0)) :
    Calls Try.prog 16 #[.pointer (some ⟨tb, 0, none⟩)] w (LastPost w root FP none) := by
  have T0 := (Ux.Touch.refl (fun _ => False) w).alloc (.cells #[.slice none 0 0] 75)
  have c1' := T0.cell c1 (fun f => f)
  have hb0 : (w.alloc (.cells #[.slice none 0 0] 75)).heap[w.heap.size]? = some (.cells #[.slice none 0 0] 75 (0, 0)) := heap_alloc_new w _
  have H := Lib.hid (And.intro T0 hb0)
  clear T0 hb0
  go_enter Try.func16, Try.ntmps16
  go_wp2
  go_ret
  exact ⟨w.heap.size, [w.heap.size], rfl, ⟨[], .slice none 0 0, H.out.2, World.ownsRow_nil _ 0 77 2, rfl, (fun f hf => by cases hf), rfl⟩, by simp, H.out.1⟩

set_option maxHeartbeats 4000000 in
set_option maxRecDepth 100000 in
theorem last16 (fan d : Nat) (root : T) (tb x : Nat) (n : Int) (FP : List Nat) (w : World) (hf : 4 ≤ fan) (h64 : fan ≤ 64) (hg : Ux.Good fan d root) (hs : root.size ≤ fan) (hd : d ≤ 1000) (h1 : 1 ≤ root.size)
    (c1 : w.cell? ⟨tb, 1, none⟩ = some (.int .i64 n)) (hn : n ≠ 0) (c2 : w.cell? ⟨tb, 2, none⟩ = some (.pointer (some ⟨x, 0, none⟩))) (hx : FrAt w FP root x) (hFP : ∀ b ∈ FP, b < w.heap.size) :
    Calls Try.prog 16 #[.pointer (some ⟨tb, 0, none⟩)] w (LastPost w root FP (some ((flat root).length - 1))) := by
  have HG := Lib.hid (And.intro hf (And.intro h64 (And.intro hg (And.intro hs (And.intro hd (And.intro h1 (And.intro hx hFP)))))))
  clear hf h64 hg hs hd h1 hx hFP
  obtain ⟨cb, hcb⟩ : ∃ cb, w.heap.size = cb := ⟨_, rfl⟩
  obtain ⟨W0, hW0⟩ : ∃ W0, w.alloc (.cells #[.slice none 0 0] 75) = W0 := ⟨_, rfl⟩
  have T0 : Ux.Touch (fun _ => False) w W0 := by rw [← hW0]; exact (Ux.Touch.refl _ w).alloc _
  have hb0 : W0.heap[cb]? = some (.cells #[.slice none 0 0] 75 (0, 0)) := by rw [← hW0, ← hcb]; exact heap_alloc_new w _
  have c2' := T0.cell c2 (fun f => f)
  have c1' := T0.cell c1 (fun f => f)
  have hne : (n == 0) = false := by simpa using hn
  have H0 := Lib.hid (And.intro T0 hb0)
  have HCB := Lib.hid hcb
  clear T0 hb0 c2 c1
  go_enter Try.func16, Try.ntmps16
  go_wp2
  go_loopg [4] d (fun g s wr => ∃ y, s = .pointer (some ⟨y, 0, none⟩) ∧ EndRel fan w cb root FP g y wr)
  case atStart =>
    exact ⟨x, rfl, [], root, .slice none 0 0, [], H0.out.2, World.ownsRow_nil W0 0 77 2, (fun b hb => by cases hb), H0.out.1, (fun f hf => by cases hf), HG.out.2.2.2.2.2.2.1, .nil, HG.out.2.2.1, HG.out.2.2.2.2.2.1⟩
  case round =>
    clear c2' c1' hW0 hne hn
    obtain ⟨y, rfl, pre, t, lv, a, k1, k2, k3, k4, k5, k6, k7, k8, k9⟩ := hrel
    obtain ⟨dd, gd, hdd, _, hzz⟩ := k7.good HG.out.1 HG.out.2.2.1 HG.out.2.2.2.1
    have hyF := k6.mem
    have hlt : ∀ b ∈ FP, b < cb := fun b hb => HCB.out ▸ HG.out.2.2.2.2.2.2.2 b hb
    have c0 : wr.cell? ⟨cb, 0, none⟩ = some lv := by rw [cell_of_row wr cb 0 _ 75 (0, 0) k1]; rfl
    have hdp : pre.length ≤ 1000 := by have := HG.out.2.2.2.2.1; omega
    obtain ⟨fy, hny, hfy⟩ := k6.touch k4 (fun _ _ f => f)
    have SZ := size34 wr.drew (hny.touch (Ux.Touch.refl (fun _ => False) wr).drew (fun _ _ f => f)) (Ux.Good.shp k8)
    obtain ⟨i, hsz⟩ : ∃ i, t.size = i + 1 := ⟨t.size - 1, by omega⟩
    rw [hsz, show ((i + 1 : Nat) : Int) = (i : Int) + 1 by omega] at SZ
    have s1 : (0 : Int) ≤ i := by omega
    have s2 : (i : Int) + 1 ≤ 64 := by have := HG.out.2.1; omega
    have hcbs : w.heap.size ≤ cb := by have := HCB.out; omega
    obtain ⟨ga, ca, wa, hap, oa, TA, ba, hne, hca, dca, fca, hst, hgn⟩ := push_store wr cb lv pre.length (frCells pre) y (i : Int) (wr.alloc (.cells #[.pointer (some ⟨y, 0, none⟩), .int .i64 (i : Int)] 77)).drew wr.heap.size k1 k2 (by omega) (((Ux.Touch.refl _ wr).alloc _).drew) (heap_alloc_new wr _)
    have TW : Ux.Touch (fun _ => False) w wa := k4.trans TA (fun b hb e => by have := k3 b (by simp [blk, e]); omega)
    have hgaw : w.heap.size ≤ ga := by
      rcases ba with h | h
      · exact k3 _ (by simp [blk, h])
      · have := k4.size; omega
    obtain ⟨W5, hW5⟩ : ∃ W5, wa.setCell ⟨cb, 0, none⟩ (.slice (some ⟨ga, 0, none⟩) (pre.length + 1) ca) = W5 := ⟨_, rfl⟩
    have TS : Ux.Touch (fun b => b = cb) wa W5 := by rw [← hW5]; exact (Ux.Touch.refl (fun b => b = cb) wa).setCell (p := ⟨cb, 0, none⟩) (fun _ => rfl) _
    have TWW : Ux.Touch (fun _ => False) w W5 := TW.trans TS (fun b hb e => by omega)
    have o5 : W5.ownsRow 0 77 2 (.slice (some ⟨ga, 0, none⟩) (pre.length + 1) ca) (pre.length + 1) (frCells pre ++ [.pointer (some ⟨y, 0, none⟩), .int .i64 (i : Int)]) := Ux.own_touch oa TS (fun b hb e => by cases hb; exact hne e)
    rw [hW5] at hst
    have c0' := (((Ux.Touch.refl (fun _ => False) wr).alloc (.cells #[.pointer (some ⟨y, 0, none⟩), .int .i64 (i : Int)] 77)).drew).cell c0 (fun f => f)
    have hnl : ∀ b ∈ FP, ¬ lv.ownBlock = some b := fun b hb e => by have := k3 b (by simp [blk, e]); have := hlt b hb; have := HCB.out; omega
    have HTA := Lib.hid TA
    have y1 : ¬ y = cb := by have := hlt y hyF; omega
    have y3 : ¬ cb = y := by omega
    have K4 := Lib.hid k4
    have HSZ := Lib.hid SZ
    have HAP := Lib.hid hap
    have A := Lib.hid (And.intro hne (And.intro hst (And.intro hgaw (And.intro TWW o5))))
    have K := Lib.hid (And.intro k3 (And.intro k5 (And.intro k6 (And.intro k7 (And.intro k8 (And.intro hsz (And.intro hlt hyF)))))))
    have HW5 := Lib.hid hW5
    clear SZ hap oa TA ba hne hca hst hgn TW hgaw TS TWW o5 hW5 k1 k2 k3 k4 k5 hny hcbs hdp gd hdd
    cases t with
    | leaf l =>
      have q2 := HTA.out.cell (k6.touch K4.out (fun _ _ f => f)).leaf.1 (hnl y hyF)
      have FIN : LastPost w root FP (some ((flat root).length - 1)) (.returned (.pointer (some ⟨cb, 0, none⟩))) W5 := by
        have hl : l.length = i + 1 := hsz
        refine ⟨cb, [cb, ga], rfl, ⟨pre ++ [(.leaf l, y, i)], _, A.out.2.1, ?_, by simp [blk, Value.ownBlock], ?_, pre, l, y, i, a, [], rfl, by omega, k7, ?_⟩, ?_, A.out.2.2.2.1⟩
        · rw [Ux.frCells_snoc]
          simpa using A.out.2.2.2.2
        · intro f hf
          rcases List.mem_append.1 hf with hf | hf
          · exact (K.out.2.1 f hf).touch A.out.2.2.2.1 (fun _ _ f => f)
          · simp at hf; subst hf; exact k6.touch A.out.2.2.2.1 (fun _ _ f => f)
        · have := k7.flat
          rw [this]
          simp only [flat, Ux.flat, List.length_append, List.length_nil]
          omega
        · intro b hb
          simp at hb
          rcases hb with rfl | rfl
          · have := HCB.out; omega
          · exact A.out.2.2.1
      have HFIN := Lib.hid FIN
      clear k6 k7 k8 k9 hsz hzz hnl hlt hyF FIN
      go_wp2_with fail
      refine Ux.wp_region_plan (fun _ w' => w'.cell? ⟨cb, 0, none⟩ = some lv) (.q [0, 1, 2, 3, 5, 6] (.h false [4] (.e 7 true false (.q [8, 9] (.e 10 true false (.e 11 false false (.line [12, 13, 14])))))))
        (by kernel_rfl) (by kernel_rfl) (by intro _ _ d _ _ h; cases d <;> exact h) ?hS ?_
      case hS => (intro c; cases c <;> (simp only [World.cell?_drew]; first | exact True.intro | (refine ⟨?_, ?_⟩ <;> assumption) | assumption | (repeat (first | assumption | (refine And.intro ?_ ?_)))))
      simp only [Ux.wpPlan, Ux.pickOps, Ux.keeps, List.getElem?_toArray, List.getElem?_cons_succ, List.getElem?_cons_zero]
      repeat (first
        | go_big_quiet_step (fail)
        | (with_reducible refine wpQuiet_nil ?_)
        | (refine Ux.quiet_held rfl ?_; apply Exists.intro; refine ⟨fun w' hS => ?_, ?_⟩; (focus ((try dsimp only at hS); go_simp; first | done | with_reducible rfl)); simp only [Act.put, List.setIfInBounds_toArray, List.set_cons_zero, List.set_cons_succ]))
      go_wp2_with (go_at_call 34; refine HSZ.out.mono ?_; rintro e w4 ⟨rfl, rfl⟩)
      refine ⟨c0, ?_⟩
      repeat (first
        | go_big_quiet_step (fail)
        | (with_reducible refine wpQuiet_nil ?_)
        | (refine Ux.quiet_held rfl ?_; apply Exists.intro; refine ⟨fun w' hS => ?_, ?_⟩; (focus ((try dsimp only at hS); go_simp; first | done | with_reducible rfl)); simp only [Act.put, List.setIfInBounds_toArray, List.set_cons_zero, List.set_cons_succ]))
      go_wp2_with fail
      refine ⟨c0', ?_⟩
      repeat (first
        | go_big_quiet_step (fail)
        | (with_reducible refine wpQuiet_nil ?_)
        | (refine Ux.quiet_held rfl ?_; apply Exists.intro; refine ⟨fun w' hS => ?_, ?_⟩; (focus ((try dsimp only at hS); go_simp; first | done | with_reducible rfl)); simp only [Act.put, List.setIfInBounds_toArray, List.set_cons_zero, List.set_cons_succ]))
      go_wp2_with (at_builtin; refine Lib.wpList_append_run _ rfl _ _ _ _ rfl _ _ rfl rfl _ _ (HAP.out _) ?_)
      go_ret
      rw [HW5.out]
      exact HFIN.out
    | node ks cs =>
      obtain ⟨g', rfl⟩ : ∃ g', gk = g' + 1 := by
        cases gk with
        | zero => obtain ⟨l, e⟩ := k8; cases e
        | succ g' => exact ⟨g', rfl⟩
      have hl : cs.length = i + 1 := hsz
      obtain ⟨c, hc⟩ : ∃ c, cs[i]? = some c := ⟨cs[i], List.getElem?_eq_getElem (by omega)⟩
      obtain ⟨gx, cx, z, m0, m1, hz, m3, m4, _, hgF⟩ := k6.kid hc
      have n0 := HTA.out.cell (K4.out.cell m0 (fun f => f)) (hnl y hyF)
      have n1 := HTA.out.cell (K4.out.cell m1 (fun f => f)) (hnl gx hgF)
      have r0 := A.out.2.2.2.1.cell m0 (fun f => f)
      have r1 := A.out.2.2.2.1.cell m1 (fun f => f)
      obtain ⟨f5, hn5, _⟩ := k6.touch (R := fun _ => False) A.out.2.2.2.1.drew (fun _ _ f => f)
      have SZ2 := size34 W5.drew hn5 (Ux.Good.shp k8)
      rw [show (T.node ks cs).size = i + 1 from hl, show ((i + 1 : Nat) : Int) = (i : Int) + 1 by omega] at SZ2
      rw [hl] at n0 r0
      have FIN : EndRel fan w cb root FP g' z W5.drew := by
        obtain ⟨gc, zc, _⟩ : Ux.Good fan g' c ∧ fan / 2 ≤ c.size ∧ c.size ≤ fan := by
          obtain ⟨_, _, e, _, _, h3⟩ := k8
          cases e
          exact h3 c (List.mem_of_getElem? hc)
        have D := (Ux.Touch.refl (fun _ => False) W5).drew
        have k7' := k7.snoc (x := y) hc
        have hd : cs.drop (i + 1) = [] := List.drop_eq_nil_of_le (by omega)
        rw [hd] at k7'
        refine ⟨pre ++ [(.node ks cs, y, i)], c, _, _, D.heap A.out.2.1 (fun f => f), ?_, ?_, A.out.2.2.2.1.drew, ?_, hz, k7', gc, by have := HG.out.1; omega⟩
        · rw [Ux.frCells_snoc]
          have := Ux.own_touch A.out.2.2.2.2 D (fun _ _ f => f)
          simpa using this
        · intro b hb
          simp [blk, Value.ownBlock] at hb
          subst hb
          exact A.out.2.2.1
        · intro f hf
          rcases List.mem_append.1 hf with hf | hf
          · exact K.out.2.1 f hf
          · simp at hf; subst hf; exact k6
      have HFIN := Lib.hid FIN
      have HSZ2 := Lib.hid SZ2
      have y2 : ¬ gx = cb := by have := hlt gx hgF; omega
      clear k6 k7 k8 k9 hsz hzz hnl hlt hyF FIN SZ2 hc hz m0 m1 m3 m4 hgF hn5 hl
      go_wp2_with fail
      refine Ux.wp_region_plan (fun _ w' => w'.cell? ⟨cb, 0, none⟩ = some lv) (.q [0, 1, 2, 3, 5, 6] (.h false [4] (.e 7 true false (.q [8, 9] (.e 10 true false (.e 11 false false (.line [12, 13, 14])))))))
        (by kernel_rfl) (by kernel_rfl) (by intro _ _ d _ _ h; cases d <;> exact h) ?hS ?_
      case hS => (intro c; cases c <;> (simp only [World.cell?_drew]; first | exact True.intro | (refine ⟨?_, ?_⟩ <;> assumption) | assumption | (repeat (first | assumption | (refine And.intro ?_ ?_)))))
      simp only [Ux.wpPlan, Ux.pickOps, Ux.keeps, List.getElem?_toArray, List.getElem?_cons_succ, List.getElem?_cons_zero]
      repeat (first
        | go_big_quiet_step (fail)
        | (with_reducible refine wpQuiet_nil ?_)
        | (refine Ux.quiet_held rfl ?_; apply Exists.intro; refine ⟨fun w' hS => ?_, ?_⟩; (focus ((try dsimp only at hS); go_simp; first | done | with_reducible rfl)); simp only [Act.put, List.setIfInBounds_toArray, List.set_cons_zero, List.set_cons_succ]))
      go_wp2_with (go_at_call 34; refine HSZ.out.mono ?_; rintro e w4 ⟨rfl, rfl⟩)
      refine ⟨c0, ?_⟩
      repeat (first
        | go_big_quiet_step (fail)
        | (with_reducible refine wpQuiet_nil ?_)
        | (refine Ux.quiet_held rfl ?_; apply Exists.intro; refine ⟨fun w' hS => ?_, ?_⟩; (focus ((try dsimp only at hS); go_simp; first | done | with_reducible rfl)); simp only [Act.put, List.setIfInBounds_toArray, List.set_cons_zero, List.set_cons_succ]))
      go_wp2_with fail
      refine ⟨c0', ?_⟩
      repeat (first
        | go_big_quiet_step (fail)
        | (with_reducible refine wpQuiet_nil ?_)
        | (refine Ux.quiet_held rfl ?_; apply Exists.intro; refine ⟨fun w' hS => ?_, ?_⟩; (focus ((try dsimp only at hS); go_simp; first | done | with_reducible rfl)); simp only [Act.put, List.setIfInBounds_toArray, List.set_cons_zero, List.set_cons_succ]))
      go_wp2_with (at_builtin; refine Lib.wpList_append_run _ rfl _ _ _ _ rfl _ _ rfl rfl _ _ (HAP.out _) ?_)
      rw [HW5.out]
      refine Ux.wp_region_plan (fun _ w' => w'.cell? ⟨y, 2, none⟩ = some (.slice (some ⟨gx, 0, none⟩) (i + 1) cx) ∧ w'.cell? ⟨gx, i, none⟩ = some (.pointer (some ⟨z, 0, none⟩))) (.q [0, 1, 2, 4] (.h false [3] (.e 5 true false (.q [6, 7] (.h false [8] (.line [9]))))))
        (by kernel_rfl) (by kernel_rfl) (by intro _ _ d _ _ h; cases d <;> exact h) ?hS ?_
      case hS => (intro c; cases c <;> (simp only [World.cell?_drew]; first | exact True.intro | (refine ⟨?_, ?_⟩ <;> assumption) | assumption | (repeat (first | assumption | (refine And.intro ?_ ?_)))))
      simp only [Ux.wpPlan, Ux.pickOps, Ux.keeps, List.getElem?_toArray, List.getElem?_cons_succ, List.getElem?_cons_zero]
      repeat (first
        | go_big_quiet_step (fail)
        | (with_reducible refine wpQuiet_nil ?_)
        | (refine Ux.quiet_held rfl ?_; apply Exists.intro; refine ⟨fun w' hS => ?_, ?_⟩; (focus ((try dsimp only at hS); go_simp; first | done | with_reducible rfl)); simp only [Act.put, List.setIfInBounds_toArray, List.set_cons_zero, List.set_cons_succ]))
      go_wp2_with (go_at_call 34; refine HSZ2.out.mono ?_; rintro e w4 ⟨rfl, rfl⟩)
      refine ⟨⟨r0, r1⟩, ?_⟩
      repeat (first
        | go_big_quiet_step (fail)
        | (with_reducible refine wpQuiet_nil ?_)
        | (refine Ux.quiet_held rfl ?_; apply Exists.intro; refine ⟨fun w' hS => ?_, ?_⟩; (focus ((try dsimp only at hS); go_simp; first | done | with_reducible rfl)); simp only [Act.put, List.setIfInBounds_toArray, List.set_cons_zero, List.set_cons_succ]))
      go_wp2_with fail
      go_roundg g'
      case measure => omega
      case rel => exact ⟨z, rfl, HFIN.out⟩

end Go.Proofs.Ytdfgpminonpeaaa
