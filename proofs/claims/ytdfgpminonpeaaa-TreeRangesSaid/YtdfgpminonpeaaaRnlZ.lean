/- PART OF THE PROOF THAT THIS CLAIM HOLDS OF THE GIVEN PROGRAM, FOR EVERY INPUT THAT THE STATEMENT NAMES. No condition besides the statement's own. -/
import Derived.Test.YtdfgpminonpeaaaPlaysZ
import Derived.Test.YtdfgpminonpeaaaRows
import Derived.WalkKit
import Derived.Handy
import Derived.Laws.EntriesVeiled
import Derived.WalkSpells
import Derived.WalkLawsBesides
import Derived.BigQuiet
import Derived.Deep.QuietTactic
import Derived.Deep.Cut
import Derived.Deep.DeepCutAuto
import Derived.Lib.Overlaps
import Derived.Laws.Externs
import Derived.Lib.Hide
import Derived.Test.YtdfgpminonpeaaaUxPlanAllZ
import Derived.Test.YtdfgpminonpeaaaUxTreeAllZ
import Derived.Deep.LoopGhost
namespace Go.Proofs.Ytdfgpminonpeaaa
open Go.RowKit
-- imports: YtdfgpminonpeaaaPlays
open Ux (slt lb has Rises keys ins del playN play1 Act3 midOk)
attribute [local go_sem] Oper.semAt_some

/-- the pairs wanted so far -/
def WantRel (w2 : World) (bw : Nat) (xs : List (ByteArray × Int)) (wr : World) : Prop :=
  ∃ v, wr.heap[bw]? = some (.cells #[v] 46 (0, 0)) ∧ PairsAt wr v xs ∧ (∀ b, v.ownBlock = some b → bw < b) ∧ Ux.Touch (fun b => bw ≤ b) w2 wr

/-- a second range under way: as many taken as told, no more than k -/
def TakeI (k b3 : Nat) (w5 : World) (pre : List (ByteArray × Int)) (W : World) : Prop :=
  pre.length ≤ k ∧ W.heap[b3]? = some (.cells #[.int .i64 pre.length] 3 (0, 0)) ∧ Ux.Touch (fun b => b = b3 ∨ w5.heap.size ≤ b) w5 W
def TakeX (k b3 : Nat) (w5 : World) (c : Code) (pre : List (ByteArray × Int)) (W : World) : Prop :=
  c = .exit 4 ∧ pre.length = k + 1 ∧ W.heap[b3]? = some (.cells #[.int .i64 k] 3 (0, 0)) ∧ Ux.Touch (fun b => b = b3 ∨ w5.heap.size ≤ b) w5 W

set_option maxHeartbeats 4000000 in
set_option maxRecDepth 100000 in
theorem law6 (a0 : Int) (W : World) (base : Option Addr) (c : Nat) (ops : List Act3) (hops : OpsAt W base ops) (hlen : ops.length ≤ maxLen) (lo hi : ByteArray) (op : Bool) (take : Int) :
    Calls Try.prog 6 #[.int .i64 a0, .slice base ops.length c, .string lo, .string hi, .bool op, .int .i64 take] W fun e w' => e = .returned (.bool true) ∧ Ux.Touch (fun _ => False) W w' := by
  obtain ⟨m, F, hand, hm0, hm1, hF, hF4, hF64⟩ := Ux.fan_of a0
  obtain ⟨k, hk, hk16⟩ := Ux.few_of take
  have T0 : Ux.Touch (fun _ => False) W (W.alloc (.cells #[.int .i64 take] 3)) := (Ux.Touch.refl _ W).alloc _
  have hbt := heap_alloc_new W (.cells #[.int .i64 take] 3)
  have hops0 : OpsAt (W.alloc (.cells #[.int .i64 take] 3)) base ops := fun i o ho => by
    obtain ⟨b, f, h1, h2, h3, h4, h5⟩ := hops i o ho
    exact ⟨b, f, h1, Nat.lt_of_lt_of_le h2 T0.size, T0.cell h3 (fun f => f), T0.cell h4 (fun f => f), T0.cell h5 (fun f => f)⟩
  have BB := built25 F hF4 hF64 base c ops 80 (by omega) _ hops0 hlen
  obtain ⟨L, hL⟩ : ∃ L, playN ops (min ops.length 80) = L := ⟨_, rfl⟩
  have hl := Ux.playN_length ops (min ops.length 80)
  rw [hL] at BB hl
  obtain ⟨no, hno⟩ : ∃ no, ops.length = no := ⟨_, rfl⟩
  rw [hno] at BB hl
  rw [hno]
  obtain ⟨bt, hbte⟩ : ∃ bt, W.heap.size = bt := ⟨_, rfl⟩
  have hL80 : L.length ≤ 80 := by omega
  have l80 : (L.length : Int) ≤ 80 := by omega
  rw [World.size_alloc, hbte] at BB
  rw [hbte] at hbt
  have HBB := Lib.hid BB
  have H0 := Lib.hid (And.intro T0 (And.intro hbt hbte))
  have HK := Lib.hid (And.intro hk hk16)
  clear hL hl hno BB T0 hbt hops0 hops hlen hF4 hF64 hbte hk
  refine calls_marks Try.func6 rfl ?_
  simp only [Try.ntmps6, List.size_toArray, List.length_cons, List.length_nil, Nat.reduceAdd, Nat.reduceSub, Array.replicate_succ, Array.replicate_zero, List.push_toArray, List.append_toArray, List.nil_append, List.cons_append]
  go_wp2_with (go_at_call 25; fail)
  refine HBB.out.mono ?_
  rintro e w1 ⟨tb, v, rfl, B1⟩
  obtain ⟨lv, lc, rfl, _⟩ := B1.pairs.cells
  obtain ⟨bw, hbw⟩ : ∃ bw, w1.heap.size = bw := ⟨_, rfl⟩
  have HB1 := Lib.hid B1
  have HBW := Lib.hid hbw
  clear B1 HBB hand hm0 hm1 hF
  go_wp2_with (fail)
  rw [H0.out.2.2]
  have hw0 : WantRel w1 bw [] (w1.alloc (.cells #[.slice none 0 0] 46)) := ⟨.slice none 0 0, by rw [← hbw]; exact heap_alloc_new w1 _, PairsAt.nil _, (fun b h => by cases h), (Ux.Touch.refl _ w1).alloc _⟩
  have HW0 := Lib.hid hw0
  have hbwN : bt + 1 ≤ bw := by rw [← hbw]; exact HB1.out.size
  clear hw0 hbw
  go_loopg [17] L.length (fun g s17 wr => ∃ i : Nat, s17 = .int .i64 i ∧ i + g = L.length ∧ WantRel w1 bw ((L.take i).filter (midOk lo hi op)) wr)
  case atStart => exact ⟨0, rfl, by omega, HW0.out⟩
  case round =>
    obtain ⟨i, rfl, hig, v, h1, h2, h3, h4⟩ := hrel
    have p0 : (0 : Int) ≤ i := by omega
    by_cases hlt : i < L.length
    · obtain ⟨g', rfl⟩ : ∃ g', gk = g' + 1 := ⟨gk - 1, by omega⟩
      have p1 : (i : Int) < L.length := by omega
      obtain ⟨p, hp⟩ : ∃ p, L[i]? = some p := ⟨L[i], List.getElem?_eq_getElem hlt⟩
      have hpr := HB1.out.pairs.touch h4 (fun b hb hR => by have := HB1.out.pairs.lt b hb; have := HBW.out; omega)
      obtain ⟨g, rfl, c0, c1⟩ := hpr.cell hp
      have hstep := Ux.filter_step (f := midOk lo hi op) hp
      have cw : wr.cell? ⟨bw, 0, none⟩ = some v := by rw [cell_of_row wr bw 0 _ 46 (0, 0) h1]; rfl
      cases hm : midOk lo hi op p with
      | false =>
        rw [hm] at hstep
        simp only [Bool.false_eq_true, if_false, List.append_nil] at hstep
        have HR := Lib.hid (show WantRel w1 bw ((L.take (i + 1)).filter (midOk lo hi op)) wr from by rw [hstep]; exact ⟨v, h1, h2, h3, h4⟩)
        have hcase : (Op.bytesLess p.1.toList lo.toList = true) ∨ (Op.bytesLess p.1.toList lo.toList = false ∧ op = false ∧ Op.bytesLess p.1.toList hi.toList = false) := by
          unfold midOk at hm
          have hm' : (!Op.bytesLess p.1.toList lo.toList && (op || Op.bytesLess p.1.toList hi.toList)) = false := hm
          revert hm'
          cases Op.bytesLess p.1.toList lo.toList <;> cases op <;> cases Op.bytesLess p.1.toList hi.toList <;> simp
        clear h1 h2 h3 h4 hstep hm hp hpr hlt
        rcases hcase with hc | ⟨hc, rfl, hc2⟩
        · go_wp2_with (fail)
          go_roundg g'
          case measure => omega
          case rel => exact ⟨i + 1, by go_num, by omega, HR.out⟩
        · go_wp2_with (fail)
          go_roundg g'
          case measure => omega
          case rel => exact ⟨i + 1, by go_num, by omega, HR.out⟩
      | true =>
        rw [hm] at hstep
        simp only [if_true] at hstep
        have hcase : Op.bytesLess p.1.toList lo.toList = false ∧ (op = true ∨ (op = false ∧ Op.bytesLess p.1.toList hi.toList = true)) := by
          unfold midOk at hm
          have hm' : (!Op.bytesLess p.1.toList lo.toList && (op || Op.bytesLess p.1.toList hi.toList)) = true := hm
          revert hm'
          cases Op.bytesLess p.1.toList lo.toList <;> cases op <;> cases Op.bytesLess p.1.toList hi.toList <;> simp
        have hsl : bw < wr.heap.size := Ux.lt_of_heap h1
        have T5 : Ux.Touch (fun _ => False) wr ((wr.alloc (.cells #[.string p.1, .int .i64 p.2] 52)).drew) := ((Ux.Touch.refl _ wr).alloc _).drew
        obtain ⟨v', w6, r6, o6, t6, b6⟩ := pairs_app (h2.touch T5 (fun _ _ f => f)) (pair_src (show (wr.alloc (.cells #[.string p.1, .int .i64 p.2] 52)).drew.heap[wr.heap.size]? = _ from heap_alloc_new wr _)) (by have := List.length_filter_le (midOk lo hi op) (L.take i); simp at this; omega)
        obtain ⟨a2, c2, rfl, _⟩ := o6.cells
        obtain ⟨n1, hn1⟩ : ∃ n1, ((L.take i).filter (midOk lo hi op) ++ [(p.1, p.2)]).length = n1 := ⟨_, rfl⟩
        simp only [hn1] at r6 o6 b6
        clear hn1
        have c56 := T5.heap h1 (fun f => f)
        have T56 : Ux.Touch (fun b => bw < b) wr w6 := (T5.mono (fun _ _ f => f.elim) : Ux.Touch (fun b => bw < b) wr _).trans t6 (fun b _ h => h3 b h)
        have h6 := T56.heap h1 (by omega)
        have hfin : WantRel w1 bw ((L.take (i + 1)).filter (midOk lo hi op)) (w6.setCell ⟨bw, 0, none⟩ (.slice a2 n1 c2)) := by
          have hb6 : ∀ b, (Value.slice a2 n1 c2).ownBlock = some b → bw < b := fun b hb => by
            rcases b6 with h | ⟨g, h, hg⟩
            · exact h3 b (by rw [← h]; exact hb)
            · rw [h] at hb; cases hb; have := T5.size; omega
          have T7 : Ux.Touch (fun b => b = bw) w6 (w6.setCell ⟨bw, 0, none⟩ (.slice a2 n1 c2)) := (Ux.Touch.refl (fun b => b = bw) w6).setCell (p := ⟨bw, 0, none⟩) (fun _ => rfl) _
          refine ⟨_, heap_setCell_same w6 bw 0 _ 46 _ h6, ?_, hb6, (h4.trans T56 (fun b _ h => by omega)).trans T7 (fun b _ h => by omega)⟩
          rw [hstep]
          exact o6.touch T7 (fun b hb e => by have := hb6 b hb; omega)
        have HF := Lib.hid hfin
        have hgb : g < bw := by have := HB1.out.pairs.lt g rfl; have := HBW.out; omega
        have d0 := T56.cell (a := ⟨g, i * 2, none⟩) c0 (show ¬ bw < g by omega)
        have d1 := T56.cell (a := ⟨g, i * 2 + 1, none⟩) c1 (show ¬ bw < g by omega)
        have fz : w6.frozen? ⟨bw, 0, none⟩ = false := frozen_of_row w6 bw 0 _ 46 h6
        have c6 : w6.cell? ⟨bw, 0, none⟩ = some v := by rw [cell_of_row w6 bw 0 _ 46 (0, 0) h6]; rfl
        have K5 := T5.cell (a := ⟨bw, 0, none⟩) cw (fun f => f)
        have hT5 := Lib.hid (And.intro (T5.cell (a := ⟨g, i * 2, none⟩) c0 (fun f => f)) (T5.cell (a := ⟨g, i * 2 + 1, none⟩) c1 (fun f => f)))
        clear h1 h2 h3 h4 hstep hm hp hpr hlt o6 t6 b6 c56 T56 h6 hfin T5
        obtain ⟨hc, hc2⟩ := hcase
        rcases hc2 with rfl | ⟨rfl, hc2⟩
        all_goals
          go_upto_region 10 with (fail)
          refine wp_calm2 ?_
          refine Ux.wp_region_plan (fun _ w' => w'.cell? ⟨bw, 0, none⟩ = some v ∧ w'.cell? ⟨g, i * 2, none⟩ = some (.string p.1) ∧ w'.cell? ⟨g, i * 2 + 1, none⟩ = some (.int .i64 p.2)) (.h false [0] (.q [1, 2, 3] (.h false [4] (.e 5 true false (.e 6 true false (.line [7]))))))
            (by kernel_rfl) (by kernel_rfl) (by intro _ _ d _ _ h; cases d <;> exact h) ?hS ?_
          case hS => (intro c; cases c <;> (simp only [World.cell?_drew]; first | exact True.intro | (refine ⟨?_, ?_⟩ <;> assumption) | assumption | (repeat (first | assumption | (refine And.intro ?_ ?_)))))
          simp only [Ux.wpPlan, Ux.pickOps, Ux.keeps, List.getElem?_toArray, List.getElem?_cons_succ, List.getElem?_cons_zero]
          repeat (first
            | go_big_quiet_step (fail)
            | (with_reducible refine wpQuiet_nil ?_)
            | (refine Ux.quiet_held rfl ?_; apply Exists.intro; refine ⟨fun w' hS => ?_, ?_⟩; (focus ((try dsimp only at hS); go_simp; first | done | with_reducible rfl)); simp only [Act.put, List.setIfInBounds_toArray, List.set_cons_zero, List.set_cons_succ]))
          go_wp2_with (fail)
          refine ⟨⟨K5, hT5.out⟩, ?_⟩
          go_wp2_with (at_builtin; refine Ux.wpList_app (v1 := v) (x1 := .slice (some ⟨wr.heap.size, 0, none⟩) 1 1) rfl _ _ _ _ rfl rfl rfl (r6 _) ?_)
          go_wp2_with (fail)
          refine ⟨⟨c6, d0, d1⟩, ?_⟩
          go_wp2_with (fail)
          simp only [Calm]
          go_wp2_with (fail)
          go_roundg g'
          case measure => omega
          case rel => exact ⟨i + 1, by go_num, by omega, HF.out⟩
    · obtain rfl : i = L.length := by omega
      rw [List.take_length, Ux.want_is (HB1.out.tree.rising) lo hi op] at h2
      obtain ⟨want, hwant⟩ : ∃ want, Ux.wantOf L lo hi op = want := ⟨_, rfl⟩
      rw [hwant] at h2
      have hwl : want.length ≤ 80 := by rw [← hwant, ← Ux.want_is (HB1.out.tree.rising) lo hi op]; exact Nat.le_trans (List.length_filter_le _ _) hL80
      obtain ⟨va, vc, rfl, _⟩ := h2.cells
      have tB := HB1.out.tree.bound.touch h4 (fun b hb hR => by have := HBW.out; omega)
      rw [HBW.out] at tB
      have hsl : bw < wr.heap.size := Ux.lt_of_heap h1
      have HX := Lib.hid (And.intro h1 (And.intro h2 (And.intro h3 (And.intro h4 (And.intro tB hsl)))))
      have HWL := Lib.hid (And.intro hwant hwl)
      have HRNG := Lib.hid (range27 wr tb lo hi op)
      obtain ⟨B, hB⟩ : ∃ B, wr.heap.size = B := ⟨_, rfl⟩
      have HBE := Lib.hid hB
      clear h1 h2 h3 h4 tB hlt hwant hsl hig
      go_wp2_with (go_at_call 27; fail)
      refine HRNG.out.mono ?_
      rintro e w2 ⟨rfl, E2, T2, hs2⟩
      rw [hB] at E2 hs2
      rw [hB]
      have hnn := neq_nil
      have H2 := Lib.hid (And.intro E2 (And.intro T2 hs2))
      clear E2 T2 hs2 hB HRNG
      go_wp2_with (fail)
      obtain ⟨w4, hw4⟩ : ∃ w4, (w2.alloc (.cells #[.int .i64 0] 3)).alloc (.cells #[.bool true] 4) = w4 := ⟨_, rfl⟩
      obtain ⟨bn, hbn⟩ : ∃ bn, w2.heap.size = bn := ⟨_, rfl⟩
      have T24 : Ux.Touch (fun _ => False) w2 w4 := by rw [← hw4]; exact ((Ux.Touch.refl _ w2).alloc _).alloc _
      have hn4 : w4.heap[bn]? = some (.cells #[.int .i64 0] 3 (0, 0)) := by rw [← hw4, ← hbn]; exact ((Ux.Touch.refl (fun _ => False) _).alloc _).heap (heap_alloc_new w2 _) (fun f => f)
      have ho4 : w4.heap[bn + 1]? = some (.cells #[.bool true] 4 (0, 0)) := by rw [← hw4, ← hbn]; have := heap_alloc_new (w2.alloc (.cells #[.int .i64 0] 3)) (.cells #[.bool true] 4); rwa [World.size_alloc] at this
      have hs4 : w4.heap.size = bn + 2 := by rw [← hw4, ← hbn]; simp
      rw [hw4, hbn]
      have hsz : B + 4 = bn := by have := H2.out.2.2; omega
      have hBw : bw < B := by have := HX.out.2.2.2.2.2; have := HBE.out; omega
      have TW := H2.out.2.1.trans T24 (fun _ _ f => f)
      have hb4 := TW.heap HX.out.1 (fun f => f)
      have hp4 := HX.out.2.1.touch TW (fun _ _ f => f)
      have hvb : ∀ b, (Value.slice va want.length vc).ownBlock = some b → b < B := fun b hb => by have := HX.out.2.1.lt b hb; have := HBE.out; omega
      have ht4 : w4.heap[bt]? = some (.cells #[.int .i64 take] 3 (0, 0)) := by
        have a1 := HB1.out.touch.heap H0.out.2.1 (by omega)
        have a2 := HX.out.2.2.2.1.heap a1 (by omega)
        exact TW.heap a2 (fun f => f)
      have E4 : RngEnv w4 B (B + 1) (B + 1 + 1 + 1) (B + 1 + 1) tb lo hi op := ⟨T24.cell H2.out.1.t (fun f => f), T24.cell H2.out.1.lo (fun f => f), T24.cell H2.out.1.op (fun f => f), T24.cell H2.out.1.hi (fun f => f)⟩
      have hT4 := HX.out.2.2.2.2.1.touch TW (fun _ _ f => f)
      have TW4 : Ux.Touch (fun b => bt ≤ b) W w4 := ((H0.out.1.mono (fun _ _ f => f.elim) : Ux.Touch (fun b => bt ≤ b) W _).trans HB1.out.touch (fun b _ h => by omega)).trans (HX.out.2.2.2.1.trans TW (fun _ _ f => f.elim)) (fun b _ h => by omega)
      have H4 := Lib.hid (And.intro hn4 (And.intro ho4 (And.intro hb4 (And.intro hp4 (And.intro hvb (And.intro ht4 (And.intro TW4 (And.intro E4 hT4))))))))
      have HSZ := Lib.hid (And.intro hs4 (And.intro hsz hBw))
      clear T24 hn4 ho4 TW hb4 hp4 hvb ht4 TW4 hw4 hbn E4 hT4 hnn
      refine' wp_range (L := L) (op := op) rfl H4.out.2.2.2.2.2.2.2.1 H4.out.2.2.2.2.2.2.2.2 (by omega) (by omega) rfl (fun b => b = bn ∨ b = bn + 1) ?cc (SameI bn (bn + 1) w4) (fun _ _ _ => False) ?hI ?hIx ?h0 _ ?assign ?body ?done ?stop
      case cc => intro b hb; omega
      case hI => exact fun pre W W' ⟨h1, h2, h3⟩ T => ⟨T.heap h1 (by omega), T.heap h2 (by omega), h3.trans T (fun b _ h => .inr (.inr h))⟩
      case hIx => exact fun _ _ _ _ h _ => h
      case h0 => exact ⟨H4.out.1, H4.out.2.1, Ux.Touch.refl _ _⟩
      case assign =>
        intro l' x W K hK
        gi_wp2
        exact hK
      case stop => exact fun _ _ _ _ _ h _ _ => h.elim
      case body =>
        intro l' j x W hx hI
        rw [HWL.out.1] at hx hI ⊢
        obtain ⟨h1, h2, T⟩ := hI
        have hjl : j < want.length := (List.getElem?_eq_some_iff.1 hx).1
        have hlen : (want.take j).length = j := by simp; omega
        rw [hlen] at h1
        have hB : ¬ (bw = bn ∨ bw = bn + 1 ∨ w4.heap.size ≤ bw) := by omega
        have cb : W.cell? ⟨bw, 0, none⟩ = some (.slice va want.length vc) := by rw [cell_of_row W bw 0 _ 46 (0, 0) (T.heap H4.out.2.2.1 hB)]; rfl
        have hpW := H4.out.2.2.2.1.touch T (fun b hb hR => by have := H4.out.2.2.2.2.1 b hb; omega)
        obtain ⟨g, rfl, c0, c1⟩ := hpW.cell hx
        have cn : W.cell? ⟨bn, 0, none⟩ = some (.int .i64 j) := by rw [cell_of_row W bn 0 _ 3 (0, 0) h1]; rfl
        have co : W.cell? ⟨bn + 1, 0, none⟩ = some (.bool true) := by rw [cell_of_row W (bn + 1) 0 _ 4 (0, 0) h2]; rfl
        have fn : W.frozen? ⟨bn, 0, none⟩ = false := frozen_of_row W bn 0 _ 3 h1
        have fo : W.frozen? ⟨bn + 1, 0, none⟩ = false := frozen_of_row W (bn + 1) 0 _ 4 h2
        have HI := Lib.hid (And.intro h1 (And.intro h2 (And.intro T hjl)))
        have j0 : (j : Int) < want.length := by omega
        have j1 : (want.length : Int) ≤ 80 := by omega
        have j2 : (0 : Int) ≤ j := by omega
        clear h1 h2 T hjl hlen hpW hB hx
        gi_wp2
        have hl1 : ((want.take (j + 1)).length : Int) = (j : Int) + 1 := by have := HI.out.2.2.2; simp; omega
        have T1 : Ux.Touch (fun b => b = bn ∨ b = bn + 1) W ((W.setCell ⟨bn + 1, 0, none⟩ (.bool true)).setCell ⟨bn, 0, none⟩ (.int .i64 ((j : Int) + 1))) := ((Ux.Touch.refl _ W).setCell (p := ⟨bn + 1, 0, none⟩) (fun _ => .inr rfl) _).setCell (p := ⟨bn, 0, none⟩) (fun _ => .inl rfl) _
        refine ⟨T1, ?_, ?_, HI.out.2.2.1.trans T1 (fun b _ h => h.elim .inl (fun h => .inr (.inl h)))⟩
        · rw [hl1]
          exact heap_setCell_same _ bn 0 _ 3 (.int .i64 ((j : Int) + 1)) ((heap_setCell_other W ⟨bn + 1, 0, none⟩ bn (.bool true) (by simp)).trans HI.out.1)
        · refine (heap_setCell_other _ ⟨bn, 0, none⟩ (bn + 1) _ (by simp)).trans ?_
          exact heap_setCell_same W (bn + 1) 0 _ 4 (.bool true) HI.out.2.1
      case done =>
        intro D V hI hD hDs
        rw [HWL.out.1] at hI
        obtain ⟨h1, h2, T⟩ := hI
        have cb : V.cell? ⟨bw, 0, none⟩ = some (.slice va want.length vc) := by rw [cell_of_row V bw 0 _ 46 (0, 0) (T.heap H4.out.2.2.1 (by omega))]; rfl
        have cn : V.cell? ⟨bn, 0, none⟩ = some (.int .i64 want.length) := by rw [cell_of_row V bn 0 _ 3 (0, 0) h1]; rfl
        have co : V.cell? ⟨bn + 1, 0, none⟩ = some (.bool true) := by rw [cell_of_row V (bn + 1) 0 _ 4 (0, 0) h2]; rfl
        have HV := Lib.hid (And.intro T (And.intro hD hDs))
        clear h1 h2 T hD hDs
        go_wp2_with (fail)
        obtain ⟨w5, hw5⟩ : ∃ w5, V.alloc (.cells #[.int .i64 0] 3) = w5 := ⟨_, rfl⟩
        obtain ⟨b3, hb3⟩ : ∃ b3, V.heap.size = b3 := ⟨_, rfl⟩
        have T5 : Ux.Touch (fun _ => False) V w5 := by rw [← hw5]; exact (Ux.Touch.refl _ V).alloc _
        have hb35 : w5.heap[b3]? = some (.cells #[.int .i64 0] 3 (0, 0)) := by rw [← hw5, ← hb3]; exact heap_alloc_new V _
        have hs5 : w5.heap.size = b3 + 1 := by rw [← hw5, ← hb3]; simp
        rw [hw5, hb3]
        have hVs : bn + 2 ≤ b3 := by have := HV.out.1.size; omega
        have hDV : D < b3 := by have := (Array.getElem?_eq_some_iff.1 HV.out.2.1).1; omega
        have T45 := HV.out.1.trans T5 (R := fun b => b = bn ∨ b = bn + 1 ∨ w4.heap.size ≤ b) (fun _ _ f => f.elim)
        have E5 : RngEnv w5 B (B + 1) (B + 1 + 1 + 1) (B + 1 + 1) tb lo hi op := ⟨T45.cell H4.out.2.2.2.2.2.2.2.1.t (by simp only []; omega), T45.cell H4.out.2.2.2.2.2.2.2.1.lo (by simp only []; omega), T45.cell H4.out.2.2.2.2.2.2.2.1.op (by simp only []; omega), T45.cell H4.out.2.2.2.2.2.2.2.1.hi (by simp only []; omega)⟩
        have hT5 := H4.out.2.2.2.2.2.2.2.2.touch T45 (fun b hb h => by omega)
        have hb5 := T45.heap H4.out.2.2.1 (by omega)
        have ht5 := T45.heap H4.out.2.2.2.2.2.1 (by omega)
        have TW5 := H4.out.2.2.2.2.2.2.1.trans T45 (R := fun b => bt ≤ b) (fun b _ h => by omega)
        have hD5 := T5.heap HV.out.2.1 (fun f => f)
        have H5 := Lib.hid (And.intro hb35 (And.intro hb5 (And.intro ht5 (And.intro TW5 (And.intro hD5 (And.intro E5 hT5))))))
        have HS5 := Lib.hid (And.intro hs5 (And.intro hVs hDV))
        clear T5 hb35 T45 E5 hT5 hb5 ht5 TW5 hD5 hw5 hb3 cb cn co
        refine' wp_range (L := L) (op := op) rfl H5.out.2.2.2.2.2.1 H5.out.2.2.2.2.2.2 (by omega) (by omega) rfl (fun b => b = b3) ?cc (TakeI k b3 w5) (TakeX k b3 w5) ?hI ?hIx ?h0 _ ?assign ?body ?done ?stop
        case cc => intro b hb; omega
        case hI => exact fun pre W W' ⟨h0, h1, h3⟩ T => ⟨h0, T.heap h1 (by omega), h3.trans T (fun b _ h => .inr h)⟩
        case hIx => exact fun c pre W W' ⟨h0, h1, h2, h3⟩ T => ⟨h0, h1, T.heap h2 (by omega), h3.trans T (fun b _ h => .inr h)⟩
        case h0 => exact ⟨Nat.zero_le _, H5.out.1, Ux.Touch.refl _ _⟩
        case assign =>
          intro l' x W K hK
          gi_wp2
          exact hK
        case body =>
          intro l' j x W hx hI
          rw [HWL.out.1] at hx hI ⊢
          obtain ⟨hjk, h1, T⟩ := hI
          have hjl : j < want.length := (List.getElem?_eq_some_iff.1 hx).1
          have hlen : (want.take j).length = j := by simp; omega
          rw [hlen] at h1 hjk
          have cn : W.cell? ⟨b3, 0, none⟩ = some (.int .i64 j) := by rw [cell_of_row W b3 0 _ 3 (0, 0) h1]; rfl
          have ct : W.cell? ⟨bt, 0, none⟩ = some (.int .i64 take) := by rw [cell_of_row W bt 0 _ 3 (0, 0) (T.heap H5.out.2.2.1 (by omega))]; rfl
          have fn : W.frozen? ⟨b3, 0, none⟩ = false := frozen_of_row W b3 0 _ 3 h1
          have HI := Lib.hid (And.intro h1 (And.intro T (And.intro hjl hjk)))
          have hkr := HK.out.1
          have j1 : (j : Int) ≤ 80 := by omega
          have j2 : (0 : Int) ≤ j := by omega
          clear h1 T hlen hx
          by_cases hjk2 : j = k
          · have e1 : ((j : Int) == (k : Int)) = true := by rw [beq_iff_eq]; omega
            have e2 : (j == k) = true := by rw [beq_iff_eq]; exact hjk2
            have HJK := Lib.hid hjk2
            clear hjk2 hjl hjk
            gi_wp2
            refine ⟨Ux.Touch.refl _ _, rfl, ?_, ?_, HI.out.2.1⟩
            · have := HI.out.2.2.1; have := HJK.out; simp; omega
            · rw [← HJK.out]; exact HI.out.1
          · have e1 : ((j : Int) == (k : Int)) = false := by rw [beq_eq_false_iff_ne]; omega
            have e2 : (j == k) = false := by rw [beq_eq_false_iff_ne]; exact hjk2
            have hjk3 : j + 1 ≤ k := by omega
            clear hjk2 hjl hjk
            gi_wp2
            have hl1 : ((want.take (j + 1)).length : Int) = (j : Int) + 1 := by have := HI.out.2.2.1; simp; omega
            have T1 : Ux.Touch (fun b => b = b3) W (W.setCell ⟨b3, 0, none⟩ (.int .i64 ((j : Int) + 1))) := (Ux.Touch.refl (fun b => b = b3) W).setCell (p := ⟨b3, 0, none⟩) (fun _ => rfl) _
            refine ⟨T1, ?_, ?_, HI.out.2.1.trans T1 (fun b _ h => .inl h)⟩
            · have : (want.take (j + 1)).length ≤ j + 1 := List.length_take_le _ _
              omega
            · rw [hl1]
              exact heap_setCell_same _ b3 0 _ 3 (.int .i64 ((j : Int) + 1)) HI.out.1
        case done =>
          intro D2 U hI hD2 hD2s
          rw [HWL.out.1] at hI
          obtain ⟨hwk, h1, T⟩ := hI
          have cn : U.cell? ⟨b3, 0, none⟩ = some (.int .i64 want.length) := by rw [cell_of_row U b3 0 _ 3 (0, 0) h1]; rfl
          have hDU := T.heap H5.out.2.2.2.2.1 (show ¬ (D = b3 ∨ w5.heap.size ≤ D) by omega)
          have cb : U.cell? ⟨bw, 0, none⟩ = some (.slice va want.length vc) := by rw [cell_of_row U bw 0 _ 46 (0, 0) (T.heap H5.out.2.1 (by omega))]; rfl
          have ct : U.cell? ⟨bt, 0, none⟩ = some (.int .i64 take) := by rw [cell_of_row U bt 0 _ 3 (0, 0) (T.heap H5.out.2.2.1 (by omega))]; rfl
          have HU := Lib.hid (And.intro T (And.intro hDU (And.intro hD2 hD2s)))
          have hkr := HK.out.1
          have w80 : (want.length : Int) ≤ 80 := by omega
          clear h1 T hDU hD2 hD2s
          have hmin : min (k : Int) (want.length : Int) = (want.length : Int) := by omega
          have hmn : ¬ (k : Int) < want.length := by omega
          rcases (show want.length = k ∨ want.length < k by omega) with hx | hx
          all_goals
            have b1 : (want.length : Int) ≤ k := by omega
            go_wp2_with (go_at_call 20; fail)
            refine (awake20 _).mono ?_
            rintro e w6 ⟨rfl, T6⟩
            have HT6 := Lib.hid T6
            clear T6
            go_wp2
            have dd : b3 + 1 ≤ D2 := by have := HU.out.2.2.2; have := HS5.out.1; omega
            have k2 := HT6.out.heap HU.out.2.2.1 (fun f => f)
            have k1 := HT6.out.heap HU.out.2.1 (fun f => f)
            refine ⟨by simp, .inl ⟨_, _, rfl, run_takeDeferred k2, ?_⟩⟩
            refine ⟨by simp, .inl ⟨_, _, rfl, run_takeDeferred (show (w6.putObj D2 (.deferred none)).heap[D]? = some (.deferred (some [])) from (World.putObj_heap_other (by omega)).trans k1), ?_⟩⟩
            refine ⟨_, results_tmp rfl _ _ _, rfl, ?_⟩
            have TF : Ux.Touch (fun b => bt ≤ b) W w6 := (H5.out.2.2.2.1.trans HU.out.1 (fun b hb h => by omega)).trans HT6.out (fun _ _ f => f.elim)
            exact (touch_putObj (touch_putObj TF D2 (show bt ≤ D2 by have := HU.out.2.2.2; omega) _) D (show bt ≤ D by have := HV.out.2.2; omega) _).mono (fun b hb h => by have := H0.out.2.2; omega)
        case stop =>
          intro D2 cc j U hj hI hD2 hD2s
          rw [HWL.out.1] at hI hj
          obtain ⟨rfl, hk1, h1, T⟩ := hI
          have hkw : k < want.length := by have := List.length_take_le (j + 1) want; simp at hk1; omega
          have cn : U.cell? ⟨b3, 0, none⟩ = some (.int .i64 k) := by rw [cell_of_row U b3 0 _ 3 (0, 0) h1]; rfl
          have hDU := T.heap H5.out.2.2.2.2.1 (show ¬ (D = b3 ∨ w5.heap.size ≤ D) by omega)
          have cb : U.cell? ⟨bw, 0, none⟩ = some (.slice va want.length vc) := by rw [cell_of_row U bw 0 _ 46 (0, 0) (T.heap H5.out.2.1 (by omega))]; rfl
          have ct : U.cell? ⟨bt, 0, none⟩ = some (.int .i64 take) := by rw [cell_of_row U bt 0 _ 3 (0, 0) (T.heap H5.out.2.2.1 (by omega))]; rfl
          have HU := Lib.hid (And.intro T (And.intro hDU (And.intro hD2 hD2s)))
          have hkr := HK.out.1
          have w80 : (want.length : Int) ≤ 80 := by omega
          clear h1 T hDU hD2 hD2s
          have hmin : min (k : Int) (want.length : Int) = (k : Int) := by omega
          have b1 : (k : Int) < want.length := by omega
          have b2 : (k : Int) ≤ want.length := by omega
          have b3' : ¬ (want.length : Int) ≤ k := by omega
          all_goals
            go_wp2_with (go_at_call 20; fail)
            refine (awake20 _).mono ?_
            rintro e w6 ⟨rfl, T6⟩
            have HT6 := Lib.hid T6
            clear T6
            go_wp2
            have dd : b3 + 1 ≤ D2 := by have := HU.out.2.2.2; have := HS5.out.1; omega
            have k2 := HT6.out.heap HU.out.2.2.1 (fun f => f)
            have k1 := HT6.out.heap HU.out.2.1 (fun f => f)
            refine ⟨by simp, .inl ⟨_, _, rfl, run_takeDeferred k2, ?_⟩⟩
            refine ⟨by simp, .inl ⟨_, _, rfl, run_takeDeferred (show (w6.putObj D2 (.deferred none)).heap[D]? = some (.deferred (some [])) from (World.putObj_heap_other (by omega)).trans k1), ?_⟩⟩
            refine ⟨_, results_tmp rfl _ _ _, rfl, ?_⟩
            have TF : Ux.Touch (fun b => bt ≤ b) W w6 := (H5.out.2.2.2.1.trans HU.out.1 (fun b hb h => by omega)).trans HT6.out (fun _ _ f => f.elim)
            exact (touch_putObj (touch_putObj TF D2 (show bt ≤ D2 by have := HU.out.2.2.2; omega) _) D (show bt ≤ D by have := HV.out.2.2; omega) _).mono (fun b hb h => by have := H0.out.2.2; omega)

end Go.Proofs.Ytdfgpminonpeaaa
