/- PART OF THE PROOF THAT THIS CLAIM HOLDS OF THE GIVEN PROGRAM, FOR EVERY INPUT THAT THE STATEMENT NAMES. No condition besides the statement's own. -/
import Derived.Test.YtdfgpminonpeaaaUxCurAllZ
import Derived.Test.YtdfgpminonpeaaaCurcZ
import Derived.Test.YtdfgpminonpeaaaRows
import Derived.WalkKit
import Derived.Handy
import Derived.Laws.EntriesVeiled
import Derived.WalkSpells
import Derived.WalkLawsBesides
import Derived.BigQuiet
import Derived.Deep.QuietTactic
import Derived.Deep.Cut
import Derived.Lib.Overlaps
import Derived.Laws.Externs
import Derived.Lib.Hide
import Derived.Test.YtdfgpminonpeaaaUxPlanAllZ
import Derived.Test.YtdfgpminonpeaaaUxTreeAllZ
import Derived.Deep.LoopGhost
namespace Go.Proofs.Ytdfgpminonpeaaa
open Go.RowKit
-- imports: UxCur2 YtdfgpminonpeaaaCurc
open Ux (slt lb has Rises T NodeAt NodesAt Shp wayN blk ptr flat flats keys ins Up CurAt FrAt Fr frCells Stands Ctx ahead TypeIn Go1Rel DownRel LastRel CurLeft PrevRel)

/-- what Prev leaves -/
def PrevPost (w : World) (cb : Nat) (root : T) (FP fc0 : List Nat) (p : Nat) (e : Ending) (w' : World) : Prop :=
  (p = 0 ∧ e = .returned (.bool false) ∧ CurLeft w cb root FP fc0 none w') ∨ ∃ q, p = q + 1 ∧ e = .returned (.bool true) ∧ CurLeft w cb root FP fc0 (some q) w'

set_option maxHeartbeats 4000000 in
set_option maxRecDepth 100000 in
theorem prev19 (fan d : Nat) (root : T) (cb : Nat) (FP fc0 : List Nat) (p n : Nat) (w : World) (hf : 4 ≤ fan) (h64 : fan ≤ 64) (hg : Ux.Good fan d root) (hs : root.size ≤ fan) (hd : d ≤ 1000) (hcb : cb ∈ fc0) (hdis : ∀ b ∈ FP, b ∉ fc0) (hn : n ≤ 2000)
    (h : PrevRel w cb root FP fc0 p n w) :
    Calls Try.prog 19 #[.pointer (some ⟨cb, 0, none⟩)] w (PrevPost w cb root FP fc0 p) := by
  have HR := Lib.hid h
  obtain ⟨lv, xs, h1, h2, _⟩ := h
  obtain ⟨a, c, rfl⟩ : ∃ a c, lv = .slice a n c := by
    rcases h2.2 with ⟨rfl, rfl⟩ | ⟨g, c, cur, rfl, _⟩
    · exact ⟨_, _, rfl⟩
    · exact ⟨_, _, rfl⟩
  have c0 : w.cell? ⟨cb, 0, none⟩ = some (.slice a n c) := by rw [cell_of_row w cb 0 _ 75 (0, 0) h1]; rfl
  have HG := Lib.hid (And.intro hf (And.intro h64 (And.intro hg (And.intro hs (And.intro hd (And.intro hcb hdis))))))
  clear hf h64 hg hs hd hcb hdis h1 h2
  have hn' : (n : Int) ≤ 2000 := by omega
  clear hn
  go_enter Try.func19, Try.ntmps19
  go_wp2
  go_loopg [3] n (fun g s2 wr => s2 = .int .i64 g ∧ (g : Int) ≤ 2000 ∧ PrevRel w cb root FP fc0 p g wr)
  case atStart => exact ⟨rfl, hn', HR.out⟩
  case round =>
    clear c0 hn' HR
    obtain ⟨rfl, hb, lv, xs, h1, h2, h3, h4, h5⟩ := hrel
    rcases Nat.eq_zero_or_pos gk with h0 | h0
    · subst h0
      have hq : p = 0 := by
        rcases h5 with ⟨_, e⟩ | ⟨pre, t, x, i, a, b, hm, _⟩
        · omega
        · omega
      have HK := Lib.hid (Ux.left_of_none (root := root) (FP := FP) HG.out.2.2.2.2.2.1 h1 h2 h3 h4)
      have HQ := Lib.hid hq
      clear h1 h2 h3 h4 h5 hq hb
      go_wp2
      go_returns
      exact .inl ⟨HQ.out, rfl, HK.out⟩
    · obtain ⟨m, rfl⟩ : ∃ m, gk = m + 1 := ⟨gk - 1, by omega⟩
      rcases h5 with ⟨h, _⟩ | ⟨pre, t, x, i, a, b, hm, rfl, h6, h7, h8, h9, h10⟩
      · omega
      obtain ⟨g, gc, cur, rfl, hgl, hgm, hgc, hcs, htk⟩ := Ux.own_pos h2 (by omega)
      obtain rfl : m = pre.length := by omega
      have c0 : wr.cell? ⟨cb, 0, none⟩ = some (.slice (some ⟨g, 0, none⟩) (pre.length + 1) gc) := by rw [cell_of_row wr cb 0 _ 75 (0, 0) h1]; rfl
      have hfl := Ux.frCells_length pre
      obtain ⟨d0, d1⟩ := top_own h2
      have fr : ∀ j, wr.frozen? ⟨g, j, none⟩ = false := fun j => frozen_of_row wr g j _ 77 hgc
      have hcg : cb ≠ g := fun e => by rw [e, hgc] at h1; cases h1
      obtain ⟨d', gt, hde, _, hz⟩ := h8.good HG.out.1 HG.out.2.2.1 HG.out.2.2.2.1
      have j0 : (0 : Int) ≤ i := by omega
      have j1 : (i : Int) ≤ 64 := by have := HG.out.2.1; omega
      have j2 : (pre.length : Int) + 1 ≤ 2000 := by omega
      have j3 : (pre.length : Int) ≤ gc := by omega
      have j4 : ¬ gc = 0 := by omega
      obtain ⟨m, hm⟩ : ∃ m, pre.length = m := ⟨_, rfl⟩
      rw [hm] at c0 d0 d1 j2 j3
      obtain ⟨wo, hwo⟩ : ∃ wo : World, wo = wr := ⟨_, rfl⟩
      subst hwo
      have fcb : wo.frozen? ⟨cb, 0, none⟩ = false := frozen_of_row wo cb 0 _ 75 h1
      have H1 := Lib.hid (And.intro h1 (And.intro h2 (And.intro h3 (And.intro h4 (And.intro hgc (And.intro htk (And.intro hcs (And.intro hgl (And.intro hgm hcg)))))))))
      have H2 := Lib.hid (And.intro h6 (And.intro h7 (And.intro h8 (And.intro h9 (And.intro h10 (And.intro gt (And.intro hde hz)))))))
      have HM := Lib.hid hm
      clear h1 h2 h3 h4 hgc htk hcs hgl hgm hcg h6 h7 h8 h9 h10 gt hde hz hfl hb h0 
      rw [hm]
      clear hm
      cases i with
      | zero =>
        have d1' : wo.cell? ⟨g, m * 2 + 1, none⟩ = some (.int .i64 0) := d1
        clear d1 j0 j1
        go_wp2
        go_roundg m
        case measure => have := HM.out; omega
        case rel =>
          refine ⟨rfl, by omega, ?_⟩
          rw [← HM.out]
          have o1 := Ux.own_setn (i := m * 2 + 1) H1.out.2.1 (.int .i64 (-1))
          rw [Ux.frCells_snoc, List.set_append_right _ _ (by rw [Ux.frCells_length, HM.out]; omega)] at o1
          rw [← HM.out] at o1
          have T1 : Ux.Touch (fun b => b ∈ fc0) w (wo.setCell ⟨g, pre.length * 2 + 1, none⟩ (.int .i64 (-1))) := H1.out.2.2.2.1.trans ((Ux.Touch.refl (fun b => b = g) wo).setCell (p := ⟨g, pre.length * 2 + 1, none⟩) (fun _ => rfl) _) (fun b hb e => by
            have e' : b = g := e
            subst e'
            exact (H1.out.2.2.1 b (by simp [blk, Value.ownBlock])).elim id (fun h => by omega))
          refine Ux.prev_pop H2.out.1 H2.out.2.2.1 H2.out.2.2.2.2.1 o1 T1 ((Ux.Touch.refl (fun b => b = cb) _).setCell (p := ⟨cb, 0, none⟩) (fun _ => rfl) _) ?_ (H1.out.2.2.1 g (by simp [blk, Value.ownBlock])) H1.out.2.2.2.2.2.2.2.2.2 HG.out.2.2.2.2.2.1
          have hc1 : (wo.setCell ⟨g, pre.length * 2 + 1, none⟩ (.int .i64 (-1))).heap[cb]? = some (.cells #[.slice (some ⟨g, 0, none⟩) (pre.length + 1) gc] 75 (0, 0)) := by
            rw [heap_setCell_other wo ⟨g, pre.length * 2 + 1, none⟩ cb (.int .i64 (-1)) H1.out.2.2.2.2.2.2.2.2.2]
            exact H1.out.1
          have a := heap_setCell_same _ cb 0 _ 75 (.slice (some ⟨g, 0, none⟩) pre.length gc) hc1
          simpa using a
      | succ k =>
        have d1' : wo.cell? ⟨g, m * 2 + 1, none⟩ = some (.int .i64 ((k : Int) + 1)) := by rw [d1]; simp
        have j0' : (0 : Int) ≤ k := by omega
        have j1' : (k : Int) ≤ 64 := by omega
        clear d1 j0 j1
        go_wp2_with fail
        obtain ⟨w1, hw1⟩ : ∃ w1, wo.setCell ⟨g, m * 2 + 1, none⟩ (.int .i64 k) = w1 := ⟨_, rfl⟩
        rw [hw1]
        have T1 : Ux.Touch (fun b => b = g) wo w1 := by rw [← hw1]; exact (Ux.Touch.refl (fun b => b = g) wo).setCell (p := ⟨g, m * 2 + 1, none⟩) (fun _ => rfl) _
        have o1 : w1.ownsRow 0 77 2 (.slice (some ⟨g, 0, none⟩) (pre.length + 1) gc) (pre.length + 1) (frCells (pre ++ [(t, x, k)])) := by
          rw [← hw1]
          have := Ux.own_setn (i := m * 2 + 1) H1.out.2.1 (.int .i64 k)
          have hle : (frCells pre).length ≤ m * 2 + 1 := by rw [Ux.frCells_length, HM.out]; omega
          have hsub : m * 2 + 1 - (frCells pre).length = 1 := by rw [Ux.frCells_length, HM.out]; omega
          rw [Ux.frCells_snoc, List.set_append_right _ _ hle, hsub] at this
          rw [Ux.frCells_snoc]
          exact this
        have hcb1 := T1.heap H1.out.1 (fun e => H1.out.2.2.2.2.2.2.2.2.2 e)
        have Tw1 : Ux.Touch (fun b => b ∈ fc0) w w1 := H1.out.2.2.2.1.trans T1 (fun b hb e => by
          have e' : b = g := e
          subst e'
          exact (H1.out.2.2.1 b (by simp [blk, Value.ownBlock])).elim id (fun h => by omega))
        have H3 := Lib.hid (And.intro T1 (And.intro o1 (And.intro hcb1 Tw1)))
        clear T1 o1 hcb1 Tw1 hw1 c0 d0 d1' fr fcb
        go_loopg [5] d' (fun g' s4 wi => ∃ y, s4 = .pointer (some ⟨y, 0, none⟩) ∧ LastRel fan w cb root FP fc0 p g' y wi)
        case atStart =>
          exact ⟨x, rfl, pre, t, k, _, a, b, H3.out.2.2.1, H3.out.2.1, H1.out.2.2.1, H3.out.2.2.2, H2.out.1, H2.out.2.1, H2.out.2.2.1, by have := H2.out.2.2.2.1; omega, H2.out.2.2.2.2.1, H2.out.2.2.2.2.2.1⟩
        case round =>
          obtain ⟨y, rfl, pre', t', i', lv', a', b', k1, k2, k3, k4, k5, k6, k7, k8, k9, k10⟩ := hrel
          cases t' with
          | leaf l' =>
            have c2 := (k6.touch k4 HG.out.2.2.2.2.2.2).leaf.1
            have HK := Lib.hid (Ux.left_of_leaf HG.out.2.2.2.2.2.1 HG.out.2.2.2.2.2.2 k1 k2 k3 k4 k5 k6 k7 k8)
            have HQ := Lib.hid k9
            clear k1 k2 k3 k4 k5 k6 k7 k8 k9 k10
            go_wp2
            go_returns
            exact .inr ⟨_, HQ.out, rfl, HK.out⟩
          | node ks cs =>
            obtain ⟨g', rfl⟩ : ∃ g', gk = g' + 1 := by
              cases gk with
              | zero => obtain ⟨l, e⟩ := k10; cases e
              | succ g' => exact ⟨g', rfl⟩
            have k8' : i' < cs.length := k8
            obtain ⟨c, hc⟩ : ∃ c, cs[i']? = some c := ⟨cs[i'], List.getElem?_eq_getElem k8'⟩
            obtain ⟨gx, cx, z, m0, m1, hz, m3, m4, hyF, hgF⟩ := k6.kid hc
            have n0 := k4.cell m0 (HG.out.2.2.2.2.2.2 y hyF)
            have n1 := k4.cell m1 (HG.out.2.2.2.2.2.2 gx hgF)
            obtain ⟨gl, cl, curl, rfl, hl1, hl2, hl3, _, hl5⟩ := Ux.own_pos k2 (by omega)
            obtain ⟨_, t1⟩ := top_own k2
            have c0 : wr.cell? ⟨cb, 0, none⟩ = some (.slice (some ⟨gl, 0, none⟩) (pre'.length + 1) cl) := by rw [cell_of_row wr cb 0 _ 75 (0, 0) k1]; rfl
            obtain ⟨dd, gd, hdd, _, hzz⟩ := k7.good HG.out.1 HG.out.2.2.1 HG.out.2.2.2.1
            have hsz : cs.length ≤ 64 := Nat.le_trans hzz HG.out.2.1
            have hdp : pre'.length ≤ 1000 := by have := HG.out.2.2.2.2.1; omega
            have hcg : gl ≠ cb := fun e => by rw [e, k1] at hl3; cases hl3
            have P0 := fun wq vb (hv : wq.heap[vb]? = some (.cells #[.pointer (some ⟨z, 0, none⟩), .int .i64 ((c.size : Int) - 1)] 77 (0, 0))) ho => push77 wq (.slice (some ⟨gl, 0, none⟩) (pre'.length + 1) cl) (pre'.length + 1) (frCells (pre' ++ [(.node ks cs, y, i')])) (.pointer (some ⟨z, 0, none⟩)) (.int .i64 ((c.size : Int) - 1)) vb ho hv rfl rfl (by omega)
            obtain ⟨m', hm'⟩ : ∃ m', pre'.length = m' := ⟨_, rfl⟩
            have p0 : (m' : Int) + 1 ≤ 2000 := by omega
            have p1 : (i' : Int) < cs.length := by omega
            have p2 : (cs.length : Int) ≤ 64 := by omega
            have p3 : (0 : Int) ≤ i' := by omega
            obtain ⟨N, hN⟩ : ∃ N, cs.length = N := ⟨_, rfl⟩
            rw [hm'] at c0 t1
            rw [hN] at n0 p1 p2
            have K := Lib.hid (And.intro k1 (And.intro k2 (And.intro k3 (And.intro k4 (And.intro k5 (And.intro k6 (And.intro k7 (And.intro hc (And.intro k9 (And.intro k10 (And.intro hz hcg)))))))))))
            have PP := Lib.hid P0
            have HM' := Lib.hid hm'
            clear k1 k2 k3 k4 k5 k6 k7 hc k9 k10 hz m0 m1 m3 m4 hyF hgF hl1 hl2 hl3 hl5 gd hdd hzz hsz hdp hcg P0 k8' hm' hN
            go_wp2_with fail
            refine Ux.wp_region_plan (fun _ w' => w'.cell? ⟨y, 2, none⟩ = some (.slice (some ⟨gx, 0, none⟩) N cx) ∧ w'.cell? ⟨cb, 0, none⟩ = some (.slice (some ⟨gl, 0, none⟩) (m' + 1) cl) ∧ w'.cell? ⟨gl, m' * 2 + 1, none⟩ = some (.int .i64 i') ∧ w'.cell? ⟨gx, i', none⟩ = some (.pointer (some ⟨z, 0, none⟩))) (.q [0, 1, 2, 4, 5, 6, 8, 9, 10] (.h false [3, 7, 11] (.q [12, 13, 14, 15] (.h false [16] (.q [17] (.h false [18] (.line [19])))))))
              (by kernel_rfl) (by kernel_rfl) (by intro _ _ d _ _ h; cases d <;> exact h) ?hS ?_
            case hS => (intro c; cases c <;> (simp only [World.cell?_drew]; first | exact True.intro | (refine ⟨?_, ?_⟩ <;> assumption) | assumption | (repeat (first | assumption | (refine And.intro ?_ ?_)))))
            simp only [Ux.wpPlan, Ux.pickOps, Ux.keeps, List.getElem?_toArray, List.getElem?_cons_succ, List.getElem?_cons_zero]
            repeat (first
              | go_big_quiet_step (fail)
              | (with_reducible refine wpQuiet_nil ?_)
              | (refine Ux.quiet_held rfl ?_; apply Exists.intro; refine ⟨fun w' hS => ?_, ?_⟩; (focus ((try dsimp only at hS); go_simp; first | done | with_reducible rfl)); simp only [Act.put, List.setIfInBounds_toArray, List.set_cons_zero, List.set_cons_succ]))
            go_wp2_with fail
            have kg := K.out.2.2.2.2.2.2.2.2.2.1
            obtain ⟨gc', zc1, zc2⟩ : Ux.Good fan g' c ∧ fan / 2 ≤ c.size ∧ c.size ≤ fan := by
              obtain ⟨_, _, e, _, _, h3⟩ := kg
              cases e
              exact h3 c (List.mem_of_getElem? K.out.2.2.2.2.2.2.2.1)
            obtain ⟨fz, hnz, _⟩ := (K.out.2.2.2.2.2.2.2.2.2.2.1.touch K.out.2.2.2.1 HG.out.2.2.2.2.2.2).touch (R := fun _ => False) (((Ux.Touch.refl (fun _ => False) wr).drew).drew) (fun _ _ f => f)
            have SZ := size34 wr.drew.drew hnz (Ux.Good.shp gc')
            have HSZ := Lib.hid SZ
            have q0 : (1 : Int) ≤ c.size := by have := HG.out.1; omega
            have q1 : (c.size : Int) ≤ 64 := by have := HG.out.2.1; omega
            clear kg gc' zc1 zc2 hnz SZ n0 n1 t1
            obtain ⟨ga, ca, wa, hap, oa, ta, ba⟩ := PP.out (wr.alloc (.cells #[.pointer (some ⟨z, 0, none⟩), .int .i64 ((c.size : Int) - 1)] 77)).drew.drew wr.heap.size (heap_alloc_new wr _) (Ux.own_touch K.out.2.1 ((((Ux.Touch.refl (fun _ => False) wr).alloc _).drew).drew) (fun _ _ f => f))
            have HAP := Lib.hid hap
            have TA : Ux.Touch (fun b => b = gl) wr wa := (((((Ux.Touch.refl (fun b => b = gl) wr).alloc _).drew).drew) : Ux.Touch (fun b => b = gl) wr (wr.alloc (.cells #[.pointer (some ⟨z, 0, none⟩), .int .i64 ((c.size : Int) - 1)] 77)).drew.drew).trans ta (fun b _ h => by cases h; rfl)
            have hca := TA.heap K.out.1 (fun e => K.out.2.2.2.2.2.2.2.2.2.2.2 e.symm)
            have fca : wa.frozen? ⟨cb, 0, none⟩ = false := frozen_of_row wa cb 0 _ 75 hca
            have dca : wa.cell? ⟨cb, 0, none⟩ = some (.slice (some ⟨gl, 0, none⟩) (pre'.length + 1) cl) := by rw [cell_of_row wa cb 0 _ 75 (0, 0) hca]; rfl
            have hst : (wa.setCell ⟨cb, 0, none⟩ (.slice (some ⟨ga, 0, none⟩) (pre'.length + 1 + 1) ca)).heap[cb]? = some (.cells #[.slice (some ⟨ga, 0, none⟩) (pre'.length + 1 + 1) ca] 75 (0, 0)) := by
              have a := heap_setCell_same wa cb 0 _ 75 (.slice (some ⟨ga, 0, none⟩) (pre'.length + 1 + 1) ca) hca
              simpa using a
            rw [HM'.out] at hst
            have A := Lib.hid (And.intro oa (And.intro TA (And.intro ba (And.intro hca hst))))
            rw [HM'.out] at HAP
            clear hap oa ta ba TA hca hst PP
            refine Ux.wp_region_plan (fun _ w' => w'.cell? ⟨cb, 0, none⟩ = some (.slice (some ⟨gl, 0, none⟩) (m' + 1) cl)) (.q [0, 1, 2, 3, 5, 6] (.h false [4] (.e 7 true false (.q [8, 9] (.e 10 true false (.e 11 false false (.line [12, 13, 14])))))))
              (by kernel_rfl) (by kernel_rfl) (by intro _ _ d _ _ h; cases d <;> exact h) ?hS ?_
            case hS => (intro c; cases c <;> (simp only [World.cell?_drew]; first | exact True.intro | (refine ⟨?_, ?_⟩ <;> assumption) | assumption | (repeat (first | assumption | (refine And.intro ?_ ?_)))))
            simp only [Ux.wpPlan, Ux.pickOps, Ux.keeps, List.getElem?_toArray, List.getElem?_cons_succ, List.getElem?_cons_zero]
            repeat (first
              | go_big_quiet_step (fail)
              | (with_reducible refine wpQuiet_nil ?_)
              | (refine Ux.quiet_held rfl ?_; apply Exists.intro; refine ⟨fun w' hS => ?_, ?_⟩; (focus ((try dsimp only at hS); go_simp; first | done | with_reducible rfl)); simp only [Act.put, List.setIfInBounds_toArray, List.set_cons_zero, List.set_cons_succ]))
            go_wp2_with (go_at_call 34; refine HSZ.out.mono ?_; rintro e w4 ⟨rfl, rfl⟩)
            refine ⟨c0, ?_⟩
            repeat (first
              | go_big_quiet_step (fail)
              | (with_reducible refine wpQuiet_nil ?_)
              | (refine Ux.quiet_held rfl ?_; apply Exists.intro; refine ⟨fun w' hS => ?_, ?_⟩; (focus ((try dsimp only at hS); go_simp; first | done | with_reducible rfl)); simp only [Act.put, List.setIfInBounds_toArray, List.set_cons_zero, List.set_cons_succ]))
            go_wp2_with fail
            have c0' := (((Ux.Touch.refl (fun _ => False) wr).alloc (.cells #[.pointer (some ⟨z, 0, none⟩), .int .i64 ((c.size : Int) - 1)] 77)).drew).drew.cell c0 (fun f => f)
            refine ⟨c0', ?_⟩
            clear c0'
            repeat (first
              | go_big_quiet_step (fail)
              | (with_reducible refine wpQuiet_nil ?_)
              | (refine Ux.quiet_held rfl ?_; apply Exists.intro; refine ⟨fun w' hS => ?_, ?_⟩; (focus ((try dsimp only at hS); go_simp; first | done | with_reducible rfl)); simp only [Act.put, List.setIfInBounds_toArray, List.set_cons_zero, List.set_cons_succ]))
            go_wp2_with (at_builtin; refine Lib.wpList_append_run _ rfl _ _ _ _ rfl _ _ rfl rfl _ _ (HAP.out _) ?_)
            go_roundg g'
            case measure => omega
            case rel =>
              obtain ⟨k1, k2, k3, k4, k5, k6, k7, hc, k9, k10, hz, hcg⟩ := K.out
              obtain ⟨oa, TA, ba, hca, hst⟩ := A.out
              have hgl : gl ∈ fc0 ∨ w.heap.size ≤ gl := k3 gl (by simp [blk, Value.ownBlock])
              refine ⟨z, rfl, Ux.last_step (lv := .slice none 0 0) HG.out.2.2.2.2.2.1 k5 k6 k7 hc k9 k10 HG.out.1 hz oa (k4.trans TA (fun b hb e => by cases e; exact hgl.elim id (fun h => by omega))) ((Ux.Touch.refl (fun b => b = cb) wa).setCell (p := ⟨cb, 0, none⟩) (fun _ => rfl) _) ?_ ?_⟩
              · rw [HM'.out]
                exact hst
              · intro b hb
                simp [blk, Value.ownBlock] at hb
                subst hb
                have hbg : gl = b ∨ (wr.alloc (.cells #[.pointer (some ⟨z, 0, none⟩), .int .i64 ((c.size : Int) - 1)] 77)).drew.drew.heap.size ≤ b := ba.imp (fun h => by simpa [Value.ownBlock] using h) id
                have hs1 : (wr.alloc (.cells #[.pointer (some ⟨z, 0, none⟩), .int .i64 ((c.size : Int) - 1)] 77)).drew.drew.heap.size = wr.heap.size + 1 := World.size_alloc ..
                have hcl := Ux.lt_of_heap k1
                have hws := k4.size
                rcases hbg with h | h
                · exact ⟨h ▸ hgl, fun e => hcg (h.trans e)⟩
                · exact ⟨.inr (by omega), by omega⟩

end Go.Proofs.Ytdfgpminonpeaaa
