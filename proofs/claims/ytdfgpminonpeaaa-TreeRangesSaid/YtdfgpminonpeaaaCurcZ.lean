/- PART OF THE PROOF THAT THIS CLAIM HOLDS OF THE GIVEN PROGRAM, FOR EVERY INPUT THAT THE STATEMENT NAMES. No condition besides the statement's own. -/
import Derived.Test.YtdfgpminonpeaaaCurbZ
import Derived.Test.YtdfgpminonpeaaaRows
import Derived.WalkKit
import Derived.Handy
import Derived.Laws.EntriesVeiled
import Derived.WalkSpells
import Derived.WalkLawsBesides
import Derived.BigQuiet
import Derived.Deep.QuietTactic
import Derived.Deep.Cut
import Derived.Lib.Overlaps
import Derived.Laws.Externs
import Derived.Lib.Hide
import Derived.Test.YtdfgpminonpeaaaUxPlanAllZ
import Derived.Test.YtdfgpminonpeaaaUxTreeAllZ
import Derived.Deep.LoopGhost
namespace Go.Proofs.Ytdfgpminonpeaaa
open Go.RowKit
-- imports: YtdfgpminonpeaaaCurb
open Ux (slt lb has Rises T NodeAt NodesAt Shp wayN blk ptr flat flats keys ins Up CurAt FrAt Fr frCells Stands Ctx ahead TypeIn Go1Rel DownRel CurLeft)

theorem finfo : (Try.prog.info? 77).map (fun i => (i.zero, i.size, i.bytes)) = some (some (.agg #[.pointer none, .int .i64 0]), 2, 16) := by kernel_rfl

/-- one frame more -/
theorem push77 (w : World) (lv : Value) (n : Nat) (xs : List Value) (u1 u2 : Value) (vb : Nat) (hown : w.ownsRow 0 77 2 lv n xs) (hv : w.heap[vb]? = some (.cells #[u1, u2] 77 (0, 0))) (o1 : u1.oneCell' = true) (o2 : u2.oneCell' = true) (hn : n ≤ 1000000) :
    ∃ g c w', (∀ ty, (Builtin.append_ #[73, 73] ty #[lv, .slice (some ⟨vb, 0, none⟩) 1 1]).run Try.prog w = .ok (.slice (some ⟨g, 0, none⟩) (n + 1) c) w') ∧ w'.ownsRow 0 77 2 (.slice (some ⟨g, 0, none⟩) (n + 1) c) (n + 1) (xs ++ [u1, u2]) ∧
      Ux.Touch (fun k => lv.ownBlock = some k) w w' ∧ (lv.ownBlock = some g ∨ w.heap.size ≤ g) := by
  obtain ⟨i0, hi0, hz0, hz1, hz2⟩ := info_parts finfo
  have hsrc : Src Try.prog 2 73 (.slice (some ⟨vb, 0, none⟩) 1 1) 1 [u1, u2] w := Src.ofSlice w Try.underlying73 ⟨vb, 0, none⟩ 1 1 [u1, u2] rfl (fun j u hj => by
    rw [Addr.add_lit, Nat.zero_add, cell_of_row w vb _ _ 77 (0, 0) hv]
    simpa using hj) (by intro u hu; simp at hu; rcases hu with rfl | rfl <;> assumption)
  have key := fun ty => Ux.run_app (P := Try.prog) w 73 ty 77 i0 _ 2 16 Try.underlying73 hi0 hz0 hz1 hz2 rfl (by omega) lv n xs hown _ 1 [u1, u2] hsrc (le_maxLen (by omega)) (by omega)
  obtain ⟨r, w', hr, ho, ht, hbk, _⟩ := key 73
  obtain ⟨g, c, cur, rfl, _, _, _, _, _⟩ := Ux.own_pos ho (by omega)
  exact ⟨g, c, w', fun ty => hr, ho, ht, hbk.elim (fun h => .inl h.symm) (fun ⟨g', h, h'⟩ => .inr (by cases h; exact h'))⟩

/-- what go1 leaves -/
def Go1Post (w : World) (cb : Nat) (root : T) (FP fc0 : List Nat) (q : Nat) (e : Ending) (w' : World) : Prop :=
  e = .returned (.tuple #[]) ∧ CurLeft w cb root FP fc0 (if q < (flat root).length then some q else none) w'

theorem top_own {w : World} {g n c : Nat} {pre : List Fr} {t : T} {x i : Nat} (h : w.ownsRow 0 77 2 (.slice (some ⟨g, 0, none⟩) n c) n (frCells (pre ++ [(t, x, i)]))) :
    w.cell? ⟨g, pre.length * 2, none⟩ = some (.pointer (some ⟨x, 0, none⟩)) ∧ w.cell? ⟨g, pre.length * 2 + 1, none⟩ = some (.int .i64 i) := by
  rcases h.2 with ⟨hv, _⟩ | ⟨g', cap, cur, hv, _, hg, _, _, _, htk⟩
  · cases hv
  · cases hv
    exact top_cells hg htk

set_option maxHeartbeats 4000000 in
set_option maxRecDepth 100000 in
theorem go1_37 (fan d : Nat) (root : T) (cb : Nat) (FP fc0 : List Nat) (q n : Nat) (w : World) (hf : 4 ≤ fan) (h64 : fan ≤ 64) (hg : Ux.Good fan d root) (hs : root.size ≤ fan) (hd : d ≤ 1000) (hcb : cb ∈ fc0) (hdis : ∀ b ∈ FP, b ∉ fc0) (hn : n ≤ 2000)
    (h : Go1Rel w cb root FP fc0 q n w) :
    Calls Try.prog 37 #[.pointer (some ⟨cb, 0, none⟩)] w (Go1Post w cb root FP fc0 q) := by
  have HR := Lib.hid h
  obtain ⟨lv, xs, h1, h2, _⟩ := h
  obtain ⟨a, c, rfl⟩ : ∃ a c, lv = .slice a n c := by
    rcases h2.2 with ⟨rfl, rfl⟩ | ⟨g, c, cur, rfl, _⟩
    · exact ⟨_, _, rfl⟩
    · exact ⟨_, _, rfl⟩
  have c0 : w.cell? ⟨cb, 0, none⟩ = some (.slice a n c) := by rw [cell_of_row w cb 0 _ 75 (0, 0) h1]; rfl
  have HG := Lib.hid (And.intro hf (And.intro h64 (And.intro hg (And.intro hs (And.intro hd (And.intro hcb hdis))))))
  clear hf h64 hg hs hd hcb hdis h1 h2
  have hn' : (n : Int) ≤ 2000 := by omega
  clear hn
  go_enter Try.func37, Try.ntmps37
  go_wp2
  go_loopg [2] n (fun g s2 wr => s2 = .int .i64 g ∧ (g : Int) ≤ 2000 ∧ Go1Rel w cb root FP fc0 q g wr)
  case atStart => exact ⟨rfl, hn', HR.out⟩
  case round =>
    clear c0 hn' HR
    obtain ⟨rfl, hb, lv, xs, h1, h2, h3, h4, h5⟩ := hrel
    rcases Nat.eq_zero_or_pos gk with h0 | h0
    · subst h0
      have hq : ¬ q < (flat root).length := by
        rcases h5 with ⟨_, e⟩ | ⟨pre, t, x, i, a, b, hm, _⟩
        · omega
        · omega
      have HK := Lib.hid (Ux.left_of_none (root := root) (FP := FP) HG.out.2.2.2.2.2.1 h1 h2 h3 h4)
      have HQ := Lib.hid hq
      clear h1 h2 h3 h4 h5 hq hb
      go_wp2
      go_returns
      refine ⟨rfl, ?_⟩
      rw [if_neg HQ.out]
      exact HK.out
    · obtain ⟨m, rfl⟩ : ∃ m, gk = m + 1 := ⟨gk - 1, by omega⟩
      rcases h5 with ⟨h, _⟩ | ⟨pre, t, x, i, a, b, hm, rfl, h6, h7, h8, h9, h10⟩
      · omega
      obtain ⟨g, gc, cur, rfl, hgl, hgm, hgc, hcs, htk⟩ := Ux.own_pos h2 (by omega)
      obtain rfl : m = pre.length := by omega
      have c0 : wr.cell? ⟨cb, 0, none⟩ = some (.slice (some ⟨g, 0, none⟩) (pre.length + 1) gc) := by rw [cell_of_row wr cb 0 _ 75 (0, 0) h1]; rfl
      have hfl := Ux.frCells_length pre
      have d0 : wr.cell? ⟨g, pre.length * 2, none⟩ = some (.pointer (some ⟨x, 0, none⟩)) := Ux.row_cell hgc htk _ _ (by rw [List.getElem?_append_right (by omega), hfl, Nat.sub_self]; rfl)
      have d1 : wr.cell? ⟨g, pre.length * 2 + 1, none⟩ = some (.int .i64 ((i : Int) - 1)) := Ux.row_cell hgc htk _ _ (by rw [List.getElem?_append_right (by omega), hfl, show pre.length * 2 + 1 - pre.length * 2 = 1 by omega]; rfl)
      have fr : ∀ j, wr.frozen? ⟨g, j, none⟩ = false := fun j => frozen_of_row wr g j _ 77 hgc
      have hcg : cb ≠ g := fun e => by rw [e, hgc] at h1; cases h1
      obtain ⟨d', gt, hde, _, hz⟩ := h8.good HG.out.1 HG.out.2.2.1 HG.out.2.2.2.1
      have j0 : (0 : Int) ≤ i := by omega
      have j1 : (i : Int) ≤ 64 := by have := HG.out.2.1; omega
      have j2 : (pre.length : Int) + 1 ≤ 2000 := by omega
      have j3 : (pre.length : Int) ≤ gc := by omega
      have j4 : ¬ gc = 0 := by omega
      obtain ⟨m, hm⟩ : ∃ m, pre.length = m := ⟨_, rfl⟩
      rw [hm] at c0 d0 d1 j2 j3
      obtain ⟨wo, hwo⟩ : ∃ wo : World, wo = wr := ⟨_, rfl⟩
      subst hwo
      have H1 := Lib.hid (And.intro h1 (And.intro h2 (And.intro h3 (And.intro h4 (And.intro hgc (And.intro htk (And.intro hcs (And.intro hgl (And.intro hgm hcg)))))))))
      have H2 := Lib.hid (And.intro h6 (And.intro h7 (And.intro h8 (And.intro h9 (And.intro h10 (And.intro gt (And.intro hde hz)))))))
      have HM := Lib.hid hm
      clear h1 h2 h3 h4 hgc htk hcs hgl hgm hcg h6 h7 h8 h9 h10 gt hde hz hfl hb h0 
      rw [hm]
      clear hm
      go_wp2_with fail
      obtain ⟨w1, hw1⟩ : ∃ w1, wo.setCell ⟨g, m * 2 + 1, none⟩ (.int .i64 i) = w1 := ⟨_, rfl⟩
      rw [hw1]
      have T1 : Ux.Touch (fun b => b = g) wo w1 := by rw [← hw1]; exact (Ux.Touch.refl (fun b => b = g) wo).setCell (p := ⟨g, m * 2 + 1, none⟩) (fun _ => rfl) _
      have o1 : w1.ownsRow 0 77 2 (.slice (some ⟨g, 0, none⟩) (pre.length + 1) gc) (pre.length + 1) (frCells (pre ++ [(t, x, i)])) := by
        rw [← hw1]
        have := Ux.own_setn (i := m * 2 + 1) H1.out.2.1 (.int .i64 i)
        have hle : (frCells pre).length ≤ m * 2 + 1 := by rw [Ux.frCells_length, HM.out]; omega
        have hsub : m * 2 + 1 - (frCells pre).length = 1 := by rw [Ux.frCells_length, HM.out]; omega
        rw [List.set_append_right _ _ hle, hsub] at this
        rw [Ux.frCells_snoc]
        exact this
      have hcb1 := T1.heap H1.out.1 (fun e => H1.out.2.2.2.2.2.2.2.2.2 e)
      have Tw1 : Ux.Touch (fun b => b ∈ fc0) w w1 := H1.out.2.2.2.1.trans T1 (fun b hb e => by
        have e' : b = g := e
        subst e'
        exact (H1.out.2.2.1 b (by simp [blk, Value.ownBlock])).elim id (fun h => by omega))
      have hx1 : FrAt w1 FP t x := H2.out.2.1.touch Tw1 HG.out.2.2.2.2.2.2
      obtain ⟨ff, hnode, hfs⟩ := hx1
      have SZ := size34 w1.drew (hnode.touch (Ux.Touch.refl (fun _ => False) w1).drew (fun _ _ f => f)) (Ux.Good.shp H2.out.2.2.2.2.2.1)
      have HSZ := Lib.hid SZ
      have c1 : w1.cell? ⟨cb, 0, none⟩ = some (.slice (some ⟨g, 0, none⟩) (m + 1) gc) := by rw [cell_of_row w1 cb 0 _ 75 (0, 0) hcb1, HM.out]; rfl
      obtain ⟨e0, e1⟩ := top_own o1
      rw [HM.out] at e0 e1
      have fcb : w1.frozen? ⟨cb, 0, none⟩ = false := frozen_of_row w1 cb 0 _ 75 hcb1
      have H3 := Lib.hid (And.intro T1 (And.intro o1 (And.intro hcb1 (And.intro Tw1 (And.intro hnode hfs)))))
      clear T1 o1 hcb1 Tw1 hnode hfs SZ hw1 c0 d0 d1 fr
      refine Ux.wp_region_plan (fun _ w' => w'.cell? ⟨g, m * 2, none⟩ = some (.pointer (some ⟨x, 0, none⟩)) ∧ w'.cell? ⟨g, m * 2 + 1, none⟩ = some (.int .i64 i)) (.q [0, 1, 2, 4, 5, 6] (.h false [3, 7] (.e 8 true false (.q [9] (.line [])))))
        (by kernel_rfl) (by kernel_rfl) (by intro _ _ d _ _ h; cases d <;> exact h) ?hS ?_
      case hS => (intro c; cases c <;> (simp only [World.cell?_drew]; first | exact True.intro | (refine ⟨?_, ?_⟩ <;> assumption) | assumption | (repeat (first | assumption | (refine And.intro ?_ ?_)))))
      simp only [Ux.wpPlan, Ux.pickOps, Ux.keeps, List.getElem?_toArray, List.getElem?_cons_succ, List.getElem?_cons_zero]
      repeat (first
        | go_big_quiet_step (fail)
        | (with_reducible refine wpQuiet_nil ?_)
        | (refine Ux.quiet_held rfl ?_; apply Exists.intro; refine ⟨fun w' hS => ?_, ?_⟩; (focus ((try dsimp only at hS); go_simp; first | done | with_reducible rfl)); simp only [Act.put, List.setIfInBounds_toArray, List.set_cons_zero, List.set_cons_succ]))
      go_wp2_with (go_at_call 34; refine HSZ.out.mono ?_; rintro e w4 ⟨rfl, rfl⟩)
      refine ⟨⟨e0, e1⟩, ?_⟩
      repeat (first
        | go_big_quiet_step (fail)
        | (with_reducible refine wpQuiet_nil ?_)
        | (refine Ux.quiet_held rfl ?_; apply Exists.intro; refine ⟨fun w' hS => ?_, ?_⟩; (focus ((try dsimp only at hS); go_simp; first | done | with_reducible rfl)); simp only [Act.put, List.setIfInBounds_toArray, List.set_cons_zero, List.set_cons_succ]))
      by_cases hlt : i < t.size
      · have hdec : decide (i < t.size) = true := by simpa using hlt
        simp only [hdec]
        go_wp2_with fail
        go_loopg [4] d' (fun g' s4 wi => ∃ y, s4 = .pointer (some ⟨y, 0, none⟩) ∧ DownRel fan w cb root FP fc0 q g' y wi)
        case atStart =>
          have D := (Ux.Touch.refl (fun _ => False) w1).drew
          exact ⟨x, rfl, pre, t, i, _, a, b, D.heap H3.out.2.2.1 (fun f => f), Ux.own_touch H3.out.2.1 D (fun _ _ f => f), H1.out.2.2.1, H3.out.2.2.2.1.drew, H2.out.1, H2.out.2.1, H2.out.2.2.1, hlt, H2.out.2.2.2.2.1, H2.out.2.2.2.2.2.1⟩
        case round =>
          clear e0 e1 c1 fcb HSZ hlt
          obtain ⟨y, rfl, pre', t', i', lv', a', b', k1, k2, k3, k4, k5, k6, k7, k8, k9, k10⟩ := hrel
          have hq : q < (flat root).length := Ux.down_lt HG.out.1 k7 k8 k10 k9
          cases t' with
          | leaf l' =>
            have c2 := (k6.touch k4 HG.out.2.2.2.2.2.2).leaf.1
            have HK := Lib.hid (Ux.left_of_leaf HG.out.2.2.2.2.2.1 HG.out.2.2.2.2.2.2 k1 k2 k3 k4 k5 k6 k7 k8)
            have HQ := Lib.hid k9
            have HQQ := Lib.hid hq
            clear k1 k2 k3 k4 k5 k6 k7 k8 k9 k10 hq
            go_wp2
            go_returns
            refine ⟨rfl, ?_⟩
            rw [if_pos HQQ.out, HQ.out]
            exact HK.out
          | node ks cs =>
            obtain ⟨g', rfl⟩ : ∃ g', gk = g' + 1 := by
              cases gk with
              | zero => obtain ⟨l, e⟩ := k10; cases e
              | succ g' => exact ⟨g', rfl⟩
            have k8' : i' < cs.length := k8
            obtain ⟨c, hc⟩ : ∃ c, cs[i']? = some c := ⟨cs[i'], List.getElem?_eq_getElem k8'⟩
            obtain ⟨gx, cx, z, m0, m1, hz, m3, m4, hyF, hgF⟩ := k6.kid hc
            have n0 := k4.cell m0 (HG.out.2.2.2.2.2.2 y hyF)
            have n1 := k4.cell m1 (HG.out.2.2.2.2.2.2 gx hgF)
            obtain ⟨gl, cl, curl, rfl, hl1, hl2, hl3, _, hl5⟩ := Ux.own_pos k2 (by omega)
            obtain ⟨_, t1⟩ := top_own k2
            have c0 : wr.cell? ⟨cb, 0, none⟩ = some (.slice (some ⟨gl, 0, none⟩) (pre'.length + 1) cl) := by rw [cell_of_row wr cb 0 _ 75 (0, 0) k1]; rfl
            obtain ⟨dd, gd, hdd, _, hzz⟩ := k7.good HG.out.1 HG.out.2.2.1 HG.out.2.2.2.1
            have hsz : cs.length ≤ 64 := Nat.le_trans hzz HG.out.2.1
            have hdp : pre'.length ≤ 1000 := by have := HG.out.2.2.2.2.1; omega
            have hcg : gl ≠ cb := fun e => by rw [e, k1] at hl3; cases hl3
            have P0 := fun wq vb (hv : wq.heap[vb]? = some (.cells #[.pointer (some ⟨z, 0, none⟩), .int .i64 0] 77 (0, 0))) ho => push77 wq (.slice (some ⟨gl, 0, none⟩) (pre'.length + 1) cl) (pre'.length + 1) (frCells (pre' ++ [(.node ks cs, y, i')])) (.pointer (some ⟨z, 0, none⟩)) (.int .i64 0) vb ho hv rfl rfl (by omega)
            obtain ⟨m', hm'⟩ : ∃ m', pre'.length = m' := ⟨_, rfl⟩
            have p0 : (m' : Int) + 1 ≤ 2000 := by omega
            have p1 : (i' : Int) < cs.length := by omega
            have p2 : (cs.length : Int) ≤ 64 := by omega
            have p3 : (0 : Int) ≤ i' := by omega
            obtain ⟨N, hN⟩ : ∃ N, cs.length = N := ⟨_, rfl⟩
            rw [hm'] at c0 t1
            rw [hN] at n0 p1 p2
            have K := Lib.hid (And.intro k1 (And.intro k2 (And.intro k3 (And.intro k4 (And.intro k5 (And.intro k6 (And.intro k7 (And.intro hc (And.intro k9 (And.intro k10 (And.intro hz hcg)))))))))))
            have PP := Lib.hid P0
            have HM' := Lib.hid hm'
            clear k1 k2 k3 k4 k5 k6 k7 hc k9 k10 hz m0 m1 m3 m4 hyF hgF hl1 hl2 hl3 hl5 gd hdd hzz hsz hdp hcg P0 k8 k8' hq hm' hN
            obtain ⟨ga, ca, wa, hap, oa, ta, ba⟩ := PP.out (wr.alloc (.cells #[.pointer (some ⟨z, 0, none⟩), .int .i64 0] 77)).drew wr.heap.size (heap_alloc_new wr _) (Ux.own_touch K.out.2.1 (((Ux.Touch.refl (fun _ => False) wr).alloc _).drew) (fun _ _ f => f))
            have HAP := Lib.hid hap
            have TA : Ux.Touch (fun b => b = gl) wr wa := ((((Ux.Touch.refl (fun b => b = gl) wr).alloc _).drew) : Ux.Touch (fun b => b = gl) wr (wr.alloc (.cells #[.pointer (some ⟨z, 0, none⟩), .int .i64 0] 77)).drew).trans ta (fun b _ h => by cases h; rfl)
            have hca := TA.heap K.out.1 (fun e => K.out.2.2.2.2.2.2.2.2.2.2.2 e.symm)
            have fca : wa.frozen? ⟨cb, 0, none⟩ = false := frozen_of_row wa cb 0 _ 75 hca
            have dca : wa.cell? ⟨cb, 0, none⟩ = some (.slice (some ⟨gl, 0, none⟩) (pre'.length + 1) cl) := by rw [cell_of_row wa cb 0 _ 75 (0, 0) hca]; rfl
            have hst : (wa.setCell ⟨cb, 0, none⟩ (.slice (some ⟨ga, 0, none⟩) (pre'.length + 1 + 1) ca)).heap[cb]? = some (.cells #[.slice (some ⟨ga, 0, none⟩) (pre'.length + 1 + 1) ca] 75 (0, 0)) := by
              have a := heap_setCell_same wa cb 0 _ 75 (.slice (some ⟨ga, 0, none⟩) (pre'.length + 1 + 1) ca) hca
              simpa using a
            rw [HM'.out] at hst
            have A := Lib.hid (And.intro oa (And.intro TA (And.intro ba (And.intro hca hst))))
            rw [HM'.out] at HAP
            clear hap oa ta ba TA hca hst PP
            go_wp2_with fail
            refine Ux.wp_region_plan (fun _ w' => w'.cell? ⟨y, 2, none⟩ = some (.slice (some ⟨gx, 0, none⟩) N cx) ∧ w'.cell? ⟨cb, 0, none⟩ = some (.slice (some ⟨gl, 0, none⟩) (m' + 1) cl) ∧ w'.cell? ⟨gl, m' * 2 + 1, none⟩ = some (.int .i64 i') ∧ w'.cell? ⟨gx, i', none⟩ = some (.pointer (some ⟨z, 0, none⟩))) (.q [0, 1, 2, 4, 5, 6, 8, 9, 10] (.h false [3, 7, 11] (.q [12, 13, 14, 15] (.h false [16] (.q [17] (.h false [18] (.line [19])))))))
              (by kernel_rfl) (by kernel_rfl) (by intro _ _ d _ _ h; cases d <;> exact h) ?hS ?_
            case hS => (intro c; cases c <;> (simp only [World.cell?_drew]; first | exact True.intro | (refine ⟨?_, ?_⟩ <;> assumption) | assumption | (repeat (first | assumption | (refine And.intro ?_ ?_)))))
            simp only [Ux.wpPlan, Ux.pickOps, Ux.keeps, List.getElem?_toArray, List.getElem?_cons_succ, List.getElem?_cons_zero]
            repeat (first
              | go_big_quiet_step (fail)
              | (with_reducible refine wpQuiet_nil ?_)
              | (refine Ux.quiet_held rfl ?_; apply Exists.intro; refine ⟨fun w' hS => ?_, ?_⟩; (focus ((try dsimp only at hS); go_simp; first | done | with_reducible rfl)); simp only [Act.put, List.setIfInBounds_toArray, List.set_cons_zero, List.set_cons_succ]))
            go_wp2_with (at_builtin; refine Lib.wpList_append_run _ rfl _ _ _ _ rfl _ _ rfl rfl _ _ (HAP.out _) ?_)
            go_roundg g'
            case measure => omega
            case rel =>
              obtain ⟨k1, k2, k3, k4, k5, k6, k7, hc, k9, k10, hz, hcg⟩ := K.out
              obtain ⟨oa, TA, ba, hca, hst⟩ := A.out
              have hgl : gl ∈ fc0 ∨ w.heap.size ≤ gl := k3 gl (by simp [blk, Value.ownBlock])
              refine ⟨z, rfl, Ux.down_step (lv := .slice none 0 0) HG.out.2.2.2.2.2.1 k5 k6 k7 hc k9 k10 HG.out.1 hz oa (k4.trans TA (fun b hb e => by cases e; exact hgl.elim id (fun h => by omega))) ((Ux.Touch.refl (fun b => b = cb) wa).setCell (p := ⟨cb, 0, none⟩) (fun _ => rfl) _) ?_ ?_⟩
              · rw [HM'.out]
                exact hst
              · intro b hb
                simp [blk, Value.ownBlock] at hb
                subst hb
                have hbg : gl = b ∨ (wr.alloc (.cells #[.pointer (some ⟨z, 0, none⟩), .int .i64 0] 77)).drew.heap.size ≤ b := ba.imp (fun h => by simpa [Value.ownBlock] using h) id
                have hs1 : (wr.alloc (.cells #[.pointer (some ⟨z, 0, none⟩), .int .i64 0] 77)).drew.heap.size = wr.heap.size + 1 := World.size_alloc ..
                have hcl := Ux.lt_of_heap k1
                have hws := k4.size
                rcases hbg with h | h
                · exact ⟨h ▸ hgl, fun e => hcg (h.trans e)⟩
                · exact ⟨.inr (by omega), by omega⟩
      · have hi : i = t.size := by have := H2.out.2.2.2.1; omega
        go_wp2
        go_roundg m
        case measure => have := HM.out; omega
        case rel =>
          refine ⟨rfl, by omega, ?_⟩
          rw [← HM.out]
          refine Ux.go1_pop H2.out.1 H2.out.2.2.1 H2.out.2.2.2.2.1 hi H3.out.2.1 H3.out.2.2.2.1 ?_ ?_ (H1.out.2.2.1 g (by simp [blk, Value.ownBlock])) H1.out.2.2.2.2.2.2.2.2.2 HG.out.2.2.2.2.2.1
          · exact ((Ux.Touch.refl (fun b => b = cb) w1).setCell (p := ⟨cb, 0, none⟩) (fun _ => rfl) _).drew
          · have a := heap_setCell_same w1 cb 0 _ 75 (.slice (some ⟨g, 0, none⟩) pre.length gc) H3.out.2.2.1
            have b : (w1.setCell ⟨cb, 0, none⟩ (.slice (some ⟨g, 0, none⟩) pre.length gc)).heap[cb]? = some (.cells #[.slice (some ⟨g, 0, none⟩) pre.length gc] 75 (0, 0)) := by simpa using a
            exact b

end Go.Proofs.Ytdfgpminonpeaaa
