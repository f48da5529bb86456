/- PART OF THE PROOF THAT THIS CLAIM HOLDS OF THE GIVEN PROGRAM, FOR EVERY INPUT THAT THE STATEMENT NAMES. No condition besides the statement's own. -/
import Derived.Test.YtdfgpminonpeaaaUxTreeAllZ
import Derived.Test.YtdfgpminonpeaaaSmallZ
import Derived.Test.YtdfgpminonpeaaaInsZ
import Derived.Test.YtdfgpminonpeaaaCloZ
import Derived.Test.YtdfgpminonpeaaaDelZ
import Derived.Test.YtdfgpminonpeaaaNodeZ
import Derived.Test.YtdfgpminonpeaaaRows
import Derived.WalkKit
import Derived.Handy
import Derived.Laws.EntriesVeiled
import Derived.WalkSpells
import Derived.WalkLawsBesides
import Derived.BigQuiet
import Derived.Deep.QuietTactic
import Derived.Deep.Cut
import Derived.Lib.Overlaps
import Derived.Laws.Externs
import Derived.Lib.Hide
import Derived.Test.YtdfgpminonpeaaaUxPlanAllZ
import Derived.Deep.LoopGhost
namespace Go.Proofs.Ytdfgpminonpeaaa
open Go.RowKit
-- imports: UxTreeRep YtdfgpminonpeaaaSmall YtdfgpminonpeaaaIns YtdfgpminonpeaaaClo YtdfgpminonpeaaaDel YtdfgpminonpeaaaNode
open Ux (slt lb has Rises T NodeAt NodesAt Shp wayN half1 half2 halfK blk ptr)

/-- what half gives -/
def HalfPost (w : World) (t : T) (x : Nat) (fp : List Nat) (e : Ending) (w' : World) : Prop :=
  ∃ y f1 f2, e = .returned (.tuple #[ptr y, .string (halfK t)]) ∧ NodeAt w' (half1 t) x f1 ∧ NodeAt w' (half2 t) y f2 ∧ (f1 ++ f2).Nodup ∧ (∀ b ∈ f1, b ∈ fp) ∧ (∀ b ∈ f2, b ∈ fp ∨ w.heap.size ≤ b) ∧ Ux.Touch (· ∈ fp) w w'

theorem drop_cells {w : World} {g n : Nat} {cur : Array Value} {t : TypeId} {xs : List Value} (hg : w.heap[g]? = some (.cells cur t (0, 0))) (htk : cur.toList.take n = xs) (i : Nat) (j : Nat) (u : Value) (hj : (xs.drop i)[j]? = some u) :
    w.cell? ((⟨g, i, none⟩ : Addr).add j) = some u := by
  rw [Addr.add_lit]
  rw [List.getElem?_drop] at hj
  exact Ux.row_cell hg htk _ _ hj

set_option maxHeartbeats 2000000 in
set_option maxRecDepth 100000 in
theorem half_leaf (l : List (ByteArray × Int)) (x : Nat) (fp : List Nat) (w : World) (h : NodeAt w (.leaf l) x fp) (hnd : fp.Nodup) (hl2 : 2 ≤ l.length) (hb : l.length ≤ 2147483648) :
    Calls Try.prog 35 #[.pointer (some ⟨x, 0, none⟩)] w (HalfPost w (.leaf l) x fp) := by
  have hS : Shp (.leaf l) := trivial
  have HN := Lib.hid h
  have HSH := Lib.hid hS
  obtain ⟨kv, rv, h1, h2, h3, rfl⟩ := h
  obtain ⟨n, hn⟩ : ∃ n, l.length = n := ⟨_, rfl⟩
  have HL := Lib.hid hn
  rw [hn] at h2 h3 hl2 hb
  obtain ⟨g, c, cur, rfl, hnc, hcm, hg, hcs, htk⟩ := Ux.own_pos h2 (by omega)
  obtain ⟨g', c', cur', rfl, hnc', hcm', hg', hcs', htk'⟩ := Ux.own_pos h3 (by omega)
  rw [Nat.mul_one] at htk htk' hcs hcs'
  have hne : x ≠ g ∧ x ≠ g' ∧ g ≠ g' := by simp [blk, Value.ownBlock] at hnd; omega
  obtain ⟨c0, c1, c2, fr⟩ := blk3 h1
  have hxlt := Ux.lt_of_heap h1
  have hglt := Ux.lt_of_heap hg
  have hglt' := Ux.lt_of_heap hg'
  have hk1 := drop_cells hg htk (n / 2)
  have hk2 := drop_cells hg' htk' (n / 2)
  obtain ⟨i, hi⟩ : ∃ i, n / 2 = i := ⟨_, rfl⟩
  have i0 : (n : Int) / 2 = i := by omega
  have hin : i < n := by omega
  have hi1 : 1 ≤ i := by omega
  rw [hi] at hk1 hk2
  have hlen1 : ((l.map fun p => Value.string p.1).drop i).length = n - i := by simp [hn]
  have hlen2 : ((l.map fun p => Value.int .i64 p.2).drop i).length = n - i := by simp [hn]
  have hone1 : ∀ u ∈ (l.map fun p => Value.string p.1).drop i, u.oneCell' = true := fun u hu => by
    obtain ⟨p, _, rfl⟩ := List.mem_map.1 (List.mem_of_mem_drop hu); rfl
  have hone2 : ∀ u ∈ (l.map fun p => Value.int .i64 p.2).drop i, u.oneCell' = true := fun u hu => by
    obtain ⟨p, _, rfl⟩ := List.mem_map.1 (List.mem_of_mem_drop hu); rfl
  have hbi : n - i ≤ 2147483648 := by omega
  have K1 := Lib.hid hk1
  have K2 := Lib.hid hk2
  have L1 := Lib.hid hlen1
  have L2 := Lib.hid hlen2
  have O1 := Lib.hid hone1
  have O2 := Lib.hid hone2
  have HI := Lib.hid hi
  have HOWN := Lib.hid (And.intro h2 h3)
  have HND := Lib.hid hnd
  have HG := Lib.hid (And.intro h1 (And.intro hg hg'))
  have HC := Lib.hid (And.intro htk htk')
  have HCS := Lib.hid (And.intro hcs hcs')
  have hni : 0 < n - i := by omega
  clear h1 h2 h3 hg hg' hk1 hk2 hlen1 hlen2 hone1 hone2 hi hn htk htk' hcs hcs' hS hnd
  have j0 : (0 : Int) ≤ i := by omega
  have j1 : (i : Int) ≤ n := by omega
  have j2 : (n : Int) ≤ c := by omega
  have j3 : (n : Int) ≤ c' := by omega
  have j4 : (i : Int) ≤ c := by omega
  have j5 : (i : Int) ≤ c' := by omega
  have j6 : ¬ c = i := by omega
  have j7 : ¬ c' = i := by omega
  unfold maxLen at hcm hcm'
  go_enter Try.func35, Try.ntmps35
  go_wp2_with (go_at_call 34; refine (size34 _ HN.out HSH.out).mono ?_; rw [show (T.leaf l).size = n from HL.out]; rintro e w' ⟨rfl, rfl⟩)
  refine Ux.wp_region_plan (fun _ w' => w'.cell? ⟨x, 0, none⟩ = some (.slice (some ⟨g, 0, none⟩) n c) ∧ w'.cell? ⟨x, 1, none⟩ = some (.slice (some ⟨g', 0, none⟩) n c')) (.q [0, 1, 2, 4, 7, 8, 9, 11] (.h false [3, 10] (.q [5, 12] (.e 6 true false (.e 13 true false (.q [14] (.e 15 true false (.line [16]))))))))
    (by kernel_rfl) (by kernel_rfl) (by intro _ _ d _ _ h; cases d <;> exact h) ?hS ?_
  case hS => (intro c; cases c <;> (simp only [World.cell?_drew]; first | exact True.intro | (refine ⟨?_, ?_⟩ <;> assumption) | assumption | (repeat (first | assumption | (refine And.intro ?_ ?_)))))
  simp only [Ux.wpPlan, Ux.pickOps, Ux.keeps, List.getElem?_toArray, List.getElem?_cons_succ, List.getElem?_cons_zero]
  repeat (first
    | go_big_quiet_step (fail)
    | (with_reducible refine wpQuiet_nil ?_)
    | (refine Ux.quiet_held rfl ?_; apply Exists.intro; refine ⟨fun w' hS => ?_, ?_⟩; (focus ((try dsimp only at hS); go_simp; first | done | with_reducible rfl)); simp only [Act.put, List.setIfInBounds_toArray, List.set_cons_zero, List.set_cons_succ]))
  go_wp2_with fail
  refine (cloneS ⟨g, i, none⟩ (n - i) _ _ w.drew L1.out K1.out O1.out hbi).mono ?_
  rintro e w1 ⟨kv', rfl, ho1, ht1, hf1⟩
  obtain ⟨gk, ck, curk, rfl, hgk1, hgk2, hgk3, hgk4, hgk5⟩ := Ux.own_pos ho1 (by omega)
  have s0 := ht1.cell (a := ⟨x, 0, none⟩) c0 (fun f => f)
  have s1 := ht1.cell (a := ⟨x, 1, none⟩) c1 (fun f => f)
  go_wp2_with fail
  refine ⟨⟨s0, s1⟩, ?_⟩
  go_wp2_with fail
  refine (cloneI ⟨g', i, none⟩ (n - i) _ _ w1 L2.out (fun j u hj => ht1.cell (K2.out j u hj) (fun f => f)) O2.out hbi).mono ?_
  rintro e w2 ⟨rv', rfl, ho2, ht2, hf2⟩
  obtain ⟨gr, cr, curr, rfl, hgr1, hgr2, hgr3, hgr4, hgr5⟩ := Ux.own_pos ho2 (by omega)
  have s0' := ht2.cell s0 (fun f => f)
  have s1' := ht2.cell s1 (fun f => f)
  have sx2 : ∀ i, w2.frozen? ⟨x, i, none⟩ = false := fun i => by
    have := ht2.heap (ht1.heap (b := x) HG.out.1 (fun f => f)) (fun f => f)
    exact frozen_of_row w2 x i _ 62 this
  go_wp2_with fail
  refine ⟨⟨s0', s1'⟩, ?_⟩
  repeat (first
    | go_big_quiet_step (fail)
    | (with_reducible refine wpQuiet_nil ?_)
    | (refine Ux.quiet_held rfl ?_; apply Exists.intro; refine ⟨fun w' hS => ?_, ?_⟩; (focus ((try dsimp only at hS); go_simp; first | done | with_reducible rfl)); simp only [Act.put, List.setIfInBounds_toArray, List.set_cons_zero, List.set_cons_succ]))
  go_wp2
  obtain ⟨w3, hw3⟩ : ∃ w3, w2.alloc (.cells #[.slice (some ⟨gk, 0, none⟩) (n - i) ck, .slice (some ⟨gr, 0, none⟩) (n - i) cr, .slice none 0 0] 62) = w3 := ⟨_, rfl⟩
  obtain ⟨y, hy⟩ : ∃ y, w2.heap.size = y := ⟨_, rfl⟩
  rw [hw3, hy]
  have hxlt2 : x < w2.heap.size := Nat.lt_of_lt_of_le (Nat.lt_of_lt_of_le hxlt ht1.size) ht2.size
  have HY := Lib.hid hy
  have HX := Lib.hid hxlt2
  have ht3 : Ux.Touch (fun _ => False) w2 w3 := by rw [← hw3]; exact (Ux.Touch.refl _ _).alloc _
  have t0 := ht3.cell s0' (fun f => f)
  have t1 := ht3.cell s1' (fun f => f)
  have hx3 := ht3.heap (ht2.heap (ht1.heap (b := x) HG.out.1 (fun f => f)) (fun f => f)) (fun f => f)
  have tf : ∀ i, w3.frozen? ⟨x, i, none⟩ = false := fun i => frozen_of_row w3 x i _ 62 hx3
  have hy3 : w3.heap[y]? = some (.cells #[.slice (some ⟨gk, 0, none⟩) (n - i) ck, .slice (some ⟨gr, 0, none⟩) (n - i) cr, .slice none 0 0] 62 (0, 0)) := by rw [← hw3, ← hy]; exact heap_alloc_new w2 _
  have H3 := Lib.hid (And.intro hx3 (And.intro hy3 (And.intro ht1 (And.intro ht2 ht3))))
  have H4 := Lib.hid (And.intro ho1 (And.intro ho2 (And.intro hf1 hf2)))
  have H5 := Lib.hid (And.intro hgk3 (And.intro hgk5 (And.intro hgr3 hgr5)))
  refine ⟨⟨t0, t1⟩, ?_⟩
  clear hx3 hy3 ht1 ht2 ht3 ho1 ho2 hf1 hf2 hgk3 hgk5 hgr3 hgr5 s0 s1 s0' s1' sx2 hw3 hxlt2 hy c0 c1 c2 fr
  go_wp2
  refine Ux.wp_region_plan (fun _ w' => w'.cell? ⟨x, 0, none⟩ = some (.slice (some ⟨g, 0, none⟩) n c) ∧ w'.cell? ⟨x, 1, none⟩ = some (.slice (some ⟨g', 0, none⟩) n c')) (.q [0, 1, 2, 3, 4, 6, 8, 9, 10, 12] (.h false [5, 11] (.q [7, 13, 14, 15] (.e 16 false false (.line [17, 18, 19])))))
    (by kernel_rfl) (by kernel_rfl) (by intro _ _ d _ _ h; cases d <;> exact h) ?hS ?_
  case hS => (intro c; cases c <;> (simp only [World.cell?_drew]; first | exact True.intro | (refine ⟨?_, ?_⟩ <;> assumption) | assumption | (repeat (first | assumption | (refine And.intro ?_ ?_)))))
  simp only [Ux.wpPlan, Ux.pickOps, Ux.keeps, List.getElem?_toArray, List.getElem?_cons_succ, List.getElem?_cons_zero]
  repeat (first
    | go_big_quiet_step (fail)
    | (with_reducible refine wpQuiet_nil ?_)
    | (refine Ux.quiet_held rfl ?_; apply Exists.intro; refine ⟨fun w' hS => ?_, ?_⟩; (focus ((try dsimp only at hS); go_simp; first | done | with_reducible rfl)); simp only [Act.put, List.setIfInBounds_toArray, List.set_cons_zero, List.set_cons_succ]))
  go_wp2
  obtain ⟨w5, hw5⟩ : ∃ w5, ((w3.setCell ⟨x, 0, none⟩ (.slice (some ⟨g, 0, none⟩) i c)).setCell ⟨x, 1, none⟩ (.slice (some ⟨g', 0, none⟩) i c')).drew = w5 := ⟨_, rfl⟩
  rw [hw5]
  have hT5 : Ux.Touch (· = x) w3 w5 := by rw [← hw5]; exact ((((Ux.Touch.refl (· = x) w3).setCell (fun _ => rfl) _).setCell (fun _ => rfl) _).drew)
  have hx5 : w5.heap[x]? = some (.cells #[.slice (some ⟨g, 0, none⟩) i c, .slice (some ⟨g', 0, none⟩) i c', .slice none 0 0] 62 (0, 0)) := by
    rw [← hw5]
    have a := heap_setCell_same w3 x 0 _ 62 (.slice (some ⟨g, 0, none⟩) i c) H3.out.1
    have b := heap_setCell_same _ x 1 _ 62 (.slice (some ⟨g', 0, none⟩) i c') a
    have b' : ((w3.setCell ⟨x, 0, none⟩ (.slice (some ⟨g, 0, none⟩) i c)).setCell ⟨x, 1, none⟩ (.slice (some ⟨g', 0, none⟩) i c')).heap[x]? = some (.cells #[.slice (some ⟨g, 0, none⟩) i c, .slice (some ⟨g', 0, none⟩) i c', .slice none 0 0] 62 (0, 0)) := by simpa using b
    exact b'
  have hyx : y ≠ x := by have := HX.out; have := HY.out; omega
  have y0 : w5.cell? ⟨y, 0, none⟩ = some (.slice (some ⟨gk, 0, none⟩) (n - i) ck) := by
    rw [cell_of_row w5 y 0 _ 62 (0, 0) (hT5.heap H3.out.2.1 hyx)]; rfl
  have hmid : ∃ p, l[i]? = some p := ⟨l[i]'(by have := HL.out; omega), List.getElem?_eq_getElem _⟩
  obtain ⟨p, hp⟩ := hmid
  have hgkx : gk ≠ x := fun e => by
    have := H4.out.2.2.1 gk (by simp [Value.ownBlock])
    simp at this
    omega
  have hk0 : w5.cell? ⟨gk, 0, none⟩ = some (.string p.1) := by
    have h2 := H3.out.2.2
    have a : w1.cell? ⟨gk, 0, none⟩ = some (.string p.1) := Ux.row_cell H5.out.1 H5.out.2.1 0 _ (by simp [List.getElem?_drop, hp])
    exact hT5.cell (h2.2.2.cell (h2.2.1.cell a (fun f => f)) (fun f => f)) hgkx
  have HT5 := Lib.hid (And.intro hT5 hx5)
  have HP := Lib.hid (And.intro hp (And.intro hgkx hyx))
  have hck : (0 : Int) < ((n - i : Nat) : Int) := by omega
  clear hT5 hx5 hp hgkx hyx hw5 tf t0 t1
  refine Ux.wp_region_plan (fun _ w' => w'.cell? ⟨y, 0, none⟩ = some (.slice (some ⟨gk, 0, none⟩) (n - i) ck) ∧ w'.cell? ⟨gk, 0, none⟩ = some (.string p.1)) (.q [0, 1, 2, 3, 7] (.h false [4] (.q [5] (.h false [6] (.line [8])))))
    (by kernel_rfl) (by kernel_rfl) (by intro _ _ d _ _ h; cases d <;> exact h) ?hS ?_
  case hS => (intro c; cases c <;> (simp only [World.cell?_drew]; first | exact True.intro | (refine ⟨?_, ?_⟩ <;> assumption) | assumption | (repeat (first | assumption | (refine And.intro ?_ ?_)))))
  simp only [Ux.wpPlan, Ux.pickOps, Ux.keeps, List.getElem?_toArray, List.getElem?_cons_succ, List.getElem?_cons_zero]
  repeat (first
    | go_big_quiet_step (fail)
    | (with_reducible refine wpQuiet_nil ?_)
    | (refine Ux.quiet_held rfl ?_; apply Exists.intro; refine ⟨fun w' hS => ?_, ?_⟩; (focus ((try dsimp only at hS); go_simp; first | done | with_reducible rfl)); simp only [Act.put, List.setIfInBounds_toArray, List.set_cons_zero, List.set_cons_succ]))
  go_wp2
  go_ret2
  have hn := HL.out
  have hi := HI.out
  obtain ⟨hT5, hx5⟩ := HT5.out
  obtain ⟨hx3, hy3, ht1, ht2, ht3⟩ := H3.out
  obtain ⟨ho1, ho2, hf1, hf2⟩ := H4.out
  obtain ⟨hp, hgkx, hyx⟩ := HP.out
  have hxlt := HX.out
  have hy := HY.out
  have t13 : Ux.Touch (fun _ => False) w w3 := ((Ux.Touch.of_drew ht1).trans ht2 (fun _ _ f => f)).trans ht3 (fun _ _ f => f)
  have t15 : Ux.Touch (· = x) w w5.drew := (((t13.mono (fun _ _ f => f.elim) : Ux.Touch (· = x) w w3)).trans hT5 (fun _ _ h => h)).drew
  have t25 : Ux.Touch (· = x) w2 w5.drew := (((ht3.mono (fun _ _ f => f.elim) : Ux.Touch (· = x) w2 w3)).trans hT5 (fun _ _ h => h)).drew
  have t14 : Ux.Touch (· = x) w1 w5.drew := ((ht2.mono (fun _ _ f => f.elim) : Ux.Touch (· = x) w1 w2)).trans t25 (fun _ _ h => h)
  obtain ⟨h2, h3⟩ := HOWN.out
  have hnd := HND.out
  have e1 : half1 (.leaf l) = .leaf (l.take i) := by simp only [half1]; rw [hn, hi]
  have e2 : half2 (.leaf l) = .leaf (l.drop i) := by simp only [half2]; rw [hn, hi]
  have e3 : halfK (.leaf l) = p.1 := by simp only [halfK]; rw [hn, hi, hp]; rfl
  have hl1 : (l.take i).length = i := by simp; omega
  have hl2 : (l.drop i).length = n - i := by simp; omega
  have b1 := Ux.lt_of_heap H5.out.1
  have b2 := Ux.lt_of_heap H5.out.2.2.1
  have b3 := hf1 gk rfl
  have b4 := hf2 gr rfl
  have b5 := ht1.size
  have b6 := ht2.size
  simp only [World.size_drew] at b3 b5
  have hgrx : gr ≠ x := by omega
  refine ⟨y, [x, g, g'], [y, gk, gr], by rw [e3]; rfl, ?_, ?_, ?_, ?_, ?_, t15.mono (fun k _ hk => by rw [hk]; simp)⟩
  · rw [e1]
    refine ⟨_, _, hx5, ?_, ?_, rfl⟩
    · rw [hl1, List.map_take]
      exact Ux.own_touch (Ux.own_take h2 (by omega)) t15 (fun b hb => by simp [Value.ownBlock] at hb; omega)
    · rw [hl1, List.map_take]
      exact Ux.own_touch (Ux.own_take h3 (by omega)) t15 (fun b hb => by simp [Value.ownBlock] at hb; omega)
  · rw [e2]
    refine ⟨_, _, (hT5.drew).heap hy3 hyx, ?_, ?_, rfl⟩
    · rw [hl2, List.map_drop]
      exact Ux.own_touch ho1 t14 (fun b hb => by simp [Value.ownBlock] at hb; omega)
    · rw [hl2, List.map_drop]
      exact Ux.own_touch ho2 t25 (fun b hb => by simp [Value.ownBlock] at hb; omega)
  · simp
    omega
  · simp [blk, Value.ownBlock]
  · intro b hb
    right
    simp at hb
    omega

set_option maxHeartbeats 2000000 in
set_option maxRecDepth 100000 in
theorem half_node (ks : List ByteArray) (cs : List T) (x : Nat) (fp : List Nat) (w : World) (h : NodeAt w (.node ks cs) x fp) (hS : Shp (.node ks cs)) (hnd : fp.Nodup) (hl2 : 4 ≤ cs.length) (hb : cs.length ≤ 2147483648) :
    Calls Try.prog 35 #[.pointer (some ⟨x, 0, none⟩)] w (HalfPost w (.node ks cs) x fp) := by
  have HN := Lib.hid h
  have HSH := Lib.hid hS
  obtain ⟨kv, cv, xs, fs, h1, h2, h3, h4, rfl⟩ := h
  obtain ⟨m, hn⟩ : ∃ m, cs.length = m := ⟨_, rfl⟩
  have hxs := NodesAt.length h4
  have hkl : ks.length = m - 1 := by have := hS.1; omega
  have HL := Lib.hid (And.intro hn (And.intro hkl hxs))
  rw [hn] at h3 hl2 hb
  rw [hkl] at h2
  obtain ⟨g, c, cur, rfl, hnc, hcm, hg, hcs, htk⟩ := Ux.own_pos h2 (by omega)
  obtain ⟨g', c', cur', rfl, hnc', hcm', hg', hcs', htk'⟩ := Ux.own_pos h3 (by omega)
  rw [Nat.mul_one] at htk htk' hcs hcs'
  obtain ⟨n, hnm⟩ : ∃ n, m = n + 1 := ⟨m - 1, by omega⟩
  subst hnm
  simp only [Nat.add_sub_cancel] at h2 hkl hnc htk
  have hne : x ≠ g ∧ x ≠ g' ∧ g ≠ g' := by simp [blk, Value.ownBlock] at hnd; omega
  obtain ⟨c0, c1, c2, fr⟩ := blk3 h1
  have hxlt := Ux.lt_of_heap h1
  have hglt := Ux.lt_of_heap hg
  have hglt' := Ux.lt_of_heap hg'
  have hk1 := drop_cells hg htk ((n + 1) / 2)
  have hk2 := drop_cells hg' htk' ((n + 1) / 2)
  obtain ⟨i, hi⟩ : ∃ i, (n + 1) / 2 = i := ⟨_, rfl⟩
  have i0 : ((n : Int) + 1) / 2 = i := by omega
  have hin : i < n := by omega
  have hi1 : 2 ≤ i := by omega
  rw [hi] at hk1 hk2
  have hlen1 : ((ks.map Value.string).drop i).length = n - i := by simp [hkl]
  have hlen2 : ((xs.map ptr).drop i).length = n + 1 - i := by simp [hxs, hn]
  have hone1 : ∀ u ∈ (ks.map Value.string).drop i, u.oneCell' = true := fun u hu => by
    obtain ⟨p, _, rfl⟩ := List.mem_map.1 (List.mem_of_mem_drop hu); rfl
  have hone2 : ∀ u ∈ (xs.map ptr).drop i, u.oneCell' = true := fun u hu => by
    obtain ⟨p, _, rfl⟩ := List.mem_map.1 (List.mem_of_mem_drop hu); rfl
  obtain ⟨km, hkm⟩ : ∃ km, ks[i - 1]? = some km := ⟨ks[i - 1]'(by omega), List.getElem?_eq_getElem _⟩
  have hcell : w.cell? ⟨g, i - 1, none⟩ = some (.string km) := Ux.row_cell hg htk _ _ (by simp [hkm])
  have hbi : n - i ≤ 2147483648 := by omega
  have hbi' : n + 1 - i ≤ 2147483648 := by omega
  have K1 := Lib.hid hk1
  have K2 := Lib.hid hk2
  have L1 := Lib.hid hlen1
  have L2 := Lib.hid hlen2
  have O1 := Lib.hid hone1
  have O2 := Lib.hid hone2
  have HI := Lib.hid hi
  have HOWN := Lib.hid (And.intro h2 (And.intro h3 h4))
  have HND := Lib.hid hnd
  have HG := Lib.hid (And.intro h1 (And.intro hg hg'))
  have HC := Lib.hid (And.intro htk htk')
  have HCS := Lib.hid (And.intro hcs hcs')
  have HCELL := Lib.hid (And.intro hcell hkm)
  have hni : 0 < n - i := by omega
  have hni' : 0 < n + 1 - i := by omega
  clear h1 h2 h3 h4 hg hg' hk1 hk2 hlen1 hlen2 hone1 hone2 hi hn htk htk' hcs hcs' hS hnd hcell hkm hkl hxs
  have j0 : (0 : Int) ≤ i := by omega
  have j1 : (i : Int) ≤ n := by omega
  have j11 : (i : Int) ≤ (n : Int) + 1 := by omega
  have j2 : (n : Int) ≤ c := by omega
  have j3 : (n : Int) + 1 ≤ c' := by omega
  have j4 : (i : Int) ≤ c := by omega
  have j5 : (i : Int) ≤ c' := by omega
  have j6 : ¬ c = i := by omega
  have j7 : ¬ c' = i := by omega
  have j8 : (0 : Int) ≤ (i : Int) - 1 := by omega
  have j88 : (1 : Int) ≤ (i : Int) := by omega
  have j9 : (i : Int) - 1 ≤ c := by omega
  have j10 : ((i : Int) - 1).toNat = i - 1 := by omega
  unfold maxLen at hcm hcm'
  go_enter Try.func35, Try.ntmps35
  go_wp2_with (go_at_call 34; refine (size34 _ HN.out HSH.out).mono ?_; rw [show (T.node ks cs).size = n + 1 from HL.out.1]; rintro e w' ⟨rfl, rfl⟩)
  refine Ux.wp_region_plan (fun _ w' => w'.cell? ⟨x, 0, none⟩ = some (.slice (some ⟨g, 0, none⟩) n c) ∧ w'.cell? ⟨x, 2, none⟩ = some (.slice (some ⟨g', 0, none⟩) (n + 1) c')) (.q [0, 1, 2, 4, 7, 8, 9, 11] (.h false [3, 10] (.q [5, 12] (.e 6 true false (.e 13 true false (.q [14] (.e 15 true false (.line [16]))))))))
    (by kernel_rfl) (by kernel_rfl) (by intro _ _ d _ _ h; cases d <;> exact h) ?hS ?_
  case hS => (intro c; cases c <;> (simp only [World.cell?_drew]; first | exact True.intro | (refine ⟨?_, ?_⟩ <;> assumption) | assumption | (repeat (first | assumption | (refine And.intro ?_ ?_)))))
  simp only [Ux.wpPlan, Ux.pickOps, Ux.keeps, List.getElem?_toArray, List.getElem?_cons_succ, List.getElem?_cons_zero]
  repeat (first
    | go_big_quiet_step (fail)
    | (with_reducible refine wpQuiet_nil ?_)
    | (refine Ux.quiet_held rfl ?_; apply Exists.intro; refine ⟨fun w' hS => ?_, ?_⟩; (focus ((try dsimp only at hS); go_simp; first | done | with_reducible rfl)); simp only [Act.put, List.setIfInBounds_toArray, List.set_cons_zero, List.set_cons_succ]))
  go_wp2_with fail
  refine (cloneS ⟨g, i, none⟩ (n - i) _ _ w.drew L1.out K1.out O1.out hbi).mono ?_
  rintro e w1 ⟨kv', rfl, ho1, ht1, hf1⟩
  obtain ⟨gk, ck, curk, rfl, hgk1, hgk2, hgk3, hgk4, hgk5⟩ := Ux.own_pos ho1 (by omega)
  have s0 := ht1.cell (a := ⟨x, 0, none⟩) c0 (fun f => f)
  have s1 := ht1.cell (a := ⟨x, 2, none⟩) c2 (fun f => f)
  go_wp2_with fail
  refine ⟨⟨s0, s1⟩, ?_⟩
  go_wp2_with fail
  refine (cloneP ⟨g', i, none⟩ (n + 1 - i) _ _ w1 L2.out (fun j u hj => ht1.cell (K2.out j u hj) (fun f => f)) O2.out hbi').mono ?_
  rintro e w2 ⟨rv', rfl, ho2, ht2, hf2⟩
  obtain ⟨gr, cr, curr, rfl, hgr1, hgr2, hgr3, hgr4, hgr5⟩ := Ux.own_pos ho2 (by omega)
  have s0' := ht2.cell s0 (fun f => f)
  have s1' := ht2.cell s1 (fun f => f)
  go_wp2_with fail
  refine ⟨⟨s0', s1'⟩, ?_⟩
  repeat (first
    | go_big_quiet_step (fail)
    | (with_reducible refine wpQuiet_nil ?_)
    | (refine Ux.quiet_held rfl ?_; apply Exists.intro; refine ⟨fun w' hS => ?_, ?_⟩; (focus ((try dsimp only at hS); go_simp; first | done | with_reducible rfl)); simp only [Act.put, List.setIfInBounds_toArray, List.set_cons_zero, List.set_cons_succ]))
  go_wp2
  obtain ⟨w3, hw3⟩ : ∃ w3, w2.alloc (.cells #[.slice (some ⟨gk, 0, none⟩) (n - i) ck, .slice none 0 0, .slice (some ⟨gr, 0, none⟩) (n + 1 - i) cr] 62) = w3 := ⟨_, rfl⟩
  obtain ⟨y, hy⟩ : ∃ y, w2.heap.size = y := ⟨_, rfl⟩
  rw [hw3, hy]
  have hxlt2 : x < w2.heap.size := Nat.lt_of_lt_of_le (Nat.lt_of_lt_of_le hxlt ht1.size) ht2.size
  have HY := Lib.hid hy
  have HX := Lib.hid hxlt2
  have ht3 : Ux.Touch (fun _ => False) w2 w3 := by rw [← hw3]; exact (Ux.Touch.refl _ _).alloc _
  have t0 := ht3.cell s0' (fun f => f)
  have t1 := ht3.cell s1' (fun f => f)
  have hx3 := ht3.heap (ht2.heap (ht1.heap (b := x) HG.out.1 (fun f => f)) (fun f => f)) (fun f => f)
  have tf : ∀ i, w3.frozen? ⟨x, i, none⟩ = false := fun i => frozen_of_row w3 x i _ 62 hx3
  have hy3 : w3.heap[y]? = some (.cells #[.slice (some ⟨gk, 0, none⟩) (n - i) ck, .slice none 0 0, .slice (some ⟨gr, 0, none⟩) (n + 1 - i) cr] 62 (0, 0)) := by rw [← hw3, ← hy]; exact heap_alloc_new w2 _
  have hkc : w3.cell? ⟨g, i - 1, none⟩ = some (.string km) := ht3.cell (ht2.cell (ht1.cell (a := ⟨g, i - 1, none⟩) HCELL.out.1 (fun f => f)) (fun f => f)) (fun f => f)
  have H3 := Lib.hid (And.intro hx3 (And.intro hy3 (And.intro ht1 (And.intro ht2 ht3))))
  have H4 := Lib.hid (And.intro ho1 (And.intro ho2 (And.intro hf1 hf2)))
  have H5 := Lib.hid (And.intro hgk3 (And.intro hgk5 (And.intro hgr3 hgr5)))
  refine ⟨⟨t0, t1⟩, ?_⟩
  clear hx3 hy3 ht1 ht2 ht3 ho1 ho2 hf1 hf2 hgk3 hgk5 hgr3 hgr5 s0 s1 s0' s1' hw3 hxlt2 hy c0 c1 c2 fr
  go_wp2
  refine Ux.wp_region_plan (fun _ w' => w'.cell? ⟨x, 0, none⟩ = some (.slice (some ⟨g, 0, none⟩) n c) ∧ w'.cell? ⟨x, 2, none⟩ = some (.slice (some ⟨g', 0, none⟩) (n + 1) c')) (.q [0, 1, 2, 3, 4, 6, 7, 9, 10, 11, 13] (.h false [5, 12] (.q [8, 14, 15, 16] (.e 17 false false (.line [18, 19, 20])))))
    (by kernel_rfl) (by kernel_rfl) (by intro _ _ d _ _ h; cases d <;> exact h) ?hS ?_
  case hS => (intro c; cases c <;> (simp only [World.cell?_drew]; first | exact True.intro | (refine ⟨?_, ?_⟩ <;> assumption) | assumption | (repeat (first | assumption | (refine And.intro ?_ ?_)))))
  simp only [Ux.wpPlan, Ux.pickOps, Ux.keeps, List.getElem?_toArray, List.getElem?_cons_succ, List.getElem?_cons_zero]
  repeat (first
    | go_big_quiet_step (fail)
    | (with_reducible refine wpQuiet_nil ?_)
    | (refine Ux.quiet_held rfl ?_; apply Exists.intro; refine ⟨fun w' hS => ?_, ?_⟩; (focus ((try dsimp only at hS); go_simp; first | done | with_reducible rfl)); simp only [Act.put, List.setIfInBounds_toArray, List.set_cons_zero, List.set_cons_succ]))
  go_wp2
  go_ret2
  obtain ⟨hn, hkl, hxs⟩ := HL.out
  have hi := HI.out
  obtain ⟨hx3, hy3, ht1, ht2, ht3⟩ := H3.out
  obtain ⟨ho1, ho2, hf1, hf2⟩ := H4.out
  obtain ⟨hcell, hkm⟩ := HCELL.out
  have hxlt := HX.out
  have hy := HY.out
  obtain ⟨w5, hw5⟩ : ∃ w5, ((w3.setCell ⟨x, 0, none⟩ (.slice (some ⟨g, 0, none⟩) (i - 1 : Nat) c)).setCell ⟨x, 2, none⟩ (.slice (some ⟨g', 0, none⟩) i c')).drew = w5 := ⟨_, rfl⟩
  have hT5 : Ux.Touch (· = x) w3 w5 := by rw [← hw5]; exact ((((Ux.Touch.refl (· = x) w3).setCell (fun _ => rfl) _).setCell (fun _ => rfl) _).drew)
  have hx5 : w5.heap[x]? = some (.cells #[.slice (some ⟨g, 0, none⟩) (i - 1 : Nat) c, .slice none 0 0, .slice (some ⟨g', 0, none⟩) i c'] 62 (0, 0)) := by
    rw [← hw5]
    have a := heap_setCell_same w3 x 0 _ 62 (.slice (some ⟨g, 0, none⟩) (i - 1 : Nat) c) hx3
    have b := heap_setCell_same _ x 2 _ 62 (.slice (some ⟨g', 0, none⟩) i c') a
    have b' : ((w3.setCell ⟨x, 0, none⟩ (.slice (some ⟨g, 0, none⟩) (i - 1 : Nat) c)).setCell ⟨x, 2, none⟩ (.slice (some ⟨g', 0, none⟩) i c')).heap[x]? = some (.cells #[.slice (some ⟨g, 0, none⟩) (i - 1 : Nat) c, .slice none 0 0, .slice (some ⟨g', 0, none⟩) i c'] 62 (0, 0)) := by simpa using b
    exact b'
  have t13 : Ux.Touch (fun _ => False) w w3 := ((Ux.Touch.of_drew ht1).trans ht2 (fun _ _ f => f)).trans ht3 (fun _ _ f => f)
  have t15 : Ux.Touch (· = x) w w5 := ((t13.mono (fun _ _ f => f.elim) : Ux.Touch (· = x) w w3)).trans hT5 (fun _ _ h => h)
  have t25 : Ux.Touch (· = x) w2 w5 := ((ht3.mono (fun _ _ f => f.elim) : Ux.Touch (· = x) w2 w3)).trans hT5 (fun _ _ h => h)
  have t14 : Ux.Touch (· = x) w1 w5 := ((ht2.mono (fun _ _ f => f.elim) : Ux.Touch (· = x) w1 w2)).trans t25 (fun _ _ h => h)
  obtain ⟨h2, h3, h4⟩ := HOWN.out
  have hnd := HND.out
  obtain ⟨xa, xb, fa, fb, rfl, rfl, ha, hb⟩ := NodesAt.split (A := cs.take i) (B := cs.drop i) (by rw [List.take_append_drop]; exact h4)
  have hxa := NodesAt.length ha
  have hxb := NodesAt.length hb
  have e1 : half1 (.node ks cs) = .node (ks.take (i - 1)) (cs.take i) := by simp only [half1]; rw [hn, hi]
  have e2 : half2 (.node ks cs) = .node (ks.drop i) (cs.drop i) := by simp only [half2]; rw [hn, hi]
  have e3 : halfK (.node ks cs) = km := by simp only [halfK]; rw [hn, hi, hkm]; rfl
  have hl1 : (cs.take i).length = i := by simp; omega
  have hl1' : (ks.take (i - 1)).length = i - 1 := by simp; omega
  have hl2 : (cs.drop i).length = n + 1 - i := by simp; omega
  have hl2' : (ks.drop i).length = n - i := by simp; omega
  rw [hl1] at hxa
  rw [hl2] at hxb
  have b1 := Ux.lt_of_heap H5.out.1
  have b2 := Ux.lt_of_heap H5.out.2.2.1
  have b3 := hf1 gk rfl
  have b4 := hf2 gr rfl
  have b5 := ht1.size
  have b6 := ht2.size
  simp only [World.size_drew] at b3 b5
  have hgrx : gr ≠ x := by omega
  have hgkx : gk ≠ x := by omega
  have hyx : y ≠ x := by omega
  have hlt := NodeAt.lt HN.out
  have hx_ : ∀ b ∈ fa ++ fb, b ≠ x := fun b hb e => by
    have h := (List.nodup_cons.1 hnd).1
    subst e
    exact h (List.mem_append_right _ hb)
  have hnf : (fa ++ fb).Nodup := (List.nodup_append.1 (List.nodup_cons.1 hnd).2).2.1
  have hfd : ∀ b ∈ fa ++ fb, b ≠ g ∧ b ≠ g' := fun b hb => by
    have h := (List.nodup_append.1 (List.nodup_cons.1 hnd).2).2.2
    exact ⟨fun e => h g (by simp [blk, Value.ownBlock]) b hb e.symm, fun e => h g' (by simp [blk, Value.ownBlock]) b hb e.symm⟩
  have hltf : ∀ b ∈ fa ++ fb, b < w.heap.size := fun b hb => hlt b (List.mem_cons_of_mem _ (List.mem_append_right _ hb))
  have key : HalfPost w (.node ks cs) x (x :: (blk (.slice (some ⟨g, 0, none⟩) n c) ++ blk (.slice (some ⟨g', 0, none⟩) (n + 1 : Nat) c') ++ (fa ++ fb))) (.returned (.tuple #[ptr y, .string km])) w5 := by
    refine ⟨y, x :: ([g] ++ [g'] ++ fa), y :: ([gk] ++ [gr] ++ fb), by rw [e3], ?_, ?_, ?_, ?_, ?_, ?_⟩
    · rw [e1]
      refine ⟨.slice (some ⟨g, 0, none⟩) (i - 1 : Nat) c, .slice (some ⟨g', 0, none⟩) i c', xa, fa, hx5, ?_, ?_, ?_, rfl⟩
      · rw [hl1', List.map_take]
        exact Ux.own_touch (Ux.own_take h2 (by omega)) t15 (fun b hb => by simp [Value.ownBlock] at hb; omega)
      · rw [hl1]
        have hh := Ux.own_take h3 (i := i) (by omega)
        rw [List.map_append, List.take_left' (by simp [hxa])] at hh
        exact Ux.own_touch hh t15 (fun b hb => by simp [Value.ownBlock] at hb; omega)
      · exact ha.touch t15 (fun b hb => hx_ b (List.mem_append_left _ hb))
    · rw [e2]
      refine ⟨.slice (some ⟨gk, 0, none⟩) (n - i : Nat) ck, .slice (some ⟨gr, 0, none⟩) (n + 1 - i : Nat) cr, xb, fb, hT5.heap hy3 hyx, ?_, ?_, ?_, rfl⟩
      · rw [hl2', List.map_drop]
        exact Ux.own_touch ho1 t14 (fun b hb => by simp [Value.ownBlock] at hb; omega)
      · rw [hl2]
        have hh := ho2
        rw [List.map_append, List.drop_left' (by simp [hxa])] at hh
        exact Ux.own_touch hh t25 (fun b hb => by simp [Value.ownBlock] at hb; omega)
      · exact hb.touch t15 (fun b hb => hx_ b (List.mem_append_right _ hb))
    · have hfa : ∀ b ∈ fa, b ≠ x ∧ b ≠ g ∧ b ≠ g' ∧ b < w.heap.size := fun b hb => ⟨hx_ b (by simp [hb]), (hfd b (by simp [hb])).1, (hfd b (by simp [hb])).2, hltf b (by simp [hb])⟩
      have hfb : ∀ b ∈ fb, b ≠ x ∧ b ≠ g ∧ b ≠ g' ∧ b < w.heap.size := fun b hb => ⟨hx_ b (by simp [hb]), (hfd b (by simp [hb])).1, (hfd b (by simp [hb])).2, hltf b (by simp [hb])⟩
      obtain ⟨hna, hnb, hab⟩ := List.nodup_append.1 hnf
      refine List.nodup_append.2 ⟨?_, ?_, ?_⟩
      · simp only [List.cons_append, List.nil_append, List.nodup_cons, List.mem_cons, not_or]
        exact ⟨⟨by omega, by omega, fun h => (hfa x h).1 rfl⟩, ⟨by omega, fun h => (hfa g h).2.1 rfl⟩, fun h => (hfa g' h).2.2.1 rfl, hna⟩
      · simp only [List.cons_append, List.nil_append, List.nodup_cons, List.mem_cons, not_or]
        exact ⟨⟨by omega, by omega, fun h => by have := (hfb _ h).2.2.2; omega⟩, ⟨by omega, fun h => by have := (hfb _ h).2.2.2; omega⟩, fun h => by have := (hfb _ h).2.2.2; omega, hnb⟩
      · intro a ha b hb
        simp only [List.cons_append, List.nil_append, List.mem_cons] at ha hb
        have h1 : a < w.heap.size := by
          rcases ha with rfl | rfl | rfl | ha
          · exact HG.out.1 |> Ux.lt_of_heap
          · exact HG.out.2.1 |> Ux.lt_of_heap
          · exact HG.out.2.2 |> Ux.lt_of_heap
          · exact (hfa a ha).2.2.2
        rcases hb with rfl | rfl | rfl | hb
        · omega
        · omega
        · omega
        · rcases ha with rfl | rfl | rfl | ha
          · exact fun e => (hfb b hb).1 e.symm
          · exact fun e => (hfb b hb).2.1 e.symm
          · exact fun e => (hfb b hb).2.2.1 e.symm
          · exact hab a ha b hb
    · intro b hb
      simp only [List.cons_append, List.nil_append, List.mem_cons, blk, Value.ownBlock, Option.toList, List.mem_append] at hb ⊢
      rcases hb with h | h | h | h
      · exact .inl h
      · exact .inr (.inl h)
      · exact .inr (.inr (.inl h))
      · exact .inr (.inr (.inr (.inl h)))
    · intro b hb
      simp only [List.cons_append, List.nil_append, List.mem_cons, blk, Value.ownBlock, Option.toList, List.mem_append] at hb ⊢
      rcases hb with h | h | h | h
      · right; omega
      · right; omega
      · right; omega
      · exact .inl (.inr (.inr (.inr (.inr h))))
    · exact t15.mono (fun k _ hk => by rw [hk]; simp)
  rw [← hw5] at key
  exact key

theorem half35 (t : T) (x : Nat) (fp : List Nat) (w : World) (h : NodeAt w t x fp) (hS : Shp t) (hnd : fp.Nodup) (hl : 4 ≤ t.size) (hb : t.size ≤ 2147483648) :
    Calls Try.prog 35 #[.pointer (some ⟨x, 0, none⟩)] w (HalfPost w t x fp) := by
  cases t with
  | leaf l => exact half_leaf l x fp w h hnd (Nat.le_trans (by decide) hl) hb
  | node ks cs => exact half_node ks cs x fp w h hS hnd hl hb

end Go.Proofs.Ytdfgpminonpeaaa
