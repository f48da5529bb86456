/- PART OF THE PROOF THAT THIS CLAIM HOLDS OF THE GIVEN PROGRAM, FOR EVERY INPUT THAT THE STATEMENT NAMES. No condition besides the statement's own. -/
import Derived.Test.YtdfgpminonpeaaaUxTreeAllZ
import Derived.Test.YtdfgpminonpeaaaSmallZ
import Derived.Test.YtdfgpminonpeaaaInsZ
import Derived.Test.YtdfgpminonpeaaaCloZ
import Derived.Test.YtdfgpminonpeaaaDelZ
import Derived.Test.YtdfgpminonpeaaaNodeZ
import Derived.Test.YtdfgpminonpeaaaHalfZ
import Derived.Test.YtdfgpminonpeaaaAppZ
import Derived.Test.YtdfgpminonpeaaaRows
import Derived.WalkKit
import Derived.Handy
import Derived.Laws.EntriesVeiled
import Derived.WalkSpells
import Derived.WalkLawsBesides
import Derived.BigQuiet
import Derived.Deep.QuietTactic
import Derived.Deep.Cut
import Derived.Lib.Overlaps
import Derived.Laws.Externs
import Derived.Lib.Hide
import Derived.Test.YtdfgpminonpeaaaUxPlanAllZ
import Derived.Deep.LoopGhost
namespace Go.Proofs.Ytdfgpminonpeaaa
open Go.RowKit
-- imports: UxTree4 UxJoin UxJoin2 YtdfgpminonpeaaaSmall YtdfgpminonpeaaaIns YtdfgpminonpeaaaClo YtdfgpminonpeaaaDel YtdfgpminonpeaaaNode YtdfgpminonpeaaaHalf YtdfgpminonpeaaaApp
open Ux (slt lb has Rises T NodeAt NodesAt Shp wayN half1 half2 halfK blk ptr flat flats keys joinT mrg Up JoinAt JoinLeft)

/-- what join leaves -/
def JoinPost (w : World) (t' : T) (x : Nat) (fp : List Nat) (e : Ending) (w' : World) : Prop := e = .returned (.tuple #[]) ∧ JoinLeft w t' x fp w'

theorem own_apart2 {W : World} {g g' n c c' : Nat} {xs ys : List Value} (h : W.ownsRow 0 9 1 (.slice (some ⟨g, 0, none⟩) n c) n xs) (h' : W.ownsRow 0 3 1 (.slice (some ⟨g', 0, none⟩) n c') n ys) (hn : 0 < n) : g ≠ g' := by
  obtain ⟨a, _, cur, e, _, _, hh, _, _⟩ := Ux.own_pos h hn
  obtain ⟨b, _, cur', e', _, _, hh', _, _⟩ := Ux.own_pos h' hn
  cases e
  cases e'
  intro eq
  rw [← eq, hh] at hh'
  cases hh'

theorem append_nils (w : World) (ty : TypeId) : (Builtin.append_ #[60, 60] ty #[.slice none 0 0, .slice none 0 0]).run Try.prog w = .ok (.slice none 0 0) w := by
  obtain ⟨i0, hi0, hz0, hz1, hz2⟩ := info_parts ainfoP
  simp [Builtin.append_, run_underlying Try.underlying60, sizeOf, typeInfo, hi0, Builtin.lenOf, Builtin.firstCells]

theorem del_formJ {W : World} {e : TypeId} {v : Value} {n g : Nat} {xs : List Value} (h : W.ownsRow 0 e 1 v n xs) (hb : v.ownBlock = some g) : ∃ c, v = .slice (some ⟨g, 0, none⟩) n c := by
  rcases h.2 with ⟨rfl, _⟩ | ⟨g', c, cur, rfl, _⟩
  · cases hb
  · cases hb
    exact ⟨c, rfl⟩

set_option maxHeartbeats 2000000 in
set_option maxRecDepth 100000 in
theorem join_leaf (fan : Nat) (hf4 : 4 ≤ fan) (hf64 : fan ≤ 64) (Ka Kb : List ByteArray) (s : ByteArray) (A B : List T) (la lb' : List (ByteArray × Int)) (tb x : Nat) (fp : List Nat) (w : World)
    (hc : ∃ n r, w.heap[tb]? = some (.cells #[.int .i64 fan, n, r] 64 (0, 0))) (h : NodeAt w (.node (Ka ++ s :: Kb) (A ++ .leaf la :: .leaf lb' :: B)) x fp) (hnd : fp.Nodup) (htb : tb ∉ fp)
    (hlen : (A ++ .leaf la :: .leaf lb' :: B).length = (Ka ++ s :: Kb).length + 1) (hK : Ka.length = A.length) (hsz : (A ++ .leaf la :: .leaf lb' :: B).length ≤ fan) (h1 : 1 ≤ la.length) (h2 : 1 ≤ lb'.length) (hs2 : la.length + lb'.length ≤ 2 * fan) :
    Calls Try.prog 42 #[.pointer (some ⟨tb, 0, none⟩), .pointer (some ⟨x, 0, none⟩), .int .i64 A.length] w (JoinPost w (joinT fan (Ka ++ s :: Kb) (A ++ .leaf la :: .leaf lb' :: B) A.length) x fp) := by
  have HN := Lib.hid h
  obtain ⟨kv, cv, xs, fs, q1, q2, q3, q4, hfpe⟩ := h
  obtain ⟨xa, x1, xr, fa, f1, fr1, rfl, rfl, na, n1, nr⟩ := NodesAt.at q4
  obtain ⟨x2, xb, f2, fb, rfl, rfl, n2, nb⟩ := nr
  obtain ⟨i, hi⟩ : ∃ i, A.length = i := ⟨_, rfl⟩
  obtain ⟨m, hm⟩ : ∃ m, (A ++ T.leaf la :: T.leaf lb' :: B).length = m := ⟨_, rfl⟩
  have hla := NodesAt.length na
  have hm' := hm
  simp only [List.length_append, List.length_cons] at hm'
  obtain ⟨g, cc, cur, rfl, hnc, hcm, hg, hcs, htk⟩ := Ux.own_pos q3 (by omega)
  rw [Nat.mul_one] at hcs htk
  obtain ⟨gK, cK, curK, rfl, _, _, hgK, _, hkK⟩ := Ux.own_pos q2 (by simp; omega)
  have hkey : w.cell? ⟨gK, i, none⟩ = some (.string s) := Ux.row_cell hgK hkK i _ (by rw [List.map_append, List.getElem?_append_right (by simp; omega), List.length_map, hK, hi, Nat.sub_self]; rfl)
  have hBl : B.length + (A.length + 2) = (Ka ++ s :: Kb).length + 1 := by rw [← hlen]; simp; omega
  have HJ : JoinAt w Ka Kb s A B x g gK cc cK x1 x2 xa xb fa f1 f2 fb fp := ⟨by rw [show A.length + (B.length + 2) = (A ++ T.leaf la :: T.leaf lb' :: B).length by simp]; exact q1, q2, by rw [show A.length + (B.length + 2) = (A ++ T.leaf la :: T.leaf lb' :: B).length by simp]; exact q3, na, nb, hK, by simp at hBl; omega, by simpa [blk, Value.ownBlock] using hfpe, hnd, NodeAt.lt HN.out⟩
  have frK : ∀ j, w.frozen? ⟨gK, j, none⟩ = false := fun j => frozen_of_row w gK j _ 9 hgK
  have frG : ∀ j, w.frozen? ⟨g, j, none⟩ = false := fun j => frozen_of_row w g j _ 59 hg
  obtain ⟨c0, c1, c2, fr⟩ := blk3 q1
  have k1 : w.cell? ⟨g, i, none⟩ = some (.pointer (some ⟨x1, 0, none⟩)) := Ux.row_cell hg htk i _ (by rw [← hi, ← hla]; simp [ptr])
  have k2 : w.cell? ⟨g, i + 1, none⟩ = some (.pointer (some ⟨x2, 0, none⟩)) := Ux.row_cell hg htk (i + 1) _ (by rw [← hi, ← hla]; simp [ptr])
  obtain ⟨kv1, rv1, a1, a2, a3, hf1⟩ := n1
  obtain ⟨kv2, rv2, b1, b2, b3, hf2⟩ := n2
  obtain ⟨a10, a11, a12, frA⟩ := blk3 a1
  obtain ⟨b10, b11, b12, frB⟩ := blk3 b1
  rw [hi]
  rw [hm] at c2
  have j0 : (i : Int) + 1 < m := by omega
  have j1 : (m : Int) ≤ 64 := by omega
  have j2 : (0 : Int) ≤ i := by omega
  have HQ := Lib.hid (And.intro q1 (And.intro q2 (And.intro q3 (And.intro na nb))))
  have HA := Lib.hid (And.intro a1 (And.intro a2 a3))
  have HB := Lib.hid (And.intro b1 (And.intro b2 b3))
  have HFP := Lib.hid (And.intro hfpe (And.intro hf1 (And.intro hf2 (And.intro hnd htb))))
  have HM := Lib.hid (And.intro hlen (And.intro hK (And.intro hsz (And.intro hi hm))))
  have HS := Lib.hid (And.intro h1 (And.intro h2 hs2))
  have HC := Lib.hid hc
  have HHJ := Lib.hid (And.intro HJ (And.intro hkey (And.intro frK frG)))
  have HK2 := Lib.hid (And.intro k2 (And.intro c0 c2))
  have HGG := Lib.hid (And.intro hg (And.intro hcs htk))
  clear HJ hkey frK frG hBl hgK hkK q1 q2 q3 q4 na nb a1 a2 a3 b1 b2 b3 hfpe hf1 hf2 hnd htb hlen hK hsz hi hm hm' h1 h2 hs2 hc hg hcs htk hla hnc hcm
  go_enter Try.func42, Try.ntmps42
  go_wp2_with fail
  refine Ux.wp_region_plan (fun _ w' => w'.cell? ⟨x, 2, none⟩ = some (.slice (some ⟨g, 0, none⟩) m cc) ∧ w'.cell? ⟨g, i, none⟩ = some (.pointer (some ⟨x1, 0, none⟩)) ∧ w'.cell? ⟨g, i + 1, none⟩ = some (.pointer (some ⟨x2, 0, none⟩))) (.q [0, 1, 2, 4, 7, 8, 9, 11, 12] (.h false [3, 10] (.q [5, 13] (.h false [6, 14] (.q [15] (.line [16]))))))
    (by kernel_rfl) (by kernel_rfl) (by intro _ _ d _ _ h; cases d <;> exact h) ?hS ?_
  case hS => (intro c; cases c <;> (simp only [World.cell?_drew]; first | exact True.intro | (refine ⟨?_, ?_⟩ <;> assumption) | assumption | (repeat (first | assumption | (refine And.intro ?_ ?_)))))
  simp only [Ux.wpPlan, Ux.pickOps, Ux.keeps, List.getElem?_toArray, List.getElem?_cons_succ, List.getElem?_cons_zero]
  repeat (first
    | go_big_quiet_step (fail)
    | (with_reducible refine wpQuiet_nil ?_)
    | (refine Ux.quiet_held rfl ?_; apply Exists.intro; refine ⟨fun w' hS => ?_, ?_⟩; (focus ((try dsimp only at hS); go_simp; first | done | with_reducible rfl)); simp only [Act.put, List.setIfInBounds_toArray, List.set_cons_zero, List.set_cons_succ]))
  go_wp2_with fail
  have hne : ∀ b, (kv1.ownBlock = some b ∨ rv1.ownBlock = some b) → b ≠ x1 ∧ b ≠ x2 := fun b hb => by
    obtain ⟨hfpe, hf1, hf2, hnd, _⟩ := HFP.out
    rw [hfpe] at hnd
    have n1 := (List.nodup_append.1 (List.nodup_cons.1 hnd).2).2.1
    have n2 := List.nodup_append.1 (List.nodup_append.1 n1).2.1
    have n3 := n2.1
    rw [hf1] at n3
    have hm : b ∈ blk kv1 ++ blk rv1 := by rcases hb with h | h <;> simp [blk, h]
    refine ⟨fun e => (List.nodup_cons.1 n3).1 (e ▸ hm), fun e => n2.2.2 b (by rw [hf1]; exact List.mem_cons_of_mem _ hm) b (by rw [hf2, e]; simp) rfl⟩
  have hss : ∀ w', Ux.Touch (fun b => kv1.ownBlock = some b ∨ rv1.ownBlock = some b) w w' → w'.cell? ⟨x1, 0, none⟩ = some kv1 ∧ w'.cell? ⟨x2, 0, none⟩ = some kv2 ∧ w'.cell? ⟨x1, 1, none⟩ = some rv1 ∧ w'.cell? ⟨x2, 1, none⟩ = some rv2 ∧ w'.cell? ⟨x1, 2, none⟩ = some (.slice none 0 0) ∧ w'.cell? ⟨x2, 2, none⟩ = some (.slice none 0 0) := fun w' t =>
    ⟨t.cell a10 (fun h => (hne _ h).1 rfl), t.cell b10 (fun h => (hne _ h).2 rfl), t.cell a11 (fun h => (hne _ h).1 rfl), t.cell b11 (fun h => (hne _ h).2 rfl), t.cell a12 (fun h => (hne _ h).1 rfl), t.cell b12 (fun h => (hne _ h).2 rfl)⟩
  have HSS := Lib.hid hss
  have HNE := Lib.hid hne
  clear hss hne
  refine Ux.wp_region_plan (fun _ w' => w'.cell? ⟨x1, 0, none⟩ = some kv1 ∧ w'.cell? ⟨x2, 0, none⟩ = some kv2 ∧ w'.cell? ⟨x1, 1, none⟩ = some rv1 ∧ w'.cell? ⟨x2, 1, none⟩ = some rv2 ∧ w'.cell? ⟨x1, 2, none⟩ = some (.slice none 0 0) ∧ w'.cell? ⟨x2, 2, none⟩ = some (.slice none 0 0)) (.q [0, 1, 2, 3, 4, 5, 7, 8, 9, 12, 13, 14, 16, 17, 18, 21, 22, 23, 25, 26, 27] (.h false [6, 10, 15, 19, 24, 28] (.e 11 true false (.e 20 true false (.e 29 true false (.q [30, 31] (.e 32 false false (.q [33, 34] (.e 35 false false (.line [36, 37, 38]))))))))))
    (by kernel_rfl) (by kernel_rfl) (by intro _ _ d _ _ h; cases d <;> exact h) ?hS ?_
  case hS => (intro c; cases c <;> (simp only [World.cell?_drew]; first | exact True.intro | (refine ⟨?_, ?_⟩ <;> assumption) | assumption | (repeat (first | assumption | (refine And.intro ?_ ?_)))))
  simp only [Ux.wpPlan, Ux.pickOps, Ux.keeps, List.getElem?_toArray, List.getElem?_cons_succ, List.getElem?_cons_zero]
  repeat (first
    | go_big_quiet_step (fail)
    | (with_reducible refine wpQuiet_nil ?_)
    | (refine Ux.quiet_held rfl ?_; apply Exists.intro; refine ⟨fun w' hS => ?_, ?_⟩; (focus ((try dsimp only at hS); go_simp; first | done | with_reducible rfl)); simp only [Act.put, List.setIfInBounds_toArray, List.set_cons_zero, List.set_cons_succ]))
  have hz : ∀ ty, (Builtin.append_ #[60, 60] ty #[.slice none 0 0, .slice none 0 0]).run Try.prog w = .ok (.slice none 0 0) w := append_nils w
  have T0 : Ux.Touch (fun _ => False) w w.drew.drew := ((Ux.Touch.refl _ w).drew).drew
  obtain ⟨kr, w1, hap1, o1, t1, bk1, _⟩ := appendS kv1 kv2 la.length lb'.length _ _ w.drew.drew (Ux.own_touch HA.out.2.1 T0 (fun _ _ f => f)) (Ux.own_touch HB.out.2.1 T0 (fun _ _ f => f)) (by intro u hu; obtain ⟨p, _, rfl⟩ := List.mem_map.1 hu; rfl) (by have := HS.out; omega)
  obtain ⟨gk, ck, curk, rfl, _, _, _, _, _⟩ := Ux.own_pos o1 (by have := HS.out; omega)
  have HAP1 := Lib.hid hap1
  have K1 := Lib.hid (And.intro o1 (And.intro t1 bk1))
  clear hap1 o1 t1 bk1 hz
  go_wp2_with (at_builtin; refine Lib.wpList_append_run _ rfl _ _ _ _ rfl _ _ rfl rfl _ _ (HAP1.out _) ?_)
  have TW1 : Ux.Touch (fun b => kv1.ownBlock = some b ∨ rv1.ownBlock = some b) w w1 := (T0.mono (fun _ _ f => f.elim) : Ux.Touch (fun b => kv1.ownBlock = some b ∨ rv1.ownBlock = some b) w w.drew.drew).trans K1.out.2.1 (fun _ _ h => .inl h)
  refine ⟨HSS.out _ TW1, ?_⟩
  repeat (first
    | go_big_quiet_step (fail)
    | (with_reducible refine wpQuiet_nil ?_)
    | (refine Ux.quiet_held rfl ?_; apply Exists.intro; refine ⟨fun w' hS => ?_, ?_⟩; (focus ((try dsimp only at hS); go_simp; first | done | with_reducible rfl)); simp only [Act.put, List.setIfInBounds_toArray, List.set_cons_zero, List.set_cons_succ]))
  have hkr : ∀ b, rv1.ownBlock = some b → ¬ kv1.ownBlock = some b := fun b hb h => by
    obtain ⟨hfpe, hf1, hf2, hnd, _⟩ := HFP.out
    rw [hfpe] at hnd
    have n1 := (List.nodup_append.1 (List.nodup_cons.1 hnd).2).2.1
    have n3 := (List.nodup_append.1 (List.nodup_append.1 n1).2.1).1
    rw [hf1] at n3
    exact (List.nodup_append.1 (List.nodup_cons.1 n3).2).2.2 b (by simp [blk, h]) b (by simp [blk, hb]) rfl
  have hk2 : ∀ b, rv2.ownBlock = some b → ¬ kv1.ownBlock = some b := fun b hb h => by
    obtain ⟨hfpe, hf1, hf2, hnd, _⟩ := HFP.out
    rw [hfpe] at hnd
    have n1 := (List.nodup_append.1 (List.nodup_cons.1 hnd).2).2.1
    have n2 := List.nodup_append.1 (List.nodup_append.1 n1).2.1
    exact n2.2.2 b (by rw [hf1]; simp [blk, h]) b (by rw [hf2]; simp [blk, hb]) rfl
  obtain ⟨rr, w2, hap2, o2, t2, bk2, _⟩ := appendI rv1 rv2 la.length lb'.length _ _ w1 (Ux.own_touch (Ux.own_touch HA.out.2.2 T0 (fun _ _ f => f)) K1.out.2.1 hkr) (Ux.own_touch (Ux.own_touch HB.out.2.2 T0 (fun _ _ f => f)) K1.out.2.1 hk2) (by intro u hu; obtain ⟨p, _, rfl⟩ := List.mem_map.1 hu; rfl) (by have := HS.out; omega)
  obtain ⟨gr, cr, curr, rfl, _, _, _, _, _⟩ := Ux.own_pos o2 (by have := HS.out; omega)
  have TW2 : Ux.Touch (fun b => kv1.ownBlock = some b ∨ rv1.ownBlock = some b) w w2 := TW1.trans t2 (fun _ _ h => .inr h)
  have HAP2 := Lib.hid hap2
  have K2 := Lib.hid (And.intro o2 (And.intro t2 (And.intro bk2 (And.intro hkr hk2))))
  clear hap2 o2 t2 bk2 hkr hk2
  go_wp2_with (at_builtin; refine Lib.wpList_append_run _ rfl _ _ _ _ rfl _ _ rfl rfl _ _ (HAP2.out _) ?_)
  refine ⟨HSS.out _ TW2, ?_⟩
  repeat (first
    | go_big_quiet_step (fail)
    | (with_reducible refine wpQuiet_nil ?_)
    | (refine Ux.quiet_held rfl ?_; apply Exists.intro; refine ⟨fun w' hS => ?_, ?_⟩; (focus ((try dsimp only at hS); go_simp; first | done | with_reducible rfl)); simp only [Act.put, List.setIfInBounds_toArray, List.set_cons_zero, List.set_cons_succ]))
  have hz := append_nils w2
  go_wp2_with (at_builtin; refine Lib.wpList_append_run _ rfl _ _ _ _ rfl _ _ rfl rfl _ _ (hz _) ?_)
  refine ⟨HSS.out _ TW2, ?_⟩
  have hx1 : w.heap[x1]? = some (.cells #[kv1, rv1, .slice none 0 0] 62 (0, 0)) := HA.out.1
  have hx12 := TW2.heap hx1 (fun h => (HNE.out _ h).1 rfl)
  have fr2 : ∀ i, w2.frozen? ⟨x1, i, none⟩ = false := fun i => frozen_of_row w2 x1 i _ 62 hx12
  obtain ⟨e10, e20, e11, e21, e12, e22⟩ := HSS.out _ TW2
  have HX := Lib.hid hx12
  clear hx1 hx12
  repeat (first
    | go_big_quiet_step (fail)
    | (with_reducible refine wpQuiet_nil ?_)
    | (refine Ux.quiet_held rfl ?_; apply Exists.intro; refine ⟨fun w' hS => ?_, ?_⟩; (focus ((try dsimp only at hS); go_simp; first | done | with_reducible rfl)); simp only [Act.put, List.setIfInBounds_toArray, List.set_cons_zero, List.set_cons_succ]))
  go_wp2_with fail
  repeat (first
    | go_big_quiet_step (fail)
    | (with_reducible refine wpQuiet_nil ?_)
    | (refine Ux.quiet_held rfl ?_; apply Exists.intro; refine ⟨fun w' hS => ?_, ?_⟩; (focus ((try dsimp only at hS); go_simp; first | done | with_reducible rfl)); simp only [Act.put, List.setIfInBounds_toArray, List.set_cons_zero, List.set_cons_succ]))
  go_wp2_with fail
  obtain ⟨w3, hw3⟩ : ∃ w3, ((w2.setCell ⟨x1, 0, none⟩ (.slice (some ⟨gk, 0, none⟩) (la.length + lb'.length) ck)).setCell ⟨x1, 1, none⟩ (.slice (some ⟨gr, 0, none⟩) (la.length + lb'.length) cr)).setCell ⟨x1, 2, none⟩ (.slice none 0 0) = w3 := ⟨_, rfl⟩
  rw [hw3]
  have T3 : Ux.Touch (fun b => b = x1) w2 w3 := by rw [← hw3]; exact (((Ux.Touch.refl (fun b => b = x1) w2).setCell (p := ⟨x1, 0, none⟩) (fun _ => rfl) _).setCell (p := ⟨x1, 1, none⟩) (fun _ => rfl) _).setCell (p := ⟨x1, 2, none⟩) (fun _ => rfl) _
  have hx3 : w3.heap[x1]? = some (.cells #[.slice (some ⟨gk, 0, none⟩) (la.length + lb'.length) ck, .slice (some ⟨gr, 0, none⟩) (la.length + lb'.length) cr, .slice none 0 0] 62 (0, 0)) := by
    rw [← hw3]
    have a := heap_setCell_same w2 x1 0 _ 62 (.slice (some ⟨gk, 0, none⟩) (la.length + lb'.length) ck) HX.out
    have b := heap_setCell_same _ x1 1 _ 62 (.slice (some ⟨gr, 0, none⟩) (la.length + lb'.length) cr) a
    have c := heap_setCell_same _ x1 2 _ 62 (.slice none 0 0) b
    simpa using c
  have H3 := Lib.hid (And.intro T3 hx3)
  clear hw3 T3 hx3 e10 e20 e11 e21 e12 e22 fr2
  have htb3 : w3.cell? ⟨tb, 0, none⟩ = some (.int .i64 fan) := by
    obtain ⟨_, _, ht⟩ := HC.out
    obtain ⟨hfpe, hf1, hf2, hnd, htb⟩ := HFP.out
    have hin : ∀ b, b ∈ f1 → b ∈ fp := fun b hb => by rw [hfpe]; simp [hb]
    have m1 : ∀ b, (kv1.ownBlock = some b ∨ rv1.ownBlock = some b) → b ∈ fp := fun b hb => hin b (by rw [hf1]; rcases hb with h | h <;> simp [blk, h])
    have mx : x1 ∈ fp := hin x1 (by rw [hf1]; simp)
    have h3 := H3.out.1.heap (TW2.heap ht (fun h => htb (m1 _ h))) (fun e => htb (e ▸ mx))
    rw [cell_of_row w3 tb 0 _ 64 (0, 0) h3]; rfl
  have hN3 : NodeAt w3 (.leaf (la ++ lb')) x1 [x1, gk, gr] ∧ [x1, gk, gr].Nodup := by
    have o1w2 := Ux.own_touch K1.out.1 K2.out.2.1 (fun b hb h => by
      rcases K1.out.2.2 with e | ⟨g2, e, hg2⟩
      · exact K2.out.2.2.2.1 b h (by rw [← e]; exact hb)
      · have := Ux.own_lt HA.out.2.2 b h; rw [hb] at e; cases e; exact absurd this (by have h' : w.heap.size ≤ b := hg2; omega))
    have o2w2 := K2.out.1
    have hpos : 0 < la.length + lb'.length := by have := HS.out; omega
    have hgkr : gk ≠ gr := own_apart2 o1w2 o2w2 hpos
    have hkx : gk ≠ x1 := fun e => by
      obtain ⟨_, _, cu, e1, _, _, hh, _, _⟩ := Ux.own_pos o1w2 hpos
      cases e1
      rw [e, HX.out] at hh
      cases hh
    have hrx : gr ≠ x1 := fun e => by
      obtain ⟨_, _, cu, e1, _, _, hh, _, _⟩ := Ux.own_pos o2w2 hpos
      cases e1
      rw [e, HX.out] at hh
      cases hh
    refine ⟨⟨_, _, H3.out.2, ?_, ?_, rfl⟩, ?_⟩
    · rw [List.length_append, List.map_append]
      exact Ux.own_touch o1w2 H3.out.1 (fun b hb h => by cases hb; exact hkx h)
    · rw [List.length_append, List.map_append]
      exact Ux.own_touch o2w2 H3.out.1 (fun b hb h => by cases hb; exact hrx h)
    · simp only [List.nodup_cons, List.mem_cons, List.not_mem_nil, or_false, not_or]
      exact ⟨⟨fun e => hkx e.symm, fun e => hrx e.symm⟩, hgkr, fun f => f, List.nodup_nil⟩
  obtain ⟨M, hM⟩ : ∃ M, mrg (.leaf la) s (.leaf lb') = M := ⟨_, rfl⟩
  obtain ⟨fm, hfm⟩ : ∃ fm, [x1, gk, gr] = fm := ⟨_, rfl⟩
  have HMM := Lib.hid (show NodeAt w3 M x1 fm ∧ fm.Nodup ∧ (∀ b ∈ fm, b ∈ f1 ++ f2 ∨ w.heap.size ≤ b) ∧ Ux.Touch (fun b => b ∈ f1 ++ f2) w w3 ∧ Shp M ∧ 2 ≤ M.size ∧ M.size ≤ 128 from by
    obtain ⟨hfpe, hf1, hf2, hnd, htb⟩ := HFP.out
    have hin1 : ∀ b, b = x1 ∨ kv1.ownBlock = some b ∨ rv1.ownBlock = some b → b ∈ f1 ++ f2 := fun b hb => by
      rw [hf1]
      rcases hb with h | h | h
      · simp [h]
      · simp [blk, h]
      · simp [blk, h]
    refine ⟨by rw [← hM, ← hfm]; exact hN3.1, by rw [← hfm]; exact hN3.2, fun b hb => ?_, (TW2.mono (fun b _ h => hin1 b (.inr h)) : Ux.Touch (fun b => b ∈ f1 ++ f2) w w2).trans H3.out.1 (fun b _ e => hin1 b (.inl e)), by rw [← hM]; exact trivial, ?_, ?_⟩
    · rw [← hfm] at hb
      simp only [List.mem_cons, List.not_mem_nil, or_false] at hb
      rcases hb with rfl | rfl | rfl
      · exact .inl (hin1 _ (.inl rfl))
      · rcases K1.out.2.2 with h | ⟨g2, e, h⟩
        · exact .inl (hin1 _ (.inr (.inl (by rw [← h]; rfl))))
        · cases e; exact .inr h
      · rcases K2.out.2.2.1 with h | ⟨g2, e, h⟩
        · exact .inl (hin1 _ (.inr (.inr (by rw [← h]; rfl))))
        · cases e
          have := TW1.size
          exact .inr (Nat.le_trans this h)
    · rw [← hM]; simp only [mrg, T.size, List.length_append]; have := HS.out; omega
    · rw [← hM]; simp only [mrg, T.size, List.length_append]; have := HS.out; omega)
  have HEQ := Lib.hid (show joinT fan (Ka ++ s :: Kb) (A ++ .leaf la :: .leaf lb' :: B) i = if fan < M.size then .node (Ka ++ halfK M :: Kb) (A ++ half1 M :: half2 M :: B) else .node (Ka ++ Kb) (A ++ M :: B) from by
    rw [← hM, ← HM.out.2.2.2.1]
    exact Ux.joinT_at HM.out.2.1)
  clear hN3 HAP1 HAP2 hz hM hfm
  have SZ := size34 w3.drew (HMM.out.1.touch (Ux.Touch.refl (fun _ => False) w3).drew (fun _ _ f => f)) HMM.out.2.2.2.2.1
  obtain ⟨ms, hms⟩ : ∃ ms, M.size = ms := ⟨_, rfl⟩
  rw [hms] at SZ
  have HSZ := Lib.hid SZ
  have HMS := Lib.hid hms
  clear SZ hms
  -- x's own cells behind the merging
  have hap := HHJ.out.1.apart
  have nofx : ∀ b, b = x ∨ b = g ∨ b = gK → ¬ (b ∈ f1 ++ f2) := fun b e hb => by have := hap.2.1 b hb; rcases e with e | e | e <;> simp [e] at this
  have e0 := HMM.out.2.2.2.1.cell HK2.out.2.1 (nofx x (.inl rfl))
  have e2 := HMM.out.2.2.2.1.cell HK2.out.2.2 (nofx x (.inl rfl))
  obtain ⟨K, hKK⟩ : ∃ K, (Ka ++ s :: Kb).length = K := ⟨_, rfl⟩
  rw [hKK] at e0
  have j5 : (i : Int) < K := by have h1 := HM.out.1; have h2 := HM.out.2.2.2; omega
  have j6 : (K : Int) ≤ 64 := by have h1 := HM.out.1; have h2 := HM.out.2.2.2; omega
  have HKK := Lib.hid hKK
  have HNF := Lib.hid nofx
  clear hap nofx hKK
  refine Ux.wp_region_plan (fun _ w' => w'.cell? ⟨tb, 0, none⟩ = some (.int .i64 fan)) (.q [0, 2, 3, 4] (.h false [5] (.e 1 true false (.q [6] (.line [])))))
    (by kernel_rfl) (by kernel_rfl) (by intro _ _ d _ _ h; cases d <;> exact h) ?hS ?_
  case hS => (intro c; cases c <;> (simp only [World.cell?_drew]; first | exact True.intro | (refine ⟨?_, ?_⟩ <;> assumption) | assumption | (repeat (first | assumption | (refine And.intro ?_ ?_)))))
  simp only [Ux.wpPlan, Ux.pickOps, Ux.keeps, List.getElem?_toArray, List.getElem?_cons_succ, List.getElem?_cons_zero]
  repeat (first
    | go_big_quiet_step (fail)
    | (with_reducible refine wpQuiet_nil ?_)
    | (refine Ux.quiet_held rfl ?_; apply Exists.intro; refine ⟨fun w' hS => ?_, ?_⟩; (focus ((try dsimp only at hS); go_simp; first | done | with_reducible rfl)); simp only [Act.put, List.setIfInBounds_toArray, List.set_cons_zero, List.set_cons_succ]))
  go_wp2_with (go_at_call 34; refine HSZ.out.mono ?_; rintro e w4 ⟨rfl, rfl⟩)
  refine ⟨htb3, ?_⟩
  repeat (first
    | go_big_quiet_step (fail)
    | (with_reducible refine wpQuiet_nil ?_)
    | (refine Ux.quiet_held rfl ?_; apply Exists.intro; refine ⟨fun w' hS => ?_, ?_⟩; (focus ((try dsimp only at hS); go_simp; first | done | with_reducible rfl)); simp only [Act.put, List.setIfInBounds_toArray, List.set_cons_zero, List.set_cons_succ]))
  by_cases hbig : fan < ms
  · have HALF := half35 M x1 fm w3.drew.drew (HMM.out.1.touch (Ux.Touch.refl (fun _ => False) w3).drew.drew (fun _ _ f => f)) HMM.out.2.2.2.2.1 HMM.out.2.1 (by have := HMS.out; omega) (by have := HMM.out.2.2.2.2.2.2; omega)
    have HH := Lib.hid HALF
    clear HALF
    go_wp2_with (fail)
    refine Ux.wp_region_plan (fun _ w' => w'.cell? ⟨x, 2, none⟩ = some (.slice (some ⟨g, 0, none⟩) m cc) ∧ w'.cell? ⟨x, 0, none⟩ = some (.slice (some ⟨gK, 0, none⟩) K cK)) (.q [0, 1, 2, 4, 5, 6, 7, 8, 10, 11] (.h false [3, 9] (.e 12 true false (.q [13, 14, 15, 16] (.e 17 false false (.line [18, 19]))))))
      (by kernel_rfl) (by kernel_rfl) (by intro _ _ d _ _ h; cases d <;> exact h) ?hS ?_
    case hS => (intro c; cases c <;> (simp only [World.cell?_drew]; first | exact True.intro | (refine ⟨?_, ?_⟩ <;> assumption) | assumption | (repeat (first | assumption | (refine And.intro ?_ ?_)))))
    simp only [Ux.wpPlan, Ux.pickOps, Ux.keeps, List.getElem?_toArray, List.getElem?_cons_succ, List.getElem?_cons_zero]
    repeat (first
      | go_big_quiet_step (fail)
      | (with_reducible refine wpQuiet_nil ?_)
      | (refine Ux.quiet_held rfl ?_; apply Exists.intro; refine ⟨fun w' hS => ?_, ?_⟩; (focus ((try dsimp only at hS); go_simp; first | done | with_reducible rfl)); simp only [Act.put, List.setIfInBounds_toArray, List.set_cons_zero, List.set_cons_succ]))
    go_wp2_with (go_at_call 35; fail)
    refine HH.out.mono ?_
    rintro e w4 ⟨y, fm1, fm2, rfl, hn1, hn2, hnd2, hf1', hf2', T4⟩
    simp only [ptr]
    have T34 : Ux.Touch (fun b => b ∈ f1 ++ f2) w w4 := HMM.out.2.2.2.1.drew.drew.trans T4 (fun b hb h => (HMM.out.2.2.1 b h).elim id (fun h => by omega))
    have d0 := T34.cell HK2.out.2.1 (HNF.out x (.inl rfl))
    have d2 := T34.cell HK2.out.2.2 (HNF.out x (.inl rfl))
    rw [HKK.out] at d0
    have dk2 := T34.cell HK2.out.1 (HNF.out g (.inr (.inl rfl)))
    have dkey := T34.cell HHJ.out.2.1 (HNF.out gK (.inr (.inr rfl)))
    have dfk : w4.frozen? ⟨gK, i, none⟩ = false := by
      obtain ⟨_, _, cur, e, _, _, hh, _, _⟩ := Ux.own_pos (Ux.own_touch HHJ.out.1.keys T34 (fun b hb => by cases hb; exact HNF.out gK (.inr (.inr rfl)))) (by simp; omega)
      cases e
      exact frozen_of_row w4 gK i _ 9 hh
    have dfg : w4.frozen? ⟨g, i + 1, none⟩ = false := by
      obtain ⟨_, _, cur, e, _, _, hh, _, _⟩ := Ux.own_pos (Ux.own_touch HHJ.out.1.kids T34 (fun b hb => by cases hb; exact HNF.out g (.inr (.inl rfl)))) (by omega)
      cases e
      exact frozen_of_row w4 g (i + 1) _ 59 hh
    have hgg := HHJ.out.1.apart.1.2.2
    have hgg2 : ¬ gK = g := fun e => hgg e.symm
    have FIN := Ux.join_big (k := halfK M) HHJ.out.1 HM.out.2.2.2.1 hn1 hn2 hnd2 (fun b hb => by
      rcases List.mem_append.1 hb with h | h
      · exact HMM.out.2.2.1 b (hf1' b h)
      · rcases hf2' b h with h | h
        · exact HMM.out.2.2.1 b h
        · exact .inr (Nat.le_trans HMM.out.2.2.2.1.size h)) T34
    have HFIN := Lib.hid FIN
    clear hn1 hn2 hnd2 hf1' hf2' T4 T34 FIN e0 e2
    go_wp2_with (fail)
    refine ⟨⟨d2, d0⟩, ?_⟩
    repeat (first
      | go_big_quiet_step (fail)
      | (with_reducible refine wpQuiet_nil ?_)
      | (refine Ux.quiet_held rfl ?_; apply Exists.intro; refine ⟨fun w' hS => ?_, ?_⟩; (focus ((try dsimp only at hS); go_simp; first | done | with_reducible rfl)); simp only [Act.put, List.setIfInBounds_toArray, List.set_cons_zero, List.set_cons_succ]))
    go_wp2_with (fail)
    repeat (first
      | go_big_quiet_step (fail)
      | (with_reducible refine wpQuiet_nil ?_)
      | (refine Ux.quiet_held rfl ?_; apply Exists.intro; refine ⟨fun w' hS => ?_, ?_⟩; (focus ((try dsimp only at hS); go_simp; first | done | with_reducible rfl)); simp only [Act.put, List.setIfInBounds_toArray, List.set_cons_zero, List.set_cons_succ]))
    go_wp2_with (fail)
    go_returns
    refine ⟨rfl, ?_⟩
    rw [HEQ.out, HMS.out, if_pos hbig]
    exact HFIN.out
  · go_wp2_with (fail)
    refine Ux.wp_region_plan (fun _ w' => w'.cell? ⟨x, 2, none⟩ = some (.slice (some ⟨g, 0, none⟩) m cc) ∧ w'.cell? ⟨x, 0, none⟩ = some (.slice (some ⟨gK, 0, none⟩) K cK)) (.q [0, 1, 2, 3, 4, 6, 7, 8, 9, 11, 12, 13, 15, 16, 17] (.h false [5, 14] (.e 10 true false (.e 18 true false (.q [19, 20] (.e 21 false false (.line [22, 23, 24])))))))
      (by kernel_rfl) (by kernel_rfl) (by intro _ _ d _ _ h; cases d <;> exact h) ?hS ?_
    case hS => (intro c; cases c <;> (simp only [World.cell?_drew]; first | exact True.intro | (refine ⟨?_, ?_⟩ <;> assumption) | assumption | (repeat (first | assumption | (refine And.intro ?_ ?_)))))
    simp only [Ux.wpPlan, Ux.pickOps, Ux.keeps, List.getElem?_toArray, List.getElem?_cons_succ, List.getElem?_cons_zero]
    repeat (first
      | go_big_quiet_step (fail)
      | (with_reducible refine wpQuiet_nil ?_)
      | (refine Ux.quiet_held rfl ?_; apply Exists.intro; refine ⟨fun w' hS => ?_, ?_⟩; (focus ((try dsimp only at hS); go_simp; first | done | with_reducible rfl)); simp only [Act.put, List.setIfInBounds_toArray, List.set_cons_zero, List.set_cons_succ]))
    have em : A.length + (B.length + 2) = m := by have := HM.out.2.2.2.2; simp at this; omega
    have OC3 := Ux.own_touch (Ux.own_touch HHJ.out.1.kids HMM.out.2.2.2.1 (fun b hb => by cases hb; exact HNF.out g (.inr (.inl rfl)))) ((Ux.Touch.refl (fun _ => False) w3).drew.drew) (fun _ _ f => f)
    have OK3 := Ux.own_touch (Ux.own_touch HHJ.out.1.keys HMM.out.2.2.2.1 (fun b hb => by cases hb; exact HNF.out gK (.inr (.inr rfl)))) ((Ux.Touch.refl (fun _ => False) w3).drew.drew) (fun _ _ f => f)
    rw [em] at OC3
    rw [HKK.out] at OK3
    have hapx := HHJ.out.1.apart.1
    have DP := deleteP (.slice (some ⟨g, 0, none⟩) m cc) m (i + 1) _ w3.drew.drew OC3 (by omega) (by intro u hu; obtain ⟨p, _, rfl⟩ := List.mem_map.1 hu; rfl)
    rw [show ((i + 1 : Nat) : Int) = i + 1 from by omega, show (i : Int) + 1 + 1 = i + 2 from by omega] at DP
    have HDP := Lib.hid DP
    have HO := Lib.hid (And.intro OK3 hapx)
    clear DP OC3 OK3 em hapx
    go_wp2_with fail
    refine HDP.out.mono ?_
    rintro e W1 ⟨v1, rfl, o1, T1, b1, _⟩
    obtain ⟨c1', rfl⟩ := del_formJ o1 b1
    have hx3' : w3.drew.drew.heap[x]? = _ := HMM.out.2.2.2.1.heap HHJ.out.1.node (HNF.out x (.inl rfl))
    have x1' := T1.heap hx3' (fun h => HO.out.2.1 (by cases h; rfl))
    rw [HKK.out] at x1'
    obtain ⟨s20, _, s22, _⟩ := blk3 x1'
    rw [show A.length + (B.length + 2) = m from by have := HM.out.2.2.2.2; simp at this; omega] at s22
    have DS := deleteS (.slice (some ⟨gK, 0, none⟩) K cK) K i _ W1 (Ux.own_touch HO.out.1 T1 (fun b hb e => by cases hb; exact HO.out.2.2.2 (by cases e; rfl))) (by omega) (by intro u hu; obtain ⟨p, _, rfl⟩ := List.mem_map.1 hu; rfl)
    have HDS := Lib.hid DS
    have H1 := Lib.hid (And.intro o1 (And.intro T1 x1'))
    clear o1 T1 b1 x1' hx3' DS
    go_wp2_with fail
    refine ⟨⟨s22, s20⟩, ?_⟩
    repeat (first
      | go_big_quiet_step (fail)
      | (with_reducible refine wpQuiet_nil ?_)
      | (refine Ux.quiet_held rfl ?_; apply Exists.intro; refine ⟨fun w' hS => ?_, ?_⟩; (focus ((try dsimp only at hS); go_simp; first | done | with_reducible rfl)); simp only [Act.put, List.setIfInBounds_toArray, List.set_cons_zero, List.set_cons_succ]))
    go_wp2_with fail
    refine HDS.out.mono ?_
    rintro e W2 ⟨v2, rfl, o2, T2, b2, _⟩
    obtain ⟨c2', rfl⟩ := del_formJ o2 b2
    have x2' := T2.heap H1.out.2.2 (fun h => HO.out.2.2.1 (by cases h; rfl))
    obtain ⟨s30, _, s32, fr3⟩ := blk3 x2'
    rw [show A.length + (B.length + 2) = m from by have := HM.out.2.2.2.2; simp at this; omega] at s32
    have H2 := Lib.hid (And.intro o2 (And.intro T2 x2'))
    clear o2 T2 b2 x2'
    go_wp2_with fail
    refine ⟨⟨s32, s30⟩, ?_⟩
    repeat (first
      | go_big_quiet_step (fail)
      | (with_reducible refine wpQuiet_nil ?_)
      | (refine Ux.quiet_held rfl ?_; apply Exists.intro; refine ⟨fun w' hS => ?_, ?_⟩; (focus ((try dsimp only at hS); go_simp; first | done | with_reducible rfl)); simp only [Act.put, List.setIfInBounds_toArray, List.set_cons_zero, List.set_cons_succ]))
    go_wp2_with fail
    repeat (first
      | go_big_quiet_step (fail)
      | (with_reducible refine wpQuiet_nil ?_)
      | (refine Ux.quiet_held rfl ?_; apply Exists.intro; refine ⟨fun w' hS => ?_, ?_⟩; (focus ((try dsimp only at hS); go_simp; first | done | with_reducible rfl)); simp only [Act.put, List.setIfInBounds_toArray, List.set_cons_zero, List.set_cons_succ]))
    go_wp2_with fail
    go_returns
    refine ⟨rfl, ?_⟩
    rw [HEQ.out, HMS.out, if_neg hbig]
    have hla2 := HHJ.out.1.left.length
    have em : A.length + (B.length + 2) = m := by have := HM.out.2.2.2.2; simp at this; omega
    have e1 : ((xa ++ x1 :: x2 :: xb).map ptr).take (i + 1) ++ ((xa ++ x1 :: x2 :: xb).map ptr).drop (i + 1 + 1) = (xa ++ x1 :: xb).map ptr := by
      have hl : xa.length = i := by rw [hla2]; exact HM.out.2.2.2.1
      rw [← List.map_take, ← List.map_drop, ← List.map_append, ← hl]
      have hle : xa.length ≤ xa.length + 1 + 1 := by omega
      simp [List.take_append, List.drop_append, List.take_of_length_le, List.drop_eq_nil_of_le, hle, show xa.length + 1 - xa.length = 1 by omega, show xa.length + 1 + 1 - xa.length = 2 by omega]
    have e2 : ((Ka ++ s :: Kb).map Value.string).take i ++ ((Ka ++ s :: Kb).map Value.string).drop (i + 1) = (Ka ++ Kb).map Value.string := by
      have hl : Ka.length = i := by rw [HM.out.2.1]; exact HM.out.2.2.2.1
      rw [← List.map_take, ← List.map_drop, ← List.map_append, ← hl]
      simp [List.drop_append, List.drop_eq_nil_of_le, show Ka.length + 1 - Ka.length = 1 by omega]
    have hKl : K - 1 = (Ka ++ Kb).length := by have := HKK.out; simp at this ⊢; omega
    have hml : m - 1 = A.length + (B.length + 1) := by omega
    have o1 := H1.out.1
    have o2 := H2.out.1
    rw [e1] at o1
    rw [e2] at o2
    rw [hml] at o1 ⊢
    rw [hKl] at o2 ⊢
    have T4 : Ux.Touch (fun b => b = x) W2 ((W2.setCell ⟨x, 2, none⟩ (.slice (some ⟨g, 0, none⟩) (A.length + (B.length + 1)) c1')).setCell ⟨x, 0, none⟩ (.slice (some ⟨gK, 0, none⟩) (Ka ++ Kb).length c2')) := ((Ux.Touch.refl (fun b => b = x) W2).setCell (p := ⟨x, 2, none⟩) (fun _ => rfl) _).setCell (p := ⟨x, 0, none⟩) (fun _ => rfl) _
    have hx4 : ((W2.setCell ⟨x, 2, none⟩ (.slice (some ⟨g, 0, none⟩) (A.length + (B.length + 1)) c1')).setCell ⟨x, 0, none⟩ (.slice (some ⟨gK, 0, none⟩) (Ka ++ Kb).length c2')).heap[x]? = some (.cells #[.slice (some ⟨gK, 0, none⟩) (Ka ++ Kb).length c2', .slice none 0 0, .slice (some ⟨g, 0, none⟩) (A.length + (B.length + 1)) c1'] 62 (0, 0)) := by
      have a := heap_setCell_same W2 x 2 _ 62 (.slice (some ⟨g, 0, none⟩) (A.length + (B.length + 1)) c1') H2.out.2.2
      have b := heap_setCell_same _ x 0 _ 62 (.slice (some ⟨gK, 0, none⟩) (Ka ++ Kb).length c2') a
      simpa using b
    have TW : Ux.Touch (fun b => b = g ∨ b = gK ∨ b = x) w3 ((W2.setCell ⟨x, 2, none⟩ (.slice (some ⟨g, 0, none⟩) (A.length + (B.length + 1)) c1')).setCell ⟨x, 0, none⟩ (.slice (some ⟨gK, 0, none⟩) (Ka ++ Kb).length c2')) :=
      (((Ux.Touch.refl (fun b => b = g ∨ b = gK ∨ b = x) w3).drew.drew.trans H1.out.2.1 (fun b _ h => .inl (by cases h; rfl))).trans H2.out.2.1 (fun b _ h => .inr (.inl (by cases h; rfl)))).trans T4 (fun b _ h => .inr (.inr h))
    exact Ux.join_small HHJ.out.1 HMM.out.1 HMM.out.2.1 HMM.out.2.2.1 HMM.out.2.2.2.1 TW hx4
      (Ux.own_touch o2 T4 (fun b hb e => by cases hb; exact HO.out.2.2.1 e.symm))
      (Ux.own_touch (Ux.own_touch o1 H2.out.2.1 (fun b hb e => by cases hb; cases e; exact HO.out.2.2.2 rfl)) T4 (fun b hb e => by cases hb; exact HO.out.2.1 e.symm))

end Go.Proofs.Ytdfgpminonpeaaa
