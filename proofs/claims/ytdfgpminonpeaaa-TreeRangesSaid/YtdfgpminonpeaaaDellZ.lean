/- PART OF THE PROOF THAT THIS CLAIM HOLDS OF THE GIVEN PROGRAM, FOR EVERY INPUT THAT THE STATEMENT NAMES. No condition besides the statement's own. -/
import Derived.Test.YtdfgpminonpeaaaUxTreeAllZ
import Derived.Test.YtdfgpminonpeaaaSmallZ
import Derived.Test.YtdfgpminonpeaaaInsZ
import Derived.Test.YtdfgpminonpeaaaCloZ
import Derived.Test.YtdfgpminonpeaaaDelZ
import Derived.Test.YtdfgpminonpeaaaNodeZ
import Derived.Test.YtdfgpminonpeaaaRows
import Derived.WalkKit
import Derived.Handy
import Derived.Laws.EntriesVeiled
import Derived.WalkSpells
import Derived.WalkLawsBesides
import Derived.BigQuiet
import Derived.Deep.QuietTactic
import Derived.Deep.Cut
import Derived.Lib.Overlaps
import Derived.Laws.Externs
import Derived.Lib.Hide
import Derived.Test.YtdfgpminonpeaaaUxPlanAllZ
import Derived.Deep.LoopGhost
namespace Go.Proofs.Ytdfgpminonpeaaa
open Go.RowKit
-- imports: UxTree4 UxJoin YtdfgpminonpeaaaSmall YtdfgpminonpeaaaIns YtdfgpminonpeaaaClo YtdfgpminonpeaaaDel YtdfgpminonpeaaaNode
open Ux (slt lb has Rises T NodeAt NodesAt Shp wayN blk ptr flat flats keys del delT Up)

structure DelEnv (w : World) (bk bg bd bt tb : Nat) (k : ByteArray) (fan : Nat) : Prop where
  key : w.heap[bk]? = some (.cells #[.string k] 9 (0, 0))
  del : w.heap[bd]? = some (.cells #[.func (.func 39) #[] #[.pointer (some ⟨bk, 0, none⟩), .pointer (some ⟨bg, 0, none⟩), .pointer (some ⟨bd, 0, none⟩), .pointer (some ⟨bt, 0, none⟩)]] 65 (0, 0))
  box : w.heap[bt]? = some (.cells #[.pointer (some ⟨tb, 0, none⟩)] 23 (0, 0))
  tree : ∃ n r, w.heap[tb]? = some (.cells #[.int .i64 fan, n, r] 64 (0, 0))
  apart : bg ≠ bk ∧ bg ≠ bd ∧ bg ≠ bt ∧ bg ≠ tb

/-- what Del's inner function leaves -/
def DelLeft (w : World) (t : T) (t' : T) (k : ByteArray) (bg x : Nat) (fp : List Nat) (e : Ending) (w' : World) : Prop :=
  ∃ fp', e = .returned (.tuple #[]) ∧ NodeAt w' t' x fp' ∧ fp'.Nodup ∧ (∀ b ∈ fp', b ∈ fp ∨ w.heap.size ≤ b) ∧ Ux.Touch (fun b => b ∈ fp ∨ b = bg) w w' ∧
    w'.heap[bg]? = some (.cells #[.bool (has (keys (flat t)) k)] 4 (0, 0))

theorem del_form {W : World} {e : TypeId} {v : Value} {n g : Nat} {xs : List Value} (h : W.ownsRow 0 e 1 v n xs) (hb : v.ownBlock = some g) : ∃ c, v = .slice (some ⟨g, 0, none⟩) n c := by
  rcases h.2 with ⟨rfl, _⟩ | ⟨g', c, cur, rfl, _⟩
  · cases hb
  · cases hb
    exact ⟨c, rfl⟩

set_option maxHeartbeats 2000000 in
set_option maxRecDepth 100000 in
theorem del_leaf (l : List (ByteArray × Int)) (x : Nat) (fp : List Nat) (w : World) (bk bg bd bt tb : Nat) (k : ByteArray) (fan : Nat) (he : DelEnv w bk bg bd bt tb k fan)
    (hf : w.heap[bg]? = some (.cells #[.bool false] 4 (0, 0))) (h : NodeAt w (.leaf l) x fp) (hnd : fp.Nodup) (hb : l.length ≤ 1048576) (hr : Rises (keys l)) (hfp : bg ∉ fp) :
    Calls Try.prog 39 #[.pointer (some ⟨x, 0, none⟩), .pointer (some ⟨bk, 0, none⟩), .pointer (some ⟨bg, 0, none⟩), .pointer (some ⟨bd, 0, none⟩), .pointer (some ⟨bt, 0, none⟩)] w (DelLeft w (.leaf l) (.leaf (del k l)) k bg x fp) := by
  have HN := Lib.hid h
  obtain ⟨kv, rv, h1, h2, h3, hfpe⟩ := h
  obtain ⟨c0, c1, c2, fr⟩ := blk3 h1
  have ck : w.cell? ⟨bk, 0, none⟩ = some (.string k) := by rw [cell_of_row w bk 0 _ 9 (0, 0) he.key]; rfl
  have cf : w.cell? ⟨bg, 0, none⟩ = some (.bool false) := by rw [cell_of_row w bg 0 _ 4 (0, 0) hf]; rfl
  have ff : w.frozen? ⟨bg, 0, none⟩ = false := frozen_of_row w bg 0 _ 4 hf
  have hsr : ∀ w' : World, Ux.Touch (fun _ => False) w w' → Calls Try.prog 30 #[kv, .string k] w' fun e w'' => e = .returned (.tuple #[.int .i64 (lb (keys l) k), .bool (has (keys l) k)]) ∧ w' = w'' := fun w' ht =>
    search30 kv (keys l) k w' (by have ho := Ux.own_touch h2 ht (fun _ _ f => f); rw [Ux.keys_length]; simpa [keys, Function.comp_def] using ho) hr (by rw [Ux.keys_length]; omega)
  have HS := Lib.hid hsr
  obtain ⟨i, hi⟩ : ∃ i, lb (keys l) k = i := ⟨_, rfl⟩
  have hil : i ≤ l.length := by have := Ux.lb_le (keys l) k; rw [Ux.keys_length] at this; omega
  have HI := Lib.hid hi
  cases hhas : has (keys l) k with
  | false =>
    have HH := Lib.hid hhas
    have HF := Lib.hid (And.intro hf hnd)
    clear h1 h2 h3 hf he hfpe hnd hfp hr hsr hb hi hil hhas
    go_enter Try.func39, Try.ntmps39
    go_wp2
    refine Ux.wp_region_plan (fun _ w' => w'.cell? ⟨x, 0, none⟩ = some kv ∧ w'.cell? ⟨bk, 0, none⟩ = some (.string k)) (.q [0, 1, 2] (.h false [3, 4] (.e 5 false false (.q [6, 7, 8, 9] (.line [10])))))
      (by kernel_rfl) (by kernel_rfl) (by intro _ _ d _ _ h; cases d <;> exact h) ?hS ?_
    case hS => (intro c; cases c <;> (simp only [World.cell?_drew]; first | exact True.intro | (refine ⟨?_, ?_⟩ <;> assumption) | assumption | (repeat (first | assumption | (refine And.intro ?_ ?_)))))
    simp only [Ux.wpPlan, Ux.pickOps, Ux.keeps, List.getElem?_toArray, List.getElem?_cons_succ, List.getElem?_cons_zero]
    repeat (first
      | go_big_quiet_step (fail)
      | (with_reducible refine wpQuiet_nil ?_)
      | (refine Ux.quiet_held rfl ?_; apply Exists.intro; refine ⟨fun w' hS => ?_, ?_⟩; (focus ((try dsimp only at hS); go_simp; first | done | with_reducible rfl)); simp only [Act.put, List.setIfInBounds_toArray, List.set_cons_zero, List.set_cons_succ]))
    go_wp2_with fail
    refine (HS.out _ (Ux.Touch.refl _ _).drew).mono ?_
    rw [HI.out, HH.out]
    rintro e w1 ⟨rfl, rfl⟩
    go_wp2_with fail
    repeat (first
      | go_big_quiet_step (fail)
      | (with_reducible refine wpQuiet_nil ?_)
      | (refine Ux.quiet_held rfl ?_; apply Exists.intro; refine ⟨fun w' hS => ?_, ?_⟩; (focus ((try dsimp only at hS); go_simp; first | done | with_reducible rfl)); simp only [Act.put, List.setIfInBounds_toArray, List.set_cons_zero, List.set_cons_succ]))
    go_wp2_with fail
    go_returns
    have hd : del k l = l := by unfold Ux.del; rw [if_neg (by rw [HH.out]; exact Bool.false_ne_true)]
    rw [hd]
    refine ⟨fp, rfl, HN.out.touch (Ux.Touch.refl (fun _ => False) w).drew (fun _ _ f => f), HF.out.2, fun b hb => .inl hb, (Ux.Touch.refl _ w).drew, ?_⟩
    show w.heap[bg]? = some (.cells #[.bool (has (keys l) k)] 4 (0, 0))
    rw [HH.out]
    exact HF.out.1
  | true =>
    have hlt : i < l.length := by
      have h' := hhas
      unfold Ux.has at h'
      rw [decide_eq_true_iff, hi] at h'
      have := (List.getElem?_eq_some_iff.1 h').1
      rwa [Ux.keys_length] at this
    obtain ⟨n, hn⟩ : ∃ n, l.length = n := ⟨_, rfl⟩
    have hdl : del k l = l.take i ++ l.drop (i + 1) := by unfold Ux.del; rw [if_pos hhas, hi]
    have hdn : (del k l).length = n - 1 := by rw [hdl]; simp only [List.length_append, List.length_take, List.length_drop]; omega
    rw [hn] at h2 h3 hlt
    obtain ⟨gk, ckk, _, rfl, _⟩ := Ux.own_pos h2 (by omega)
    obtain ⟨gr, ckr, _, rfl, _⟩ := Ux.own_pos h3 (by omega)
    have hnb : ∀ b ∈ fp, b ≠ bg := fun b hb e => hfp (e ▸ hb)
    have hkf : gk ∈ fp := by rw [hfpe]; simp [blk, Value.ownBlock]
    have hrf : gr ∈ fp := by rw [hfpe]; simp [blk, Value.ownBlock]
    have hxf : x ∈ fp := by rw [hfpe]; simp
    have hne : gk ≠ x ∧ gr ≠ x ∧ gr ≠ gk := by
      rw [hfpe] at hnd
      simp [blk, Value.ownBlock] at hnd
      refine ⟨fun e => hnd.1.1 e.symm, fun e => hnd.1.2 e.symm, fun e => hnd.2 e.symm⟩
    obtain ⟨W1, hW1⟩ : ∃ W1, (w.setCell ⟨bg, 0, none⟩ (.bool true)).drew.drew = W1 := ⟨_, rfl⟩
    have T1 : Ux.Touch (fun b => b = bg) w W1 := by rw [← hW1]; exact (((Ux.Touch.refl (fun b => b = bg) w).setCell (p := ⟨bg, 0, none⟩) (fun _ => rfl) _).drew).drew
    have hg1 : W1.heap[bg]? = some (.cells #[.bool true] 4 (0, 0)) := by
      have a := heap_setCell_same w bg 0 _ 4 (.bool true) hf
      have b : (w.setCell ⟨bg, 0, none⟩ (.bool true)).heap[bg]? = some (.cells #[.bool true] 4 (0, 0)) := by simpa using a
      rw [← hW1]
      exact b
    have DS := deleteS (.slice (some ⟨gk, 0, none⟩) n ckk) n i _ W1 (Ux.own_touch h2 T1 (fun b hb e => by cases hb; exact hnb gk hkf e)) hlt (by intro u hu; obtain ⟨p, _, rfl⟩ := List.mem_map.1 hu; rfl)
    have x1 := T1.heap h1 (hnb x hxf)
    obtain ⟨s0, s1, _, _⟩ := blk3 x1
    have HDS := Lib.hid DS
    have H1 := Lib.hid (And.intro T1 (And.intro hg1 (And.intro x1 (And.intro hne (And.intro hnb (And.intro hkf (And.intro hrf hxf)))))))
    have H0 := Lib.hid (And.intro h3 (And.intro hfpe (And.intro hnd (And.intro hlt (And.intro hdl (And.intro hdn (And.intro hhas hn)))))))
    have HW1 := Lib.hid hW1
    have TS := (Ux.Touch.refl (fun b => b = bg) w).setCell (p := ⟨bg, 0, none⟩) (fun _ => rfl) (.bool true)
    have u0 := TS.cell c0 (hnb x hxf)
    have u1 := TS.cell c1 (hnb x hxf)
    have n1 : ¬ bg = x := fun e => hnb x hxf e.symm
    have n2 : ¬ x = bg := fun e => hnb x hxf e
    have j0 : (0 : Int) ≤ i := by omega
    have j1 : (i : Int) ≤ 1048576 := by omega
    clear h1 h2 h3 hf he hfpe hnd hfp hr hsr hb hi hil DS TS T1 hg1 x1 hne hnb hkf hrf hxf hlt hdl hdn hn hW1
    rw [hhas] at HS
    clear hhas
    go_enter Try.func39, Try.ntmps39
    go_wp2
    refine Ux.wp_region_plan (fun _ w' => w'.cell? ⟨x, 0, none⟩ = some (.slice (some ⟨gk, 0, none⟩) n ckk) ∧ w'.cell? ⟨bk, 0, none⟩ = some (.string k)) (.q [0, 1, 2] (.h false [3, 4] (.e 5 false false (.q [6, 7, 8, 9] (.line [10])))))
      (by kernel_rfl) (by kernel_rfl) (by intro _ _ d _ _ h; cases d <;> exact h) ?hS ?_
    case hS => (intro c; cases c <;> (simp only [World.cell?_drew]; first | exact True.intro | (refine ⟨?_, ?_⟩ <;> assumption) | assumption | (repeat (first | assumption | (refine And.intro ?_ ?_)))))
    simp only [Ux.wpPlan, Ux.pickOps, Ux.keeps, List.getElem?_toArray, List.getElem?_cons_succ, List.getElem?_cons_zero]
    repeat (first
      | go_big_quiet_step (fail)
      | (with_reducible refine wpQuiet_nil ?_)
      | (refine Ux.quiet_held rfl ?_; apply Exists.intro; refine ⟨fun w' hS => ?_, ?_⟩; (focus ((try dsimp only at hS); go_simp; first | done | with_reducible rfl)); simp only [Act.put, List.setIfInBounds_toArray, List.set_cons_zero, List.set_cons_succ]))
    go_wp2_with fail
    refine (HS.out _ (Ux.Touch.refl _ _).drew).mono ?_
    rw [HI.out]
    rintro e w1 ⟨rfl, rfl⟩
    go_wp2_with fail
    repeat (first
      | go_big_quiet_step (fail)
      | (with_reducible refine wpQuiet_nil ?_)
      | (refine Ux.quiet_held rfl ?_; apply Exists.intro; refine ⟨fun w' hS => ?_, ?_⟩; (focus ((try dsimp only at hS); go_simp; first | done | with_reducible rfl)); simp only [Act.put, List.setIfInBounds_toArray, List.set_cons_zero, List.set_cons_succ]))
    go_wp2_with fail
    refine Ux.wp_region_plan (fun _ w' => w'.cell? ⟨x, 0, none⟩ = some (.slice (some ⟨gk, 0, none⟩) n ckk) ∧ w'.cell? ⟨x, 1, none⟩ = some (.slice (some ⟨gr, 0, none⟩) n ckr)) (.q [0, 1, 2, 3, 4, 6, 7, 8, 10, 11, 12, 14, 15, 16] (.h false [5, 13] (.e 9 true false (.e 17 true false (.q [18, 19] (.e 20 false false (.line [21, 22, 23])))))))
      (by kernel_rfl) (by kernel_rfl) (by intro _ _ d _ _ h; cases d <;> exact h) ?hS ?_
    case hS => (intro c; cases c <;> (simp only [World.cell?_drew]; first | exact True.intro | (refine ⟨?_, ?_⟩ <;> assumption) | assumption | (repeat (first | assumption | (refine And.intro ?_ ?_)))))
    simp only [Ux.wpPlan, Ux.pickOps, Ux.keeps, List.getElem?_toArray, List.getElem?_cons_succ, List.getElem?_cons_zero]
    repeat (first
      | go_big_quiet_step (fail)
      | (with_reducible refine wpQuiet_nil ?_)
      | (refine Ux.quiet_held rfl ?_; apply Exists.intro; refine ⟨fun w' hS => ?_, ?_⟩; (focus ((try dsimp only at hS); go_simp; first | done | with_reducible rfl)); simp only [Act.put, List.setIfInBounds_toArray, List.set_cons_zero, List.set_cons_succ]))
    go_wp2_with fail
    rw [HW1.out]
    refine HDS.out.mono ?_
    rintro e W2 ⟨v1, rfl, o1, T2, b1, _⟩
    obtain ⟨c1', rfl⟩ := del_form o1 b1
    have x2 := T2.heap H1.out.2.2.1 (fun h => H1.out.2.2.2.1.1 (by cases h; rfl))
    obtain ⟨s20, s21, _, _⟩ := blk3 x2
    have DI := deleteI (.slice (some ⟨gr, 0, none⟩) n ckr) n i _ W2 (Ux.own_touch (Ux.own_touch H0.out.1 H1.out.1 (fun b hb e => by cases hb; exact H1.out.2.2.2.2.1 gr H1.out.2.2.2.2.2.2.1 e)) T2 (fun b hb e => by cases hb; exact H1.out.2.2.2.1.2.2 (by cases e; rfl))) H0.out.2.2.2.1 (by intro u hu; obtain ⟨p, _, rfl⟩ := List.mem_map.1 hu; rfl)
    have HDI := Lib.hid DI
    have H2 := Lib.hid (And.intro o1 (And.intro T2 x2))
    clear o1 T2 b1 x2 DI
    go_wp2_with fail
    refine ⟨⟨s20, s21⟩, ?_⟩
    repeat (first
      | go_big_quiet_step (fail)
      | (with_reducible refine wpQuiet_nil ?_)
      | (refine Ux.quiet_held rfl ?_; apply Exists.intro; refine ⟨fun w' hS => ?_, ?_⟩; (focus ((try dsimp only at hS); go_simp; first | done | with_reducible rfl)); simp only [Act.put, List.setIfInBounds_toArray, List.set_cons_zero, List.set_cons_succ]))
    go_wp2_with fail
    refine HDI.out.mono ?_
    rintro e W3 ⟨v2, rfl, o2, T3, b2, _⟩
    obtain ⟨c2', rfl⟩ := del_form o2 b2
    have x3 := T3.heap H2.out.2.2 (fun h => H1.out.2.2.2.1.2.1 (by cases h; rfl))
    obtain ⟨s30, s31, _, fr3⟩ := blk3 x3
    have H3 := Lib.hid (And.intro o2 (And.intro T3 x3))
    clear o2 T3 b2 x3
    go_wp2_with fail
    refine ⟨⟨s30, s31⟩, ?_⟩
    repeat (first
      | go_big_quiet_step (fail)
      | (with_reducible refine wpQuiet_nil ?_)
      | (refine Ux.quiet_held rfl ?_; apply Exists.intro; refine ⟨fun w' hS => ?_, ?_⟩; (focus ((try dsimp only at hS); go_simp; first | done | with_reducible rfl)); simp only [Act.put, List.setIfInBounds_toArray, List.set_cons_zero, List.set_cons_succ]))
    go_wp2_with fail
    repeat (first
      | go_big_quiet_step (fail)
      | (with_reducible refine wpQuiet_nil ?_)
      | (refine Ux.quiet_held rfl ?_; apply Exists.intro; refine ⟨fun w' hS => ?_, ?_⟩; (focus ((try dsimp only at hS); go_simp; first | done | with_reducible rfl)); simp only [Act.put, List.setIfInBounds_toArray, List.set_cons_zero, List.set_cons_succ]))
    go_wp2_with fail
    go_returns
    obtain ⟨h3, hfpe, hnd, hlt, hdl, hdn, hhas, hn⟩ := H0.out
    obtain ⟨T1, hg1, x1, hne, hnb, hkf, hrf, hxf⟩ := H1.out
    obtain ⟨o1, T2, x2⟩ := H2.out
    obtain ⟨o2, T3, x3⟩ := H3.out
    have T4 : Ux.Touch (fun b => b = x) W3 ((W3.setCell ⟨x, 0, none⟩ (.slice (some ⟨gk, 0, none⟩) (n - 1) c1')).setCell ⟨x, 1, none⟩ (.slice (some ⟨gr, 0, none⟩) (n - 1) c2')) := ((Ux.Touch.refl (fun b => b = x) W3).setCell (p := ⟨x, 0, none⟩) (fun _ => rfl) _).setCell (p := ⟨x, 1, none⟩) (fun _ => rfl) _
    have x4 : ((W3.setCell ⟨x, 0, none⟩ (.slice (some ⟨gk, 0, none⟩) (n - 1) c1')).setCell ⟨x, 1, none⟩ (.slice (some ⟨gr, 0, none⟩) (n - 1) c2')).heap[x]? = some (.cells #[.slice (some ⟨gk, 0, none⟩) (n - 1) c1', .slice (some ⟨gr, 0, none⟩) (n - 1) c2', .slice none 0 0] 62 (0, 0)) := by
      have a := heap_setCell_same W3 x 0 _ 62 (.slice (some ⟨gk, 0, none⟩) (n - 1) c1') x3
      have b := heap_setCell_same _ x 1 _ 62 (.slice (some ⟨gr, 0, none⟩) (n - 1) c2') a
      simpa using b
    have e1 : (del k l).map (fun p => Value.string p.1) = (l.map fun p => Value.string p.1).take i ++ (l.map fun p => Value.string p.1).drop (i + 1) := by rw [hdl]; simp [List.map_take, List.map_drop]
    have e2 : (del k l).map (fun p => Value.int .i64 p.2) = (l.map fun p => Value.int .i64 p.2).take i ++ (l.map fun p => Value.int .i64 p.2).drop (i + 1) := by rw [hdl]; simp [List.map_take, List.map_drop]
    have hbk : bg ∉ fp := fun h => hnb bg h rfl
    refine ⟨fp, rfl, ⟨_, _, x4, ?_, ?_, by rw [hfpe]; rfl⟩, hnd, fun b hb => .inl hb, ?_, ?_⟩
    · rw [hdn, e1]
      exact Ux.own_touch (Ux.own_touch o1 T3 (fun b hb e => by cases hb; cases e; exact hne.2.2 rfl)) T4 (fun b hb e => by cases hb; exact hne.1 e)
    · rw [hdn, e2]
      exact Ux.own_touch o2 T4 (fun b hb e => by cases hb; exact hne.2.1 e)
    · have A : Ux.Touch (fun b => b ∈ fp ∨ b = bg) w W1 := T1.mono (fun _ _ h => .inr h)
      have B := A.trans T2 (fun b _ h => .inl (by cases h; exact hkf))
      have C := B.trans T3 (fun b _ h => .inl (by cases h; exact hrf))
      exact C.trans T4 (fun b _ h => .inl (h ▸ hxf))
    · show _ = some (Obj.cells #[.bool (has (keys l) k)] 4 (0, 0))
      rw [hhas]
      exact T4.heap (T3.heap (T2.heap hg1 (fun h => hbk (by cases h; exact hkf))) (fun h => hbk (by cases h; exact hrf))) (fun e => hbk (e ▸ hxf))

end Go.Proofs.Ytdfgpminonpeaaa
