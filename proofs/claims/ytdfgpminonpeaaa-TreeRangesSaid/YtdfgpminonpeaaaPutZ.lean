/- PART OF THE PROOF THAT THIS CLAIM HOLDS OF THE GIVEN PROGRAM, FOR EVERY INPUT THAT THE STATEMENT NAMES. No condition besides the statement's own. -/
import Derived.Test.YtdfgpminonpeaaaUxTreeAllZ
import Derived.Test.YtdfgpminonpeaaaSmallZ
import Derived.Test.YtdfgpminonpeaaaInsZ
import Derived.Test.YtdfgpminonpeaaaCloZ
import Derived.Test.YtdfgpminonpeaaaDelZ
import Derived.Test.YtdfgpminonpeaaaNodeZ
import Derived.Test.YtdfgpminonpeaaaHalfZ
import Derived.Test.YtdfgpminonpeaaaRows
import Derived.WalkKit
import Derived.Handy
import Derived.Laws.EntriesVeiled
import Derived.WalkSpells
import Derived.WalkLawsBesides
import Derived.BigQuiet
import Derived.Deep.QuietTactic
import Derived.Deep.Cut
import Derived.Lib.Overlaps
import Derived.Laws.Externs
import Derived.Lib.Hide
import Derived.Test.YtdfgpminonpeaaaUxPlanAllZ
import Derived.Deep.LoopGhost
namespace Go.Proofs.Ytdfgpminonpeaaa
open Go.RowKit
-- imports: UxTree4 YtdfgpminonpeaaaSmall YtdfgpminonpeaaaIns YtdfgpminonpeaaaClo YtdfgpminonpeaaaDel YtdfgpminonpeaaaNode YtdfgpminonpeaaaHalf
open Ux (slt lb has Rises T NodeAt NodesAt Shp wayN half1 half2 halfK blk ptr flat keys ins putT Good Up)

/-- what Put's inner function finds: key, row, fresh, itself, the tree -/
structure PutEnv (w : World) (bk br bf bp bt tb : Nat) (k : ByteArray) (v : Int) (fan : Nat) : Prop where
  key : w.heap[bk]? = some (.cells #[.string k] 9 (0, 0))
  row : w.heap[br]? = some (.cells #[.int .i64 v] 3 (0, 0))
  put : w.heap[bp]? = some (.cells #[.func (.func 29) #[] #[.pointer (some ⟨bk, 0, none⟩), .pointer (some ⟨br, 0, none⟩), .pointer (some ⟨bf, 0, none⟩), .pointer (some ⟨bp, 0, none⟩), .pointer (some ⟨bt, 0, none⟩)]] 65 (0, 0))
  box : w.heap[bt]? = some (.cells #[.pointer (some ⟨tb, 0, none⟩)] 23 (0, 0))
  tree : ∃ n r, w.heap[tb]? = some (.cells #[.int .i64 fan, n, r] 64 (0, 0))
  apart : bf ≠ bk ∧ bf ≠ br ∧ bf ≠ bp ∧ bf ≠ bt ∧ bf ≠ tb

/-- what it leaves -/
def PutPost (w : World) (t : T) (t' : T) (k : ByteArray) (bf x : Nat) (fp : List Nat) (e : Ending) (w' : World) : Prop :=
  ∃ fp', e = .returned (.tuple #[]) ∧ NodeAt w' t' x fp' ∧ fp'.Nodup ∧ (∀ b ∈ fp', b ∈ fp ∨ w.heap.size ≤ b) ∧ Ux.Touch (fun b => b ∈ fp ∨ b = bf) w w' ∧
    w'.heap[bf]? = some (.cells #[.bool (!has (keys (flat t)) k)] 4 (0, 0))

/-- two rows of unlike cells lie apart, and from the node -/
theorem own_apart {W : World} {g g' n c c' : Nat} {xs ys : List Value} (h : W.ownsRow 0 9 1 (.slice (some ⟨g, 0, none⟩) n c) n xs) (h' : W.ownsRow 0 3 1 (.slice (some ⟨g', 0, none⟩) n c') n ys) (hn : 0 < n) : g ≠ g' := by
  obtain ⟨a, _, cur, e, _, _, hh, _, _⟩ := Ux.own_pos h hn
  obtain ⟨b, _, cur', e', _, _, hh', _, _⟩ := Ux.own_pos h' hn
  cases e
  cases e'
  intro eq
  rw [← eq, hh] at hh'
  cases hh'

theorem put_leaf_end {w W : World} {l : List (ByteArray × Int)} {x i bf gk ck gv cv : Nat} {fp : List Nat} {k : ByteArray} {v : Int} {kv rv : Value} (hi : lb (keys l) k = i ∧ i ≤ l.length) (hh : has (keys l) k = false)
    (hfp : fp = x :: (blk kv ++ blk rv)) (hbf : bf ∉ fp) (TT : Ux.Touch (fun b => b ∈ fp ∨ b = bf) w W) (hlt : ∀ b ∈ fp, b < w.heap.size) (hnd : fp.Nodup)
    (hx : W.heap[x]? = some (.cells #[.slice (some ⟨gk, 0, none⟩) (l.length + 1) ck, .slice (some ⟨gv, 0, none⟩) (l.length + 1) cv, .slice none 0 0] 62 (0, 0)))
    (o1 : W.ownsRow 0 9 1 (.slice (some ⟨gk, 0, none⟩) (l.length + 1) ck) (l.length + 1) ((l.map fun p => .string p.1).take i ++ .string k :: (l.map fun p => .string p.1).drop i))
    (o2 : W.ownsRow 0 3 1 (.slice (some ⟨gv, 0, none⟩) (l.length + 1) cv) (l.length + 1) ((l.map fun p => .int .i64 p.2).take i ++ .int .i64 v :: (l.map fun p => .int .i64 p.2).drop i))
    (b1 : some gk = kv.ownBlock ∨ ∃ g, some gk = some g ∧ w.heap.size ≤ g) (b2 : some gv = rv.ownBlock ∨ ∃ g, some gv = some g ∧ w.heap.size ≤ g)
    (hf : W.heap[bf]? = some (.cells #[.bool true] 4 (0, 0))) : PutPost w (.leaf l) (.leaf (ins k v l)) k bf x fp (.returned (.tuple #[])) W := by
  have hl : (ins k v l).length = l.length + 1 := by
    rw [Ux.ins_not hh, hi.1]
    simp only [List.length_append, List.length_take, List.length_cons, List.length_drop]; omega
  have hg : gk ≠ gv := own_apart o1 o2 (by omega)
  have hxk : x ≠ gk ∧ x ≠ gv := by
    obtain ⟨a, _, cur, e, _, _, hh1, _, _⟩ := Ux.own_pos o1 (by omega)
    obtain ⟨b, _, cur', e', _, _, hh2, _, _⟩ := Ux.own_pos o2 (by omega)
    cases e
    cases e'
    constructor
    · intro e; rw [← e, hx] at hh1; cases hh1
    · intro e; rw [← e, hx] at hh2; cases hh2
  refine ⟨[x, gk, gv], rfl, ?_, ?_, ?_, TT, ?_⟩
  · refine ⟨_, _, hx, ?_, ?_, rfl⟩
    · rw [hl, Ux.ins_not hh, hi.1]
      simpa only [List.map_append, List.map_cons, List.map_take, List.map_drop] using o1
    · rw [hl, Ux.ins_not hh, hi.1]
      simpa only [List.map_append, List.map_cons, List.map_take, List.map_drop] using o2
  · simp [hg, hxk.1, hxk.2]
  · intro b hb
    simp only [List.mem_cons, List.not_mem_nil, or_false] at hb
    rcases hb with rfl | rfl | rfl
    · left; rw [hfp]; simp
    · rcases b1 with h | ⟨g, h, hg⟩
      · left; rw [hfp]; simp [blk, ← h]
      · right; cases h; exact hg
    · rcases b2 with h | ⟨g, h, hg⟩
      · left; rw [hfp]; simp [blk, ← h]
      · right; cases h; exact hg
  · rw [hf]
    show some (Obj.cells #[.bool true] 4 (0, 0)) = some (.cells #[.bool (!has (keys l) k)] 4 (0, 0))
    rw [hh]
    rfl

set_option maxHeartbeats 2000000 in
set_option maxRecDepth 100000 in
theorem put_leaf (l : List (ByteArray × Int)) (x : Nat) (fp : List Nat) (w : World) (bk br bf bp bt tb : Nat) (k : ByteArray) (v : Int) (fan : Nat) (he : PutEnv w bk br bf bp bt tb k v fan)
    (hf : w.heap[bf]? = some (.cells #[.bool false] 4 (0, 0))) (h : NodeAt w (.leaf l) x fp) (hnd : fp.Nodup) (hb : l.length ≤ 1048576) (hr : Rises (keys l)) (hfp : bk ∉ fp ∧ br ∉ fp ∧ bf ∉ fp) :
    Calls Try.prog 29 #[.pointer (some ⟨x, 0, none⟩), .pointer (some ⟨bk, 0, none⟩), .pointer (some ⟨br, 0, none⟩), .pointer (some ⟨bf, 0, none⟩), .pointer (some ⟨bp, 0, none⟩), .pointer (some ⟨bt, 0, none⟩)] w (PutPost w (.leaf l) (.leaf (ins k v l)) k bf x fp) := by
  have HN := Lib.hid h
  have HE := Lib.hid he
  obtain ⟨kv, rv, h1, h2, h3, hfpe⟩ := h
  obtain ⟨c0, c1, c2, fr⟩ := blk3 h1
  have ck : w.cell? ⟨bk, 0, none⟩ = some (.string k) := by rw [cell_of_row w bk 0 _ 9 (0, 0) he.key]; rfl
  have cr : w.cell? ⟨br, 0, none⟩ = some (.int .i64 v) := by rw [cell_of_row w br 0 _ 3 (0, 0) he.row]; rfl
  have cf : w.cell? ⟨bf, 0, none⟩ = some (.bool false) := by rw [cell_of_row w bf 0 _ 4 (0, 0) hf]; rfl
  have ff : w.frozen? ⟨bf, 0, none⟩ = false := frozen_of_row w bf 0 _ 4 hf
  have HF := Lib.hid hf
  have H12 := Lib.hid (And.intro h1 (And.intro h2 h3))
  have HFP := Lib.hid (And.intro hfpe (And.intro hnd hfp))
  have HR := Lib.hid hr
  have hsr : ∀ w' : World, Ux.Touch (fun _ => False) w w' → Calls Try.prog 30 #[kv, .string k] w' fun e w'' => e = .returned (.tuple #[.int .i64 (lb (keys l) k), .bool (has (keys l) k)]) ∧ w' = w'' := fun w' ht =>
    search30 kv (keys l) k w' (by have ho := Ux.own_touch h2 ht (fun _ _ f => f); rw [Ux.keys_length]; simpa [keys, Function.comp_def] using ho) hr (by rw [Ux.keys_length]; omega)
  have HS := Lib.hid hsr
  have HB := Lib.hid hb
  obtain ⟨i, hi⟩ : ∃ i, lb (keys l) k = i := ⟨_, rfl⟩
  have hil : i ≤ l.length := by have := Ux.lb_le (keys l) k; rw [Ux.keys_length] at this; omega
  have HI := Lib.hid (And.intro hi hil)
  clear h1 h2 h3 hf he hfpe hnd hfp hr hsr hb hi hil
  cases hhas : has (keys l) k with
  | true =>
    have HH := Lib.hid hhas
    clear hhas
    go_enter Try.func29, Try.ntmps29
    go_wp2
    refine Ux.wp_region_plan (fun _ w' => w'.cell? ⟨x, 0, none⟩ = some kv ∧ w'.cell? ⟨bk, 0, none⟩ = some (.string k)) (.q [0, 1, 2] (.h false [3, 4] (.e 5 false false (.q [6, 7, 8, 9] (.line [10])))))
      (by kernel_rfl) (by kernel_rfl) (by intro _ _ d _ _ h; cases d <;> exact h) ?hS ?_
    case hS => (intro c; cases c <;> (simp only [World.cell?_drew]; first | exact True.intro | (refine ⟨?_, ?_⟩ <;> assumption) | assumption | (repeat (first | assumption | (refine And.intro ?_ ?_)))))
    simp only [Ux.wpPlan, Ux.pickOps, Ux.keeps, List.getElem?_toArray, List.getElem?_cons_succ, List.getElem?_cons_zero]
    repeat (first
      | go_big_quiet_step (fail)
      | (with_reducible refine wpQuiet_nil ?_)
      | (refine Ux.quiet_held rfl ?_; apply Exists.intro; refine ⟨fun w' hS => ?_, ?_⟩; (focus ((try dsimp only at hS); go_simp; first | done | with_reducible rfl)); simp only [Act.put, List.setIfInBounds_toArray, List.set_cons_zero, List.set_cons_succ]))
    go_wp2_with fail
    refine (HS.out _ (Ux.Touch.refl _ _).drew).mono ?_
    rw [HI.out.1, HH.out]
    rintro e w1 ⟨rfl, rfl⟩
    go_wp2_with fail
    repeat (first
      | go_big_quiet_step (fail)
      | (with_reducible refine wpQuiet_nil ?_)
      | (refine Ux.quiet_held rfl ?_; apply Exists.intro; refine ⟨fun w' hS => ?_, ?_⟩; (focus ((try dsimp only at hS); go_simp; first | done | with_reducible rfl)); simp only [Act.put, List.setIfInBounds_toArray, List.set_cons_zero, List.set_cons_succ]))
    go_wp2_with fail
    obtain ⟨hlt, hins, _⟩ := Ux.ins_has (v := v) HH.out
    rw [HI.out.1] at hlt hins
    obtain ⟨g, c, cur, rfl, hnc, hcm, hg, hcs, htk⟩ := Ux.own_pos H12.out.2.2 (by omega)
    have H2 := Lib.hid (And.intro hins (And.intro hg hcs))
    have fg : w.frozen? ⟨g, i, none⟩ = false := frozen_of_row w g i _ 3 hg
    rw [Nat.mul_one] at hcs
    have hc1 : ∃ u, w.cell? ⟨g, i, none⟩ = some u := by
      rw [cell_of_row w g i _ 3 (0, 0) hg]
      exact ⟨cur[i]'(by omega), by simp⟩
    obtain ⟨u, hu⟩ := hc1
    clear hins hg hcs htk
    have j1 : (i : Int) < l.length := by omega
    have j0 : (0 : Int) ≤ i := by omega
    refine Ux.wp_region_plan (fun _ w' => w'.cell? ⟨x, 1, none⟩ = some (.slice (some ⟨g, 0, none⟩) l.length c) ∧ w'.cell? ⟨br, 0, none⟩ = some (.int .i64 v)) (.q [0, 1, 2, 4] (.h false [3, 5] (.line [6, 7])))
      (by kernel_rfl) (by kernel_rfl) (by intro _ _ d _ _ h; cases d <;> exact h) ?hS ?_
    case hS => (intro c; cases c <;> (simp only [World.cell?_drew]; first | exact True.intro | (refine ⟨?_, ?_⟩ <;> assumption) | assumption | (repeat (first | assumption | (refine And.intro ?_ ?_)))))
    simp only [Ux.wpPlan, Ux.pickOps, Ux.keeps, List.getElem?_toArray, List.getElem?_cons_succ, List.getElem?_cons_zero]
    repeat (first
      | go_big_quiet_step (fail)
      | (with_reducible refine wpQuiet_nil ?_)
      | (refine Ux.quiet_held rfl ?_; apply Exists.intro; refine ⟨fun w' hS => ?_, ?_⟩; (focus ((try dsimp only at hS); go_simp; first | done | with_reducible rfl)); simp only [Act.put, List.setIfInBounds_toArray, List.set_cons_zero, List.set_cons_succ]))
    go_wp2
    go_returns
    obtain ⟨h1, h2, h3⟩ := H12.out
    obtain ⟨hins, hg, hcs⟩ := H2.out
    obtain ⟨hfpe, hnd, hfp⟩ := HFP.out
    have hgm : g ∈ fp := by rw [hfpe]; simp [blk, Value.ownBlock]
    have hgx : g ≠ x := fun e => by
      subst e
      rw [hfpe] at hnd
      exact (List.nodup_cons.1 hnd).1 (by simp [blk, Value.ownBlock])
    have TT : Ux.Touch (fun b => b = g) w (w.drew.drew.setCell ⟨g, i, none⟩ (.int .i64 v)) := ((Ux.Touch.refl (fun b => b = g) w).drew.drew).setCell (p := ⟨g, i, none⟩) (fun _ => rfl) _
    have hkb : ∀ b, kv.ownBlock = some b → b ≠ g := fun b hb e => by
      subst e
      rw [hfpe] at hnd
      have := (List.nodup_append.1 (List.nodup_cons.1 hnd).2).2.2 b (by simp [blk, hb]) b (by simp [blk, Value.ownBlock])
      exact this rfl
    have hO : (w.drew.drew.setCell ⟨g, i, none⟩ (.int .i64 v)).ownsRow 0 3 1 (.slice (some ⟨g, 0, none⟩) l.length c) l.length ((l.map fun p => .int .i64 p.2).set i (.int .i64 v)) :=
      Ux.own_set (w := w.drew.drew) (Ux.own_touch h3 (R := fun _ => False) ((Ux.Touch.refl _ w).drew.drew) (fun _ _ f => f)) (by omega) _
    have hll : (ins k v l).length = l.length := by rw [hins]; simp
    have hN : NodeAt (w.drew.drew.setCell ⟨g, i, none⟩ (.int .i64 v)) (.leaf (ins k v l)) x fp := by
      refine ⟨kv, .slice (some ⟨g, 0, none⟩) l.length c, TT.heap h1 (fun e => hgx e.symm), ?_, ?_, hfpe⟩
      · rw [hll, Ux.ins_keys HH.out]
        exact Ux.own_touch h2 TT hkb
      · rw [hll, hins, List.map_set]
        exact hO
    refine ⟨fp, rfl, hN, hnd, fun b hb => .inl hb, TT.mono (fun b _ hb => by rw [hb]; exact .inl hgm), ?_⟩
    have := TT.heap HF.out (fun e => hfp.2.2 (e ▸ hgm))
    rw [show (!has (keys (flat (T.leaf l))) k) = false from by show (!has (keys l) k) = false; rw [HH.out]; rfl]
    exact this
  | false =>
    have HH := Lib.hid hhas
    clear hhas
    go_enter Try.func29, Try.ntmps29
    go_wp2
    refine Ux.wp_region_plan (fun _ w' => w'.cell? ⟨x, 0, none⟩ = some kv ∧ w'.cell? ⟨bk, 0, none⟩ = some (.string k)) (.q [0, 1, 2] (.h false [3, 4] (.e 5 false false (.q [6, 7, 8, 9] (.line [10])))))
      (by kernel_rfl) (by kernel_rfl) (by intro _ _ d _ _ h; cases d <;> exact h) ?hS ?_
    case hS => (intro c; cases c <;> (simp only [World.cell?_drew]; first | exact True.intro | (refine ⟨?_, ?_⟩ <;> assumption) | assumption | (repeat (first | assumption | (refine And.intro ?_ ?_)))))
    simp only [Ux.wpPlan, Ux.pickOps, Ux.keeps, List.getElem?_toArray, List.getElem?_cons_succ, List.getElem?_cons_zero]
    repeat (first
      | go_big_quiet_step (fail)
      | (with_reducible refine wpQuiet_nil ?_)
      | (refine Ux.quiet_held rfl ?_; apply Exists.intro; refine ⟨fun w' hS => ?_, ?_⟩; (focus ((try dsimp only at hS); go_simp; first | done | with_reducible rfl)); simp only [Act.put, List.setIfInBounds_toArray, List.set_cons_zero, List.set_cons_succ]))
    go_wp2_with fail
    refine (HS.out _ (Ux.Touch.refl _ _).drew).mono ?_
    rw [HI.out.1, HH.out]
    rintro e w1 ⟨rfl, rfl⟩
    go_wp2_with fail
    repeat (first
      | go_big_quiet_step (fail)
      | (with_reducible refine wpQuiet_nil ?_)
      | (refine Ux.quiet_held rfl ?_; apply Exists.intro; refine ⟨fun w' hS => ?_, ?_⟩; (focus ((try dsimp only at hS); go_simp; first | done | with_reducible rfl)); simp only [Act.put, List.setIfInBounds_toArray, List.set_cons_zero, List.set_cons_succ]))
    go_wp2_with fail
    obtain ⟨w2, hw2⟩ : ∃ w2, (w.setCell ⟨bf, 0, none⟩ (.bool true)).drew = w2 := ⟨_, rfl⟩
    rw [hw2]
    have T2 : Ux.Touch (fun b => b = bf) w w2 := by rw [← hw2]; exact ((Ux.Touch.refl (fun b => b = bf) w).setCell (p := ⟨bf, 0, none⟩) (fun _ => rfl) _).drew
    have hf2 : w2.heap[bf]? = some (.cells #[.bool true] 4 (0, 0)) := by
      rw [← hw2]
      have := heap_setCell_same w bf 0 _ 4 (.bool true) HF.out
      have h' : (w.setCell ⟨bf, 0, none⟩ (.bool true)).heap[bf]? = some (.cells #[.bool true] 4 (0, 0)) := by simpa using this
      exact h'
    have hxb : x ≠ bf := fun e => HFP.out.2.2.2.2 (by rw [HFP.out.1, ← e]; simp)
    have d0 := T2.cell c0 hxb
    have d1 := T2.cell c1 hxb
    have dk := T2.cell ck (fun e => HE.out.apart.1 e.symm)
    have dr := T2.cell cr (fun e => HE.out.apart.2.1 e.symm)
    have gr : ∀ i, w2.frozen? ⟨x, i, none⟩ = false := fun i => frozen_of_row w2 x i _ 62 (T2.heap H12.out.1 hxb)
    have HT2 := Lib.hid (And.intro T2 hf2)
    clear hw2 T2 hf2 c0 c1 c2 ck cr cf fr ff hxb
    have HO := Lib.hid (And.intro (Ux.own_touch H12.out.2.1 HT2.out.1 (fun b hb e => HFP.out.2.2.2.2 (by rw [HFP.out.1, ← e]; simp [blk, hb]))) (Ux.own_touch H12.out.2.2 HT2.out.1 (fun b hb e => HFP.out.2.2.2.2 (by rw [HFP.out.1, ← e]; simp [blk, hb]))))
    have HL := Lib.hid (And.intro (Ux.own_lt H12.out.2.1) (And.intro (Ux.own_lt H12.out.2.2) (fun b (h1 : kv.ownBlock = some b) (h2 : rv.ownBlock = some b) => by
      have hnd := HFP.out.2.1
      rw [HFP.out.1] at hnd
      exact (List.nodup_append.1 (List.nodup_cons.1 hnd).2).2.2 b (by simp [blk, h1]) b (by simp [blk, h2]) rfl)))
    have hRR : ∀ b, (kv.ownBlock = some b ∨ rv.ownBlock = some b) → b ∈ fp ∧ b ≠ x := fun b hb => by
      have hnd := HFP.out.2.1
      rw [HFP.out.1] at hnd
      have hm : b ∈ blk kv ++ blk rv := by rcases hb with h | h <;> simp [blk, h]
      exact ⟨by rw [HFP.out.1]; exact List.mem_cons_of_mem _ hm, fun e => (List.nodup_cons.1 hnd).1 (e ▸ hm)⟩
    have hss : ∀ w', Ux.Touch (fun b => kv.ownBlock = some b ∨ rv.ownBlock = some b) w2 w' → w'.cell? ⟨x, 0, none⟩ = some kv ∧ w'.cell? ⟨bk, 0, none⟩ = some (.string k) ∧ w'.cell? ⟨x, 1, none⟩ = some rv ∧ w'.cell? ⟨br, 0, none⟩ = some (.int .i64 v) := fun w' t =>
      ⟨t.cell d0 (fun h => (hRR _ h).2 rfl), t.cell dk (fun h => HFP.out.2.2.1 (hRR _ h).1), t.cell d1 (fun h => (hRR _ h).2 rfl), t.cell dr (fun h => HFP.out.2.2.2.1 (hRR _ h).1)⟩
    have HSS := Lib.hid hss
    have HRR := Lib.hid hRR
    clear hss hRR
    refine Ux.wp_region_plan (fun c w' => match c with | false => w'.cell? ⟨x, 0, none⟩ = some kv ∧ w'.cell? ⟨bk, 0, none⟩ = some (.string k) ∧ w'.cell? ⟨x, 1, none⟩ = some rv ∧ w'.cell? ⟨br, 0, none⟩ = some (.int .i64 v) | true => w'.cell? ⟨br, 0, none⟩ = some (.int .i64 v)) (.q [0, 1, 2, 3, 4, 6, 10, 11, 12, 14] (.h false [5, 7, 13] (.h true [15] (.br 8 (.br 9 (.e 16 true false (.e 17 true true (.q [18, 19] (.e 20 false true (.line [21, 22, 23]))))) 16 (.e 9 true true (.e 17 true true (.q [18, 19] (.e 20 false true (.line [21, 22, 23])))))) 16 (.e 8 true true (.e 9 true true (.e 17 true true (.q [18, 19] (.e 20 false true (.line [21, 22, 23]))))))))))
      (by kernel_rfl) (by kernel_rfl) (by intro _ _ d _ _ h; cases d <;> exact h) ?hS ?_
    case hS => (intro c; cases c <;> (simp only [World.cell?_drew]; first | exact True.intro | (refine ⟨?_, ?_⟩ <;> assumption) | assumption | (repeat (first | assumption | (refine And.intro ?_ ?_)))))
    simp only [Ux.wpPlan, Ux.pickOps, Ux.keeps, List.getElem?_toArray, List.getElem?_cons_succ, List.getElem?_cons_zero]
    repeat (first
      | go_big_quiet_step (fail)
      | (with_reducible refine wpQuiet_nil ?_)
      | (refine Ux.quiet_held rfl ?_; apply Exists.intro; refine ⟨fun w' hS => ?_, ?_⟩; (focus ((try dsimp only at hS); go_simp; first | done | with_reducible rfl)); simp only [Act.put, List.setIfInBounds_toArray, List.set_cons_zero, List.set_cons_succ]))
    clear d0 d1 dk dr
    refine ⟨?_, ?_⟩
    · go_wp2_with fail
      obtain ⟨w3, hw3⟩ : ∃ w3, (w2.alloc (.cells #[.string k] 9)).drew = w3 := ⟨_, rfl⟩
      rw [hw3]
      have S3 : Ux.Touch (fun _ => False) w2 w3 := by rw [← hw3]; exact ((Ux.Touch.refl (fun _ => False) w2).alloc _).drew
      have T3 : Ux.Touch (fun _ => False) w2 w3 := ((Ux.Touch.refl (fun _ => False) w2)).trans S3 (fun _ _ f => f.elim)
      have V8 : w3.heap[w2.heap.size]? = some (.cells #[.string k] 9 (0, 0)) := by rw [← hw3]; exact heap_alloc_new w2 _
      have gva : w.heap.size ≤ w2.heap.size := by have a := HT2.out.1.size; have b := ((Ux.Touch.refl (fun _ => False) w2)).size; omega
      have Z8 := Lib.hid (And.intro V8 gva)
      clear hw3 V8 gva
      refine ⟨⟨HSS.out _ ((T3).mono (fun _ _ f => f.elim)), (HSS.out _ ((T3).mono (fun _ _ f => f.elim))).2.2.2⟩, ?_, ?_⟩
      · go_wp2_with fail
        refine (insertS kv l.length i w2.heap.size _ (.string k) w3 (Ux.own_touch HO.out.1 T3 (fun _ _ f => f)) HI.out.2 (by have := HB.out; omega) (by intro u hu; obtain ⟨p, _, rfl⟩ := List.mem_map.1 hu; rfl) rfl Z8.out.1 (fun e => by have := HL.out.1 _ e; have := Z8.out.2; omega)).mono ?_
        rintro e w4 ⟨kv1, rfl, o9, t9, b9⟩
        obtain ⟨gk, ck, curk, rfl, _, _, _, _, _⟩ := Ux.own_pos o9 (by omega)
        have T4 : Ux.Touch (fun b => kv.ownBlock = some b) w2 w4 := ((T3).mono (fun _ _ f => f.elim) : Ux.Touch (fun b => kv.ownBlock = some b) w2 w3).trans t9 (fun _ _ h => h)
        have K9 := Lib.hid (And.intro o9 b9)
        clear o9 b9
        go_wp2_with fail
        refine ⟨⟨HSS.out _ ((T4).mono (fun _ _ h => .inl h)), (HSS.out _ ((T4).mono (fun _ _ h => .inl h))).2.2.2⟩, ?_⟩
        go_wp2_with fail
        obtain ⟨w5, hw5⟩ : ∃ w5, w4.alloc (.cells #[.int .i64 v] 3) = w5 := ⟨_, rfl⟩
        rw [hw5]
        have S5 : Ux.Touch (fun _ => False) w4 w5 := by rw [← hw5]; exact ((Ux.Touch.refl (fun _ => False) w4).alloc _)
        have T5 : Ux.Touch (fun b => kv.ownBlock = some b) w2 w5 := (T4).trans S5 (fun _ _ f => f.elim)
        have V16 : w5.heap[w4.heap.size]? = some (.cells #[.int .i64 v] 3 (0, 0)) := by rw [← hw5]; exact heap_alloc_new w4 _
        have gvc : w.heap.size ≤ w4.heap.size := by have a := HT2.out.1.size; have b := (T4).size; omega
        have Z16 := Lib.hid (And.intro V16 gvc)
        clear hw5 V16 gvc
        refine ⟨HSS.out _ ((T5).mono (fun _ _ h => .inl h)), ?_⟩
        go_wp2_with fail
        refine (insertI rv l.length i w4.heap.size _ (.int .i64 v) w5 (Ux.own_touch HO.out.2 T5 (fun b hb h => HL.out.2.2 b h hb)) HI.out.2 (by have := HB.out; omega) (by intro u hu; obtain ⟨p, _, rfl⟩ := List.mem_map.1 hu; rfl) rfl Z16.out.1 (fun e => by have := HL.out.2.1 _ e; have := Z16.out.2; omega)).mono ?_
        rintro e w6 ⟨rv1, rfl, o17, t17, b17⟩
        obtain ⟨gv, cv, curv, rfl, _, _, _, _, _⟩ := Ux.own_pos o17 (by omega)
        have T6 : Ux.Touch (fun b => kv.ownBlock = some b ∨ rv.ownBlock = some b) w2 w6 := ((T5).mono (fun _ _ h => .inl h) : Ux.Touch (fun b => kv.ownBlock = some b ∨ rv.ownBlock = some b) w2 w5).trans t17 (fun _ _ h => .inr h)
        have K17 := Lib.hid (And.intro o17 b17)
        clear o17 b17
        go_wp2_with fail
        refine ⟨⟨HSS.out _ (T6), (HSS.out _ (T6)).2.2.2⟩, ?_⟩
        obtain ⟨e0, _, e1, er⟩ := HSS.out _ T6
        have hx6 := T6.heap (HT2.out.1.heap H12.out.1 (fun e => HFP.out.2.2.2.2 (by rw [HFP.out.1, ← e]; simp))) (fun h => (HRR.out _ h).2 rfl)
        have fr6 : ∀ i, w6.frozen? ⟨x, i, none⟩ = false := fun i => frozen_of_row w6 x i _ 62 hx6
        have HXn := Lib.hid hx6
        clear hx6
        repeat (first
          | go_big_quiet_step (fail)
          | (with_reducible refine wpQuiet_nil ?_)
          | (refine Ux.quiet_held rfl ?_; apply Exists.intro; refine ⟨fun w' hS => ?_, ?_⟩; (focus ((try dsimp only at hS); go_simp; first | done | with_reducible rfl)); simp only [Act.put, List.setIfInBounds_toArray, List.set_cons_zero, List.set_cons_succ]))
        go_wp2_with fail
        have er2 : (w6.setCell ⟨x, 0, none⟩ (.slice (some ⟨gk, 0, none⟩) (l.length + 1) ck)).cell? ⟨br, 0, none⟩ = some (.int .i64 v) := ((Ux.Touch.refl (fun b => b = x) w6).setCell (p := ⟨x, 0, none⟩) (fun _ => rfl) _).cell er (fun e => HFP.out.2.2.2.1 (by rw [HFP.out.1, show br = x from e]; simp))
        refine ⟨er2, ?_⟩
        go_wp2
        go_returns
        obtain ⟨W, hW⟩ : ∃ W, ((w6.setCell ⟨x, 0, none⟩ (.slice (some ⟨gk, 0, none⟩) (l.length + 1) ck)).setCell ⟨x, 1, none⟩ (.slice (some ⟨gv, 0, none⟩) (l.length + 1) cv)) = W := ⟨_, rfl⟩
        have TW : Ux.Touch (fun b => b = x) w6 W := by rw [← hW]; exact ((Ux.Touch.refl (fun b => b = x) w6).setCell (p := ⟨x, 0, none⟩) (fun _ => rfl) _).setCell (p := ⟨x, 1, none⟩) (fun _ => rfl) _
        have hxW : W.heap[x]? = some (.cells #[.slice (some ⟨gk, 0, none⟩) (l.length + 1) ck, .slice (some ⟨gv, 0, none⟩) (l.length + 1) cv, .slice none 0 0] 62 (0, 0)) := by
          rw [← hW]
          have a := heap_setCell_same w6 x 0 _ 62 (.slice (some ⟨gk, 0, none⟩) (l.length + 1) ck) HXn.out
          have b := heap_setCell_same _ x 1 _ 62 (.slice (some ⟨gv, 0, none⟩) (l.length + 1) cv) a
          simpa using b
        have mk : ∀ b, kv.ownBlock = some b → b ∈ fp := fun b h => (HRR.out b (.inl h)).1
        have mr : ∀ b, rv.ownBlock = some b → b ∈ fp := fun b h => (HRR.out b (.inr h)).1
        have mx : x ∈ fp := by rw [HFP.out.1]; simp
        have hfW : W.heap[bf]? = some (.cells #[.bool true] 4 (0, 0)) := TW.heap (T6.heap HT2.out.2 (fun h => HFP.out.2.2.2.2 (HRR.out _ h).1)) (fun e => HFP.out.2.2.2.2 (e ▸ mx))
        have TT : Ux.Touch (fun b => b ∈ fp ∨ b = bf) w W := ((HT2.out.1.mono (fun b _ h => .inr h) : Ux.Touch (fun b => b ∈ fp ∨ b = bf) w w2).trans T6 (fun b _ h => .inl (HRR.out b h).1)).trans TW (fun b _ h => .inl (h ▸ mx))
        have o9 := K9.out.1
        have hne9 : ∀ b, Value.ownBlock (.slice (some ⟨gk, 0, none⟩) (l.length + 1) ck) = some b → ¬ rv.ownBlock = some b := fun b hb h => by
          cases hb
          rcases K9.out.2 with e | ⟨g, e, hg⟩
          · exact HL.out.2.2 gk e.symm h
          · cases e; have a := HL.out.2.1 _ h; have b := HT2.out.1.size; have c := T3.size; omega
        have o9n : w6.ownsRow 0 9 1 (.slice (some ⟨gk, 0, none⟩) (l.length + 1) ck) (l.length + 1) _ := Ux.own_touch (Ux.own_touch (K9.out.1) S5 (fun _ _ f => f)) t17 hne9
        have hxg : ∀ (e : TypeId) (g c : Nat) (xs : List Value), w6.ownsRow 0 e 1 (.slice (some ⟨g, 0, none⟩) (l.length + 1) c) (l.length + 1) xs → e ≠ 62 → ∀ b, Value.ownBlock (.slice (some ⟨g, 0, none⟩) (l.length + 1) c) = some b → ¬ b = x := fun e g c xs h he b hb eq => by
          obtain ⟨a, _, cu, e1, _, _, hh1, _, _⟩ := Ux.own_pos h (by omega)
          cases e1
          cases hb
          have eq2 : g = x := eq
          rw [eq2, HXn.out] at hh1
          cases hh1
          exact he rfl
        rw [hW]
        refine put_leaf_end HI.out HH.out HFP.out.1 HFP.out.2.2.2.2 TT (NodeAt.lt HN.out) HFP.out.2.1 hxW (Ux.own_touch o9n TW (hxg _ _ _ _ o9n (by decide))) (Ux.own_touch K17.out.1 TW (hxg _ _ _ _ K17.out.1 (by decide))) ?_ ?_ hfW
        · rcases K9.out.2 with e | ⟨g, e, hg⟩
          · exact .inl e
          · exact .inr ⟨g, e, by have b := HT2.out.1.size; have c := T3.size; omega⟩
        · rcases K17.out.2 with e | ⟨g, e, hg⟩
          · exact .inl e
          · exact .inr ⟨g, e, by have b := HT2.out.1.size; have c := T5.size; omega⟩
      · go_wp2_with fail
        obtain ⟨w4, hw4⟩ : ∃ w4, w3.alloc (.cells #[.int .i64 v] 3) = w4 := ⟨_, rfl⟩
        rw [hw4]
        have S4 : Ux.Touch (fun _ => False) w3 w4 := by rw [← hw4]; exact ((Ux.Touch.refl (fun _ => False) w3).alloc _)
        have T4 : Ux.Touch (fun _ => False) w2 w4 := (T3).trans S4 (fun _ _ f => f.elim)
        have V16 : w4.heap[w3.heap.size]? = some (.cells #[.int .i64 v] 3 (0, 0)) := by rw [← hw4]; exact heap_alloc_new w3 _
        have gvc : w.heap.size ≤ w3.heap.size := by have a := HT2.out.1.size; have b := (T3).size; omega
        have Z16 := Lib.hid (And.intro V16 gvc)
        clear hw4 V16 gvc
        have Z8 := Lib.hid (And.intro (S4.heap Z8.out.1 (fun f => f)) Z8.out.2)
        refine ⟨⟨HSS.out _ ((T4).mono (fun _ _ f => f.elim)), (HSS.out _ ((T4).mono (fun _ _ f => f.elim))).2.2.2⟩, ?_⟩
        go_wp2_with fail
        refine (insertS kv l.length i w2.heap.size _ (.string k) w4 (Ux.own_touch HO.out.1 T4 (fun _ _ f => f)) HI.out.2 (by have := HB.out; omega) (by intro u hu; obtain ⟨p, _, rfl⟩ := List.mem_map.1 hu; rfl) rfl Z8.out.1 (fun e => by have := HL.out.1 _ e; have := Z8.out.2; omega)).mono ?_
        rintro e w5 ⟨kv1, rfl, o9, t9, b9⟩
        obtain ⟨gk, ck, curk, rfl, _, _, _, _, _⟩ := Ux.own_pos o9 (by omega)
        have T5 : Ux.Touch (fun b => kv.ownBlock = some b) w2 w5 := ((T4).mono (fun _ _ f => f.elim) : Ux.Touch (fun b => kv.ownBlock = some b) w2 w4).trans t9 (fun _ _ h => h)
        have K9 := Lib.hid (And.intro o9 b9)
        have Z16 := Lib.hid (And.intro (t9.heap Z16.out.1 (fun h => by have := HL.out.1 _ h; have := Z16.out.2; omega)) Z16.out.2)
        clear o9 b9
        go_wp2_with fail
        refine ⟨⟨HSS.out _ ((T5).mono (fun _ _ h => .inl h)), (HSS.out _ ((T5).mono (fun _ _ h => .inl h))).2.2.2⟩, ?_⟩
        go_wp2_with fail
        refine (insertI rv l.length i w3.heap.size _ (.int .i64 v) w5 (Ux.own_touch HO.out.2 T5 (fun b hb h => HL.out.2.2 b h hb)) HI.out.2 (by have := HB.out; omega) (by intro u hu; obtain ⟨p, _, rfl⟩ := List.mem_map.1 hu; rfl) rfl Z16.out.1 (fun e => by have := HL.out.2.1 _ e; have := Z16.out.2; omega)).mono ?_
        rintro e w6 ⟨rv1, rfl, o17, t17, b17⟩
        obtain ⟨gv, cv, curv, rfl, _, _, _, _, _⟩ := Ux.own_pos o17 (by omega)
        have T6 : Ux.Touch (fun b => kv.ownBlock = some b ∨ rv.ownBlock = some b) w2 w6 := ((T5).mono (fun _ _ h => .inl h) : Ux.Touch (fun b => kv.ownBlock = some b ∨ rv.ownBlock = some b) w2 w5).trans t17 (fun _ _ h => .inr h)
        have K17 := Lib.hid (And.intro o17 b17)
        clear o17 b17
        go_wp2_with fail
        refine ⟨⟨HSS.out _ (T6), (HSS.out _ (T6)).2.2.2⟩, ?_⟩
        obtain ⟨e0, _, e1, er⟩ := HSS.out _ T6
        have hx6 := T6.heap (HT2.out.1.heap H12.out.1 (fun e => HFP.out.2.2.2.2 (by rw [HFP.out.1, ← e]; simp))) (fun h => (HRR.out _ h).2 rfl)
        have fr6 : ∀ i, w6.frozen? ⟨x, i, none⟩ = false := fun i => frozen_of_row w6 x i _ 62 hx6
        have HXn := Lib.hid hx6
        clear hx6
        repeat (first
          | go_big_quiet_step (fail)
          | (with_reducible refine wpQuiet_nil ?_)
          | (refine Ux.quiet_held rfl ?_; apply Exists.intro; refine ⟨fun w' hS => ?_, ?_⟩; (focus ((try dsimp only at hS); go_simp; first | done | with_reducible rfl)); simp only [Act.put, List.setIfInBounds_toArray, List.set_cons_zero, List.set_cons_succ]))
        go_wp2_with fail
        have er2 : (w6.setCell ⟨x, 0, none⟩ (.slice (some ⟨gk, 0, none⟩) (l.length + 1) ck)).cell? ⟨br, 0, none⟩ = some (.int .i64 v) := ((Ux.Touch.refl (fun b => b = x) w6).setCell (p := ⟨x, 0, none⟩) (fun _ => rfl) _).cell er (fun e => HFP.out.2.2.2.1 (by rw [HFP.out.1, show br = x from e]; simp))
        refine ⟨er2, ?_⟩
        go_wp2
        go_returns
        obtain ⟨W, hW⟩ : ∃ W, ((w6.setCell ⟨x, 0, none⟩ (.slice (some ⟨gk, 0, none⟩) (l.length + 1) ck)).setCell ⟨x, 1, none⟩ (.slice (some ⟨gv, 0, none⟩) (l.length + 1) cv)) = W := ⟨_, rfl⟩
        have TW : Ux.Touch (fun b => b = x) w6 W := by rw [← hW]; exact ((Ux.Touch.refl (fun b => b = x) w6).setCell (p := ⟨x, 0, none⟩) (fun _ => rfl) _).setCell (p := ⟨x, 1, none⟩) (fun _ => rfl) _
        have hxW : W.heap[x]? = some (.cells #[.slice (some ⟨gk, 0, none⟩) (l.length + 1) ck, .slice (some ⟨gv, 0, none⟩) (l.length + 1) cv, .slice none 0 0] 62 (0, 0)) := by
          rw [← hW]
          have a := heap_setCell_same w6 x 0 _ 62 (.slice (some ⟨gk, 0, none⟩) (l.length + 1) ck) HXn.out
          have b := heap_setCell_same _ x 1 _ 62 (.slice (some ⟨gv, 0, none⟩) (l.length + 1) cv) a
          simpa using b
        have mk : ∀ b, kv.ownBlock = some b → b ∈ fp := fun b h => (HRR.out b (.inl h)).1
        have mr : ∀ b, rv.ownBlock = some b → b ∈ fp := fun b h => (HRR.out b (.inr h)).1
        have mx : x ∈ fp := by rw [HFP.out.1]; simp
        have hfW : W.heap[bf]? = some (.cells #[.bool true] 4 (0, 0)) := TW.heap (T6.heap HT2.out.2 (fun h => HFP.out.2.2.2.2 (HRR.out _ h).1)) (fun e => HFP.out.2.2.2.2 (e ▸ mx))
        have TT : Ux.Touch (fun b => b ∈ fp ∨ b = bf) w W := ((HT2.out.1.mono (fun b _ h => .inr h) : Ux.Touch (fun b => b ∈ fp ∨ b = bf) w w2).trans T6 (fun b _ h => .inl (HRR.out b h).1)).trans TW (fun b _ h => .inl (h ▸ mx))
        have o9 := K9.out.1
        have hne9 : ∀ b, Value.ownBlock (.slice (some ⟨gk, 0, none⟩) (l.length + 1) ck) = some b → ¬ rv.ownBlock = some b := fun b hb h => by
          cases hb
          rcases K9.out.2 with e | ⟨g, e, hg⟩
          · exact HL.out.2.2 gk e.symm h
          · cases e; have a := HL.out.2.1 _ h; have b := HT2.out.1.size; have c := T4.size; omega
        have o9n : w6.ownsRow 0 9 1 (.slice (some ⟨gk, 0, none⟩) (l.length + 1) ck) (l.length + 1) _ := Ux.own_touch K9.out.1 t17 hne9
        have hxg : ∀ (e : TypeId) (g c : Nat) (xs : List Value), w6.ownsRow 0 e 1 (.slice (some ⟨g, 0, none⟩) (l.length + 1) c) (l.length + 1) xs → e ≠ 62 → ∀ b, Value.ownBlock (.slice (some ⟨g, 0, none⟩) (l.length + 1) c) = some b → ¬ b = x := fun e g c xs h he b hb eq => by
          obtain ⟨a, _, cu, e1, _, _, hh1, _, _⟩ := Ux.own_pos h (by omega)
          cases e1
          cases hb
          have eq2 : g = x := eq
          rw [eq2, HXn.out] at hh1
          cases hh1
          exact he rfl
        rw [hW]
        refine put_leaf_end HI.out HH.out HFP.out.1 HFP.out.2.2.2.2 TT (NodeAt.lt HN.out) HFP.out.2.1 hxW (Ux.own_touch o9n TW (hxg _ _ _ _ o9n (by decide))) (Ux.own_touch K17.out.1 TW (hxg _ _ _ _ K17.out.1 (by decide))) ?_ ?_ hfW
        · rcases K9.out.2 with e | ⟨g, e, hg⟩
          · exact .inl e
          · exact .inr ⟨g, e, by have b := HT2.out.1.size; have c := T4.size; omega⟩
        · rcases K17.out.2 with e | ⟨g, e, hg⟩
          · exact .inl e
          · exact .inr ⟨g, e, by have b := HT2.out.1.size; have c := T5.size; omega⟩
    · go_wp2_with fail
      obtain ⟨w3, hw3⟩ : ∃ w3, (w2.alloc (.cells #[.int .i64 v] 3)).drew = w3 := ⟨_, rfl⟩
      rw [hw3]
      have S3 : Ux.Touch (fun _ => False) w2 w3 := by rw [← hw3]; exact ((Ux.Touch.refl (fun _ => False) w2).alloc _).drew
      have T3 : Ux.Touch (fun _ => False) w2 w3 := ((Ux.Touch.refl (fun _ => False) w2)).trans S3 (fun _ _ f => f.elim)
      have V16 : w3.heap[w2.heap.size]? = some (.cells #[.int .i64 v] 3 (0, 0)) := by rw [← hw3]; exact heap_alloc_new w2 _
      have gvc : w.heap.size ≤ w2.heap.size := by have a := HT2.out.1.size; have b := ((Ux.Touch.refl (fun _ => False) w2)).size; omega
      have Z16 := Lib.hid (And.intro V16 gvc)
      clear hw3 V16 gvc
      refine ⟨⟨HSS.out _ ((T3).mono (fun _ _ f => f.elim)), (HSS.out _ ((T3).mono (fun _ _ f => f.elim))).2.2.2⟩, ?_⟩
      go_wp2_with fail
      obtain ⟨w4, hw4⟩ : ∃ w4, w3.alloc (.cells #[.string k] 9) = w4 := ⟨_, rfl⟩
      rw [hw4]
      have S4 : Ux.Touch (fun _ => False) w3 w4 := by rw [← hw4]; exact ((Ux.Touch.refl (fun _ => False) w3).alloc _)
      have T4 : Ux.Touch (fun _ => False) w2 w4 := (T3).trans S4 (fun _ _ f => f.elim)
      have V8 : w4.heap[w3.heap.size]? = some (.cells #[.string k] 9 (0, 0)) := by rw [← hw4]; exact heap_alloc_new w3 _
      have gva : w.heap.size ≤ w3.heap.size := by have a := HT2.out.1.size; have b := (T3).size; omega
      have Z8 := Lib.hid (And.intro V8 gva)
      clear hw4 V8 gva
      have Z16 := Lib.hid (And.intro (S4.heap Z16.out.1 (fun f => f)) Z16.out.2)
      refine ⟨⟨HSS.out _ ((T4).mono (fun _ _ f => f.elim)), (HSS.out _ ((T4).mono (fun _ _ f => f.elim))).2.2.2⟩, ?_⟩
      go_wp2_with fail
      refine (insertS kv l.length i w3.heap.size _ (.string k) w4 (Ux.own_touch HO.out.1 T4 (fun _ _ f => f)) HI.out.2 (by have := HB.out; omega) (by intro u hu; obtain ⟨p, _, rfl⟩ := List.mem_map.1 hu; rfl) rfl Z8.out.1 (fun e => by have := HL.out.1 _ e; have := Z8.out.2; omega)).mono ?_
      rintro e w5 ⟨kv1, rfl, o9, t9, b9⟩
      obtain ⟨gk, ck, curk, rfl, _, _, _, _, _⟩ := Ux.own_pos o9 (by omega)
      have T5 : Ux.Touch (fun b => kv.ownBlock = some b) w2 w5 := ((T4).mono (fun _ _ f => f.elim) : Ux.Touch (fun b => kv.ownBlock = some b) w2 w4).trans t9 (fun _ _ h => h)
      have K9 := Lib.hid (And.intro o9 b9)
      have Z16 := Lib.hid (And.intro (t9.heap Z16.out.1 (fun h => by have := HL.out.1 _ h; have := Z16.out.2; omega)) Z16.out.2)
      clear o9 b9
      go_wp2_with fail
      refine ⟨⟨HSS.out _ ((T5).mono (fun _ _ h => .inl h)), (HSS.out _ ((T5).mono (fun _ _ h => .inl h))).2.2.2⟩, ?_⟩
      go_wp2_with fail
      refine (insertI rv l.length i w2.heap.size _ (.int .i64 v) w5 (Ux.own_touch HO.out.2 T5 (fun b hb h => HL.out.2.2 b h hb)) HI.out.2 (by have := HB.out; omega) (by intro u hu; obtain ⟨p, _, rfl⟩ := List.mem_map.1 hu; rfl) rfl Z16.out.1 (fun e => by have := HL.out.2.1 _ e; have := Z16.out.2; omega)).mono ?_
      rintro e w6 ⟨rv1, rfl, o17, t17, b17⟩
      obtain ⟨gv, cv, curv, rfl, _, _, _, _, _⟩ := Ux.own_pos o17 (by omega)
      have T6 : Ux.Touch (fun b => kv.ownBlock = some b ∨ rv.ownBlock = some b) w2 w6 := ((T5).mono (fun _ _ h => .inl h) : Ux.Touch (fun b => kv.ownBlock = some b ∨ rv.ownBlock = some b) w2 w5).trans t17 (fun _ _ h => .inr h)
      have K17 := Lib.hid (And.intro o17 b17)
      clear o17 b17
      go_wp2_with fail
      refine ⟨⟨HSS.out _ (T6), (HSS.out _ (T6)).2.2.2⟩, ?_⟩
      obtain ⟨e0, _, e1, er⟩ := HSS.out _ T6
      have hx6 := T6.heap (HT2.out.1.heap H12.out.1 (fun e => HFP.out.2.2.2.2 (by rw [HFP.out.1, ← e]; simp))) (fun h => (HRR.out _ h).2 rfl)
      have fr6 : ∀ i, w6.frozen? ⟨x, i, none⟩ = false := fun i => frozen_of_row w6 x i _ 62 hx6
      have HXn := Lib.hid hx6
      clear hx6
      repeat (first
        | go_big_quiet_step (fail)
        | (with_reducible refine wpQuiet_nil ?_)
        | (refine Ux.quiet_held rfl ?_; apply Exists.intro; refine ⟨fun w' hS => ?_, ?_⟩; (focus ((try dsimp only at hS); go_simp; first | done | with_reducible rfl)); simp only [Act.put, List.setIfInBounds_toArray, List.set_cons_zero, List.set_cons_succ]))
      go_wp2_with fail
      have er2 : (w6.setCell ⟨x, 0, none⟩ (.slice (some ⟨gk, 0, none⟩) (l.length + 1) ck)).cell? ⟨br, 0, none⟩ = some (.int .i64 v) := ((Ux.Touch.refl (fun b => b = x) w6).setCell (p := ⟨x, 0, none⟩) (fun _ => rfl) _).cell er (fun e => HFP.out.2.2.2.1 (by rw [HFP.out.1, show br = x from e]; simp))
      refine ⟨er2, ?_⟩
      go_wp2
      go_returns
      obtain ⟨W, hW⟩ : ∃ W, ((w6.setCell ⟨x, 0, none⟩ (.slice (some ⟨gk, 0, none⟩) (l.length + 1) ck)).setCell ⟨x, 1, none⟩ (.slice (some ⟨gv, 0, none⟩) (l.length + 1) cv)) = W := ⟨_, rfl⟩
      have TW : Ux.Touch (fun b => b = x) w6 W := by rw [← hW]; exact ((Ux.Touch.refl (fun b => b = x) w6).setCell (p := ⟨x, 0, none⟩) (fun _ => rfl) _).setCell (p := ⟨x, 1, none⟩) (fun _ => rfl) _
      have hxW : W.heap[x]? = some (.cells #[.slice (some ⟨gk, 0, none⟩) (l.length + 1) ck, .slice (some ⟨gv, 0, none⟩) (l.length + 1) cv, .slice none 0 0] 62 (0, 0)) := by
        rw [← hW]
        have a := heap_setCell_same w6 x 0 _ 62 (.slice (some ⟨gk, 0, none⟩) (l.length + 1) ck) HXn.out
        have b := heap_setCell_same _ x 1 _ 62 (.slice (some ⟨gv, 0, none⟩) (l.length + 1) cv) a
        simpa using b
      have mk : ∀ b, kv.ownBlock = some b → b ∈ fp := fun b h => (HRR.out b (.inl h)).1
      have mr : ∀ b, rv.ownBlock = some b → b ∈ fp := fun b h => (HRR.out b (.inr h)).1
      have mx : x ∈ fp := by rw [HFP.out.1]; simp
      have hfW : W.heap[bf]? = some (.cells #[.bool true] 4 (0, 0)) := TW.heap (T6.heap HT2.out.2 (fun h => HFP.out.2.2.2.2 (HRR.out _ h).1)) (fun e => HFP.out.2.2.2.2 (e ▸ mx))
      have TT : Ux.Touch (fun b => b ∈ fp ∨ b = bf) w W := ((HT2.out.1.mono (fun b _ h => .inr h) : Ux.Touch (fun b => b ∈ fp ∨ b = bf) w w2).trans T6 (fun b _ h => .inl (HRR.out b h).1)).trans TW (fun b _ h => .inl (h ▸ mx))
      have o9 := K9.out.1
      have hne9 : ∀ b, Value.ownBlock (.slice (some ⟨gk, 0, none⟩) (l.length + 1) ck) = some b → ¬ rv.ownBlock = some b := fun b hb h => by
        cases hb
        rcases K9.out.2 with e | ⟨g, e, hg⟩
        · exact HL.out.2.2 gk e.symm h
        · cases e; have a := HL.out.2.1 _ h; have b := HT2.out.1.size; have c := T4.size; omega
      have o9n : w6.ownsRow 0 9 1 (.slice (some ⟨gk, 0, none⟩) (l.length + 1) ck) (l.length + 1) _ := Ux.own_touch K9.out.1 t17 hne9
      have hxg : ∀ (e : TypeId) (g c : Nat) (xs : List Value), w6.ownsRow 0 e 1 (.slice (some ⟨g, 0, none⟩) (l.length + 1) c) (l.length + 1) xs → e ≠ 62 → ∀ b, Value.ownBlock (.slice (some ⟨g, 0, none⟩) (l.length + 1) c) = some b → ¬ b = x := fun e g c xs h he b hb eq => by
        obtain ⟨a, _, cu, e1, _, _, hh1, _, _⟩ := Ux.own_pos h (by omega)
        cases e1
        cases hb
        have eq2 : g = x := eq
        rw [eq2, HXn.out] at hh1
        cases hh1
        exact he rfl
      rw [hW]
      refine put_leaf_end HI.out HH.out HFP.out.1 HFP.out.2.2.2.2 TT (NodeAt.lt HN.out) HFP.out.2.1 hxW (Ux.own_touch o9n TW (hxg _ _ _ _ o9n (by decide))) (Ux.own_touch K17.out.1 TW (hxg _ _ _ _ K17.out.1 (by decide))) ?_ ?_ hfW
      · rcases K9.out.2 with e | ⟨g, e, hg⟩
        · exact .inl e
        · exact .inr ⟨g, e, by have b := HT2.out.1.size; have c := T4.size; omega⟩
      · rcases K17.out.2 with e | ⟨g, e, hg⟩
        · exact .inl e
        · exact .inr ⟨g, e, by have b := HT2.out.1.size; have c := T5.size; omega⟩

end Go.Proofs.Ytdfgpminonpeaaa
