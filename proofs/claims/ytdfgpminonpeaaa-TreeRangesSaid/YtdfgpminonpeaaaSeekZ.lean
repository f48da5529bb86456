/- PART OF THE PROOF THAT THIS CLAIM HOLDS OF THE GIVEN PROGRAM, FOR EVERY INPUT THAT THE STATEMENT NAMES. No condition besides the statement's own. -/
import Derived.Test.YtdfgpminonpeaaaUxCurAllZ
import Derived.Test.YtdfgpminonpeaaaCurcZ
import Derived.Test.YtdfgpminonpeaaaRows
import Derived.WalkKit
import Derived.Handy
import Derived.Laws.EntriesVeiled
import Derived.WalkSpells
import Derived.WalkLawsBesides
import Derived.BigQuiet
import Derived.Deep.QuietTactic
import Derived.Deep.Cut
import Derived.Lib.Overlaps
import Derived.Laws.Externs
import Derived.Lib.Hide
import Derived.Test.YtdfgpminonpeaaaUxPlanAllZ
import Derived.Test.YtdfgpminonpeaaaUxTreeAllZ
import Derived.Deep.LoopGhost
namespace Go.Proofs.Ytdfgpminonpeaaa
open Go.RowKit
-- imports: UxCur3 YtdfgpminonpeaaaCurc
open Ux (slt lb has Rises T NodeAt NodesAt Shp wayN blk ptr flat flats keys ins Up CurAt FrAt Fr frCells Stands Ctx ahead TypeIn Go1Rel CurLeft SeekRel seekN)

/-- what Seek gives -/
def SeekPost (w : World) (root : T) (FP : List Nat) (q : Nat) (e : Ending) (w' : World) : Prop :=
  ∃ cb fc, e = .returned (.pointer (some ⟨cb, 0, none⟩)) ∧ CurAt w' cb root FP (if q < (flat root).length then some q else none) fc ∧ (∀ b ∈ fc, w.heap.size ≤ b) ∧ Ux.Touch (fun _ => False) w w'

/-- a frame pushed upon the cursor's row, and stored -/
theorem push_store (wr : World) (cb : Nat) (lv : Value) (n : Nat) (xs : List Value) (y : Nat) (v : Int) (W0 : World) (vb : Nat) (h1 : wr.heap[cb]? = some (.cells #[lv] 75 (0, 0))) (h2 : wr.ownsRow 0 77 2 lv n xs) (hn : n ≤ 1000000)
    (hW0 : Ux.Touch (fun _ => False) wr W0) (hv : W0.heap[vb]? = some (.cells #[.pointer (some ⟨y, 0, none⟩), .int .i64 v] 77 (0, 0))) :
    ∃ ga ca wa, (∀ ty, (Builtin.append_ #[73, 73] ty #[lv, .slice (some ⟨vb, 0, none⟩) 1 1]).run Try.prog W0 = .ok (.slice (some ⟨ga, 0, none⟩) (n + 1) ca) wa) ∧
      wa.ownsRow 0 77 2 (.slice (some ⟨ga, 0, none⟩) (n + 1) ca) (n + 1) (xs ++ [.pointer (some ⟨y, 0, none⟩), .int .i64 v]) ∧ Ux.Touch (fun k => lv.ownBlock = some k) wr wa ∧ (lv.ownBlock = some ga ∨ wr.heap.size ≤ ga) ∧ ga ≠ cb ∧
      wa.heap[cb]? = some (.cells #[lv] 75 (0, 0)) ∧ wa.cell? ⟨cb, 0, none⟩ = some lv ∧ wa.frozen? ⟨cb, 0, none⟩ = false ∧
      (wa.setCell ⟨cb, 0, none⟩ (.slice (some ⟨ga, 0, none⟩) (n + 1) ca)).heap[cb]? = some (.cells #[.slice (some ⟨ga, 0, none⟩) (n + 1) ca] 75 (0, 0)) ∧ wa.heap[ga]? ≠ none := by
  obtain ⟨ga, ca, wa, hap, oa, ta, ba⟩ := push77 W0 lv n xs (.pointer (some ⟨y, 0, none⟩)) (.int .i64 v) vb (Ux.own_touch h2 hW0 (fun _ _ f => f)) hv rfl rfl hn
  have hne : lv.ownBlock ≠ some cb := fun e => by
    rcases h2.2 with ⟨rfl, _⟩ | ⟨g, c, cur, rfl, _, hh, _⟩
    · cases e
    · cases e
      rw [h1] at hh
      cases hh
  have TA : Ux.Touch (fun k => lv.ownBlock = some k) wr wa := (hW0.mono (fun _ _ f => f.elim) : Ux.Touch (fun k => lv.ownBlock = some k) wr W0).trans ta (fun b _ h => h)
  have hca := TA.heap h1 hne
  obtain ⟨ga', ca', cur, e, _, _, hh, _, _⟩ := Ux.own_pos oa (by omega)
  cases e
  refine ⟨ga, ca, wa, hap, oa, TA, ba.imp id (fun h => Nat.le_trans hW0.size h), fun e => ?_, hca, by rw [cell_of_row wa cb 0 _ 75 (0, 0) hca]; rfl, frozen_of_row wa cb 0 _ 75 hca, ?_, by rw [hh]; exact fun h => by cases h⟩
  · rw [e, hca] at hh
    cases hh
  · have a := heap_setCell_same wa cb 0 _ 75 (.slice (some ⟨ga, 0, none⟩) (n + 1) ca) hca
    simpa using a

theorem seek_ready {w wa W : World} {cb y ga ca i q : Nat} {root : T} {FP : List Nat} {pre : List Fr} {l : List (ByteArray × Int)} {a b : List (ByteArray × Int)} {v : Int} (hcb : w.heap.size ≤ cb) (hFP : ∀ b ∈ FP, b < w.heap.size)
    (k5 : ∀ f ∈ pre, FrAt w FP f.1 f.2.1) (k6 : FrAt w FP (.leaf l) y) (k7 : Ctx root pre (.leaf l) a b) (oa : wa.ownsRow 0 77 2 (.slice (some ⟨ga, 0, none⟩) (pre.length + 1) ca) (pre.length + 1) (frCells pre ++ [.pointer (some ⟨y, 0, none⟩), .int .i64 v]))
    (hv : v = (i : Int) - 1) (TW : Ux.Touch (fun _ => False) w wa) (hW : Ux.Touch (fun b => b = cb) wa W) (hne : ga ≠ cb) (hst : W.heap[cb]? = some (.cells #[.slice (some ⟨ga, 0, none⟩) (pre.length + 1) ca] 75 (0, 0))) (hi : i ≤ l.length) (hq : q = a.length + i) :
    Go1Rel W cb root FP [cb, ga] q (pre.length + 1) W := by
  subst hv
  have TW' : Ux.Touch (fun _ => False) w W := TW.trans hW (fun b hb e => by omega)
  refine ⟨_, _, hst, Ux.own_touch oa hW (fun b hb e => by cases hb; exact hne e), fun b hb => ?_, Ux.Touch.refl _ _, .inr ⟨pre, .leaf l, y, i, a, b, rfl, rfl, fun f hf => (k5 f hf).touch TW' (fun _ _ f => f), k6.touch TW' (fun _ _ f => f), k7, hi, hq⟩⟩
  simp [blk, Value.ownBlock] at hb
  simp [hb]

set_option maxHeartbeats 4000000 in
set_option maxRecDepth 100000 in
theorem seek11 (fan d : Nat) (root : T) (tb x : Nat) (FP : List Nat) (k : ByteArray) (over : Bool) (w : World) (hf : 4 ≤ fan) (h64 : fan ≤ 64) (hg : Ux.Good fan d root) (hs : root.size ≤ fan) (hd : d ≤ 1000) (hu : Up (flat root))
    (c2 : w.cell? ⟨tb, 2, none⟩ = some (.pointer (some ⟨x, 0, none⟩))) (hx : FrAt w FP root x) (hFP : ∀ b ∈ FP, b < w.heap.size) :
    Calls Try.prog 11 #[.pointer (some ⟨tb, 0, none⟩), .string k, .bool over] w (SeekPost w root FP (seekN (flat root) k over)) := by
  have HG := Lib.hid (And.intro hf (And.intro h64 (And.intro hg (And.intro hs (And.intro hd (And.intro hu (And.intro hx hFP)))))))
  clear hf h64 hg hs hd hu hx hFP
  obtain ⟨cb, hcb⟩ : ∃ cb, w.heap.size = cb := ⟨_, rfl⟩
  obtain ⟨W0, hW0⟩ : ∃ W0, w.alloc (.cells #[.slice none 0 0] 75) = W0 := ⟨_, rfl⟩
  have T0 : Ux.Touch (fun _ => False) w W0 := by rw [← hW0]; exact (Ux.Touch.refl _ w).alloc _
  have hb0 : W0.heap[cb]? = some (.cells #[.slice none 0 0] 75 (0, 0)) := by rw [← hW0, ← hcb]; exact heap_alloc_new w _
  have c2' := T0.cell c2 (fun f => f)
  have H0 := Lib.hid (And.intro T0 hb0)
  have HCB := Lib.hid hcb
  clear T0 hb0 c2
  go_enter Try.func11, Try.ntmps11
  go_wp2
  go_loopg [8] d (fun g s wr => ∃ y, s = .pointer (some ⟨y, 0, none⟩) ∧ SeekRel fan w cb root FP k g y wr)
  case atStart =>
    exact ⟨x, rfl, [], root, .slice none 0 0, [], [], H0.out.2, World.ownsRow_nil W0 0 77 2, (fun b hb => by cases hb), H0.out.1, (fun f hf => by cases hf), HG.out.2.2.2.2.2.2.1, .nil, HG.out.2.2.1, (fun p hp => by cases hp), fun p hp => by cases hp⟩
  case round =>
    clear c2' hW0
    obtain ⟨y, rfl, pre, t, lv, a, b, k1, k2, k3, k4, k5, k6, k7, k8, k9, k10⟩ := hrel
    obtain ⟨dd, gd, hdd, _, hzz⟩ := k7.good HG.out.1 HG.out.2.2.1 HG.out.2.2.2.1
    have hyF := k6.mem
    have hlt : ∀ b ∈ FP, b < cb := fun b hb => HCB.out ▸ HG.out.2.2.2.2.2.2.2 b hb
    have c0 : wr.cell? ⟨cb, 0, none⟩ = some lv := by rw [cell_of_row wr cb 0 _ 75 (0, 0) k1]; rfl
    have hdp : pre.length ≤ 1000 := by have := HG.out.2.2.2.2.1; omega
    cases t with
    | node ks cs =>
      obtain ⟨g', rfl⟩ : ∃ g', gk = g' + 1 := by
        cases gk with
        | zero => obtain ⟨l, e⟩ := k8; cases e
        | succ g' => exact ⟨g', rfl⟩
      have hl : cs.length = ks.length + 1 := by obtain ⟨_, _, e, h, _⟩ := k8; cases e; exact h
      have hr := Ux.Good.rises HG.out.1 k8
      obtain ⟨c, hc⟩ := Ux.way_some (fan := fan) (d := g') hl k
      obtain ⟨gx, cx, z, m0, m1, hz, m3, m4, _, hgF⟩ := k6.kid hc
      have n0 := k4.cell m0 (fun f => f)
      have n1 := k4.cell m1 (fun f => f)
      have hsz : cs.length ≤ 64 := Nat.le_trans hzz HG.out.2.1
      obtain ⟨kv, q0, q1⟩ := (k6.touch k4 (fun _ _ f => f)).keysN
      have WAY := way33 y kv ks k wr q0 q1 hr (by omega)
      obtain ⟨i, hi⟩ : ∃ i, wayN ks k = i := ⟨_, rfl⟩
      rw [hi] at WAY hc n1
      have hil := (List.getElem?_eq_some_iff.1 hc).1
      obtain ⟨ga, ca, wa, hap, oa, TA, ba, hne, hca, dca, fca, hst, _⟩ := push_store wr cb lv pre.length (frCells pre) y (i : Int) (wr.alloc (.cells #[.pointer (some ⟨y, 0, none⟩), .int .i64 (i : Int)] 77)) wr.heap.size k1 k2 (by omega) ((Ux.Touch.refl _ wr).alloc _) (heap_alloc_new wr _)
      have hnl : ∀ b ∈ FP, ¬ lv.ownBlock = some b := fun b hb e => by have := k3 b (by simp [blk, e]); have := hlt b hb; have := HCB.out; omega
      have n0' := TA.cell n0 (hnl y hyF)
      have n1' := TA.cell n1 (hnl gx hgF)
      have y1 : ¬ y = cb := by have := hlt y hyF; omega
      have y2 : ¬ gx = cb := by have := hlt gx hgF; omega
      have y3 : ¬ cb = y := by omega
      have y4 : ¬ cb = gx := by omega
      have p1 : (i : Int) < cs.length := by omega
      have p2 : (cs.length : Int) ≤ 64 := by omega
      have p3 : (0 : Int) ≤ i := by omega
      obtain ⟨N, hN⟩ : ∃ N, cs.length = N := ⟨_, rfl⟩
      rw [hN] at n0 n0' p1 p2
      have HWAY := Lib.hid WAY
      have HAP := Lib.hid hap
      have A := Lib.hid (And.intro oa (And.intro TA (And.intro ba (And.intro hne (And.intro hca hst)))))
      have K := Lib.hid (And.intro k1 (And.intro k2 (And.intro k3 (And.intro k4 (And.intro k5 (And.intro k6 (And.intro k7 (And.intro k8 (And.intro k9 (And.intro k10 (And.intro hz (And.intro hc hi))))))))))))
      clear WAY hap oa TA ba hne hca hst k1 k2 k3 k4 k5 k6 k7 k8 k9 k10 hz hc hi hnl m0 m1 m3 m4 q0 q1 hgF hyF hsz hil hl hr hN hdp hlt gd hdd hzz
      go_wp2_with (first | (go_at_call 33; refine HWAY.out.mono ?_; rintro e w' ⟨rfl, rfl⟩) | (at_builtin; refine Lib.wpList_append_run _ rfl _ _ _ _ rfl _ _ rfl rfl _ _ (HAP.out _) ?_))
      go_roundg g'
      case measure => omega
      case rel =>
        obtain ⟨k1, k2, k3, k4, k5, k6, k7, k8, k9, k10, hz, hc, hi⟩ := K.out
        obtain ⟨oa, TA, ba, hne, hca, hst⟩ := A.out
        refine ⟨z, rfl, Ux.seek_step (by have := HCB.out; omega) HG.out.1 k5 k6 k7 (by rw [hi]; exact hc) k8 k9 k10 hz (by rw [hi]; exact oa) (k4.trans TA (fun b hb e => ?_)) ((Ux.Touch.refl (fun b => b = cb) wa).setCell (p := ⟨cb, 0, none⟩) (fun _ => rfl) _) hst ?_⟩
        · have := k3 b (by simp [blk, e]); omega
        · intro b hb
          simp [blk, Value.ownBlock] at hb
          subst hb
          refine ⟨?_, hne⟩
          rcases ba with h | h
          · exact k3 _ (by simp [blk, h])
          · have := k4.size; omega
    | leaf l' =>
      have hup : Up l' := by
        have := HG.out.2.2.2.2.2.1
        rw [k7.flat] at this
        exact (Ux.up_append (Ux.up_append this).2).1
      obtain ⟨kv, q0, q1⟩ := (k6.touch k4 (fun _ _ f => f)).keysL
      have c2 := (k6.touch k4 (fun _ _ f => f)).leaf.1
      have hsz : l'.length ≤ 64 := Nat.le_trans hzz HG.out.2.1
      have SR := search30 kv (keys l') k wr q1 hup.rises (by rw [Ux.keys_length]; omega)
      have hsk := Ux.seekN_mid (C := l') (over := over) k9 k10
      have hfl : flat root = a ++ (l' ++ b) := k7.flat
      rw [← hfl] at hsk
      have hle := Ux.seekN_le l' k over
      have hge : Ux.seekN l' k over = lb (keys l') k + if (has (keys l') k && over) = true then 1 else 0 := rfl
      obtain ⟨p, hp⟩ : ∃ p, lb (keys l') k = p := ⟨_, rfl⟩
      obtain ⟨hh, hhh⟩ : ∃ hh, has (keys l') k = hh := ⟨_, rfl⟩
      rw [hp, hhh] at SR hge
      have p1 : (p : Int) ≤ 64 := by
        have := Ux.lb_le (keys l') k
        rw [Ux.keys_length, hp] at this
        omega
      have p0 : (0 : Int) ≤ p := by omega
      obtain ⟨v, hv⟩ : ∃ v, v = (Ux.seekN l' k over : Int) - 1 := ⟨_, rfl⟩
      obtain ⟨ga, ca, wa, hap, oa, TA, ba, hne, hca, dca, fca, hst, hgn⟩ := push_store wr cb lv pre.length (frCells pre) y v (wr.alloc (.cells #[.pointer (some ⟨y, 0, none⟩), .int .i64 v] 77)) wr.heap.size k1 k2 (by omega) ((Ux.Touch.refl _ wr).alloc _) (heap_alloc_new wr _)
      have TW : Ux.Touch (fun _ => False) w wa := k4.trans TA (fun b hb e => by have := k3 b (by simp [blk, e]); omega)
      have hcbs : w.heap.size ≤ cb := by have := HCB.out; omega
      have RDY := seek_ready hcbs HG.out.2.2.2.2.2.2.2 k5 k6 k7 oa hv TW ((Ux.Touch.refl (fun b => b = cb) wa).setCell (p := ⟨cb, 0, none⟩) (fun _ => rfl) _) hne hst hle hsk
      have hgaw : w.heap.size ≤ ga := by
        rcases ba with h | h
        · exact k3 _ (by simp [blk, h])
        · have := k4.size; omega
      have CALL := go1_37 fan d root cb FP [cb, ga] _ _ _ HG.out.1 HG.out.2.1 HG.out.2.2.1 HG.out.2.2.2.1 HG.out.2.2.2.2.1 (by simp) (fun b hb h => by
        have h1 := HG.out.2.2.2.2.2.2.2 b hb
        simp at h
        rcases h with h | h <;> omega) (by omega) RDY
      have TWW : Ux.Touch (fun _ => False) w (wa.setCell ⟨cb, 0, none⟩ (.slice (some ⟨ga, 0, none⟩) (pre.length + 1) ca)) := TW.trans ((Ux.Touch.refl (fun b => b = cb) wa).setCell (p := ⟨cb, 0, none⟩) (fun _ => rfl) _) (fun b hb e => by omega)
      have FIN : ∀ W, CurLeft (wa.setCell ⟨cb, 0, none⟩ (.slice (some ⟨ga, 0, none⟩) (pre.length + 1) ca)) cb root FP [cb, ga] (if Ux.seekN (flat root) k over < (flat root).length then some (Ux.seekN (flat root) k over) else none) W →
          SeekPost w root FP (Ux.seekN (flat root) k over) (.returned (.pointer (some ⟨cb, 0, none⟩))) W := fun W ⟨fc, h1, h2, h3⟩ => by
        refine ⟨cb, fc, rfl, h1, fun b hb => ?_, TWW.trans h3 (fun b hb h => by simp at h; rcases h with h | h <;> omega)⟩
        rcases h2 b hb with h | h
        · simp at h
          rcases h with h | h <;> omega
        · exact Nat.le_trans TWW.size h
      have HSR := Lib.hid SR
      have HAP := Lib.hid hap
      have HCALL := Lib.hid CALL
      have HFIN := Lib.hid FIN
      have HVV := Lib.hid (And.intro hv hge)
      clear SR hap oa TA ba hne hca hst hgn TW RDY CALL TWW FIN k1 k2 k3 k4 k5 k6 k7 k8 k9 k10 hup hsz hsk hfl hle q1 hp hhh hgaw hcbs hlt gd hdd hzz hyF hdp
      cases over <;> cases hh
      all_goals
        (have hvv := HVV.out.1
         rw [HVV.out.2] at hvv
         simp at hvv
         rw [hvv] at HAP
         clear hvv
         go_wp2_with (first | (go_at_call 30; refine HSR.out.mono ?_; rintro e w' ⟨rfl, rfl⟩) | (at_builtin; refine Lib.wpList_append_run _ rfl _ _ _ _ rfl _ _ rfl rfl _ _ (HAP.out _) ?_) | (go_at_call 37; refine HCALL.out.mono ?_; rintro e w' ⟨rfl, hl⟩; have HL := Lib.hid hl; clear hl))
         go_ret
         exact HFIN.out _ HL.out)

end Go.Proofs.Ytdfgpminonpeaaa
