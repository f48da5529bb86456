/- PART OF THE PROOF THAT THIS CLAIM HOLDS OF THE GIVEN PROGRAM, FOR EVERY INPUT THAT THE STATEMENT NAMES. No condition besides the statement's own. -/
import Derived.Test.YtdfgpminonpeaaaSeeksZ
import Derived.Test.YtdfgpminonpeaaaUxCurAllZ
import Derived.Test.YtdfgpminonpeaaaUxRngZ
import Derived.Test.YtdfgpminonpeaaaRows
import Derived.WalkKit
import Derived.Handy
import Derived.Laws.EntriesVeiled
import Derived.WalkSpells
import Derived.WalkLawsBesides
import Derived.BigQuiet
import Derived.Deep.QuietTactic
import Derived.Deep.Cut
import Derived.Deep.DeepCutAuto
import Derived.Lib.Overlaps
import Derived.Laws.Externs
import Derived.Lib.Hide
import Derived.Test.YtdfgpminonpeaaaUxPlanAllZ
import Derived.Test.YtdfgpminonpeaaaUxTreeAllZ
import Derived.Deep.LoopGhost
namespace Go.Proofs.Ytdfgpminonpeaaa
open Go.RowKit
-- imports: YtdfgpminonpeaaaSeeks UxThr UxRng
open Ux (slt lb has Rises keys ins del seekN)
attribute [local go_sem] Oper.semAt_some

/-- a tree all of whose blocks lie from N on, ahead of B -/
def HasTreeB (w : World) (tb fan : Nat) (l : List (ByteArray × Int)) (N B : Nat) : Prop := N ≤ tb ∧ tb < B ∧ ∃ t d x fp, TreeAt w tb fan l t d x fp ∧ ∀ b ∈ fp, N ≤ b ∧ b < B
theorem HasTree.bound {w : World} {tb fan : Nat} {l : List (ByteArray × Int)} {N : Nat} (h : HasTree w tb fan l N) : HasTreeB w tb fan l N w.heap.size := by
  obtain ⟨h1, t, d, x, fp, h2, h3⟩ := h
  exact ⟨h1, Ux.lt_of_heap h2.cell, t, d, x, fp, h2, fun b hb => ⟨h3 b hb, h2.node.lt b hb⟩⟩
theorem HasTreeB.touch {w w' : World} {tb fan : Nat} {l : List (ByteArray × Int)} {N B : Nat} {R : Nat → Prop} (h : HasTreeB w tb fan l N B) (ht : Ux.Touch R w w') (hn : ∀ b, b < B → ¬ R b) : HasTreeB w' tb fan l N B := by
  obtain ⟨h1, h0, t, d, x, fp, h2, h3⟩ := h
  exact ⟨h1, h0, t, d, x, fp, h2.touch ht (hn tb h0) (fun b hb => hn b (h3 b hb).2), h3⟩
theorem HasTreeB.tree {w : World} {tb fan : Nat} {l : List (ByteArray × Int)} {N B : Nat} (h : HasTreeB w tb fan l N B) : HasTree w tb fan l N := by
  obtain ⟨h1, h0, t, d, x, fp, h2, h3⟩ := h
  exact ⟨h1, t, d, x, fp, h2, fun b hb => (h3 b hb).1⟩
theorem HasTreeB.size {w : World} {tb fan : Nat} {l : List (ByteArray × Int)} {N B : Nat} (h : HasTreeB w tb fan l N B) (hB : w.heap.size ≤ B) : B = w.heap.size ∨ w.heap.size ≤ B := .inr hB

def CurNewB (w : World) (tb fan : Nat) (l : List (ByteArray × Int)) (N B : Nat) (o : Option Nat) (e : Ending) (w' : World) : Prop := ∃ cb fc, e = .returned (.pointer (some ⟨cb, 0, none⟩)) ∧ HasCur w' tb fan l N B cb o fc ∧ (∀ b ∈ fc, w.heap.size ≤ b) ∧ Ux.Touch (fun _ => False) w w'
theorem seekB {w : World} {tb fan : Nat} {l : List (ByteArray × Int)} {N B : Nat} (h : HasTreeB w tb fan l N B) (hl : l.length ≤ 1048576) (k : ByteArray) (over : Bool) :
    Calls Try.prog 11 #[.pointer (some ⟨tb, 0, none⟩), .string k, .bool over] w (CurNewB w tb fan l N B (seekO l k over)) := by
  obtain ⟨h1, h0, t, d, x, fp, h2, h3⟩ := h
  refine (seekT h2 hl k over).mono fun e w' ⟨cb, fc, he, hc, hf, ht⟩ => ⟨cb, fc, he, ⟨⟨h1, h0⟩, hl, t, d, x, fp, ⟨h2.touch ht (fun f => f) (fun _ _ f => f), hl, ?_⟩, h3⟩, hf, ht⟩
  rw [h2.is] at hc
  exact hc

/-- what the rounds of a range are handed: J between two of them; C: the blocks that a round may turn -/
structure Rounds (l : Nat) (want : List (ByteArray × Int)) (C : Nat → Prop) (S : Nat) (J Jx : List (ByteArray × Int) → World → Prop) : Prop where
  round : ∀ j p W, want[j]? = some p → J (want.take j) W → YieldAt Fence.wide 5 Try.prog l #[.string p.1, .int .i64 p.2] W fun e W' =>
    (e = .returned (.bool true) ∧ J (want.take (j + 1)) W' ∧ Ux.Touch C W W') ∨ (e = .returned (.bool false) ∧ Jx (want.take (j + 1)) W')
  stays : ∀ pre W W', J pre W → Ux.Touch (fun b => S ≤ b) W W' → J pre W'
  staysX : ∀ pre W W', Jx pre W → Ux.Touch (fun b => S ≤ b) W W' → Jx pre W'

def RngDone (want : List (ByteArray × Int)) (J Jx : List (ByteArray × Int) → World → Prop) (e : Ending) (W' : World) : Prop := (∃ v, e = .returned v) ∧ (J want W' ∨ ∃ j, j < want.length ∧ Jx (want.take (j + 1)) W')

/-- the boxes of a range -/
structure RngEnv (w : World) (b1 b2 b3 b4 tb : Nat) (lo hi : ByteArray) (op : Bool) : Prop where
  t : w.cell? ⟨b1, 0, none⟩ = some (.pointer (some ⟨tb, 0, none⟩))
  lo : w.cell? ⟨b2, 0, none⟩ = some (.string lo)
  op : w.cell? ⟨b3, 0, none⟩ = some (.bool op)
  hi : w.cell? ⟨b4, 0, none⟩ = some (.string hi)

/-- a range under way: j pairs told -/
structure RngRel (tb F N B S cb : Nat) (L : List (ByteArray × Int)) (o : Option Nat) (b3 b4 : Nat) (op : Bool) (hi : ByteArray) (wr : World) : Prop where
  cur : ∃ fc, HasCur wr tb F L N B cb o fc ∧ ∀ b ∈ fc, S ≤ b
  opc : wr.cell? ⟨b3, 0, none⟩ = some (.bool op)
  hic : wr.cell? ⟨b4, 0, none⟩ = some (.string hi)
theorem RngRel.touch {tb F N B S cb : Nat} {L : List (ByteArray × Int)} {o : Option Nat} {b3 b4 : Nat} {op : Bool} {hi : ByteArray} {wr w' : World} {C : Nat → Prop} (h : RngRel tb F N B S cb L o b3 b4 op hi wr) (T : Ux.Touch C wr w') (hC : ∀ b, C b → B ≤ b ∧ b < S) (h3 : ¬ C b3) (h4 : ¬ C b4) : RngRel tb F N B S cb L o b3 b4 op hi w' := by
  obtain ⟨⟨fc, h1, h2⟩, k3, k4⟩ := h
  exact ⟨⟨fc, h1.touch T (fun b _ hb hR => by have := hC b hR; omega) (fun b hb hR => by have := hC b hR; have := h2 b hb; omega), h2⟩, T.cell k3 h3, T.cell k4 h4⟩
theorem RngRel.still {tb F N B S cb : Nat} {L : List (ByteArray × Int)} {o : Option Nat} {b3 b4 : Nat} {op : Bool} {hi : ByteArray} {wr w' : World} (h : RngRel tb F N B S cb L o b3 b4 op hi wr) (T : Ux.Touch (fun _ => False) wr w') : RngRel tb F N B S cb L o b3 b4 op hi w' :=
  h.touch T (fun _ f => f.elim) (fun f => f) (fun f => f)

set_option maxHeartbeats 4000000 in
set_option maxRecDepth 100000 in
theorem range43 (l : Nat) (L : List (ByteArray × Int)) (lo hi : ByteArray) (op : Bool) (C : Nat → Prop) (S B N tb F : Nat) (J Jx : List (ByteArray × Int) → World → Prop) (W : World) (b1 b2 b3 b4 : Nat)
    (hR : Rounds l (Ux.wantOf L lo hi op) C S J Jx) (hC : ∀ b, C b → B ≤ b ∧ b < S) (hb3 : ¬ C b3) (hb4 : ¬ C b4) (hS : W.heap.size = S) (hT : HasTreeB W tb F L N B) (hL : L.length ≤ 100000)
    (he : RngEnv W b1 b2 b3 b4 tb lo hi op) (h0 : J [] W) :
    Calls Try.prog 43 #[.func (.yield l) #[] #[], .pointer (some ⟨b1, 0, none⟩), .pointer (some ⟨b2, 0, none⟩), .pointer (some ⟨b3, 0, none⟩), .pointer (some ⟨b4, 0, none⟩)] W (RngDone (Ux.wantOf L lo hi op) J Jx) := by
  obtain ⟨c1, c2, c3, c4⟩ := he
  have HSK := Lib.hid (seekB hT (by omega) lo false)
  obtain ⟨s, hs⟩ : ∃ s, lb (keys L) lo = s := ⟨_, rfl⟩
  have hsk : seekO L lo false = if s < L.length then some s else none := by unfold seekO; rw [show seekN L lo false = s by unfold seekN; simp [hs]]
  rw [hsk] at HSK
  have hwant : Ux.wantOf L lo hi op = (L.drop s).takeWhile (Ux.fits hi op) := by unfold Ux.wantOf; rw [hs]
  obtain ⟨want, hw⟩ : ∃ want, Ux.wantOf L lo hi op = want := ⟨_, rfl⟩
  rw [hw] at hwant hR
  rw [hw]
  have hstop : ∀ j p, j ≤ want.length → L[s + j]? = some p → (Ux.fits hi op p = true ↔ j < want.length) := fun j p hj hp => by
    rw [hwant]
    exact Ux.takeWhile_stop (by rw [← hwant]; exact hj) p (by rw [List.getElem?_drop]; exact hp)
  have hat : ∀ j, j < want.length → want[j]? = L[s + j]? := fun j hj => by
    rw [hwant, Ux.takeWhile_at (by rw [← hwant]; exact hj), List.getElem?_drop]
  have hlen : s + want.length ≤ L.length ∨ want = [] := by
    by_cases e : want = []
    · exact .inr e
    · have h1 : 0 < want.length := List.length_pos_iff.2 e
      have h2 := hat (want.length - 1) (by omega)
      rw [List.getElem?_eq_getElem (by omega)] at h2
      have := (List.getElem?_eq_some_iff.1 h2.symm).1
      omega
  have HW := Lib.hid (And.intro hstop (And.intro hat hlen))
  have HR := Lib.hid hR
  have HC := Lib.hid (And.intro hC (And.intro hb3 (And.intro hb4 hL)))
  have HJ := Lib.hid (And.intro h0 hS)
  have k3 : b3 < S := by rw [← hS]; exact block_lt_of_cell c3
  have k4 : b4 < S := by rw [← hS]; exact block_lt_of_cell c4
  clear hs hsk hwant hw hstop hat hlen hR hC hb3 hb4 hS hT hL h0
  go_enter Try.func43, Try.ntmps43
  go_wp2_with (go_at_call 11; fail)
  refine HSK.out.mono ?_
  rintro e w2 ⟨cb, fc, rfl, cc, hfc, T2⟩
  have R2 : RngRel tb F N B S cb L (if s + 0 < L.length then some (s + 0) else none) b3 b4 op hi w2 := ⟨⟨fc, cc, by rw [← HJ.out.2]; exact hfc⟩, T2.cell c3 (fun f => f), T2.cell c4 (fun f => f)⟩
  have HR2 := Lib.hid (And.intro R2 (HR.out.stays [] W w2 HJ.out.1 (T2.mono (fun _ _ f => f.elim))))
  clear cc hfc T2 R2 HSK c1 c2 c3 c4 HJ
  go_wp2_with (fail)
  go_loopg [] (want.length + 1) (fun g wr => ∃ j : Nat, j + g = want.length + 1 ∧ j ≤ want.length ∧ RngRel tb F N B S cb L (if s + j < L.length then some (s + j) else none) b3 b4 op hi wr ∧ J (want.take j) wr)
  case atStart => exact ⟨0, by omega, by omega, HR2.out⟩
  case round =>
    obtain ⟨j, hjg, hjl, hr, hJ⟩ := hrel
    have hM : S ≤ wr.heap.size := by
      obtain ⟨⟨fc', r3, h2⟩, _, _⟩ := hr
      by_cases hb : True
      · obtain ⟨_, _, _, _, _, _, ⟨_, _, hcur⟩, _⟩ := r3
        have := hcur.lt
        obtain ⟨_, _, hc1, _, hfc, _⟩ := hcur
        have hcb := h2 cb (by rw [hfc]; simp)
        have := Ux.lt_of_heap hc1
        omega
      · exact absurd trivial hb
    have hJs : ∀ w', Ux.Touch (fun _ => False) wr w' → J (want.take j) w' := fun w' T => HR.out.stays _ _ _ hJ (T.mono (fun _ _ f => f.elim))
    have D1 := (Ux.Touch.refl (fun _ => False) wr).drew
    have o3 := hr.opc
    have o4 := hr.hic
    have HRD := Lib.hid (hr.still D1)
    have HJS := Lib.hid hJs
    clear hJs hJ D1
    by_cases hsl : s + j < L.length
    · obtain ⟨p, hp⟩ : ∃ p, L[s + j]? = some p := ⟨L[s + j], List.getElem?_eq_getElem hsl⟩
      have hr' := HRD.out
      rw [if_pos hsl] at hr' HRD
      obtain ⟨fc', hcur, hfc'⟩ := hr'.cur
      have HOK := Lib.hid (okL hcur)
      have HKEY := Lib.hid (keyL hcur p hp).1
      have HCF := Lib.hid (And.intro hcur (And.intro hfc' hp))
      have hst := HW.out.1 j p hjl hp
      clear hr' hcur hfc' hr
      by_cases hf : Ux.fits hi op p = true
      · have hjw := hst.1 hf
        have hwj := HW.out.2.1 j hjw
        rw [hp] at hwj
        have HWJ := Lib.hid (And.intro hwj hjw)
        have hgo : ∀ w3, Ux.Touch (fun _ => False) wr.drew w3 → HasCur w3 tb F L N B cb (some (s + j)) fc' ∧ J (want.take j) w3 ∧ RngRel tb F N B S cb L (some (s + j)) b3 b4 op hi w3 := fun w3 T =>
          ⟨HCF.out.1.still T, HJS.out w3 (((Ux.Touch.refl (fun _ => False) wr).drew).trans T (fun _ _ f => f)), HRD.out.still T⟩
        have HGO := Lib.hid hgo
        clear hwj hst hp hsl hgo
        have step : ∃ W3 : World → Prop, True := ⟨fun _ => True, trivial⟩
        clear step
        cases op with
        | true =>
          clear hf HKEY
          go_wp2_with (fail)
          refine Ux.wp_region_plan (fun _ w' => w'.cell? ⟨b3, 0, none⟩ = some (.bool true) ∧ w'.cell? ⟨b4, 0, none⟩ = some (.string hi)) (.q [0] (.e 1 true false (.q [2] (.h false [3] (.q [4, 5] (.h false [7] (.e 6 true false (.q [8, 9, 10] (.line [])))))))))
            (by kernel_rfl) (by kernel_rfl) (by intro _ _ d _ _ h; cases d <;> exact h) ?hS ?_
          case hS => (intro c; cases c <;> (simp only [World.cell?_drew]; first | exact True.intro | (refine ⟨?_, ?_⟩ <;> assumption) | assumption | (repeat (first | assumption | (refine And.intro ?_ ?_)))))
          simp only [Ux.wpPlan, Ux.pickOps, Ux.keeps, List.getElem?_toArray, List.getElem?_cons_succ, List.getElem?_cons_zero]
          repeat (first
            | go_big_quiet_step (fail)
            | (with_reducible refine wpQuiet_nil ?_)
            | (refine Ux.quiet_held rfl ?_; apply Exists.intro; refine ⟨fun w' hS => ?_, ?_⟩; (focus ((try dsimp only at hS); go_simp; first | done | with_reducible rfl)); simp only [Act.put, List.setIfInBounds_toArray, List.set_cons_zero, List.set_cons_succ]))
          go_wp2_with (go_at_call 12; refine HOK.out.mono ?_; rintro e w3 ⟨rfl, rfl⟩)
          refine ⟨⟨o3, o4⟩, ?_⟩
          repeat (first
            | go_big_quiet_step (fail)
            | (with_reducible refine wpQuiet_nil ?_)
            | (refine Ux.quiet_held rfl ?_; apply Exists.intro; refine ⟨fun w' hS => ?_, ?_⟩; (focus ((try dsimp only at hS); go_simp; first | done | with_reducible rfl)); simp only [Act.put, List.setIfInBounds_toArray, List.set_cons_zero, List.set_cons_succ]))
          go_wp2_with (fail)
          refine ⟨⟨o3, o4⟩, ?_⟩
          repeat (first
            | go_big_quiet_step (fail)
            | (with_reducible refine wpQuiet_nil ?_)
            | (refine Ux.quiet_held rfl ?_; apply Exists.intro; refine ⟨fun w' hS => ?_, ?_⟩; (focus ((try dsimp only at hS); go_simp; first | done | with_reducible rfl)); simp only [Act.put, List.setIfInBounds_toArray, List.set_cons_zero, List.set_cons_succ]))
          have H3 := Lib.hid (HGO.out wr.drew (Ux.Touch.refl _ _))
          clear o3 o4 HOK
          go_upto_region 3 with (fail)
          have HK3 := Lib.hid ((keyL H3.out.1 p HCF.out.2.2).1)
          refine (wpIn_wide (n := 6)).1 ?_
          gi_wp2_with (gi_at_call 13; fail)
          refine ⟨trivial, ?_⟩
          refine (callsIn_wide.2 HK3.out).mono ?_
          rintro e w4 ⟨rfl, T4⟩
          have H4 := Lib.hid (HGO.out w4 ((Ux.Touch.refl (fun _ => False) wr.drew).trans T4 (fun _ _ f => f)))
          have HR4 := Lib.hid ((keyL H4.out.1 p HCF.out.2.2).2)
          have HT4 := Lib.hid T4
          clear T4 HK3
          gi_wp2_with (gi_at_call 18; fail)
          refine ⟨trivial, ?_⟩
          refine (callsIn_wide.2 HR4.out).mono ?_
          rintro e w5 ⟨rfl, T5⟩
          have T35 := ((Ux.Touch.refl (fun _ => False) wr.drew).trans HT4.out (fun _ _ f => f)).trans T5 (fun _ _ f => f)
          have H5 := Lib.hid (HGO.out w5 T35)
          have HT5 := Lib.hid T35
          obtain ⟨fn, tmps, assign, bd, hy, hRI⟩ := HR.out.round j p w5 HWJ.out.1 H5.out.2.1
          have HRI := Lib.hid hRI
          clear T5 T35 HT4 HR4 hRI
          gi_wp2_with (fail)
          refine HRI.out.mono ?_
          rintro e w6 hres
          rcases hres with ⟨rfl, J6, T6⟩ | ⟨rfl, JX6⟩
          · have R6 := H5.out.2.2.touch T6 HC.out.1 HC.out.2.1 HC.out.2.2.1
            obtain ⟨fc6, hcur6, hfc6⟩ := R6.cur
            have HNX := Lib.hid (nextL hcur6)
            have HX6 := Lib.hid (And.intro R6 (And.intro J6 (And.intro hcur6 (And.intro hfc6 T6))))
            clear R6 J6 hcur6 hfc6 T6 hy
            gi_wp2_with (fail)
            go_wp2_with (go_at_call 14; fail)
            refine HNX.out.mono ?_
            rintro e w7 ⟨rfl, fc7, hcur7, hfc7, T7⟩
            have hS6 : S ≤ w6.heap.size := Nat.le_trans hM (Nat.le_trans HT5.out.size HX6.out.2.2.2.2.size)
            have hf7 : ∀ b ∈ fc6, S ≤ b := HX6.out.2.2.2.1
            have R7 : RngRel tb F N B S cb L (if s + (j + 1) < L.length then some (s + (j + 1)) else none) b3 b4 true hi w7 := by
              refine ⟨⟨fc7, ?_, fun b hb => (hfc7 b hb).elim (hf7 b) (fun h => Nat.le_trans hS6 h)⟩, T7.cell HX6.out.1.opc (fun h => by have := hf7 _ h; simp only [] at this; omega), T7.cell HX6.out.1.hic (fun h => by have := hf7 _ h; simp only [] at this; omega)⟩
              rw [← Nat.add_assoc]
              exact hcur7
            have HR7 := Lib.hid (And.intro R7 (HR.out.stays _ _ _ HX6.out.2.1 (T7.mono (fun b _ h => hf7 b h))))
            clear R7 hf7 hcur7 hfc7 T7 HNX hS6
            go_wp2_with (fail)
            have hjl2 : j + 1 ≤ want.length := HWJ.out.2
            go_roundg (want.length - j)
            case measure => omega
            case rel => exact ⟨j + 1, by omega, hjl2, HR7.out⟩
          · clear hy
            gi_wp2_with (fail)
            go_wp2_with (fail)
            go_returns
            exact ⟨⟨_, rfl⟩, .inr ⟨j, HWJ.out.2, JX6⟩⟩
        | false =>
          have hlt : Op.bytesLess p.1.toList hi.toList = true := by unfold Ux.fits at hf; exact hf
          clear hf
          go_wp2_with (fail)
          refine Ux.wp_region_plan (fun _ w' => w'.cell? ⟨b3, 0, none⟩ = some (.bool false) ∧ w'.cell? ⟨b4, 0, none⟩ = some (.string hi)) (.q [0] (.e 1 true false (.q [2] (.h false [3] (.q [4, 5] (.h false [7] (.e 6 true false (.q [8, 9, 10] (.line [])))))))))
            (by kernel_rfl) (by kernel_rfl) (by intro _ _ d _ _ h; cases d <;> exact h) ?hS ?_
          case hS => (intro c; cases c <;> (simp only [World.cell?_drew]; first | exact True.intro | (refine ⟨?_, ?_⟩ <;> assumption) | assumption | (repeat (first | assumption | (refine And.intro ?_ ?_)))))
          simp only [Ux.wpPlan, Ux.pickOps, Ux.keeps, List.getElem?_toArray, List.getElem?_cons_succ, List.getElem?_cons_zero]
          repeat (first
            | go_big_quiet_step (fail)
            | (with_reducible refine wpQuiet_nil ?_)
            | (refine Ux.quiet_held rfl ?_; apply Exists.intro; refine ⟨fun w' hS => ?_, ?_⟩; (focus ((try dsimp only at hS); go_simp; first | done | with_reducible rfl)); simp only [Act.put, List.setIfInBounds_toArray, List.set_cons_zero, List.set_cons_succ]))
          go_wp2_with (go_at_call 12; refine HOK.out.mono ?_; rintro e w3 ⟨rfl, rfl⟩)
          refine ⟨⟨o3, o4⟩, ?_⟩
          repeat (first
            | go_big_quiet_step (fail)
            | (with_reducible refine wpQuiet_nil ?_)
            | (refine Ux.quiet_held rfl ?_; apply Exists.intro; refine ⟨fun w' hS => ?_, ?_⟩; (focus ((try dsimp only at hS); go_simp; first | done | with_reducible rfl)); simp only [Act.put, List.setIfInBounds_toArray, List.set_cons_zero, List.set_cons_succ]))
          go_wp2_with (go_at_call 13; fail)
          refine HKEY.out.mono ?_
          rintro e w3 ⟨rfl, T3⟩
          have p3 := T3.cell (a := ⟨b3, 0, none⟩) o3 (fun f => f)
          have p4 := T3.cell (a := ⟨b4, 0, none⟩) o4 (fun f => f)
          have H3 := Lib.hid (HGO.out w3 T3)
          have HT3 := Lib.hid T3
          clear T3 HKEY HOK o3 o4
          go_wp2_with (fail)
          refine ⟨⟨p3, p4⟩, ?_⟩
          clear p3 p4
          repeat (first
            | go_big_quiet_step (fail)
            | (with_reducible refine wpQuiet_nil ?_)
            | (refine Ux.quiet_held rfl ?_; apply Exists.intro; refine ⟨fun w' hS => ?_, ?_⟩; (focus ((try dsimp only at hS); go_simp; first | done | with_reducible rfl)); simp only [Act.put, List.setIfInBounds_toArray, List.set_cons_zero, List.set_cons_succ]))
          go_upto_region 3 with (fail)
          have HK3 := Lib.hid ((keyL H3.out.1 p HCF.out.2.2).1)
          refine (wpIn_wide (n := 6)).1 ?_
          gi_wp2_with (gi_at_call 13; fail)
          refine ⟨trivial, ?_⟩
          refine (callsIn_wide.2 HK3.out).mono ?_
          rintro e w4 ⟨rfl, T4⟩
          have H4 := Lib.hid (HGO.out w4 (HT3.out.trans T4 (fun _ _ f => f)))
          have HR4 := Lib.hid ((keyL H4.out.1 p HCF.out.2.2).2)
          have HT4 := Lib.hid T4
          clear T4 HK3
          gi_wp2_with (gi_at_call 18; fail)
          refine ⟨trivial, ?_⟩
          refine (callsIn_wide.2 HR4.out).mono ?_
          rintro e w5 ⟨rfl, T5⟩
          have T35 := (HT3.out.trans HT4.out (fun _ _ f => f)).trans T5 (fun _ _ f => f)
          have H5 := Lib.hid (HGO.out w5 T35)
          have HT5 := Lib.hid T35
          obtain ⟨fn, tmps, assign, bd, hy, hRI⟩ := HR.out.round j p w5 HWJ.out.1 H5.out.2.1
          have HRI := Lib.hid hRI
          clear T5 T35 HT4 HR4 hRI
          gi_wp2_with (fail)
          refine HRI.out.mono ?_
          rintro e w6 hres
          rcases hres with ⟨rfl, J6, T6⟩ | ⟨rfl, JX6⟩
          · have R6 := H5.out.2.2.touch T6 HC.out.1 HC.out.2.1 HC.out.2.2.1
            obtain ⟨fc6, hcur6, hfc6⟩ := R6.cur
            have HNX := Lib.hid (nextL hcur6)
            have HX6 := Lib.hid (And.intro R6 (And.intro J6 (And.intro hcur6 (And.intro hfc6 T6))))
            clear R6 J6 hcur6 hfc6 T6 hy
            gi_wp2_with (fail)
            go_wp2_with (go_at_call 14; fail)
            refine HNX.out.mono ?_
            rintro e w7 ⟨rfl, fc7, hcur7, hfc7, T7⟩
            have hS6 : S ≤ w6.heap.size := Nat.le_trans hM (Nat.le_trans HT5.out.size HX6.out.2.2.2.2.size)
            have hf7 : ∀ b ∈ fc6, S ≤ b := HX6.out.2.2.2.1
            have R7 : RngRel tb F N B S cb L (if s + (j + 1) < L.length then some (s + (j + 1)) else none) b3 b4 false hi w7 := by
              refine ⟨⟨fc7, ?_, fun b hb => (hfc7 b hb).elim (hf7 b) (fun h => Nat.le_trans hS6 h)⟩, T7.cell HX6.out.1.opc (fun h => by have := hf7 _ h; simp only [] at this; omega), T7.cell HX6.out.1.hic (fun h => by have := hf7 _ h; simp only [] at this; omega)⟩
              rw [← Nat.add_assoc]
              exact hcur7
            have HR7 := Lib.hid (And.intro R7 (HR.out.stays _ _ _ HX6.out.2.1 (T7.mono (fun b _ h => hf7 b h))))
            clear R7 hf7 hcur7 hfc7 T7 HNX hS6
            go_wp2_with (fail)
            have hjl2 : j + 1 ≤ want.length := HWJ.out.2
            go_roundg (want.length - j)
            case measure => omega
            case rel => exact ⟨j + 1, by omega, hjl2, HR7.out⟩
          · clear hy
            gi_wp2_with (fail)
            go_wp2_with (fail)
            go_returns
            exact ⟨⟨_, rfl⟩, .inr ⟨j, HWJ.out.2, JX6⟩⟩
      · have hjw : j = want.length := by
          rcases Nat.lt_or_ge j want.length with h | h
          · exact absurd (hst.2 h) hf
          · omega
        have hop : op = false ∧ Op.bytesLess p.1.toList hi.toList = false := by
          unfold Ux.fits at hf
          cases op with
          | true => exact absurd rfl hf
          | false =>
            refine ⟨rfl, ?_⟩
            cases h : Op.bytesLess p.1.toList hi.toList with
            | false => rfl
            | true => exact absurd h hf
        obtain ⟨rfl, hlt⟩ := hop
        have HJW := Lib.hid hjw
        clear hf hst hp hjw hsl
        go_wp2_with (fail)
        refine Ux.wp_region_plan (fun _ w' => w'.cell? ⟨b3, 0, none⟩ = some (.bool false) ∧ w'.cell? ⟨b4, 0, none⟩ = some (.string hi)) (.q [0] (.e 1 true false (.q [2] (.h false [3] (.q [4, 5] (.h false [7] (.e 6 true false (.q [8, 9, 10] (.line [])))))))))
          (by kernel_rfl) (by kernel_rfl) (by intro _ _ d _ _ h; cases d <;> exact h) ?hS ?_
        case hS => (intro c; cases c <;> (simp only [World.cell?_drew]; first | exact True.intro | (refine ⟨?_, ?_⟩ <;> assumption) | assumption | (repeat (first | assumption | (refine And.intro ?_ ?_)))))
        simp only [Ux.wpPlan, Ux.pickOps, Ux.keeps, List.getElem?_toArray, List.getElem?_cons_succ, List.getElem?_cons_zero]
        repeat (first
          | go_big_quiet_step (fail)
          | (with_reducible refine wpQuiet_nil ?_)
          | (refine Ux.quiet_held rfl ?_; apply Exists.intro; refine ⟨fun w' hS => ?_, ?_⟩; (focus ((try dsimp only at hS); go_simp; first | done | with_reducible rfl)); simp only [Act.put, List.setIfInBounds_toArray, List.set_cons_zero, List.set_cons_succ]))
        go_wp2_with (go_at_call 12; refine HOK.out.mono ?_; rintro e w3 ⟨rfl, rfl⟩)
        refine ⟨⟨o3, o4⟩, ?_⟩
        repeat (first
          | go_big_quiet_step (fail)
          | (with_reducible refine wpQuiet_nil ?_)
          | (refine Ux.quiet_held rfl ?_; apply Exists.intro; refine ⟨fun w' hS => ?_, ?_⟩; (focus ((try dsimp only at hS); go_simp; first | done | with_reducible rfl)); simp only [Act.put, List.setIfInBounds_toArray, List.set_cons_zero, List.set_cons_succ]))
        go_wp2_with (go_at_call 13; fail)
        refine HKEY.out.mono ?_
        rintro e w3 ⟨rfl, T3⟩
        have p3 := T3.cell (a := ⟨b3, 0, none⟩) o3 (fun f => f)
        have p4 := T3.cell (a := ⟨b4, 0, none⟩) o4 (fun f => f)
        have HJ3 := Lib.hid (HJS.out w3 (((Ux.Touch.refl (fun _ => False) wr).drew).trans T3 (fun _ _ f => f)))
        clear T3
        go_wp2_with (fail)
        refine ⟨⟨p3, p4⟩, ?_⟩
        repeat (first
          | go_big_quiet_step (fail)
          | (with_reducible refine wpQuiet_nil ?_)
          | (refine Ux.quiet_held rfl ?_; apply Exists.intro; refine ⟨fun w' hS => ?_, ?_⟩; (focus ((try dsimp only at hS); go_simp; first | done | with_reducible rfl)); simp only [Act.put, List.setIfInBounds_toArray, List.set_cons_zero, List.set_cons_succ]))
        go_wp2_with (fail)
        go_returns
        exact ⟨⟨_, rfl⟩, .inl (by have h := HJ3.out; rw [HJW.out, List.take_length] at h; exact h)⟩
    · have hjw : j = want.length := by
        rcases Nat.lt_or_ge j want.length with h | h
        · have := HW.out.2.1 j h
          rw [List.getElem?_eq_none (l := L) (by omega), List.getElem?_eq_getElem h] at this
          cases this
        · omega
      have hr' := HRD.out
      rw [if_neg hsl] at hr'
      obtain ⟨fc', hcur, _⟩ := hr'.cur
      have HOK := Lib.hid (okL hcur)
      have HJ3 := Lib.hid (HJS.out _ ((Ux.Touch.refl (fun _ => False) wr).drew))
      have HJW := Lib.hid hjw
      clear hr' hcur hjw hr hsl
      go_wp2_with (fail)
      refine Ux.wp_region_plan (fun _ w' => w'.cell? ⟨b3, 0, none⟩ = some (.bool op) ∧ w'.cell? ⟨b4, 0, none⟩ = some (.string hi)) (.q [0] (.e 1 true false (.q [2] (.h false [3] (.q [4, 5] (.h false [7] (.e 6 true false (.q [8, 9, 10] (.line [])))))))))
        (by kernel_rfl) (by kernel_rfl) (by intro _ _ d _ _ h; cases d <;> exact h) ?hS ?_
      case hS => (intro c; cases c <;> (simp only [World.cell?_drew]; first | exact True.intro | (refine ⟨?_, ?_⟩ <;> assumption) | assumption | (repeat (first | assumption | (refine And.intro ?_ ?_)))))
      simp only [Ux.wpPlan, Ux.pickOps, Ux.keeps, List.getElem?_toArray, List.getElem?_cons_succ, List.getElem?_cons_zero]
      repeat (first
        | go_big_quiet_step (fail)
        | (with_reducible refine wpQuiet_nil ?_)
        | (refine Ux.quiet_held rfl ?_; apply Exists.intro; refine ⟨fun w' hS => ?_, ?_⟩; (focus ((try dsimp only at hS); go_simp; first | done | with_reducible rfl)); simp only [Act.put, List.setIfInBounds_toArray, List.set_cons_zero, List.set_cons_succ]))
      go_wp2_with (go_at_call 12; refine HOK.out.mono ?_; rintro e w3 ⟨rfl, rfl⟩)
      refine ⟨⟨o3, o4⟩, ?_⟩
      repeat (first
        | go_big_quiet_step (fail)
        | (with_reducible refine wpQuiet_nil ?_)
        | (refine Ux.quiet_held rfl ?_; apply Exists.intro; refine ⟨fun w' hS => ?_, ?_⟩; (focus ((try dsimp only at hS); go_simp; first | done | with_reducible rfl)); simp only [Act.put, List.setIfInBounds_toArray, List.set_cons_zero, List.set_cons_succ]))
      go_wp2_with (fail)
      refine ⟨⟨o3, o4⟩, ?_⟩
      repeat (first
        | go_big_quiet_step (fail)
        | (with_reducible refine wpQuiet_nil ?_)
        | (refine Ux.quiet_held rfl ?_; apply Exists.intro; refine ⟨fun w' hS => ?_, ?_⟩; (focus ((try dsimp only at hS); go_simp; first | done | with_reducible rfl)); simp only [Act.put, List.setIfInBounds_toArray, List.set_cons_zero, List.set_cons_succ]))
      go_wp2_with (fail)
      go_returns
      exact ⟨⟨_, rfl⟩, .inl (by have h := HJ3.out; rw [HJW.out, List.take_length] at h; exact h)⟩

end Go.Proofs.Ytdfgpminonpeaaa
