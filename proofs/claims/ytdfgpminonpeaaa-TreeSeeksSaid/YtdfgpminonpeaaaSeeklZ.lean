/- PART OF THE PROOF THAT TreeSeeksSaid HOLDS OF THE GIVEN PROGRAM, FOR EVERY INPUT THAT THE STATEMENT NAMES. No condition besides the statement's own. -/
import Derived.Test.YtdfgpminonpeaaaSeeksZ
import Derived.Test.YtdfgpminonpeaaaRows
import Derived.WalkKit
import Derived.Handy
import Derived.Laws.EntriesVeiled
import Derived.WalkSpells
import Derived.WalkLawsBesides
import Derived.BigQuiet
import Derived.Deep.QuietTactic
import Derived.Deep.Cut
import Derived.Deep.DeepCutAuto
import Derived.Lib.Overlaps
import Derived.Laws.Externs
import Derived.Lib.Hide
import Derived.Test.YtdfgpminonpeaaaUxPlanZ
import Derived.Test.YtdfgpminonpeaaaUxHeapZ
import Derived.Test.YtdfgpminonpeaaaUxOrdZ
import Derived.Deep.LoopGhost
namespace Go.Proofs.Ytdfgpminonpeaaa
open Go.RowKit
-- imports: YtdfgpminonpeaaaSeeks
open Ux (slt lb has Rises keys ins del playN play1 Act3 seekN)

set_option maxHeartbeats 4000000 in
set_option maxRecDepth 100000 in
theorem law8 (a0 : Int) (W : World) (base : Option Addr) (c : Nat) (ops : List Act3) (hops : OpsAt W base ops) (hlen : ops.length ≤ maxLen) (key : ByteArray) (over : Bool) (sb : Option Addr) (sc : Nat) (steps : List Bool)
    (hst : ∀ i b, steps[i]? = some b → ∃ g f, sb = some ⟨g, f, none⟩ ∧ g < W.heap.size ∧ W.cell? ⟨g, f + i, none⟩ = some (.bool b)) (hsl : steps.length ≤ maxLen) :
    Calls Try.prog 8 #[.int .i64 a0, .slice base ops.length c, .string key, .bool over, .slice sb steps.length sc] W fun e w' => e = .returned (.bool true) ∧ Ux.Touch (fun _ => False) W w' := by
  obtain ⟨m, F, hand, hm0, hm1, hF, hF4, hF64⟩ := Ux.fan_of a0
  have HBUILT := Lib.hid (built25 F hF4 hF64 base c ops 80 (by omega) W hops hlen)
  obtain ⟨L, hL⟩ : ∃ L, playN ops (min ops.length 80) = L := ⟨_, rfl⟩
  have hL80 : L.length ≤ 80 := by have := Ux.playN_length ops (min ops.length 80); rw [hL] at this; omega
  rw [hL] at HBUILT
  obtain ⟨n, hn⟩ : ∃ n, steps.length = n := ⟨_, rfl⟩
  rw [hn] at hsl
  have hsl' : (n : Int) ≤ 9223372036854775807 := by unfold maxLen at hsl; omega
  obtain ⟨no, hno⟩ : ∃ no, ops.length = no := ⟨_, rfl⟩
  rw [hno] at HBUILT
  rw [hn, hno]
  have HST := Lib.hid (And.intro hst hn)
  obtain ⟨N, hN⟩ : ∃ N, W.heap.size = N := ⟨_, rfl⟩
  rw [hN] at HBUILT
  have HNN := Lib.hid hN
  have l80 : (L.length : Int) ≤ 80 := by omega
  clear hops hlen hst hn hsl hL hF4 hF64 hno hN
  go_enter Try.func8, Try.ntmps8
  go_wp2_with (go_at_call 25; fail)
  refine HBUILT.out.mono ?_
  rintro e w1 ⟨tb, v, rfl, B1⟩
  have FIND := find28 v L key w1 B1.pairs (by omega)
  obtain ⟨lv, lc, hv, _⟩ := B1.pairs.cells
  subst hv
  have HFIND := Lib.hid FIND
  have HB1 := Lib.hid (B1.still (Ux.Touch.refl (fun _ => False) w1).drew)
  clear B1 FIND HBUILT hand hm0 hm1 hF
  obtain ⟨is, his⟩ : ∃ is, has (keys L) key = is := ⟨_, rfl⟩
  have HIS := Lib.hid his
  rw [his] at HFIND
  obtain ⟨k, hk⟩ : ∃ k, lb (keys L) key = k := ⟨_, rfl⟩
  have HK := Lib.hid hk
  rw [hk] at HFIND
  have hk80 : (k : Int) ≤ 80 := by have := Ux.lb_le (keys L) key; rw [Ux.keys_length] at this; omega
  have hk0 : (0 : Int) ≤ k := by omega
  clear his hk
  go_wp2_with (go_at_call 28; fail)
  refine HFIND.out.mono ?_
  rintro e w2 ⟨rfl, rfl⟩
  go_upto_region 6 with (fail)
  go_cut [43] (fun s43 wx => s43 = .bool (is && over) ∧ wx = w1.drew)
  case first =>
    cases is <;> cases over
    all_goals
      go_wp2_with (fail)
      go_meet
      exact ⟨rfl, rfl⟩
  obtain ⟨rfl, rfl⟩ := hcut
  go_upto_if 43 with (fail)
  go_cut [14] (fun s14 wx => s14 = .int .i64 (seekN L key over : Nat) ∧ wx = w1.drew)
  case first =>
    have hs : seekN L key over = k + if (is && over) = true then 1 else 0 := by unfold seekN; rw [HK.out, HIS.out]
    cases is <;> cases over <;> simp only [Bool.and_true, Bool.and_false, Bool.false_eq_true, if_false, if_true, Nat.add_zero] at hs
    all_goals
      have HS := Lib.hid hs
      clear hs
      go_wp2_with (fail)
      go_meet
      exact ⟨by rw [HS.out]; try go_num, rfl⟩
  case rest =>
    obtain ⟨rfl, rfl⟩ := hcut
    have hsk := seekN_le L key over
    have SK := seekL HB1.out.tree (by omega) key over
    obtain ⟨sk, hske⟩ : ∃ sk, seekN L key over = sk := ⟨_, rfl⟩
    have ATS := AtIs.seek L key over hsk
    rw [hske] at ATS hsk
    rw [hske]
    have HSK := Lib.hid SK
    have HAT := Lib.hid ATS
    clear SK ATS hske HFIND HIS HK hk80 hk0
    go_wp2_with (go_at_call 11; fail)
    refine HSK.out.mono ?_
    rintro e w2 ⟨cb, fc, rfl, c2, hfc, T2⟩
    have B2 := HB1.out.still T2
    obtain ⟨M, hM⟩ : ∃ M, w1.drew.heap.size = M := ⟨_, rfl⟩
    rw [hM] at c2 hfc
    have R2 : SkRel W tb F N M cb L (.slice lv L.length lc) (seekO L key over) w2 := ⟨⟨fc, c2, hfc⟩, B2.pairs, B2.touch, by rw [← hM]; exact HB1.out.size⟩
    have HLAST := Lib.hid (lastL B2.tree (by omega))
    have HR2 := Lib.hid R2
    clear hM B2 c2 hfc T2 R2 HSK HB1
    go_wp2_with (go_at_call 16; fail)
    refine HLAST.out.mono ?_
    rintro e w3 ⟨db, fd, rfl, d3, hfd, T3⟩
    have R3 := HR2.out.still T3
    have HR3 := Lib.hid R3
    have HD3 := Lib.hid d3
    clear R3 d3 hfd T3 HLAST HR2
    obtain ⟨z, hz⟩ : ∃ z, L.length = z := ⟨_, rfl⟩
    rw [hz] at l80 hsk HR3 HAT
    rw [hz]
    have HZ := Lib.hid hz
    clear hz
    go_upto_region 10 with (fail)
    go_cut [12, 81] (fun s12 s81 wx => s12 = .slice lv z lc ∧ s81 = .bool false ∧ SkRel W tb F N M cb L (.slice lv z lc) (seekO L key over) wx)
    case first =>
      have D3 := HD3.out.still (Ux.Touch.refl (fun _ => False) w3).drew
      obtain ⟨o, ho⟩ : ∃ o, (if L = [] then none else some (L.length - 1)) = o := ⟨_, rfl⟩
      rw [ho] at D3
      have OKD := okL D3
      have HOKD := Lib.hid OKD
      have HR3' := Lib.hid (HR3.out.still (Ux.Touch.refl (fun _ => False) w3).drew)
      have hz := HZ.out
      clear OKD
      cases z with
      | zero =>
        have hL0 : L = [] := List.eq_nil_of_length_eq_zero hz
        rw [if_pos hL0] at ho
        subst ho
        clear hz D3 hL0
        refine Ux.wp_region_plan (fun _ _ => True) (.q [0, 1, 2, 3, 4, 5, 6, 7, 9, 10, 11] (.e 8 true false (.q [12, 13, 14, 15] (.e 16 true false (.q [17, 18, 20, 21, 22, 23, 24, 25] (.h false [26] (.e 19 true false (.q [27, 28, 29] (.line [])))))))))
          (by kernel_rfl) (by kernel_rfl) (by intro _ _ d _ _ h; cases d <;> exact h) ?hS ?_
        case hS => (intro c; cases c <;> (simp only [World.cell?_drew]; first | exact True.intro | (refine ⟨?_, ?_⟩ <;> assumption) | assumption | (repeat (first | assumption | (refine And.intro ?_ ?_)))))
        simp only [Ux.wpPlan, Ux.pickOps, Ux.keeps, List.getElem?_toArray, List.getElem?_cons_succ, List.getElem?_cons_zero]
        repeat (first
          | go_big_quiet_step (fail)
          | (with_reducible refine wpQuiet_nil ?_)
          | (refine Ux.quiet_held rfl ?_; apply Exists.intro; refine ⟨fun w' hS => ?_, ?_⟩; (focus ((try dsimp only at hS); go_simp; first | done | with_reducible rfl)); simp only [Act.put, List.setIfInBounds_toArray, List.set_cons_zero, List.set_cons_succ]))
        go_wp2_with (go_at_call 12; refine HOKD.out.mono ?_; rintro e w4 ⟨rfl, rfl⟩)
        refine ⟨True.intro, ?_⟩
        repeat (first
          | go_big_quiet_step (fail)
          | (with_reducible refine wpQuiet_nil ?_)
          | (refine Ux.quiet_held rfl ?_; apply Exists.intro; refine ⟨fun w' hS => ?_, ?_⟩; (focus ((try dsimp only at hS); go_simp; first | done | with_reducible rfl)); simp only [Act.put, List.setIfInBounds_toArray, List.set_cons_zero, List.set_cons_succ]))
        go_wp2_with (go_at_call 12; refine HOKD.out.mono ?_; rintro e w4 ⟨rfl, rfl⟩)
        refine ⟨True.intro, ?_⟩
        repeat (first
          | go_big_quiet_step (fail)
          | (with_reducible refine wpQuiet_nil ?_)
          | (refine Ux.quiet_held rfl ?_; apply Exists.intro; refine ⟨fun w' hS => ?_, ?_⟩; (focus ((try dsimp only at hS); go_simp; first | done | with_reducible rfl)); simp only [Act.put, List.setIfInBounds_toArray, List.set_cons_zero, List.set_cons_succ]))
        go_wp2_with (fail)
        refine ⟨True.intro, ?_⟩
        repeat (first
          | go_big_quiet_step (fail)
          | (with_reducible refine wpQuiet_nil ?_)
          | (refine Ux.quiet_held rfl ?_; apply Exists.intro; refine ⟨fun w' hS => ?_, ?_⟩; (focus ((try dsimp only at hS); go_simp; first | done | with_reducible rfl)); simp only [Act.put, List.setIfInBounds_toArray, List.set_cons_zero, List.set_cons_succ]))
        go_wp2_with (fail)
        go_meet
        exact ⟨rfl, rfl, HR3'.out⟩
      | succ y =>
        have hL0 : L ≠ [] := fun h => by rw [h] at hz; cases hz
        rw [if_neg hL0, hz] at ho
        subst ho
        obtain ⟨p, hp⟩ : ∃ p, L[y]? = some p := ⟨L[y]'(by omega), List.getElem?_eq_getElem _⟩
        have KEY := (keyL D3 p (by simpa using hp)).1
        obtain ⟨g, rfl, c0, _⟩ := HR3'.out.pairs.cell hp
        have HKEY := Lib.hid KEY
        have y0 : (0 : Int) ≤ y := by omega
        have y1 : (y : Int) + 1 ≤ 80 := by omega
        clear hz D3 hL0 hp KEY
        refine Ux.wp_region_plan (fun _ w' => w'.cell? ⟨g, y * 2, none⟩ = some (.string p.1)) (.q [0, 1, 2, 3, 4, 5, 6, 7, 9, 10, 11] (.e 8 true false (.q [12, 13, 14, 15] (.e 16 true false (.q [17, 18, 20, 21, 22, 23, 24, 25] (.h false [26] (.e 19 true false (.q [27, 28, 29] (.line [])))))))))
          (by kernel_rfl) (by kernel_rfl) (by intro _ _ d _ _ h; cases d <;> exact h) ?hS ?_
        case hS => (intro c; cases c <;> (simp only [World.cell?_drew]; first | exact True.intro | (refine ⟨?_, ?_⟩ <;> assumption) | assumption | (repeat (first | assumption | (refine And.intro ?_ ?_)))))
        simp only [Ux.wpPlan, Ux.pickOps, Ux.keeps, List.getElem?_toArray, List.getElem?_cons_succ, List.getElem?_cons_zero]
        repeat (first
          | go_big_quiet_step (fail)
          | (with_reducible refine wpQuiet_nil ?_)
          | (refine Ux.quiet_held rfl ?_; apply Exists.intro; refine ⟨fun w' hS => ?_, ?_⟩; (focus ((try dsimp only at hS); go_simp; first | done | with_reducible rfl)); simp only [Act.put, List.setIfInBounds_toArray, List.set_cons_zero, List.set_cons_succ]))
        go_wp2_with (go_at_call 12; refine HOKD.out.mono ?_; rintro e w4 ⟨rfl, rfl⟩)
        refine ⟨c0, ?_⟩
        repeat (first
          | go_big_quiet_step (fail)
          | (with_reducible refine wpQuiet_nil ?_)
          | (refine Ux.quiet_held rfl ?_; apply Exists.intro; refine ⟨fun w' hS => ?_, ?_⟩; (focus ((try dsimp only at hS); go_simp; first | done | with_reducible rfl)); simp only [Act.put, List.setIfInBounds_toArray, List.set_cons_zero, List.set_cons_succ]))
        go_wp2_with (go_at_call 12; refine HOKD.out.mono ?_; rintro e w4 ⟨rfl, rfl⟩)
        refine ⟨c0, ?_⟩
        repeat (first
          | go_big_quiet_step (fail)
          | (with_reducible refine wpQuiet_nil ?_)
          | (refine Ux.quiet_held rfl ?_; apply Exists.intro; refine ⟨fun w' hS => ?_, ?_⟩; (focus ((try dsimp only at hS); go_simp; first | done | with_reducible rfl)); simp only [Act.put, List.setIfInBounds_toArray, List.set_cons_zero, List.set_cons_succ]))
        go_wp2_with (go_at_call 13; fail)
        refine HKEY.out.mono ?_
        rintro e w4 ⟨rfl, T4⟩
        have c4 := T4.cell c0 (fun f => f)
        have HR4 := Lib.hid (HR3'.out.still T4)
        clear T4 c0
        go_wp2_with (fail)
        refine ⟨c4, ?_⟩
        repeat (first
          | go_big_quiet_step (fail)
          | (with_reducible refine wpQuiet_nil ?_)
          | (refine Ux.quiet_held rfl ?_; apply Exists.intro; refine ⟨fun w' hS => ?_, ?_⟩; (focus ((try dsimp only at hS); go_simp; first | done | with_reducible rfl)); simp only [Act.put, List.setIfInBounds_toArray, List.set_cons_zero, List.set_cons_succ]))
        go_wp2_with (fail)
        go_meet
        exact ⟨rfl, rfl, HR4.out⟩
    case rest =>
      obtain ⟨rfl, rfl, R4⟩ := hcut
      have HR4 := Lib.hid R4
      clear R4 HR3 HD3
      have sk0 : (sk : Int) ≤ z := by omega
      go_wp2_with (fail)
      go_loopg [14, 18] 61 (fun g s14 s18 wr => ∃ (i : Nat) (t : Int) (o : Option Nat), s18 = .int .i64 i ∧ s14 = .int .i64 t ∧ i + g = 61 ∧ i ≤ n ∧ i ≤ 60 ∧ AtIs z t o ∧ SkRel W tb F N M cb L (.slice lv z lc) o wr)
      case atStart => exact ⟨0, sk, _, rfl, rfl, by omega, by omega, by omega, HAT.out, HR4.out⟩
      case round =>
        obtain ⟨i, t, o, rfl, rfl, hig, hin, hi60, hA, hS⟩ := hrel
        have p0 : (0 : Int) ≤ i := by omega
        have p1 : (i : Int) ≤ n := by omega
        have p2 : (i : Int) ≤ 60 := by omega
        have HA := Lib.hid hA
        rcases hA with ⟨q, rfl, rfl, hq⟩ | ⟨rfl, ht⟩
        · have q0 : (0 : Int) ≤ q := by omega
          have q1 : (q : Int) < z := by omega
          obtain ⟨p, hp⟩ : ∃ p, L[q]? = some p := ⟨L[q]'(by have := HZ.out; omega), List.getElem?_eq_getElem _⟩
          obtain ⟨g, rfl, c0, c1⟩ := hS.pairs.cell hp
          have HS := Lib.hid hS
          have HOK := Lib.hid ((hS.still (Ux.Touch.refl (fun _ => False) wr).drew).ok)
          have HKEY := Lib.hid ((hS.still (Ux.Touch.refl (fun _ => False) wr).drew).key hp)
          have HP := Lib.hid hp
          clear hS hp
          go_wp2_with (fail)
          refine Ux.wp_region_plan (fun _ w' => w'.cell? ⟨g, q * 2, none⟩ = some (.string p.1) ∧ w'.cell? ⟨g, q * 2 + 1, none⟩ = some (.int .i64 p.2)) (.q [0, 2] (.e 1 true false (.q [3, 4, 5, 6, 7, 9, 10, 11, 12] (.h false [13] (.e 8 true false (.q [14, 15, 16, 18, 19, 20, 21] (.h false [22] (.e 17 true false (.q [23, 24, 25, 26, 27, 28, 29, 30, 31] (.e 32 true false (.q [33, 34, 35] (.e 36 true false (.q [37, 38, 39, 40] (.line []))))))))))))))
            (by kernel_rfl) (by kernel_rfl) (by intro _ _ d _ _ h; cases d <;> exact h) ?hS ?_
          case hS => (intro c; cases c <;> (simp only [World.cell?_drew]; first | exact True.intro | (refine ⟨?_, ?_⟩ <;> assumption) | assumption | (repeat (first | assumption | (refine And.intro ?_ ?_)))))
          simp only [Ux.wpPlan, Ux.pickOps, Ux.keeps, List.getElem?_toArray, List.getElem?_cons_succ, List.getElem?_cons_zero]
          repeat (first
            | go_big_quiet_step (fail)
            | (with_reducible refine wpQuiet_nil ?_)
            | (refine Ux.quiet_held rfl ?_; apply Exists.intro; refine ⟨fun w' hS => ?_, ?_⟩; (focus ((try dsimp only at hS); go_simp; first | done | with_reducible rfl)); simp only [Act.put, List.setIfInBounds_toArray, List.set_cons_zero, List.set_cons_succ]))
          go_wp2_with (go_at_call 12; refine HOK.out.mono ?_; rintro e w4 ⟨rfl, rfl⟩)
          refine ⟨⟨c0, c1⟩, ?_⟩
          repeat (first
            | go_big_quiet_step (fail)
            | (with_reducible refine wpQuiet_nil ?_)
            | (refine Ux.quiet_held rfl ?_; apply Exists.intro; refine ⟨fun w' hS => ?_, ?_⟩; (focus ((try dsimp only at hS); go_simp; first | done | with_reducible rfl)); simp only [Act.put, List.setIfInBounds_toArray, List.set_cons_zero, List.set_cons_succ]))
          go_wp2_with (go_at_call 13; fail)
          refine HKEY.out.mono ?_
          rintro e w4 ⟨rfl, S4, T4⟩
          have d0 := T4.cell (a := ⟨g, q * 2, none⟩) c0 (fun f => f)
          have d1 := T4.cell (a := ⟨g, q * 2 + 1, none⟩) c1 (fun f => f)
          have HROW := Lib.hid (S4.row HP.out)
          clear S4 T4 c0 c1 HOK HKEY
          go_wp2_with (fail)
          refine ⟨⟨d0, d1⟩, ?_⟩
          repeat (first
            | go_big_quiet_step (fail)
            | (with_reducible refine wpQuiet_nil ?_)
            | (refine Ux.quiet_held rfl ?_; apply Exists.intro; refine ⟨fun w' hS => ?_, ?_⟩; (focus ((try dsimp only at hS); go_simp; first | done | with_reducible rfl)); simp only [Act.put, List.setIfInBounds_toArray, List.set_cons_zero, List.set_cons_succ]))
          go_wp2_with (go_at_call 18; fail)
          refine HROW.out.mono ?_
          rintro e w5 ⟨rfl, S5, T5⟩
          have e0 := T5.cell (a := ⟨g, q * 2, none⟩) d0 (fun f => f)
          have e1 := T5.cell (a := ⟨g, q * 2 + 1, none⟩) d1 (fun f => f)
          have HS5 := Lib.hid S5
          clear S5 T5 d0 d1 HROW
          go_wp2_with (fail)
          refine ⟨⟨e0, e1⟩, ?_⟩
          repeat (first
            | go_big_quiet_step (fail)
            | (with_reducible refine wpQuiet_nil ?_)
            | (refine Ux.quiet_held rfl ?_; apply Exists.intro; refine ⟨fun w' hS => ?_, ?_⟩; (focus ((try dsimp only at hS); go_simp; first | done | with_reducible rfl)); simp only [Act.put, List.setIfInBounds_toArray, List.set_cons_zero, List.set_cons_succ]))
          go_wp2_with (fail)
          refine ⟨⟨e0, e1⟩, ?_⟩
          repeat (first
            | go_big_quiet_step (fail)
            | (with_reducible refine wpQuiet_nil ?_)
            | (refine Ux.quiet_held rfl ?_; apply Exists.intro; refine ⟨fun w' hS => ?_, ?_⟩; (focus ((try dsimp only at hS); go_simp; first | done | with_reducible rfl)); simp only [Act.put, List.setIfInBounds_toArray, List.set_cons_zero, List.set_cons_succ]))
          go_wp2_with (fail)
          refine ⟨⟨e0, e1⟩, ?_⟩
          repeat (first
            | go_big_quiet_step (fail)
            | (with_reducible refine wpQuiet_nil ?_)
            | (refine Ux.quiet_held rfl ?_; apply Exists.intro; refine ⟨fun w' hS => ?_, ?_⟩; (focus ((try dsimp only at hS); go_simp; first | done | with_reducible rfl)); simp only [Act.put, List.setIfInBounds_toArray, List.set_cons_zero, List.set_cons_succ]))
          clear e0 e1
          have hx : i = n ∨ (i ≠ n ∧ i = 60) ∨ (i < n ∧ i < 60) := by omega
          rcases hx with hx | ⟨hx, hx2⟩ | ⟨hx, hx2⟩
          · have b1 : ((i : Int) == (n : Int)) = true := by rw [beq_iff_eq]; omega
            have b2 : (i == n) = true := by rw [beq_iff_eq]; exact hx
            clear hx
            go_wp2_with (go_at_call 20; fail)
            refine (awake20 _).mono ?_
            rintro e w6 ⟨rfl, T6⟩
            have HT6 := Lib.hid (HS5.out.touch.trans T6 (fun _ _ f => f.elim))
            clear T6
            go_wp2
            go_ret
            exact ⟨rfl, HT6.out.mono (fun b hb h => by have := HNN.out; omega)⟩
          · have b1 : ((i : Int) == (n : Int)) = false := by rw [beq_eq_false_iff_ne]; omega
            have b2 : (i == n) = false := by rw [beq_eq_false_iff_ne]; exact hx
            have b3 : ((i : Int) == 60) = true := by rw [beq_iff_eq]; omega
            clear hx hx2
            go_wp2_with (go_at_call 20; fail)
            refine (awake20 _).mono ?_
            rintro e w6 ⟨rfl, T6⟩
            have HT6 := Lib.hid (HS5.out.touch.trans T6 (fun _ _ f => f.elim))
            clear T6
            go_wp2
            go_ret
            exact ⟨rfl, HT6.out.mono (fun b hb h => by have := HNN.out; omega)⟩
          · have b1 : ((i : Int) == (n : Int)) = false := by rw [beq_eq_false_iff_ne]; omega
            have b2 : (i == n) = false := by rw [beq_eq_false_iff_ne]; omega
            have b3 : ((i : Int) == 60) = false := by rw [beq_eq_false_iff_ne]; omega
            have p4 : (i : Int) < n := by omega
            have p5 : (i : Int) < 60 := by omega
            obtain ⟨b, hb⟩ : ∃ b, steps[i]? = some b := ⟨steps[i]'(by rw [HST.out.2]; exact hx), List.getElem?_eq_getElem _⟩
            obtain ⟨sg, sf, rfl, hsg, hsc⟩ := HST.out.1 i b hb
            have cs := HS5.out.touch.cell hsc (show ¬ N ≤ sg by have := HNN.out; omega)
            obtain ⟨gk', rfl⟩ : ∃ g', gk = g' + 1 := ⟨gk - 1, by omega⟩
            clear hsc hsg hb hx hx2
            cases b with
            | true =>
              have HPV := Lib.hid HS5.out.prev
              by_cases hq0 : q = 0
              · subst hq0
                clear HP HS
                go_wp2_with (go_at_call 19; fail)
                refine HPV.out.mono ?_
                rintro e w6 ⟨rfl, S6⟩
                have HS6 := Lib.hid (show SkRel W tb F N M cb L _ none w6 from S6)
                clear S6 HPV
                rw [show (prevO (some 0)).isSome = false from rfl]
                go_wp2_with (fail)
                go_roundg gk'
                case measure => omega
                case rel => exact ⟨i + 1, -1, none, by go_num, rfl, by omega, by omega, by omega, .inr ⟨rfl, .inl rfl⟩, HS6.out⟩
              · obtain ⟨q', rfl⟩ : ∃ q', q = q' + 1 := ⟨q - 1, by omega⟩
                have r0 : (0 : Int) ≤ q' := by omega
                have r1 : (q' : Int) < z := by omega
                clear hq0 HP HS
                go_wp2_with (go_at_call 19; fail)
                refine HPV.out.mono ?_
                rintro e w6 ⟨rfl, S6⟩
                have HS6 := Lib.hid (show SkRel W tb F N M cb L _ (some q') w6 from S6)
                clear S6 HPV
                rw [show (prevO (some (q' + 1))).isSome = true from rfl]
                go_wp2_with (fail)
                go_roundg gk'
                case measure => omega
                case rel => exact ⟨i + 1, q', some q', by go_num, rfl, by omega, by omega, by omega, .inl ⟨q', rfl, rfl, by omega⟩, HS6.out⟩
            | false =>
              have NX := HS5.out.next
              rw [HZ.out] at NX
              by_cases hq1 : q + 1 < z
              · have e1 : nextO z (some q) = some (q + 1) := by unfold nextO; simp [hq1]
                rw [e1] at NX
                have HNX := Lib.hid NX
                have r1 : (q : Int) + 1 < z := by omega
                clear e1 NX HP HS
                go_wp2_with (go_at_call 14; fail)
                refine HNX.out.mono ?_
                rintro e w6 ⟨rfl, S6⟩
                have HS6 := Lib.hid S6
                clear S6 HNX
                go_wp2_with (fail)
                go_roundg gk'
                case measure => omega
                case rel => exact ⟨i + 1, (q : Int) + 1, some (q + 1), by go_num, rfl, by omega, by omega, by omega, .inl ⟨q + 1, rfl, by omega, hq1⟩, HS6.out⟩
              · have e1 : nextO z (some q) = none := by unfold nextO; simp [hq1]
                rw [e1] at NX
                have HNX := Lib.hid NX
                have r1 : ¬ (q : Int) + 1 < z := by omega
                have r2 : z = q + 1 := by omega
                have HR2 := Lib.hid r2
                clear e1 NX HP HS r2
                go_wp2_with (go_at_call 14; fail)
                refine HNX.out.mono ?_
                rintro e w6 ⟨rfl, S6⟩
                have HS6 := Lib.hid S6
                clear S6 HNX
                go_wp2_with (fail)
                go_roundg gk'
                case measure => omega
                case rel => exact ⟨i + 1, (q : Int) + 1, none, by go_num, rfl, by omega, by omega, by omega, .inr ⟨rfl, .inr (by have := HR2.out; omega)⟩, HS6.out⟩
        · have HS := Lib.hid hS
          have HS5 := Lib.hid (hS.still (Ux.Touch.refl (fun _ => False) wr).drew)
          have HOK := Lib.hid (HS5.out.ok)
          have HKEY := Lib.hid (HS5.out.key0)
          have HROW := Lib.hid (HS5.out.row0)
          rcases ht with rfl | rfl
          all_goals
            clear hS
            go_wp2_with (fail)
            refine Ux.wp_region_plan (fun _ _ => True) (.q [0, 2] (.e 1 true false (.q [3, 4, 5, 6, 7, 9, 10, 11, 12] (.h false [13] (.e 8 true false (.q [14, 15, 16, 18, 19, 20, 21] (.h false [22] (.e 17 true false (.q [23, 24, 25, 26, 27, 28, 29, 30, 31] (.e 32 true false (.q [33, 34, 35] (.e 36 true false (.q [37, 38, 39, 40] (.line []))))))))))))))
              (by kernel_rfl) (by kernel_rfl) (by intro _ _ d _ _ h; cases d <;> exact h) ?hS ?_
            case hS => (intro c; cases c <;> (simp only [World.cell?_drew]; first | exact True.intro | (refine ⟨?_, ?_⟩ <;> assumption) | assumption | (repeat (first | assumption | (refine And.intro ?_ ?_)))))
            simp only [Ux.wpPlan, Ux.pickOps, Ux.keeps, List.getElem?_toArray, List.getElem?_cons_succ, List.getElem?_cons_zero]
            repeat (first
              | go_big_quiet_step (fail)
              | (with_reducible refine wpQuiet_nil ?_)
              | (refine Ux.quiet_held rfl ?_; apply Exists.intro; refine ⟨fun w' hS => ?_, ?_⟩; (focus ((try dsimp only at hS); go_simp; first | done | with_reducible rfl)); simp only [Act.put, List.setIfInBounds_toArray, List.set_cons_zero, List.set_cons_succ]))
            go_wp2_with (go_at_call 12; refine HOK.out.mono ?_; rintro e w4 ⟨rfl, rfl⟩)
            refine ⟨True.intro, ?_⟩
            repeat (first
              | go_big_quiet_step (fail)
              | (with_reducible refine wpQuiet_nil ?_)
              | (refine Ux.quiet_held rfl ?_; apply Exists.intro; refine ⟨fun w' hS => ?_, ?_⟩; (focus ((try dsimp only at hS); go_simp; first | done | with_reducible rfl)); simp only [Act.put, List.setIfInBounds_toArray, List.set_cons_zero, List.set_cons_succ]))
            go_wp2_with (fail)
            refine ⟨True.intro, ?_⟩
            repeat (first
              | go_big_quiet_step (fail)
              | (with_reducible refine wpQuiet_nil ?_)
              | (refine Ux.quiet_held rfl ?_; apply Exists.intro; refine ⟨fun w' hS => ?_, ?_⟩; (focus ((try dsimp only at hS); go_simp; first | done | with_reducible rfl)); simp only [Act.put, List.setIfInBounds_toArray, List.set_cons_zero, List.set_cons_succ]))
            go_wp2_with (fail)
            refine ⟨True.intro, ?_⟩
            repeat (first
              | go_big_quiet_step (fail)
              | (with_reducible refine wpQuiet_nil ?_)
              | (refine Ux.quiet_held rfl ?_; apply Exists.intro; refine ⟨fun w' hS => ?_, ?_⟩; (focus ((try dsimp only at hS); go_simp; first | done | with_reducible rfl)); simp only [Act.put, List.setIfInBounds_toArray, List.set_cons_zero, List.set_cons_succ]))
            go_wp2_with (go_at_call 13; refine HKEY.out.mono ?_; rintro e w4 ⟨rfl, rfl⟩)
            refine ⟨True.intro, ?_⟩
            repeat (first
              | go_big_quiet_step (fail)
              | (with_reducible refine wpQuiet_nil ?_)
              | (refine Ux.quiet_held rfl ?_; apply Exists.intro; refine ⟨fun w' hS => ?_, ?_⟩; (focus ((try dsimp only at hS); go_simp; first | done | with_reducible rfl)); simp only [Act.put, List.setIfInBounds_toArray, List.set_cons_zero, List.set_cons_succ]))
            go_wp2_with (go_at_call 18; refine HROW.out.mono ?_; rintro e w4 ⟨rfl, rfl⟩)
            refine ⟨True.intro, ?_⟩
            repeat (first
              | go_big_quiet_step (fail)
              | (with_reducible refine wpQuiet_nil ?_)
              | (refine Ux.quiet_held rfl ?_; apply Exists.intro; refine ⟨fun w' hS => ?_, ?_⟩; (focus ((try dsimp only at hS); go_simp; first | done | with_reducible rfl)); simp only [Act.put, List.setIfInBounds_toArray, List.set_cons_zero, List.set_cons_succ]))
            have hx : i = n ∨ (i ≠ n ∧ i = 60) ∨ (i < n ∧ i < 60) := by omega
            rcases hx with hx | ⟨hx, hx2⟩ | ⟨hx, hx2⟩
            · have b1 : ((i : Int) == (n : Int)) = true := by rw [beq_iff_eq]; omega
              have b2 : (i == n) = true := by rw [beq_iff_eq]; exact hx
              clear hx
              go_wp2_with (go_at_call 20; fail)
              refine (awake20 _).mono ?_
              rintro e w6 ⟨rfl, T6⟩
              have HT6 := Lib.hid (HS5.out.touch.trans T6 (fun _ _ f => f.elim))
              clear T6
              go_wp2
              go_ret
              exact ⟨rfl, HT6.out.mono (fun b hb h => by have := HNN.out; omega)⟩
            · have b1 : ((i : Int) == (n : Int)) = false := by rw [beq_eq_false_iff_ne]; omega
              have b2 : (i == n) = false := by rw [beq_eq_false_iff_ne]; exact hx
              have b3 : ((i : Int) == 60) = true := by rw [beq_iff_eq]; omega
              clear hx hx2
              go_wp2_with (go_at_call 20; fail)
              refine (awake20 _).mono ?_
              rintro e w6 ⟨rfl, T6⟩
              have HT6 := Lib.hid (HS5.out.touch.trans T6 (fun _ _ f => f.elim))
              clear T6
              go_wp2
              go_ret
              exact ⟨rfl, HT6.out.mono (fun b hb h => by have := HNN.out; omega)⟩
            · have b1 : ((i : Int) == (n : Int)) = false := by rw [beq_eq_false_iff_ne]; omega
              have b2 : (i == n) = false := by rw [beq_eq_false_iff_ne]; omega
              have b3 : ((i : Int) == 60) = false := by rw [beq_eq_false_iff_ne]; omega
              have p4 : (i : Int) < n := by omega
              have p5 : (i : Int) < 60 := by omega
              obtain ⟨b, hb⟩ : ∃ b, steps[i]? = some b := ⟨steps[i]'(by rw [HST.out.2]; exact hx), List.getElem?_eq_getElem _⟩
              obtain ⟨sg, sf, rfl, hsg, hsc⟩ := HST.out.1 i b hb
              have cs := HS5.out.touch.cell hsc (show ¬ N ≤ sg by have := HNN.out; omega)
              obtain ⟨gk', rfl⟩ : ∃ g', gk = g' + 1 := ⟨gk - 1, by omega⟩
              clear hsc hsg hb hx hx2
              cases b with
              | true =>
                have HPV := Lib.hid HS5.out.prev
                go_wp2_with (go_at_call 19; fail)
                refine HPV.out.mono ?_
                rintro e w6 ⟨rfl, S6⟩
                have S6' : SkRel W tb F N M cb L _ none w6 := S6
                have HOK6 := Lib.hid S6'.ok
                have HS6 := Lib.hid S6'
                clear S6 S6' HPV
                rw [show (prevO none).isSome = false from rfl]
                go_wp2_with (first | (go_at_call 12; refine HOK6.out.mono ?_; rintro e w' ⟨rfl, rfl⟩) | (go_at_call 20; fail))
                refine (awake20 _).mono ?_
                rintro e w7 ⟨rfl, T7⟩
                have HT7 := Lib.hid (HS6.out.touch.trans T7 (fun _ _ f => f.elim))
                clear T7
                go_wp2
                go_ret
                exact ⟨rfl, HT7.out.mono (fun b hb h => by have := HNN.out; omega)⟩
              | false =>
                have HNX := Lib.hid HS5.out.next
                go_wp2_with (go_at_call 14; fail)
                refine HNX.out.mono ?_
                rintro e w6 ⟨rfl, S6⟩
                have S6' : SkRel W tb F N M cb L _ none w6 := S6
                have HOK6 := Lib.hid S6'.ok
                have HS6 := Lib.hid S6'
                clear S6 S6' HNX
                rw [show (nextO L.length none).isSome = false from rfl]
                go_wp2_with (first | (go_at_call 12; refine HOK6.out.mono ?_; rintro e w' ⟨rfl, rfl⟩) | (go_at_call 20; fail))
                refine (awake20 _).mono ?_
                rintro e w7 ⟨rfl, T7⟩
                have HT7 := Lib.hid (HS6.out.touch.trans T7 (fun _ _ f => f.elim))
                clear T7
                go_wp2
                go_ret
                exact ⟨rfl, HT7.out.mono (fun b hb h => by have := HNN.out; omega)⟩

end Go.Proofs.Ytdfgpminonpeaaa
