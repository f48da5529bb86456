/- PART OF THE PROOF THAT THIS CLAIM HOLDS OF THE GIVEN PROGRAM, FOR EVERY INPUT THAT THE STATEMENT NAMES. No condition besides the statement's own. -/
import Derived.Test.YtjkeiomildghmaaGreatDoorImplZ
import Derived.Test.YtjkeiomildghmaaGreatDoorRows
import Derived.WalkKit
import Derived.Handy
import Derived.Laws.EntriesVeiled
import Derived.WalkSpells
import Derived.WalkLawsBesides
import Derived.BigQuiet
import Derived.Deep.QuietTactic
import Derived.Deep.Cut
import Derived.Deep.DeepCutAuto
import Derived.Lib.Overlaps
import Derived.Laws.Externs
import Derived.Lib.Hide
import Derived.Test.YtjkeiomildghmaaGreatDoorUxPlanAllZ
import Derived.Test.YtjkeiomildghmaaGreatDoorUxMemAZ
import Derived.Test.YtjkeiomildghmaaGreatDoorUxOrdZ
import Derived.Deep.LoopGhost
namespace Go.Proofs.YtjkeiomildghmaaGreatDoor
open Go.RowKit
open Go.RowKit
open Ux (Row iv sv bv ev eP eS eT eV implE)
open Ux.Sign (cp raw)

theorem sameSelf (va vb : Value) (l : List Nat) (w : World) (ha : Row w 0 30 va (ev l)) (hb : RRow w vb l) (hx : ∀ x ∈ l, x < 4294967296) (h1 : l.length ≤ 1000000000) :
    Calls Tryz.prog 10 #[va, vb] w fun e w' => e = .returned (.bool true) ∧ Ux.Touch (fun _ => False) w w' := by
  have := same_ va vb l l w ha hb hx h1 h1
  rw [beq_self_eq_true] at this
  exact this
theorem implI_le (c : Int) : (implI c).length ≤ 1000000000 := by rw [implI_len]; split <;> omega
theorem implI_row {c : Int} {w : World} {u : Value} (h : Row w 0 30 u (ev (implI c))) : (isI c = false → ∃ a k, u = .slice a 0 k) ∧ (isI c = true → ∃ g k, u = .slice (some ⟨g, 0, none⟩) 2 k ∧ w.cell? ⟨g, 0, none⟩ = some (.int .u32 (Ux.eMk (64256 + c.toNat / 32768) 32 2 false : Nat)) ∧ w.cell? ⟨g, 1, none⟩ = some (.int .u32 (Ux.eMk (32768 + c.toNat % 32768) 32 2 false : Nat))) := by
  obtain ⟨a, k, rfl, hc⟩ := h.is
  rw [Ux.ev_length, implI_len]
  refine ⟨fun h0 => ⟨a, k, by rw [h0]; rfl⟩, fun h1 => ?_⟩
  have e : implI c = implE c.toNat := by unfold implI; rw [if_pos h1]
  rw [e] at hc
  obtain ⟨g, rfl, _, h0⟩ := hc 0 _ rfl
  obtain ⟨g', hg, _, h2⟩ := hc 1 _ rfl
  cases hg
  exact ⟨g, k, by rw [h1]; rfl, h0, h2⟩

set_option maxHeartbeats 8000000 in
set_option maxRecDepth 100000 in
theorem implLaw_ (a b : Int) (w : World) (hT : Tabs w) (hD : TabD w) : Calls Tryz.prog 3 #[.int .i64 a, .int .i64 b] w fun e w' => e = .returned (.bool true) ∧ Ux.Touch (fun _ => False) w w' := by
  have HT := Lib.hid (And.intro hT hD)
  clear hT hD
  go_enter Tryz.func3, Tryz.ntmps3
  go_wp2_with (go_at_call 9; fail)
  refine (implG_ a w).mono ?_
  rintro e w1 ⟨u, rfl, hu, T1⟩
  go_wp2_with (go_at_call 9; fail)
  refine (implG_ b w1).mono ?_
  rintro e w2 ⟨v, rfl, hv, T2⟩
  have hu := hu.touch0 T2
  have T2 := T1.trans T2 fun _ _ f => f
  clear T1
  go_wp2_with (go_at_call 11; fail)
  refine (rimplG_ a w2).mono ?_
  rintro e w3 ⟨ru, rfl, hru, T3⟩
  go_wp2_with (go_at_call 10; fail)
  refine (sameSelf u ru (implI a) w3 (hu.touch0 T3) hru (implI_lt a) (implI_le a)).mono ?_
  rintro e w4 ⟨rfl, T4⟩
  have T4 := T3.trans T4 fun _ _ f => f
  clear hru T3
  go_wp2_with (go_at_call 11; fail)
  refine (rimplG_ b w4).mono ?_
  rintro e w5 ⟨rv, rfl, hrv, T5⟩
  have T5 := T4.trans T5 fun _ _ f => f
  go_wp2_with (go_at_call 10; fail)
  refine (sameSelf v rv (implI b) w5 (hv.touch0 T5) hrv (implI_lt b) (implI_le b)).mono ?_
  rintro e w6 ⟨rfl, T6⟩
  have T26 := T5.trans T6 fun _ _ f => f
  have T6 := T2.trans T26 fun _ _ f => f
  obtain ⟨u0, u1⟩ := implI_row (hu.touch0 T26)
  obtain ⟨v0, v1⟩ := implI_row (hv.touch0 T26)
  have HT6 := Lib.hid T6
  have HU := Lib.hid (And.intro u0 (And.intro u1 (And.intro v0 v1)))
  have HA := Lib.hid fun W (T : Ux.Touch (fun _ => False) w6 W) => awake5_ W ((HT.out.1.touch T6).touch T) ((HT.out.2.touch T6).touch T)
  clear hu hv T2 T4 hrv T5 T26 T6 u0 u1 v0 v1
  cases ha : isI a with
  | false =>
    obtain ⟨a1, k1, rfl⟩ := HU.out.1 ha
    cases hb : isI b with
    | false =>
      obtain ⟨a2, k2, rfl⟩ := HU.out.2.2.1 hb
      have HRA := Lib.hid fun W => rissign_ a W
      have HRB := Lib.hid fun W => rissign_ b W
      rw [ha] at HRA
      rw [hb] at HRB
      clear ha hb HU
      go_wp2_with (go_at_call 12; fail)
      refine (HRA.out _).mono ?_
      rintro e w' ⟨rfl, rfl⟩
      go_wp2_with (go_at_call 12; fail)
      refine (HRB.out _).mono ?_
      rintro e w' ⟨rfl, rfl⟩
      go_wp2_with (go_at_call 13; fail)
      refine (HA.out _ (Ux.Touch.refl _ _)).mono ?_
      rintro e w7 ⟨rfl, T7⟩
      go_wp2
      go_ret
      exact ⟨rfl, HT6.out.trans T7 fun _ _ f => f⟩
    | true =>
      obtain ⟨a2, k2, rfl, _⟩ := HU.out.2.2.2 hb
      have HRA := Lib.hid fun W => rissign_ a W
      have HRB := Lib.hid fun W => rissign_ b W
      rw [ha] at HRA
      rw [hb] at HRB
      clear ha hb HU
      go_wp2_with (go_at_call 12; fail)
      refine (HRA.out _).mono ?_
      rintro e w' ⟨rfl, rfl⟩
      go_wp2_with (go_at_call 12; fail)
      refine (HRB.out _).mono ?_
      rintro e w' ⟨rfl, rfl⟩
      go_wp2_with (go_at_call 13; fail)
      refine (HA.out _ (Ux.Touch.refl _ _)).mono ?_
      rintro e w7 ⟨rfl, T7⟩
      go_wp2
      go_ret
      exact ⟨rfl, HT6.out.trans T7 fun _ _ f => f⟩
  | true =>
    obtain ⟨a1, k1, rfl, c0, c1⟩ := HU.out.2.1 ha
    cases hb : isI b with
    | false =>
      obtain ⟨a2, k2, rfl⟩ := HU.out.2.2.1 hb
      clear c0 c1
      have HRA := Lib.hid fun W => rissign_ a W
      have HRB := Lib.hid fun W => rissign_ b W
      rw [ha] at HRA
      rw [hb] at HRB
      clear ha hb HU
      go_wp2_with (go_at_call 12; fail)
      refine (HRA.out _).mono ?_
      rintro e w' ⟨rfl, rfl⟩
      go_wp2_with (go_at_call 12; fail)
      refine (HRB.out _).mono ?_
      rintro e w' ⟨rfl, rfl⟩
      go_wp2_with (go_at_call 13; fail)
      refine (HA.out _ (Ux.Touch.refl _ _)).mono ?_
      rintro e w7 ⟨rfl, T7⟩
      go_wp2
      go_ret
      exact ⟨rfl, HT6.out.trans T7 fun _ _ f => f⟩
    | true =>
      obtain ⟨a2, k2, rfl, d0, d1⟩ := HU.out.2.2.2 hb
      obtain ⟨n, rfl, _, hn⟩ := isI_cp ha
      obtain ⟨m, rfl, _, hm⟩ := isI_cp hb
      rw [Int.toNat_natCast] at c0 c1 d0 d1
      have x0 := Ux.eMk_lt (p := 64256 + n / 32768) (s := 32) (t := 2) (v := false) (by omega) (by omega) (by omega)
      have x1 := Ux.eMk_lt (p := 32768 + n % 32768) (s := 32) (t := 2) (v := false) (by omega) (by omega) (by omega)
      have y0 := Ux.eMk_lt (p := 64256 + m / 32768) (s := 32) (t := 2) (v := false) (by omega) (by omega) (by omega)
      have y1 := Ux.eMk_lt (p := 32768 + m % 32768) (s := 32) (t := 2) (v := false) (by omega) (by omega) (by omega)
      have W1 := Lib.hid fun W => weight_ 1 _ 1 rfl (.inl rfl) x0 W
      have W2 := Lib.hid fun W => weight_ 1 _ 1 rfl (.inl rfl) x1 W
      have W3 := Lib.hid fun W => weight_ 1 _ 1 rfl (.inl rfl) y0 W
      have W4 := Lib.hid fun W => weight_ 1 _ 1 rfl (.inl rfl) y1 W
      have e0 : wt 1 (Ux.eMk (64256 + n / 32768) 32 2 false) = 64256 + n / 32768 := (implE_rc n hn).1
      have e1 : wt 1 (Ux.eMk (32768 + n % 32768) 32 2 false) = 32768 + n % 32768 := (implE_rc n hn).2.2.2.2.1
      have e2 : wt 1 (Ux.eMk (64256 + m / 32768) 32 2 false) = 64256 + m / 32768 := (implE_rc m hm).1
      have e3 : wt 1 (Ux.eMk (32768 + m % 32768) 32 2 false) = 32768 + m % 32768 := (implE_rc m hm).2.2.2.2.1
      rw [e0] at W1
      rw [e1] at W2
      rw [e2] at W3
      rw [e3] at W4
      obtain ⟨p0, hp0⟩ : ∃ p, 64256 + n / 32768 = p := ⟨_, rfl⟩
      obtain ⟨p1, hp1⟩ : ∃ p, 32768 + n % 32768 = p := ⟨_, rfl⟩
      obtain ⟨q0, hq0⟩ : ∃ p, 64256 + m / 32768 = p := ⟨_, rfl⟩
      obtain ⟨q1, hq1⟩ : ∃ p, 32768 + m % 32768 = p := ⟨_, rfl⟩
      rw [hp0] at W1 c0
      rw [hp1] at W2 c1
      rw [hq0] at W3 d0
      rw [hq1] at W4 d1
      obtain ⟨X0, hX0⟩ : ∃ p, Ux.eMk p0 32 2 false = p := ⟨_, rfl⟩
      obtain ⟨X1, hX1⟩ : ∃ p, Ux.eMk p1 32 2 false = p := ⟨_, rfl⟩
      obtain ⟨Y0, hY0⟩ : ∃ p, Ux.eMk q0 32 2 false = p := ⟨_, rfl⟩
      obtain ⟨Y1, hY1⟩ : ∃ p, Ux.eMk q1 32 2 false = p := ⟨_, rfl⟩
      rw [hX0] at W1 c0
      rw [hX1] at W2 c1
      rw [hY0] at W3 d0
      rw [hY1] at W4 d1
      have hless : (decide (n < m)) = (decide (p0 < q0) || (decide (p0 = q0) && decide (p1 < q1))) := by
        rw [Bool.eq_iff_iff]
        simp
        omega
      have hCS : ∀ W, Ux.Touch (fun _ => False) w6 W → W.cell? ⟨a1, 0, none⟩ = some (.int .u32 (X0 : Int)) ∧ W.cell? ⟨a1, 1, none⟩ = some (.int .u32 (X1 : Int)) ∧ W.cell? ⟨a2, 0, none⟩ = some (.int .u32 (Y0 : Int)) ∧ W.cell? ⟨a2, 1, none⟩ = some (.int .u32 (Y1 : Int)) :=
        fun W T => ⟨T.cell c0 (fun f => f), T.cell c1 (fun f => f), T.cell d0 (fun f => f), T.cell d1 (fun f => f)⟩
      have HC := Lib.hid hCS
      have HL := Lib.hid hless
      clear hless hCS hX0 hX1 hY0 hY1 hp0 hp1 hq0 hq1 e0 e1 e2 e3 x0 x1 y0 y1 hn hm ha hb HU
      go_upto_region 6 with (fail)
      refine Ux.wp_region_plan (fun _ w' => w'.cell? ⟨a1, 0, none⟩ = some (.int .u32 (X0 : Int)) ∧ w'.cell? ⟨a1, 1, none⟩ = some (.int .u32 (X1 : Int)) ∧ w'.cell? ⟨a2, 0, none⟩ = some (.int .u32 (Y0 : Int)) ∧ w'.cell? ⟨a2, 1, none⟩ = some (.int .u32 (Y1 : Int))) (.q [0, 1, 4, 5] (.h false [2, 6] (.e 3 true false (.e 7 true false (.q [8, 9, 10, 11, 14, 15] (.h false [12, 16] (.e 13 true false (.e 17 true false (.q [18, 19, 20, 21, 24, 25] (.h false [22, 26] (.e 23 true false (.e 27 true false (.q [28, 29, 30] (.line [31]))))))))))))))
        (by kernel_rfl) (by kernel_rfl) (by intro _ _ d _ _ h; cases d <;> exact h) ?hS ?_
      case hS => (intro c; cases c <;> (simp only [World.cell?_drew]; first | exact True.intro | (refine ⟨?_, ?_⟩ <;> assumption) | assumption | (repeat (first | assumption | (refine And.intro ?_ ?_)))))
      simp only [Ux.wpPlan, Ux.pickOps, Ux.keeps, List.getElem?_toArray, List.getElem?_cons_succ, List.getElem?_cons_zero]
      repeat (first
        | go_big_quiet_step (fail)
        | (with_reducible refine wpQuiet_nil ?_)
        | (refine Ux.quiet_held rfl ?_; apply Exists.intro; refine ⟨fun w' hS => ?_, ?_⟩; (focus ((try dsimp only at hS); go_simp; first | done | with_reducible rfl)); simp only [Act.put, List.setIfInBounds_toArray, List.set_cons_zero, List.set_cons_succ]))
      clear c0 c1 d0 d1
      have S1 := Lib.hid ((Ux.Touch.refl (fun _ => False) w6).drew)
      go_wp2_with (go_at_call 14; fail)
      refine (W1.out _).mono ?_
      rintro e w' ⟨rfl, rfl⟩
      go_wp2_with (fail)
      refine ⟨HC.out _ S1.out, ?_⟩
      have hc : (p0 < q0 ∧ n < m) ∨ (p0 = q0 ∧ p1 < q1 ∧ n < m) ∨ (p0 = q0 ∧ ¬ p1 < q1 ∧ ¬ n < m) ∨ (¬ p0 < q0 ∧ ¬ p0 = q0 ∧ ¬ n < m) := by
        have h := HL.out
        by_cases h1 : p0 < q0
        · simp [h1] at h
          exact .inl ⟨h1, h⟩
        · by_cases h2 : p0 = q0
          · by_cases h3 : p1 < q1
            · simp [h2, h3] at h
              exact .inr (.inl ⟨h2, h3, h⟩)
            · simp [h2, h3] at h
              exact .inr (.inr (.inl ⟨h2, h3, by omega⟩))
          · simp [h1, h2] at h
            exact .inr (.inr (.inr ⟨h1, h2, by omega⟩))
      rcases hc with ⟨h1, h2⟩ | ⟨h1, h3, h2⟩ | ⟨h1, h3, h2⟩ | ⟨h1, h3, h2⟩
      · clear HL
        have f1 : decide (p0 < q0) = true := decide_eq_true h1
        have f2 : decide ((p0 : Int) < q0) = true := decide_eq_true (by omega)
        have f3 : decide (n < m) = true := decide_eq_true h2
        have f4 : decide ((n : Int) < m) = true := decide_eq_true (by omega)
        clear h1 h2
        repeat (first
          | go_big_quiet_step (fail)
          | (with_reducible refine wpQuiet_nil ?_)
          | (refine Ux.quiet_held rfl ?_; apply Exists.intro; refine ⟨fun w' hS => ?_, ?_⟩; (focus ((try dsimp only at hS); go_simp; first | done | with_reducible rfl)); simp only [Act.put, List.setIfInBounds_toArray, List.set_cons_zero, List.set_cons_succ]))
        go_wp2_with (go_at_call 14; fail)
        refine (W3.out _).mono ?_
        rintro e w' ⟨rfl, rfl⟩
        go_wp2_with (fail)
        refine ⟨HC.out _ S1.out, ?_⟩
        repeat (first
          | go_big_quiet_step (fail)
          | (with_reducible refine wpQuiet_nil ?_)
          | (refine Ux.quiet_held rfl ?_; apply Exists.intro; refine ⟨fun w' hS => ?_, ?_⟩; (focus ((try dsimp only at hS); go_simp; first | done | with_reducible rfl)); simp only [Act.put, List.setIfInBounds_toArray, List.set_cons_zero, List.set_cons_succ]))
        go_wp2_with (fail)
        refine ⟨HC.out _ S1.out, ?_⟩
        go_wp2_with (fail)
        refine ⟨HC.out _ S1.out, ?_⟩
        repeat (first
          | go_big_quiet_step (fail)
          | (with_reducible refine wpQuiet_nil ?_)
          | (refine Ux.quiet_held rfl ?_; apply Exists.intro; refine ⟨fun w' hS => ?_, ?_⟩; (focus ((try dsimp only at hS); go_simp; first | done | with_reducible rfl)); simp only [Act.put, List.setIfInBounds_toArray, List.set_cons_zero, List.set_cons_succ]))
        go_wp2_with (fail)
        refine ⟨HC.out _ S1.out, ?_⟩
        go_wp2_with (fail)
        refine ⟨HC.out _ S1.out, ?_⟩
        repeat (first
          | go_big_quiet_step (fail)
          | (with_reducible refine wpQuiet_nil ?_)
          | (refine Ux.quiet_held rfl ?_; apply Exists.intro; refine ⟨fun w' hS => ?_, ?_⟩; (focus ((try dsimp only at hS); go_simp; first | done | with_reducible rfl)); simp only [Act.put, List.setIfInBounds_toArray, List.set_cons_zero, List.set_cons_succ]))
        go_wp2_with (go_at_call 13; fail)
        refine (HA.out _ S1.out).mono ?_
        rintro e w7 ⟨rfl, T7⟩
        go_wp2
        go_ret
        exact ⟨rfl, (HT6.out.trans S1.out fun _ _ f => f).trans T7 fun _ _ f => f⟩
      · clear HL
        subst h1
        have g1 : decide (p0 < p0) = false := decide_eq_false (by omega)
        have g2 : decide ((p0 : Int) < p0) = false := decide_eq_false (by omega)
        have f1 : decide (p1 < q1) = true := decide_eq_true h3
        have f2 : decide ((p1 : Int) < q1) = true := decide_eq_true (by omega)
        have f3 : decide (n < m) = true := decide_eq_true h2
        have f4 : decide ((n : Int) < m) = true := decide_eq_true (by omega)
        clear h3 h2
        repeat (first
          | go_big_quiet_step (fail)
          | (with_reducible refine wpQuiet_nil ?_)
          | (refine Ux.quiet_held rfl ?_; apply Exists.intro; refine ⟨fun w' hS => ?_, ?_⟩; (focus ((try dsimp only at hS); go_simp; first | done | with_reducible rfl)); simp only [Act.put, List.setIfInBounds_toArray, List.set_cons_zero, List.set_cons_succ]))
        go_wp2_with (go_at_call 14; fail)
        refine (W3.out _).mono ?_
        rintro e w' ⟨rfl, rfl⟩
        go_wp2_with (fail)
        refine ⟨HC.out _ S1.out, ?_⟩
        repeat (first
          | go_big_quiet_step (fail)
          | (with_reducible refine wpQuiet_nil ?_)
          | (refine Ux.quiet_held rfl ?_; apply Exists.intro; refine ⟨fun w' hS => ?_, ?_⟩; (focus ((try dsimp only at hS); go_simp; first | done | with_reducible rfl)); simp only [Act.put, List.setIfInBounds_toArray, List.set_cons_zero, List.set_cons_succ]))
        go_wp2_with (go_at_call 14; fail)
        refine (W1.out _).mono ?_
        rintro e w' ⟨rfl, rfl⟩
        go_wp2_with (fail)
        refine ⟨HC.out _ S1.out, ?_⟩
        go_wp2_with (go_at_call 14; fail)
        refine (W3.out _).mono ?_
        rintro e w' ⟨rfl, rfl⟩
        go_wp2_with (fail)
        refine ⟨HC.out _ S1.out, ?_⟩
        repeat (first
          | go_big_quiet_step (fail)
          | (with_reducible refine wpQuiet_nil ?_)
          | (refine Ux.quiet_held rfl ?_; apply Exists.intro; refine ⟨fun w' hS => ?_, ?_⟩; (focus ((try dsimp only at hS); go_simp; first | done | with_reducible rfl)); simp only [Act.put, List.setIfInBounds_toArray, List.set_cons_zero, List.set_cons_succ]))
        go_wp2_with (go_at_call 14; fail)
        refine (W2.out _).mono ?_
        rintro e w' ⟨rfl, rfl⟩
        go_wp2_with (fail)
        refine ⟨HC.out _ S1.out, ?_⟩
        go_wp2_with (go_at_call 14; fail)
        refine (W4.out _).mono ?_
        rintro e w' ⟨rfl, rfl⟩
        go_wp2_with (fail)
        refine ⟨HC.out _ S1.out, ?_⟩
        repeat (first
          | go_big_quiet_step (fail)
          | (with_reducible refine wpQuiet_nil ?_)
          | (refine Ux.quiet_held rfl ?_; apply Exists.intro; refine ⟨fun w' hS => ?_, ?_⟩; (focus ((try dsimp only at hS); go_simp; first | done | with_reducible rfl)); simp only [Act.put, List.setIfInBounds_toArray, List.set_cons_zero, List.set_cons_succ]))
        go_wp2_with (go_at_call 13; fail)
        refine (HA.out _ S1.out).mono ?_
        rintro e w7 ⟨rfl, T7⟩
        go_wp2
        go_ret
        exact ⟨rfl, (HT6.out.trans S1.out fun _ _ f => f).trans T7 fun _ _ f => f⟩
      · clear HL
        subst h1
        have g1 : decide (p0 < p0) = false := decide_eq_false (by omega)
        have g2 : decide ((p0 : Int) < p0) = false := decide_eq_false (by omega)
        have f1 : decide (p1 < q1) = false := decide_eq_false h3
        have f2 : decide ((p1 : Int) < q1) = false := decide_eq_false (by omega)
        have f3 : decide (n < m) = false := decide_eq_false h2
        have f4 : decide ((n : Int) < m) = false := decide_eq_false (by omega)
        clear h3 h2
        repeat (first
          | go_big_quiet_step (fail)
          | (with_reducible refine wpQuiet_nil ?_)
          | (refine Ux.quiet_held rfl ?_; apply Exists.intro; refine ⟨fun w' hS => ?_, ?_⟩; (focus ((try dsimp only at hS); go_simp; first | done | with_reducible rfl)); simp only [Act.put, List.setIfInBounds_toArray, List.set_cons_zero, List.set_cons_succ]))
        go_wp2_with (go_at_call 14; fail)
        refine (W3.out _).mono ?_
        rintro e w' ⟨rfl, rfl⟩
        go_wp2_with (fail)
        refine ⟨HC.out _ S1.out, ?_⟩
        repeat (first
          | go_big_quiet_step (fail)
          | (with_reducible refine wpQuiet_nil ?_)
          | (refine Ux.quiet_held rfl ?_; apply Exists.intro; refine ⟨fun w' hS => ?_, ?_⟩; (focus ((try dsimp only at hS); go_simp; first | done | with_reducible rfl)); simp only [Act.put, List.setIfInBounds_toArray, List.set_cons_zero, List.set_cons_succ]))
        go_wp2_with (go_at_call 14; fail)
        refine (W1.out _).mono ?_
        rintro e w' ⟨rfl, rfl⟩
        go_wp2_with (fail)
        refine ⟨HC.out _ S1.out, ?_⟩
        go_wp2_with (go_at_call 14; fail)
        refine (W3.out _).mono ?_
        rintro e w' ⟨rfl, rfl⟩
        go_wp2_with (fail)
        refine ⟨HC.out _ S1.out, ?_⟩
        repeat (first
          | go_big_quiet_step (fail)
          | (with_reducible refine wpQuiet_nil ?_)
          | (refine Ux.quiet_held rfl ?_; apply Exists.intro; refine ⟨fun w' hS => ?_, ?_⟩; (focus ((try dsimp only at hS); go_simp; first | done | with_reducible rfl)); simp only [Act.put, List.setIfInBounds_toArray, List.set_cons_zero, List.set_cons_succ]))
        go_wp2_with (go_at_call 14; fail)
        refine (W2.out _).mono ?_
        rintro e w' ⟨rfl, rfl⟩
        go_wp2_with (fail)
        refine ⟨HC.out _ S1.out, ?_⟩
        go_wp2_with (go_at_call 14; fail)
        refine (W4.out _).mono ?_
        rintro e w' ⟨rfl, rfl⟩
        go_wp2_with (fail)
        refine ⟨HC.out _ S1.out, ?_⟩
        repeat (first
          | go_big_quiet_step (fail)
          | (with_reducible refine wpQuiet_nil ?_)
          | (refine Ux.quiet_held rfl ?_; apply Exists.intro; refine ⟨fun w' hS => ?_, ?_⟩; (focus ((try dsimp only at hS); go_simp; first | done | with_reducible rfl)); simp only [Act.put, List.setIfInBounds_toArray, List.set_cons_zero, List.set_cons_succ]))
        go_wp2_with (go_at_call 13; fail)
        refine (HA.out _ S1.out).mono ?_
        rintro e w7 ⟨rfl, T7⟩
        go_wp2
        go_ret
        exact ⟨rfl, (HT6.out.trans S1.out fun _ _ f => f).trans T7 fun _ _ f => f⟩
      · clear HL
        have g1 : decide (p0 < q0) = false := decide_eq_false h1
        have g2 : decide ((p0 : Int) < q0) = false := decide_eq_false (by omega)
        have f1 : ((p0 : Int) == q0) = false := by simp; omega
        have f2 : decide (p0 = q0) = false := decide_eq_false h3
        have f3 : decide (n < m) = false := decide_eq_false h2
        have f4 : decide ((n : Int) < m) = false := decide_eq_false (by omega)
        clear h1 h3 h2
        repeat (first
          | go_big_quiet_step (fail)
          | (with_reducible refine wpQuiet_nil ?_)
          | (refine Ux.quiet_held rfl ?_; apply Exists.intro; refine ⟨fun w' hS => ?_, ?_⟩; (focus ((try dsimp only at hS); go_simp; first | done | with_reducible rfl)); simp only [Act.put, List.setIfInBounds_toArray, List.set_cons_zero, List.set_cons_succ]))
        go_wp2_with (go_at_call 14; fail)
        refine (W3.out _).mono ?_
        rintro e w' ⟨rfl, rfl⟩
        go_wp2_with (fail)
        refine ⟨HC.out _ S1.out, ?_⟩
        repeat (first
          | go_big_quiet_step (fail)
          | (with_reducible refine wpQuiet_nil ?_)
          | (refine Ux.quiet_held rfl ?_; apply Exists.intro; refine ⟨fun w' hS => ?_, ?_⟩; (focus ((try dsimp only at hS); go_simp; first | done | with_reducible rfl)); simp only [Act.put, List.setIfInBounds_toArray, List.set_cons_zero, List.set_cons_succ]))
        go_wp2_with (go_at_call 14; fail)
        refine (W1.out _).mono ?_
        rintro e w' ⟨rfl, rfl⟩
        go_wp2_with (fail)
        refine ⟨HC.out _ S1.out, ?_⟩
        go_wp2_with (go_at_call 14; fail)
        refine (W3.out _).mono ?_
        rintro e w' ⟨rfl, rfl⟩
        go_wp2_with (fail)
        refine ⟨HC.out _ S1.out, ?_⟩
        repeat (first
          | go_big_quiet_step (fail)
          | (with_reducible refine wpQuiet_nil ?_)
          | (refine Ux.quiet_held rfl ?_; apply Exists.intro; refine ⟨fun w' hS => ?_, ?_⟩; (focus ((try dsimp only at hS); go_simp; first | done | with_reducible rfl)); simp only [Act.put, List.setIfInBounds_toArray, List.set_cons_zero, List.set_cons_succ]))
        go_wp2_with (fail)
        refine ⟨HC.out _ S1.out, ?_⟩
        go_wp2_with (fail)
        refine ⟨HC.out _ S1.out, ?_⟩
        repeat (first
          | go_big_quiet_step (fail)
          | (with_reducible refine wpQuiet_nil ?_)
          | (refine Ux.quiet_held rfl ?_; apply Exists.intro; refine ⟨fun w' hS => ?_, ?_⟩; (focus ((try dsimp only at hS); go_simp; first | done | with_reducible rfl)); simp only [Act.put, List.setIfInBounds_toArray, List.set_cons_zero, List.set_cons_succ]))
        go_wp2_with (go_at_call 13; fail)
        refine (HA.out _ S1.out).mono ?_
        rintro e w7 ⟨rfl, T7⟩
        go_wp2
        go_ret
        exact ⟨rfl, (HT6.out.trans S1.out fun _ _ f => f).trans T7 fun _ _ f => f⟩

end Go.Proofs.YtjkeiomildghmaaGreatDoor
