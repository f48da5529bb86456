/- PART OF THE PROOF THAT THIS CLAIM HOLDS OF THE GIVEN PROGRAM, FOR EVERY INPUT THAT THE STATEMENT NAMES. No condition besides the statement's own. -/
import Derived.Test.YtkeodddpnmnheaaGreatDoorAlikeZ
import Derived.WalkMore
import Derived.Test.YtkeodddpnmnheaaGreatDoorRows
import Derived.WalkKit
import Derived.Handy
import Derived.Laws.EntriesVeiled
import Derived.WalkSpells
import Derived.WalkLawsBesides
import Derived.BigQuiet
import Derived.Deep.QuietTactic
import Derived.Deep.Cut
import Derived.Deep.DeepCutAuto
import Derived.Lib.Overlaps
import Derived.Laws.Externs
import Derived.Lib.Hide
import Derived.Test.YtkeodddpnmnheaaGreatDoorUxPlanAllZ
import Derived.Test.YtkeodddpnmnheaaGreatDoorUxMemAZ
import Derived.Test.YtkeodddpnmnheaaGreatDoorUxCollAZ
import Derived.Deep.LoopGhost
namespace Go.Proofs.YtkeodddpnmnheaaGreatDoor
open Go.RowKit
open Go.RowKit
open Ux (Row iv sv bv)
open Ux.Sign (signs)
open Ux.Like (mat At hit)

theorem row_at {w : World} {lo n c : Nat} {t : TypeId} {a : Option Addr} {xs : List Value} (h : Row w lo t (.slice a n c) xs) {j : Nat} {u : Value} (hj : xs[j]? = some u) : ∃ g, a = some ⟨g, 0, none⟩ ∧ lo ≤ g ∧ w.cell? ⟨g, j, none⟩ = some u := by
  obtain ⟨a', c', e, h⟩ := h.is
  injection e with e1 _ _
  subst e1
  exact h j u hj

set_option maxHeartbeats 8000000 in
set_option maxRecDepth 100000 in
/-- Match: what the pattern stands for, whatever is alike -/
theorem match_ (eqv : Int → Int → Bool) (kd lv : Int) (sh bk : Bool) (tb : Option Addr) (P : List Int) (pv : Value) (lo : Nat) (s : ByteArray) (w : World) (hs : s.size ≤ 1000000) (hT : Tabs w) (hP : Row w lo 3 pv (iv P)) (hp : P.length ≤ 1000000)
    (hA : ∀ (a b : Int) (w' : World), a ∈ P → a ≠ -1 → a ≠ -2 → b ∈ sv (signs s.data.toList) → Ux.Touch (fun _ => False) w w' →
      Calls Tryz.prog 66 #[.agg #[.int .i64 kd, .int .i64 lv, .bool sh, .bool bk, .pointer tb], .int .i64 a, .int .i64 b] w' fun e w'' => e = .returned (.bool (eqv a b)) ∧ Ux.Touch (fun _ => False) w' w'') :
    Calls Tryz.prog 38 #[.agg #[pv], .agg #[.int .i64 kd, .int .i64 lv, .bool sh, .bool bk, .pointer tb], .string s] w fun e w' => e = .returned (.bool (mat eqv P (sv (signs s.data.toList)))) ∧ Ux.Touch (fun _ => False) w w' := by
  obtain ⟨L, hL⟩ : ∃ L, sv (signs s.data.toList) = L := ⟨_, rfl⟩
  have C := Lib.hid fun w' (T : Ux.Touch (fun _ => False) w w') => signs_ s w' (by omega) (hT.touch T)
  rw [hL] at C hA ⊢
  have hLn : L.length ≤ 1000000 := by rw [← hL, Ux.sv_length]; have := signs_len s.data.toList; have e : s.data.toList.length = s.size := by simp
                                      omega
  obtain ⟨ap, cp, rfl, _⟩ := hP.is
  obtain ⟨np, hnp⟩ : ∃ np, P.length = np := ⟨_, rfl⟩
  rw [Ux.iv_length, hnp] at hP ⊢
  obtain ⟨R, hR⟩ : ∃ R, mat eqv P L = R := ⟨_, rfl⟩
  rw [hR]
  have T0 := ((Ux.Touch.refl (fun _ => False) w).alloc (.cells #[.slice ap np cp] 60)).alloc (.cells #[.int .i64 kd, .int .i64 lv, .bool sh, .bool bk, .pointer tb] 26)
  have e1 : ((w.alloc (.cells #[.slice ap np cp] 60)).alloc (.cells #[.int .i64 kd, .int .i64 lv, .bool sh, .bool bk, .pointer tb] 26)).heap[w.heap.size]? = some (.cells #[.slice ap np cp] 60 (0, 0)) :=
    ((Ux.Touch.refl (fun _ => False) _).alloc _).heap (heap_alloc_new w _) (fun f => f)
  have e2 : ((w.alloc (.cells #[.slice ap np cp] 60)).alloc (.cells #[.int .i64 kd, .int .i64 lv, .bool sh, .bool bk, .pointer tb] 26)).heap[w.heap.size + 1]? = some (.cells #[.int .i64 kd, .int .i64 lv, .bool sh, .bool bk, .pointer tb] 26 (0, 0)) := by
    have := heap_alloc_new (w.alloc (.cells #[.slice ap np cp] 60)) (.cells #[.int .i64 kd, .int .i64 lv, .bool sh, .bool bk, .pointer tb] 26)
    rwa [World.size_alloc] at this
  obtain ⟨w1, hw1⟩ : ∃ w1, (w.alloc (.cells #[.slice ap np cp] 60)).alloc (.cells #[.int .i64 kd, .int .i64 lv, .bool sh, .bool bk, .pointer tb] 26) = w1 := ⟨_, rfl⟩
  obtain ⟨B, hB⟩ : ∃ B, w.heap.size = B := ⟨_, rfl⟩
  rw [hw1] at T0 e1 e2
  rw [hB] at e1 e2
  have C1 := C.out w1 T0
  have HH := Lib.hid (And.intro T0 (And.intro e1 (And.intro e2 (And.intro hP (And.intro hA (And.intro hR (And.intro hLn (And.intro hp hnp))))))))
  have C := Lib.hid C1
  have g0 : (np : Int) ≤ 1000000 := by omega
  clear hT hP hA T0 e1 e2 C1 hR hL hLn hp hnp hs
  go_enter Tryz.func38, Tryz.ntmps38
  go_wp2
  go_step3
  go_wp2_with (go_at_call 65; fail)
  refine C.out.mono ?_
  rintro e w2 ⟨lvv, rfl, hR2, T2⟩
  obtain ⟨al, cl, rfl, _⟩ := hR2.is
  obtain ⟨nl, hnl⟩ : ∃ nl, L.length = nl := ⟨_, rfl⟩
  rw [Ux.iv_length, hnl] at hR2 ⊢
  have g1 : (nl : Int) ≤ 1000000 := by have := HH.out.2.2.2.2.2.2.1; omega
  have HT2 := Lib.hid (And.intro T2 (And.intro (HH.out.1.trans T2 fun _ _ f => f) (And.intro hR2 hnl)))
  -- what holds in every later world
  have CELLS : ∀ wr, Ux.Touch (fun _ => False) w2 wr → wr.cell? ⟨B, 0, none⟩ = some (.slice ap np cp) ∧ wr.cell? ⟨B + 1, 0, none⟩ = some (.int .i64 kd) ∧ wr.cell? ⟨B + 1, 1, none⟩ = some (.int .i64 lv) ∧ wr.cell? ⟨B + 1, 2, none⟩ = some (.bool sh) ∧ wr.cell? ⟨B + 1, 3, none⟩ = some (.bool bk) ∧ wr.cell? ⟨B + 1, 4, none⟩ = some (.pointer tb) := fun wr T => by
    have f1 := (T2.trans T fun _ _ f => f).heap HH.out.2.1 (fun f => f)
    have f2 := (T2.trans T fun _ _ f => f).heap HH.out.2.2.1 (fun f => f)
    refine ⟨?_, ?_, ?_, ?_, ?_, ?_⟩
    · rw [cell_of_row wr B 0 _ _ (0, 0) f1]; rfl
    · rw [cell_of_row wr (B + 1) 0 _ _ (0, 0) f2]; rfl
    · rw [cell_of_row wr (B + 1) 1 _ _ (0, 0) f2]; rfl
    · rw [cell_of_row wr (B + 1) 2 _ _ (0, 0) f2]; rfl
    · rw [cell_of_row wr (B + 1) 3 _ _ (0, 0) f2]; rfl
    · rw [cell_of_row wr (B + 1) 4 _ _ (0, 0) f2]; rfl
  have HC := Lib.hid CELLS
  clear T2 hR2 hnl C CELLS
  go_wp2
  go_step3
  go_wp2
  go_loopg [8, 9, 10, 11] ((nl + 1) * (np + 2) + np) (fun g s8 s9 s10 s11 wr => ∃ (b : Int) (f i k : Nat), s8 = .int .i64 b ∧ s9 = .int .i64 f ∧ s10 = .int .i64 i ∧ s11 = .int .i64 k ∧ (nl + 1 - f) * (np + 2) + (np - k) ≤ g ∧ -1 ≤ b ∧ b < np + 1 ∧ Hid (At eqv P L b f i k ∧ Ux.Touch (fun _ => False) w2 wr))
  case atStart =>
    exact ⟨-1, 0, 0, 0, rfl, rfl, rfl, rfl, by simp, by omega, by omega, Lib.hid ⟨Ux.Like.At.start P L, Ux.Touch.refl _ _⟩⟩
  case round =>
    obtain ⟨b, f, i, k, rfl, rfl, rfl, rfl, hg, hb1, hb2, HI⟩ := hrel
    have p0 : (0 : Int) ≤ f := by omega
    have p1 : (0 : Int) ≤ i := by omega
    have p2 : (0 : Int) ≤ k := by omega
    have q1 : i ≤ nl := by have := HI.out.1.1; have := HT2.out.2.2.2; omega
    have q2 : k ≤ np := by have := HI.out.1.2.1; have := HH.out.2.2.2.2.2.2.2.2; omega
    have q3 : f ≤ i := HI.out.1.2.2.1
    obtain ⟨c0, d0, d1, d2, d3, d4⟩ := HC.out wr HI.out.2
    by_cases hi : i < nl
    · have j1 : (i : Int) < nl := by omega
      have hm : np + 2 ≤ (nl + 1 - f) * (np + 2) := Nat.le_mul_of_pos_left _ (by omega)
      obtain ⟨g', rfl⟩ : ∃ g', gk = g' + 1 := ⟨gk - 1, by omega⟩
      obtain ⟨x, hx⟩ : ∃ x, L[i]? = some x := ⟨L[i]'(by have := HT2.out.2.2.2; omega), List.getElem?_eq_getElem _⟩
      obtain ⟨gl, rfl, _, cl0⟩ := row_at HT2.out.2.2.1 (Ux.iv_get hx)
      have cl1 := HI.out.2.cell cl0 (fun f => f)
      clear cl0
      cases hpk : P[k]? with
      | none =>
        have hkn : k = np := by have := List.getElem?_eq_none_iff.1 hpk; have := HH.out.2.2.2.2.2.2.2.2; omega
        have j2 : ¬ ((k : Int) < np) := by omega
        have HX := Lib.hid (And.intro hx hpk)
        have hno : ∀ c, P[k]? = some c → c ≠ -1 ∧ hit eqv c x = false := fun c hc => by rw [hpk] at hc; cases hc
        have HN := Lib.hid hno
        clear hno d0 d1 d2 d3 d4 cl1
        clear hpk
        go_upto_region 7 with (fail)
        refine Ux.wp_region_plan (fun _ w' => w'.cell? ⟨B, 0, none⟩ = some (.slice ap np cp)) (.q [0, 1] (.h false [2] (.q [3, 4, 5, 6, 8] (.h false [7] (.q [9] (.h false [10] (.q [11, 12, 14, 16, 19, 20, 21] (.h false [13, 15, 22] (.q [17] (.h false [18] (.e 23 true false (.q [24, 25, 26] (.line [])))))))))))))
          (by kernel_rfl) (by kernel_rfl) (by intro _ _ d _ _ h; cases d <;> exact h) ?hS ?_
        case hS => (intro c; cases c <;> (simp only [World.cell?_drew]; first | exact True.intro | (refine ⟨?_, ?_⟩ <;> assumption) | assumption | (repeat (first | assumption | (refine And.intro ?_ ?_)))))
        simp only [Ux.wpPlan, Ux.pickOps, Ux.keeps, List.getElem?_toArray, List.getElem?_cons_succ, List.getElem?_cons_zero]
        repeat (first
          | go_big_quiet_step (fail)
          | (with_reducible refine wpQuiet_nil ?_)
          | (refine Ux.quiet_held rfl ?_; apply Exists.intro; refine ⟨fun w' hS => ?_, ?_⟩; (focus ((try dsimp only at hS); go_simp; first | done | with_reducible rfl)); simp only [Act.put, List.setIfInBounds_toArray, List.set_cons_zero, List.set_cons_succ]))
        go_wp2_with (fail)
        repeat (first
          | go_big_quiet_step (fail)
          | (with_reducible refine wpQuiet_nil ?_)
          | (refine Ux.quiet_held rfl ?_; apply Exists.intro; refine ⟨fun w' hS => ?_, ?_⟩; (focus ((try dsimp only at hS); go_simp; first | done | with_reducible rfl)); simp only [Act.put, List.setIfInBounds_toArray, List.set_cons_zero, List.set_cons_succ]))
        by_cases hbn : b < 0
        · have hR : R = false := by rw [← HH.out.2.2.2.2.2.1]; exact HI.out.1.no HX.out.1 (HN.out) hbn
          have HR := Lib.hid hR
          clear hR
          go_wp2
          first | rw [Exit.noGoto_ret] | skip
          go_ret
          refine ⟨by rw [HR.out]; rfl, ?_⟩
          exact HT2.out.2.1.trans HI.out.2.drew fun _ _ f => f
        · have hat := HI.out.1.again HX.out.1 (HN.out) hbn
          have HA2 := Lib.hid hat
          clear hat
          go_wp2
          go_roundg g'
          case measure => omega
          case rel =>
            refine ⟨b, f + 1, f + 1, (b + 1).toNat, rfl, rfl, rfl, by rw [Int.toNat_of_nonneg (by omega)], ?_, by omega, hb2, Lib.hid ⟨HA2.out, HI.out.2.drew⟩⟩
            have e : nl + 1 - f = (nl + 1 - (f + 1)) + 1 := by omega
            rw [e, Nat.add_mul, Nat.one_mul] at hg
            omega
      | some pk =>
        have hkn : k < np := by have := (List.getElem?_eq_some_iff.1 hpk).1; have := HH.out.2.2.2.2.2.2.2.2; omega
        have j2 : (k : Int) < np := by omega
        obtain ⟨gp, rfl, _, cp0⟩ := row_at HH.out.2.2.2.1 (Ux.iv_get hpk)
        have cp1 := (HT2.out.2.1.trans HI.out.2 fun _ _ f => f).cell cp0 (fun f => f)
        clear cp0
        by_cases h1 : pk = -1
        · subst h1
          have hat := HI.out.1.star hpk
          have HA2 := Lib.hid hat
          have hm2 : (nl + 1 - i) * (np + 2) ≤ (nl + 1 - f) * (np + 2) := Nat.mul_le_mul_right _ (by omega)
          clear hat hx hpk d0 d1 d2 d3 d4 cl1
          go_wp2
          go_roundg g'
          case measure => omega
          case rel => exact ⟨k, i, i, k + 1, rfl, rfl, rfl, rfl, by omega, by omega, by omega, Lib.hid ⟨HA2.out, HI.out.2⟩⟩
        · have z1 : (pk == -1) = false := by simpa using h1
          by_cases h2 : pk = -2
          · subst h2
            have HX := Lib.hid (And.intro hx hpk)
            clear d0 d1 d2 d3 d4 cl1 hx hpk
            go_upto_region 7 with (fail)
            refine Ux.wp_region_plan (fun _ w' => w'.cell? ⟨B, 0, none⟩ = some (.slice (some ⟨gp, 0, none⟩) np cp) ∧ w'.cell? ⟨gp, k, none⟩ = some (.int .i64 (-2))) (.q [0, 1] (.h false [2] (.q [3, 4, 5, 6, 8] (.h false [7] (.q [9] (.h false [10] (.q [11, 12, 14, 16, 19, 20, 21] (.h false [13, 15, 22] (.q [17] (.h false [18] (.e 23 true false (.q [24, 25, 26] (.line [])))))))))))))
              (by kernel_rfl) (by kernel_rfl) (by intro _ _ d _ _ h; cases d <;> exact h) ?hS ?_
            case hS => (intro c; cases c <;> (simp only [World.cell?_drew]; first | exact True.intro | (refine ⟨?_, ?_⟩ <;> assumption) | assumption | (repeat (first | assumption | (refine And.intro ?_ ?_)))))
            simp only [Ux.wpPlan, Ux.pickOps, Ux.keeps, List.getElem?_toArray, List.getElem?_cons_succ, List.getElem?_cons_zero]
            repeat (first
              | go_big_quiet_step (fail)
              | (with_reducible refine wpQuiet_nil ?_)
              | (refine Ux.quiet_held rfl ?_; apply Exists.intro; refine ⟨fun w' hS => ?_, ?_⟩; (focus ((try dsimp only at hS); go_simp; first | done | with_reducible rfl)); simp only [Act.put, List.setIfInBounds_toArray, List.set_cons_zero, List.set_cons_succ]))
            go_wp2_with (fail)
            refine ⟨⟨c0, cp1⟩, ?_⟩
            repeat (first
              | go_big_quiet_step (fail)
              | (with_reducible refine wpQuiet_nil ?_)
              | (refine Ux.quiet_held rfl ?_; apply Exists.intro; refine ⟨fun w' hS => ?_, ?_⟩; (focus ((try dsimp only at hS); go_simp; first | done | with_reducible rfl)); simp only [Act.put, List.setIfInBounds_toArray, List.set_cons_zero, List.set_cons_succ]))
            have hat := HI.out.1.sign HX.out.2 HX.out.1 h1 (by unfold hit; simp)
            have HA2 := Lib.hid hat
            clear hat
            go_wp2
            go_roundg g'
            case measure => omega
            case rel => exact ⟨b, f, i + 1, k + 1, rfl, rfl, rfl, rfl, by omega, hb1, hb2, Lib.hid ⟨HA2.out, HI.out.2.drew⟩⟩
          · have z2 : (pk == -2) = false := by simpa using h2
            have hxm : x ∈ L := List.mem_of_getElem? hx
            have hpm : pk ∈ P := List.mem_of_getElem? hpk
            have CA := Lib.hid (HH.out.2.2.2.2.1 pk x wr.drew hpm h1 h2 hxm ((HT2.out.2.1.trans HI.out.2 fun _ _ f => f).drew))
            have HX := Lib.hid (And.intro hx hpk)
            clear hx hpk hxm hpm
            cases hev : eqv pk x with
            | true =>
              rw [hev] at CA
              go_upto_region 7 with (fail)
              refine Ux.wp_region_plan (fun _ w' => w'.cell? ⟨B, 0, none⟩ = some (.slice (some ⟨gp, 0, none⟩) np cp) ∧ w'.cell? ⟨gp, k, none⟩ = some (.int .i64 pk) ∧ w'.cell? ⟨gl, i, none⟩ = some (.int .i64 x) ∧ w'.cell? ⟨B + 1, 0, none⟩ = some (.int .i64 kd) ∧ w'.cell? ⟨B + 1, 1, none⟩ = some (.int .i64 lv) ∧ w'.cell? ⟨B + 1, 2, none⟩ = some (.bool sh) ∧ w'.cell? ⟨B + 1, 3, none⟩ = some (.bool bk) ∧ w'.cell? ⟨B + 1, 4, none⟩ = some (.pointer tb)) (.q [0, 1] (.h false [2] (.q [3, 4, 5, 6, 8] (.h false [7] (.q [9] (.h false [10] (.q [11, 12, 14, 16, 19, 20, 21] (.h false [13, 15, 22] (.q [17] (.h false [18] (.e 23 true false (.q [24, 25, 26] (.line [])))))))))))))
                (by kernel_rfl) (by kernel_rfl) (by intro _ _ d _ _ h; cases d <;> exact h) ?hS ?_
              case hS => (intro c; cases c <;> (simp only [World.cell?_drew]; first | exact True.intro | (refine ⟨?_, ?_⟩ <;> assumption) | assumption | (repeat (first | assumption | (refine And.intro ?_ ?_)))))
              simp only [Ux.wpPlan, Ux.pickOps, Ux.keeps, List.getElem?_toArray, List.getElem?_cons_succ, List.getElem?_cons_zero]
              repeat (first
                | go_big_quiet_step (fail)
                | (with_reducible refine wpQuiet_nil ?_)
                | (refine Ux.quiet_held rfl ?_; apply Exists.intro; refine ⟨fun w' hS => ?_, ?_⟩; (focus ((try dsimp only at hS); go_simp; first | done | with_reducible rfl)); simp only [Act.put, List.setIfInBounds_toArray, List.set_cons_zero, List.set_cons_succ]))
              go_wp2_with (go_at_call 66; fail)
              refine CA.out.mono ?_
              rintro e w5 ⟨rfl, T5⟩
              have T25 := HI.out.2.trans (Ux.Touch.of_drew T5) fun _ _ f => f
              obtain ⟨k0, k1, k2, k3, k4, k5⟩ := HC.out w5 T25
              have k6 := (Ux.Touch.of_drew T5).cell cp1 (fun f => f)
              have k7 := (Ux.Touch.of_drew T5).cell cl1 (fun f => f)
              have HS5 := Lib.hid (And.intro k0 (And.intro k6 (And.intro k7 (And.intro k1 (And.intro k2 (And.intro k3 (And.intro k4 k5)))))))
              have HT5 := Lib.hid T25
              clear T5 T25 k0 k1 k2 k3 k4 k5 k6 k7
              go_wp2_with (fail)
              refine ⟨HS5.out, ?_⟩
              repeat (first
                | go_big_quiet_step (fail)
                | (with_reducible refine wpQuiet_nil ?_)
                | (refine Ux.quiet_held rfl ?_; apply Exists.intro; refine ⟨fun w' hS => ?_, ?_⟩; (focus ((try dsimp only at hS); go_simp; first | done | with_reducible rfl)); simp only [Act.put, List.setIfInBounds_toArray, List.set_cons_zero, List.set_cons_succ]))
              have hat := HI.out.1.sign HX.out.2 HX.out.1 h1 (by unfold hit; rw [hev]; simp)
              have HA2 := Lib.hid hat
              clear hat
              go_wp2
              go_roundg g'
              case measure => omega
              case rel => exact ⟨b, f, i + 1, k + 1, rfl, rfl, rfl, rfl, by omega, hb1, hb2, Lib.hid ⟨HA2.out, HT5.out⟩⟩
            | false =>
              rw [hev] at CA
              have hno : ∀ c, P[k]? = some c → c ≠ -1 ∧ hit eqv c x = false := fun c hc => by
                rw [HX.out.2] at hc
                cases hc
                exact ⟨h1, by unfold hit; rw [hev, decide_eq_false h2]; rfl⟩
              have HN := Lib.hid hno
              clear hno
              go_upto_region 7 with (fail)
              refine Ux.wp_region_plan (fun _ w' => w'.cell? ⟨B, 0, none⟩ = some (.slice (some ⟨gp, 0, none⟩) np cp) ∧ w'.cell? ⟨gp, k, none⟩ = some (.int .i64 pk) ∧ w'.cell? ⟨gl, i, none⟩ = some (.int .i64 x) ∧ w'.cell? ⟨B + 1, 0, none⟩ = some (.int .i64 kd) ∧ w'.cell? ⟨B + 1, 1, none⟩ = some (.int .i64 lv) ∧ w'.cell? ⟨B + 1, 2, none⟩ = some (.bool sh) ∧ w'.cell? ⟨B + 1, 3, none⟩ = some (.bool bk) ∧ w'.cell? ⟨B + 1, 4, none⟩ = some (.pointer tb)) (.q [0, 1] (.h false [2] (.q [3, 4, 5, 6, 8] (.h false [7] (.q [9] (.h false [10] (.q [11, 12, 14, 16, 19, 20, 21] (.h false [13, 15, 22] (.q [17] (.h false [18] (.e 23 true false (.q [24, 25, 26] (.line [])))))))))))))
                (by kernel_rfl) (by kernel_rfl) (by intro _ _ d _ _ h; cases d <;> exact h) ?hS ?_
              case hS => (intro c; cases c <;> (simp only [World.cell?_drew]; first | exact True.intro | (refine ⟨?_, ?_⟩ <;> assumption) | assumption | (repeat (first | assumption | (refine And.intro ?_ ?_)))))
              simp only [Ux.wpPlan, Ux.pickOps, Ux.keeps, List.getElem?_toArray, List.getElem?_cons_succ, List.getElem?_cons_zero]
              repeat (first
                | go_big_quiet_step (fail)
                | (with_reducible refine wpQuiet_nil ?_)
                | (refine Ux.quiet_held rfl ?_; apply Exists.intro; refine ⟨fun w' hS => ?_, ?_⟩; (focus ((try dsimp only at hS); go_simp; first | done | with_reducible rfl)); simp only [Act.put, List.setIfInBounds_toArray, List.set_cons_zero, List.set_cons_succ]))
              go_wp2_with (go_at_call 66; fail)
              refine CA.out.mono ?_
              rintro e w5 ⟨rfl, T5⟩
              have T25 := HI.out.2.trans (Ux.Touch.of_drew T5) fun _ _ f => f
              obtain ⟨k0, k1, k2, k3, k4, k5⟩ := HC.out w5 T25
              have k6 := (Ux.Touch.of_drew T5).cell cp1 (fun f => f)
              have k7 := (Ux.Touch.of_drew T5).cell cl1 (fun f => f)
              have HS5 := Lib.hid (And.intro k0 (And.intro k6 (And.intro k7 (And.intro k1 (And.intro k2 (And.intro k3 (And.intro k4 k5)))))))
              have HT5 := Lib.hid T25
              clear T5 T25 k0 k1 k2 k3 k4 k5 k6 k7
              go_wp2_with (fail)
              refine ⟨HS5.out, ?_⟩
              repeat (first
                | go_big_quiet_step (fail)
                | (with_reducible refine wpQuiet_nil ?_)
                | (refine Ux.quiet_held rfl ?_; apply Exists.intro; refine ⟨fun w' hS => ?_, ?_⟩; (focus ((try dsimp only at hS); go_simp; first | done | with_reducible rfl)); simp only [Act.put, List.setIfInBounds_toArray, List.set_cons_zero, List.set_cons_succ]))
              by_cases hbn : b < 0
              · have hR : R = false := by rw [← HH.out.2.2.2.2.2.1]; exact HI.out.1.no HX.out.1 (HN.out) hbn
                have HR := Lib.hid hR
                clear hR
                go_wp2
                first | rw [Exit.noGoto_ret] | skip
                go_ret
                refine ⟨by rw [HR.out]; rfl, ?_⟩
                exact HT2.out.2.1.trans HT5.out fun _ _ f => f
              · have hat := HI.out.1.again HX.out.1 (HN.out) hbn
                have HA2 := Lib.hid hat
                clear hat
                go_wp2
                go_roundg g'
                case measure => omega
                case rel =>
                  refine ⟨b, f + 1, f + 1, (b + 1).toNat, rfl, rfl, rfl, by rw [Int.toNat_of_nonneg (by omega)], ?_, by omega, hb2, Lib.hid ⟨HA2.out, HT5.out⟩⟩
                  have e : nl + 1 - f = (nl + 1 - (f + 1)) + 1 := by omega
                  rw [e, Nat.add_mul, Nat.one_mul] at hg
                  omega
    · obtain rfl : i = nl := by omega
      have j1 : ¬ (i : Int) < i := by omega
      have hd := HI.out.1
      have hnl := HT2.out.2.2.2
      subst hnl
      have hd2 := hd.done
      rw [HH.out.2.2.2.2.2.1] at hd2
      have HD := Lib.hid hd2
      clear hd hd2 c0 d0 d1 d2 d3 d4
      go_wp2
      go_loopg [11] (np - k) (fun g s11 wr2 => ∃ k2 : Nat, s11 = .int .i64 k2 ∧ k2 ≤ np ∧ np - k2 ≤ g ∧ Hid (R = (P.drop k2).all (fun c => decide (c = -1)) ∧ Ux.Touch (fun _ => False) w2 wr2))
      case atStart => exact ⟨k, rfl, q2, Nat.le_refl _, Lib.hid ⟨HD.out, HI.out.2⟩⟩
      case round =>
        obtain ⟨k2, rfl, hk2, hkg, HJ⟩ := hrel
        have p5 : (0 : Int) ≤ k2 := by omega
        obtain ⟨c0, _⟩ := HC.out _ HJ.out.2
        cases hpk : P[k2]? with
        | none =>
          have hkn : k2 = np := by have := List.getElem?_eq_none_iff.1 hpk; have := HH.out.2.2.2.2.2.2.2.2; omega
          subst hkn
          have j2 : ¬ ((k2 : Int) < k2) := by omega
          have hR : R = true := by rw [HJ.out.1, List.drop_eq_nil_of_le (List.getElem?_eq_none_iff.1 hpk)]; rfl
          have HR := Lib.hid hR
          clear hR hpk
          go_wp2
          first | rw [Exit.noGoto_ret] | skip
          go_ret
          refine ⟨by rw [HR.out]; rfl, ?_⟩
          exact HT2.out.2.1.trans HJ.out.2 fun _ _ f => f
        | some pk =>
          have hkn : k2 < np := by have := (List.getElem?_eq_some_iff.1 hpk).1; have := HH.out.2.2.2.2.2.2.2.2; omega
          have j2 : (k2 : Int) < np := by omega
          obtain ⟨gp, rfl, _, cp0⟩ := row_at HH.out.2.2.2.1 (Ux.iv_get hpk)
          have cp1 := (HT2.out.2.1.trans HJ.out.2 fun _ _ f => f).cell cp0 (fun f => f)
          have hRk := HJ.out.1
          rw [Ux.Like.drop_cons hpk, List.all_cons] at hRk
          clear cp0 hpk
          by_cases h1 : pk = -1
          · subst h1
            have hR2 : R = (P.drop (k2 + 1)).all (fun c => decide (c = -1)) := by rw [hRk]; simp
            have HR := Lib.hid hR2
            obtain ⟨g', rfl⟩ : ∃ g', gk = g' + 1 := ⟨gk - 1, by omega⟩
            clear hRk hR2
            go_wp2
            go_roundg g'
            case measure => omega
            case rel => exact ⟨k2 + 1, rfl, by omega, by omega, Lib.hid ⟨HR.out, HJ.out.2⟩⟩
          · have z1 : (pk == -1) = false := by simpa using h1
            have z2 : ((k2 : Int) == np) = false := by simp; omega
            have hR : R = false := by rw [hRk]; simp [h1]
            have HR := Lib.hid hR
            clear hR hRk
            go_wp2
            first | rw [Exit.noGoto_ret] | skip
            go_ret
            refine ⟨by rw [HR.out]; rfl, ?_⟩
            exact HT2.out.2.1.trans HJ.out.2 fun _ _ f => f

end Go.Proofs.YtkeodddpnmnheaaGreatDoor
