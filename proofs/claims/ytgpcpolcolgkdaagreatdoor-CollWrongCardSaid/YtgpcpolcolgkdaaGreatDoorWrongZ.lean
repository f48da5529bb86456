/- PART OF THE PROOF THAT THIS CLAIM HOLDS OF THE GIVEN PROGRAM, FOR EVERY INPUT THAT THE STATEMENT NAMES. No condition besides the statement's own. -/
import Derived.Test.YtgpcpolcolgkdaaGreatDoorRcollAZ
import Derived.Test.YtgpcpolcolgkdaaGreatDoorReadAZ
import Derived.Test.YtgpcpolcolgkdaaGreatDoorUxTabAZ
import Derived.Test.YtgpcpolcolgkdaaGreatDoorRows
import Derived.WalkKit
import Derived.Handy
import Derived.Laws.EntriesVeiled
import Derived.WalkSpells
import Derived.WalkLawsBesides
import Derived.BigQuiet
import Derived.Deep.QuietTactic
import Derived.Deep.Cut
import Derived.Deep.DeepCutAuto
import Derived.Lib.Overlaps
import Derived.Laws.Externs
import Derived.Lib.Hide
import Derived.Test.YtgpcpolcolgkdaaGreatDoorUxPlanAllZ
import Derived.Test.YtgpcpolcolgkdaaGreatDoorUxMemAZ
import Derived.Test.YtgpcpolcolgkdaaGreatDoorUxCollAZ
import Derived.Deep.LoopGhost
namespace Go.Proofs.YtgpcpolcolgkdaaGreatDoor
open Go.RowKit
open Go.RowKit
open Ux (Ent rootE rootT wghC okT)
open Ux.Sign (cp raw signs)

/-- a document's collation's cells -/
def RAtC (w : World) (q : Nat) (kd lv : Int) (u : Value) : Prop := w.cell? ⟨q, 0, none⟩ = some (.int .i64 kd) ∧ w.cell? ⟨q, 1, none⟩ = some (.int .i64 lv) ∧ w.cell? ⟨q, 2, none⟩ = some (.bool false) ∧ w.cell? ⟨q, 3, none⟩ = some (.bool false) ∧ w.cell? ⟨q, 4, none⟩ = some u
theorem RAtC.of {w : World} {q : Nat} {kd lv : Int} {u : Value} (h : w.heap[q]? = some (.cells #[.int .i64 kd, .int .i64 lv, .bool false, .bool false, u] 38 (0, 0))) : RAtC w q kd lv u := by
  refine ⟨?_, ?_, ?_, ?_, ?_⟩
  · rw [cell_of_row w q 0 _ _ (0, 0) h]; rfl
  · rw [cell_of_row w q 1 _ _ (0, 0) h]; rfl
  · rw [cell_of_row w q 2 _ _ (0, 0) h]; rfl
  · rw [cell_of_row w q 3 _ _ (0, 0) h]; rfl
  · rw [cell_of_row w q 4 _ _ (0, 0) h]; rfl
theorem RAtC.touch {w w' : World} {q : Nat} {kd lv : Int} {u : Value} (h : RAtC w q kd lv u) (T : Ux.Touch (fun _ => False) w w') : RAtC w' q kd lv u :=
  ⟨T.cell h.1 (fun f => f), T.cell h.2.1 (fun f => f), T.cell h.2.2.1 (fun f => f), T.cell h.2.2.2.1 (fun f => f), T.cell h.2.2.2.2 (fun f => f)⟩
/-- whether the law's collation is one -/
def goodW (k lv : Int) (sm : Bool) : Bool := decide (k = 1 ∨ k = 2) || (decide (k = 3) && sm && decide (1 ≤ lv ∧ lv ≤ 3))
theorem good_ok (k lv : Int) (sm : Bool) (tb : Option Addr) (h : tb.isSome = sm) : okC k lv tb = goodW k lv sm := by
  unfold okC goodW
  rw [h]
theorem elB_root (a : ByteArray) : elB rootE a = elB (rootT 132) a := by
  unfold elB
  exact Ux.elemsE_congr (Ux.findE_perm Ux.rootE_nodup Ux.same_root.1) _
theorem wrong_eq (k lv : Int) (sm : Bool) (tb : Option Addr) (htb : tb.isSome = sm) (a b : ByteArray) : cmpC k lv false false tb rootE a b = if goodW k lv sm = true then rcmpC k lv false false (rootT 132) a b else rcmpC 1 0 false false (rootT 132) a b := by
  unfold cmpC rcmpC
  rw [good_ok k lv sm tb htb, elB_root a, elB_root b]
  cases h : goodW k lv sm with
  | false =>
    rw [if_neg (by simp), if_neg (by simp), if_neg (by decide), if_neg (by decide)]
  | true =>
    rw [if_pos rfl, if_pos rfl]
    by_cases h3 : k = 3
    · subst h3
      rw [if_pos rfl, if_neg (by decide), if_pos rfl]
    · rw [if_neg h3, if_neg h3]

set_option maxHeartbeats 16000000 in
set_option maxRecDepth 100000 in
theorem wrongLaw_ (k lv : Int) (sm : Bool) (a b : ByteArray) (w : World) (hT : Tabs w) (ha : a.size ≤ 140737488355328) (hb : b.size ≤ 140737488355328) :
    Calls Tryz.prog 9 #[.int .i64 k, .int .i64 lv, .bool sm, .string a, .string b] w fun e w' => e = .returned (.bool true) ∧ Ux.Touch (fun _ => False) w w' := by
  have AW := Lib.hid fun W (T : Ux.Touch (fun _ => False) w W) => awake8_ W (hT.touch T)
  have HT := Lib.hid hT
  obtain ⟨n1, e1⟩ : ∃ n, a.size = n := ⟨_, rfl⟩
  obtain ⟨n2, e2⟩ : ∃ n, b.size = n := ⟨_, rfl⟩
  have g1 : (n1 : Int) ≤ 140737488355328 := by omega
  have g2 : (n2 : Int) ≤ 140737488355328 := by omega
  have HE := Lib.hid (And.intro e1 e2)
  clear hT ha hb
  cases h200 : decide ((200 : Int) < (n1 : Int) + n2) with
  | true =>
    have h200' : decide (200 < n1 + n2) = true := by have := of_decide_eq_true h200; simp; omega
    go_enter Tryz.func9, Tryz.ntmps9
    go_wp2_with (go_at_call 15; fail)
    refine (AW.out _ (Ux.Touch.refl _ _)).mono ?_
    rintro e w7 ⟨rfl, T7⟩
    have H7 := Lib.hid T7
    clear T7
    go_wp2
    go_returns
    exact ⟨rfl, H7.out⟩
  | false =>
    have h200' : decide (200 < n1 + n2) = false := by have := of_decide_eq_false h200; simp; omega
    have hle : n1 + n2 ≤ 200 := by have := of_decide_eq_false h200; omega
    have HLE := Lib.hid hle
    obtain ⟨q, hq⟩ : ∃ q, w.heap.size = q := ⟨_, rfl⟩
    have hb1 : (w.alloc (.cells #[.int .i64 k, .int .i64 lv, .bool false, .bool false, .pointer none] 25)).heap[q]? = some (.cells #[.int .i64 k, .int .i64 lv, .bool false, .bool false, .pointer none] 25 (0, 0)) := by rw [← hq]; exact heap_alloc_new w _
    have T1 : Ux.Touch (fun _ => False) w (w.alloc (.cells #[.int .i64 k, .int .i64 lv, .bool false, .bool false, .pointer none] 25)) := (Ux.Touch.refl _ _).alloc _
    obtain ⟨W1, hW1⟩ : ∃ W, w.alloc (.cells #[.int .i64 k, .int .i64 lv, .bool false, .bool false, .pointer none] 25) = W := ⟨_, rfl⟩
    rw [hW1] at hb1 T1
    have HW := Lib.hid (And.intro hW1 hq)
    have H1 := Lib.hid (And.intro T1 hb1)
    clear hle hb1 T1 hW1 hq
    go_enter Tryz.func9, Tryz.ntmps9
    go_upto_region 4 with (fail)
    rw [HW.out.1, HW.out.2]
    clear h200 h200'
    go_upto_if 24 with (fail)
    go_cut [] (fun wx => ∃ tb : Option Addr, wx.heap[q]? = some (.cells #[.int .i64 k, .int .i64 lv, .bool false, .bool false, .pointer tb] 25 (0, 0)) ∧ tb.isSome = sm ∧ Hid (CTab wx k tb rootE ∧ Ux.Touch (fun _ => False) w wx))
    case first =>
      cases sm with
      | false =>
        go_wp2_with (fail)
        go_meet
        exact ⟨none, H1.out.2, rfl, Lib.hid ⟨fun _ p hp => (by cases hp), H1.out.1⟩⟩
      | true =>
        go_wp2_with (go_at_call 25; fail)
        refine (rootT_ W1).mono ?_
        rintro e w2 ⟨B, mb, rfl, hTA, _, T2⟩
        have hb2 := T2.heap H1.out.2 (fun f => f)
        have c4 : w2.cell? ⟨q, 4, none⟩ = some (.pointer none) := by rw [cell_of_row w2 q 4 _ _ (0, 0) hb2]; rfl
        have z4 := Ux.frozen_row hb2 4
        have H2 := Lib.hid (And.intro hTA (And.intro (H1.out.1.trans T2 fun _ _ f => f) hb2))
        clear hTA T2 hb2
        go_wp2_with (fail)
        go_meet
        have T3 : Ux.Touch (fun b => b = q) w2 (w2.setCell ⟨q, 4, none⟩ (.pointer (some ⟨B, 0, none⟩))) := (Ux.Touch.refl (fun b => b = q) w2).setCell (p := ⟨q, 4, none⟩) (fun _ => rfl) _
        refine ⟨some ⟨B, 0, none⟩, Ux.setCell_row H2.out.2.2 4 _, rfl, Lib.hid ⟨fun _ p hp => ?_, H2.out.2.1.trans (R := fun _ => False) T3 fun b hb h => by have := HW.out.2; omega⟩⟩
        cases hp
        refine ⟨B, mb, rfl, H2.out.1.touchK T3 ?_⟩
        rintro b rfl
        exact ⟨_, _, H2.out.2.2, by decide, by decide, fun u hu => by simp at hu; rcases hu with rfl | rfl | rfl | rfl <;> exact ⟨fun _ h => (by cases h), fun _ h => (by cases h)⟩⟩
    obtain ⟨tb, hrow, htb, HC⟩ := hcut
    obtain ⟨w5, hw5⟩ : ∃ W, wc = W := ⟨_, rfl⟩
    rw [hw5] at hrow HC ⊢
    clear hw5
    have H5 := Lib.hid (And.intro hrow htb)
    obtain ⟨G, hG⟩ : ∃ G, goodW k lv sm = G := ⟨_, rfl⟩
    have HG := Lib.hid hG
    clear hrow htb hG
    go_upto_region 6 with (fail)
    go_cut [12] (fun s12 wx => s12 = .bool G ∧ Ux.Touch (fun _ => False) w5 wx)
    case first =>
      by_cases k1 : k = 1
      · subst k1
        go_wp2_with (fail)
        go_meet
        exact ⟨by rw [← HG.out]; rfl, Ux.Touch.refl _ _⟩
      · by_cases k2 : k = 2
        · subst k2
          go_wp2_with (fail)
          go_meet
          exact ⟨by rw [← HG.out]; rfl, Ux.Touch.refl _ _⟩
        · have q1 : (k == 1) = false := by simpa using k1
          have q2 : (k == 2) = false := by simpa using k2
          have hd : decide (k = 1 ∨ k = 2) = false := by simp [k1, k2]
          have HD := Lib.hid hd
          clear k1 k2 hd
          by_cases k3 : k = 3
          · subst k3
            clear q1 q2
            cases sm with
            | false =>
              go_wp2_with (fail)
              go_meet
              exact ⟨by rw [← HG.out]; rfl, Ux.Touch.refl _ _⟩
            | true =>
              cases h1 : decide (1 ≤ lv) <;> cases h2 : decide (lv ≤ 3)
              all_goals
                have hd : decide (1 ≤ lv ∧ lv ≤ 3) = (decide (1 ≤ lv) && decide (lv ≤ 3)) := by rw [Bool.eq_iff_iff]; simp
                rw [h1, h2] at hd
                have HD2 := Lib.hid hd
                clear hd
                go_wp2_with (fail)
                go_meet
                refine ⟨?_, Ux.Touch.refl _ _⟩
                rw [← HG.out]
                unfold goodW
                rw [HD2.out]
                rfl
          · have q3 : (k == 3) = false := by simpa using k3
            have hd3 : decide (k = 3) = false := by simpa using k3
            have HD3 := Lib.hid hd3
            clear k3 hd3
            go_wp2_with (fail)
            go_meet
            refine ⟨?_, Ux.Touch.refl _ _⟩
            rw [← HG.out]
            unfold goodW
            rw [HD.out, HD3.out]
            rfl
    obtain ⟨rfl, T6⟩ := hcut
    obtain ⟨w6, hw6⟩ : ∃ W, wc = W := ⟨_, rfl⟩
    rw [hw6] at T6 ⊢
    clear hw6
    have hrow6 := T6.heap H5.out.1 (fun f => f)
    have hokG : okC k lv tb = G := by rw [good_ok k lv sm tb H5.out.2]; exact HG.out
    have HO := Lib.hid fun W => cok_ k lv false false tb W
    rw [hokG] at HO
    have H6 := Lib.hid (And.intro (HC.out.1.touch T6) (And.intro (HC.out.2.trans T6 fun _ _ f => f) (And.intro hrow6 hokG)))
    obtain ⟨c0, c1, c2, c3, c4⟩ := CAt.of hrow6
    clear T6 hrow6 hokG
    unfold cV at HO
    go_upto_region 7 with (fail)
    go_wp2_with (go_at_call 20; fail)
    refine (HO.out w6).mono ?_
    rintro e w7 ⟨rfl, T7⟩
    have H7 := Lib.hid T7
    clear T7 c0 c1 c2 c3 c4
    go_upto_region 9 with (fail)
    obtain ⟨q13, hq13⟩ : ∃ q, w7.heap.size = q := ⟨_, rfl⟩
    have hb8 : (w7.alloc (.cells #[.int .i64 1, .int .i64 0, .bool false, .bool false, .slice none 0 0] 38)).heap[q13]? = some (.cells #[.int .i64 1, .int .i64 0, .bool false, .bool false, .slice none 0 0] 38 (0, 0)) := by rw [← hq13]; exact heap_alloc_new w7 _
    have T8 : Ux.Touch (fun _ => False) w7 (w7.alloc (.cells #[.int .i64 1, .int .i64 0, .bool false, .bool false, .slice none 0 0] 38)) := (Ux.Touch.refl _ _).alloc _
    obtain ⟨W8, hW8⟩ : ∃ W, w7.alloc (.cells #[.int .i64 1, .int .i64 0, .bool false, .bool false, .slice none 0 0] 38) = W := ⟨_, rfl⟩
    rw [hW8] at hb8 T8
    have hs8 : W8.heap.size = q13 + 1 := by rw [← hW8, World.size_alloc, hq13]
    have HW8 := Lib.hid (And.intro hW8 hq13)
    have H8 := Lib.hid (And.intro hb8 (And.intro (H7.out.trans T8 fun _ _ f => f) (And.intro T8 hs8)))
    clear hb8 T8 hW8 hq13 hs8
    go_upto_region 10 with (fail)
    rw [HW8.out.1, HW8.out.2]
    go_upto_if 53 with (fail)
    go_cut [] (fun wx => ∃ (kd' lv' : Int) (u : Value), wx.heap[q13]? = some (.cells #[.int .i64 kd', .int .i64 lv', .bool false, .bool false, u] 38 (0, 0)) ∧ Hid ((G = true → kd' = k ∧ lv' = lv ∧ RRows wx (fun b => q13 + 1 ≤ b) u (rootT 132)) ∧ (G = false → kd' = 1 ∧ lv' = 0) ∧ (∃ x n c, u = .slice x n c) ∧ Ux.Touch (fun _ => False) w6 wx))
    case first =>
      cases G with
      | false =>
        go_wp2_with (fail)
        go_meet
        exact ⟨1, 0, .slice none 0 0, H8.out.1, Lib.hid ⟨(fun h => by cases h), fun _ => ⟨rfl, rfl⟩, ⟨_, _, _, rfl⟩, H8.out.2.1⟩⟩
      | true =>
        go_wp2_with (go_at_call 26; fail)
        refine (rroot_ W8).mono ?_
        rintro e w9 ⟨u, rfl, hR, T9⟩
        have hR9 := hR.mono (A' := fun b => q13 + 1 ≤ b) fun g h1 h2 => by have := H8.out.2.2.2; omega
        obtain ⟨_, a9, c9, rfl, _⟩ := hR
        obtain ⟨n9, hn9⟩ : ∃ n, (rootT 132).length = n := ⟨_, rfl⟩
        rw [hn9] at hR9 ⊢
        have hb9 := T9.heap H8.out.1 (fun f => f)
        have H9 := Lib.hid (And.intro hR9 (And.intro hb9 (H8.out.2.1.trans T9 fun _ _ f => f)))
        clear hR9 T9 hb9 hn9
        go_wp2_with (refine Ux.is_store 38 rfl ?_; refine wpList_store_mid rfl 38 _ _ rfl q13 0 #[.int .i64 k, .int .i64 lv, .bool false, .bool false, .slice a9 n9 c9] rfl rfl (by have h := there_row H9.out.2.1; exact h) (by kernel_rfl) (by simp [Value.oneCell']) ?_)
        go_meet
        refine ⟨k, lv, .slice a9 n9 c9, set5_row H9.out.2.1 _ _ _ _ _, Lib.hid ⟨fun _ => ⟨rfl, rfl, H9.out.1.touchB (set5_touch w9 q13 _ _ _ _ _) fun g _ h e => by omega⟩, (fun h => by cases h), ⟨_, _, _, rfl⟩, H9.out.2.2.trans (R := fun _ => False) (set5_touch w9 q13 _ _ _ _ _) fun b hb h => by
          have h1 := H7.out.size
          have h2 := HW8.out.2
          omega⟩⟩
    obtain ⟨kd', lv', u, hrow13, HD⟩ := hcut
    obtain ⟨wa, hwa⟩ : ∃ W, wc = W := ⟨_, rfl⟩
    rw [hwa] at hrow13 HD ⊢
    clear hwa
    have hsz1 : a.size ≤ 1000000 := by have := HE.out.1; have := HLE.out; omega
    have hsz2 : b.size ≤ 1000000 := by have := HE.out.2; have := HLE.out; omega
    have hCA := CAt.of (HD.out.2.2.2.heap H6.out.2.2.1 (fun f => f))
    have hRA := RAtC.of hrow13
    have Tw := H6.out.2.1.trans HD.out.2.2.2 fun _ _ f => f
    have HCE := Lib.hid fun W (T : Ux.Touch (fun _ => False) wa W) => And.intro (hCA.touch T) (hRA.touch T)
    obtain ⟨R, hR⟩ : ∃ R, cmpC k lv false false tb rootE a b = R := ⟨_, rfl⟩
    have HC1 := Lib.hid fun W (T : Ux.Touch (fun _ => False) wa W) => ccmp_ k lv false false tb rootE a b W (H6.out.1.touch (HD.out.2.2.2.trans T fun _ _ f => f)) (HT.out.touch (Tw.trans T fun _ _ f => f)) hsz1 hsz2
    rw [hR] at HC1
    have hRe : rcmpC kd' lv' false false (rootT 132) a b = R := by
      rw [← hR, wrong_eq k lv sm tb H5.out.2, HG.out]
      cases G with
      | true => rw [if_pos rfl, (HD.out.1 rfl).1, (HD.out.1 rfl).2.1]
      | false => rw [if_neg (by simp), (HD.out.2.1 rfl).1, (HD.out.2.1 rfl).2]
    have hok3 : kd' = 3 → G = true := fun h => by
      cases G with
      | true => rfl
      | false =>
        have := (HD.out.2.1 rfl).1
        omega
    have HC2 := Lib.hid fun W (T : Ux.Touch (fun _ => False) wa W) => rcmp_ kd' lv' (fun h => by
      have hg := hok3 h
      have h1 := HD.out.1 hg
      have h2 := H6.out.2.2.2
      rw [hg, ← h1.1, h] at h2
      unfold okC at h2
      simp at h2
      rw [h1.2.1]
      omega) false false u (rootT 132) (fun b => q13 + 1 ≤ b) a b W HD.out.2.2.1 (fun h => ⟨(HD.out.1 (hok3 h)).2.2.touch0 T, Ux.same_root.ok ⟨Ux.rootE_nodup, Ux.rootE_ok⟩, by rw [← Ux.same_root.1.length_eq, Ux.rootE_len]; decide⟩) hsz1 hsz2
    rw [hRe] at HC2
    have HC3 := Lib.hid fun (h : k ≠ 3 ∨ okC k lv tb = false) W => cwtsNo_ k lv false false tb a W h
    have HAWK := Lib.hid fun W (T : Ux.Touch (fun _ => False) wa W) => AW.out W (Tw.trans T fun _ _ f => f)
    have HTw := Lib.hid Tw
    obtain ⟨x, n, c, rfl⟩ := HD.out.2.2.1
    have hcase : (k = 3 ∧ G = true) ∨ ((k == 3) = false ∧ k ≠ 3) ∨ (k = 3 ∧ G = false) := by
      by_cases h : k = 3
      · cases G
        · exact .inr (.inr ⟨h, rfl⟩)
        · exact .inl ⟨h, rfl⟩
      · exact .inr (.inl ⟨by simpa using h, h⟩)
    have HOK := Lib.hid H6.out.2.2.2
    clear hsz1 hsz2 hCA hRA Tw hR hRe hok3 hrow13
    unfold cV at HC1 HC3
    unfold rcV at HC2
    rcases hcase with ⟨rfl, rfl⟩ | ⟨q3, h3⟩ | ⟨rfl, rfl⟩
    · obtain ⟨⟨c0, c1, c2, c3, c4⟩, ⟨d0, d1, d2, d3, d4⟩⟩ := HCE.out wa (Ux.Touch.refl _ _)
      go_upto_region 12 with (fail)
      refine Ux.wp_region_plan (fun _ w' => (w'.cell? ⟨q, 0, none⟩ = some (.int .i64 3) ∧ w'.cell? ⟨q, 1, none⟩ = some (.int .i64 lv) ∧ w'.cell? ⟨q, 2, none⟩ = some (.bool false) ∧ w'.cell? ⟨q, 3, none⟩ = some (.bool false) ∧ w'.cell? ⟨q, 4, none⟩ = some (.pointer tb)) ∧ w'.cell? ⟨q13, 0, none⟩ = some (.int .i64 kd') ∧ w'.cell? ⟨q13, 1, none⟩ = some (.int .i64 lv') ∧ w'.cell? ⟨q13, 2, none⟩ = some (.bool false) ∧ w'.cell? ⟨q13, 3, none⟩ = some (.bool false) ∧ w'.cell? ⟨q13, 4, none⟩ = some (.slice x n c)) (.h false [0, 4] (.q [1, 2, 5, 6] (.e 3 true false (.e 7 true false (.q [8, 9, 10, 11, 12, 13, 14, 15, 17] (.h false [16] (.e 18 true false (.q [19, 20, 21, 22, 23] (.e 24 true false (.q [25] (.line [26])))))))))))
        (by kernel_rfl) (by kernel_rfl) (by intro _ _ d _ _ h; cases d <;> exact h) ?hS ?_
      case hS => (intro c; cases c <;> (simp only [World.cell?_drew]; first | exact True.intro | (refine ⟨?_, ?_⟩ <;> assumption) | assumption | (repeat (first | assumption | (refine And.intro ?_ ?_)))))
      simp only [Ux.wpPlan, Ux.pickOps, Ux.keeps, List.getElem?_toArray, List.getElem?_cons_succ, List.getElem?_cons_zero]
      repeat (first
        | go_big_quiet_step (fail)
        | (with_reducible refine wpQuiet_nil ?_)
        | (refine Ux.quiet_held rfl ?_; apply Exists.intro; refine ⟨fun w' hS => ?_, ?_⟩; (focus ((try dsimp only at hS); go_simp; first | done | with_reducible rfl)); simp only [Act.put, List.setIfInBounds_toArray, List.set_cons_zero, List.set_cons_succ]))
      clear c0 c1 c2 c3 c4 d0 d1 d2 d3 d4
      have t0 := Lib.hid ((Ux.Touch.refl (fun _ => False) wa).drew)
      go_wp2_with (go_at_call 17; fail)
      refine (HC1.out _ t0.out).mono ?_
      rintro e wb ⟨rfl, Tb⟩
      have Hb := Lib.hid (t0.out.trans Tb fun _ _ f => f)
      clear Tb
      obtain ⟨⟨c0, c1, c2, c3, c4⟩, ⟨d0, d1, d2, d3, d4⟩⟩ := HCE.out wb Hb.out
      go_wp2_with (fail)
      refine ⟨⟨⟨c0, c1, c2, c3, c4⟩, d0, d1, d2, d3, d4⟩, ?_⟩
      repeat (first
        | go_big_quiet_step (fail)
        | (with_reducible refine wpQuiet_nil ?_)
        | (refine Ux.quiet_held rfl ?_; apply Exists.intro; refine ⟨fun w' hS => ?_, ?_⟩; (focus ((try dsimp only at hS); go_simp; first | done | with_reducible rfl)); simp only [Act.put, List.setIfInBounds_toArray, List.set_cons_zero, List.set_cons_succ]))
      clear c0 c1 c2 c3 c4 d0 d1 d2 d3 d4
      go_wp2_with (go_at_call 19; fail)
      refine (HC2.out wb Hb.out).mono ?_
      rintro e wd ⟨rfl, Td⟩
      have Hd := Lib.hid (Hb.out.trans Td fun _ _ f => f)
      clear Td
      obtain ⟨⟨c0, c1, c2, c3, c4⟩, ⟨d0, d1, d2, d3, d4⟩⟩ := HCE.out wd Hd.out
      go_wp2_with (fail)
      refine ⟨⟨⟨c0, c1, c2, c3, c4⟩, d0, d1, d2, d3, d4⟩, ?_⟩
      repeat (first
        | go_big_quiet_step (fail)
        | (with_reducible refine wpQuiet_nil ?_)
        | (refine Ux.quiet_held rfl ?_; apply Exists.intro; refine ⟨fun w' hS => ?_, ?_⟩; (focus ((try dsimp only at hS); go_simp; first | done | with_reducible rfl)); simp only [Act.put, List.setIfInBounds_toArray, List.set_cons_zero, List.set_cons_succ]))
      go_wp2_with (fail)
      refine ⟨⟨⟨c0, c1, c2, c3, c4⟩, d0, d1, d2, d3, d4⟩, ?_⟩
      repeat (first
        | go_big_quiet_step (fail)
        | (with_reducible refine wpQuiet_nil ?_)
        | (refine Ux.quiet_held rfl ?_; apply Exists.intro; refine ⟨fun w' hS => ?_, ?_⟩; (focus ((try dsimp only at hS); go_simp; first | done | with_reducible rfl)); simp only [Act.put, List.setIfInBounds_toArray, List.set_cons_zero, List.set_cons_succ]))
      clear c0 c1 c2 c3 c4 d0 d1 d2 d3 d4
      go_wp2_with (go_at_call 15; fail)
      refine (HAWK.out wd Hd.out).mono ?_
      rintro e wf ⟨rfl, Tf⟩
      have Hf := Lib.hid (Hd.out.trans Tf fun _ _ f => f)
      clear Tf
      obtain ⟨⟨c0, c1, c2, c3, c4⟩, ⟨d0, d1, d2, d3, d4⟩⟩ := HCE.out wf Hf.out
      go_wp2_with (fail)
      refine ⟨⟨⟨c0, c1, c2, c3, c4⟩, d0, d1, d2, d3, d4⟩, ?_⟩
      repeat (first
        | go_big_quiet_step (fail)
        | (with_reducible refine wpQuiet_nil ?_)
        | (refine Ux.quiet_held rfl ?_; apply Exists.intro; refine ⟨fun w' hS => ?_, ?_⟩; (focus ((try dsimp only at hS); go_simp; first | done | with_reducible rfl)); simp only [Act.put, List.setIfInBounds_toArray, List.set_cons_zero, List.set_cons_succ]))
      go_wp2
      go_returns
      exact ⟨rfl, HTw.out.trans Hf.out fun _ _ f => f⟩
    · have HN3 := Lib.hid h3
      clear h3
      obtain ⟨⟨c0, c1, c2, c3, c4⟩, ⟨d0, d1, d2, d3, d4⟩⟩ := HCE.out wa (Ux.Touch.refl _ _)
      go_upto_region 12 with (fail)
      refine Ux.wp_region_plan (fun _ w' => (w'.cell? ⟨q, 0, none⟩ = some (.int .i64 k) ∧ w'.cell? ⟨q, 1, none⟩ = some (.int .i64 lv) ∧ w'.cell? ⟨q, 2, none⟩ = some (.bool false) ∧ w'.cell? ⟨q, 3, none⟩ = some (.bool false) ∧ w'.cell? ⟨q, 4, none⟩ = some (.pointer tb)) ∧ w'.cell? ⟨q13, 0, none⟩ = some (.int .i64 kd') ∧ w'.cell? ⟨q13, 1, none⟩ = some (.int .i64 lv') ∧ w'.cell? ⟨q13, 2, none⟩ = some (.bool false) ∧ w'.cell? ⟨q13, 3, none⟩ = some (.bool false) ∧ w'.cell? ⟨q13, 4, none⟩ = some (.slice x n c)) (.h false [0, 4] (.q [1, 2, 5, 6] (.e 3 true false (.e 7 true false (.q [8, 9, 10, 11, 12, 13, 14, 15, 17] (.h false [16] (.e 18 true false (.q [19, 20, 21, 22, 23] (.e 24 true false (.q [25] (.line [26])))))))))))
        (by kernel_rfl) (by kernel_rfl) (by intro _ _ d _ _ h; cases d <;> exact h) ?hS ?_
      case hS => (intro c; cases c <;> (simp only [World.cell?_drew]; first | exact True.intro | (refine ⟨?_, ?_⟩ <;> assumption) | assumption | (repeat (first | assumption | (refine And.intro ?_ ?_)))))
      simp only [Ux.wpPlan, Ux.pickOps, Ux.keeps, List.getElem?_toArray, List.getElem?_cons_succ, List.getElem?_cons_zero]
      repeat (first
        | go_big_quiet_step (fail)
        | (with_reducible refine wpQuiet_nil ?_)
        | (refine Ux.quiet_held rfl ?_; apply Exists.intro; refine ⟨fun w' hS => ?_, ?_⟩; (focus ((try dsimp only at hS); go_simp; first | done | with_reducible rfl)); simp only [Act.put, List.setIfInBounds_toArray, List.set_cons_zero, List.set_cons_succ]))
      clear c0 c1 c2 c3 c4 d0 d1 d2 d3 d4
      have t0 := Lib.hid ((Ux.Touch.refl (fun _ => False) wa).drew)
      go_wp2_with (go_at_call 17; fail)
      refine (HC1.out _ t0.out).mono ?_
      rintro e wb ⟨rfl, Tb⟩
      have Hb := Lib.hid (t0.out.trans Tb fun _ _ f => f)
      clear Tb
      obtain ⟨⟨c0, c1, c2, c3, c4⟩, ⟨d0, d1, d2, d3, d4⟩⟩ := HCE.out wb Hb.out
      go_wp2_with (fail)
      refine ⟨⟨⟨c0, c1, c2, c3, c4⟩, d0, d1, d2, d3, d4⟩, ?_⟩
      repeat (first
        | go_big_quiet_step (fail)
        | (with_reducible refine wpQuiet_nil ?_)
        | (refine Ux.quiet_held rfl ?_; apply Exists.intro; refine ⟨fun w' hS => ?_, ?_⟩; (focus ((try dsimp only at hS); go_simp; first | done | with_reducible rfl)); simp only [Act.put, List.setIfInBounds_toArray, List.set_cons_zero, List.set_cons_succ]))
      clear c0 c1 c2 c3 c4 d0 d1 d2 d3 d4
      go_wp2_with (go_at_call 19; fail)
      refine (HC2.out wb Hb.out).mono ?_
      rintro e wd ⟨rfl, Td⟩
      have Hd := Lib.hid (Hb.out.trans Td fun _ _ f => f)
      clear Td
      obtain ⟨⟨c0, c1, c2, c3, c4⟩, ⟨d0, d1, d2, d3, d4⟩⟩ := HCE.out wd Hd.out
      go_wp2_with (fail)
      refine ⟨⟨⟨c0, c1, c2, c3, c4⟩, d0, d1, d2, d3, d4⟩, ?_⟩
      repeat (first
        | go_big_quiet_step (fail)
        | (with_reducible refine wpQuiet_nil ?_)
        | (refine Ux.quiet_held rfl ?_; apply Exists.intro; refine ⟨fun w' hS => ?_, ?_⟩; (focus ((try dsimp only at hS); go_simp; first | done | with_reducible rfl)); simp only [Act.put, List.setIfInBounds_toArray, List.set_cons_zero, List.set_cons_succ]))
      clear c0 c1 c2 c3 c4 d0 d1 d2 d3 d4
      go_wp2_with (go_at_call 23; fail)
      refine (HC3.out (.inl HN3.out) wd).mono ?_
      rintro e we ⟨rfl, Te⟩
      have He := Lib.hid (Hd.out.trans Te fun _ _ f => f)
      clear Te
      obtain ⟨⟨c0, c1, c2, c3, c4⟩, ⟨d0, d1, d2, d3, d4⟩⟩ := HCE.out we He.out
      go_wp2_with (fail)
      refine ⟨⟨⟨c0, c1, c2, c3, c4⟩, d0, d1, d2, d3, d4⟩, ?_⟩
      repeat (first
        | go_big_quiet_step (fail)
        | (with_reducible refine wpQuiet_nil ?_)
        | (refine Ux.quiet_held rfl ?_; apply Exists.intro; refine ⟨fun w' hS => ?_, ?_⟩; (focus ((try dsimp only at hS); go_simp; first | done | with_reducible rfl)); simp only [Act.put, List.setIfInBounds_toArray, List.set_cons_zero, List.set_cons_succ]))
      clear c0 c1 c2 c3 c4 d0 d1 d2 d3 d4
      go_wp2_with (go_at_call 15; fail)
      refine (HAWK.out we He.out).mono ?_
      rintro e wf ⟨rfl, Tf⟩
      have Hf := Lib.hid (He.out.trans Tf fun _ _ f => f)
      clear Tf
      obtain ⟨⟨c0, c1, c2, c3, c4⟩, ⟨d0, d1, d2, d3, d4⟩⟩ := HCE.out wf Hf.out
      go_wp2_with (fail)
      refine ⟨⟨⟨c0, c1, c2, c3, c4⟩, d0, d1, d2, d3, d4⟩, ?_⟩
      repeat (first
        | go_big_quiet_step (fail)
        | (with_reducible refine wpQuiet_nil ?_)
        | (refine Ux.quiet_held rfl ?_; apply Exists.intro; refine ⟨fun w' hS => ?_, ?_⟩; (focus ((try dsimp only at hS); go_simp; first | done | with_reducible rfl)); simp only [Act.put, List.setIfInBounds_toArray, List.set_cons_zero, List.set_cons_succ]))
      go_wp2
      go_returns
      exact ⟨rfl, HTw.out.trans Hf.out fun _ _ f => f⟩
    · obtain ⟨⟨c0, c1, c2, c3, c4⟩, ⟨d0, d1, d2, d3, d4⟩⟩ := HCE.out wa (Ux.Touch.refl _ _)
      go_upto_region 12 with (fail)
      refine Ux.wp_region_plan (fun _ w' => (w'.cell? ⟨q, 0, none⟩ = some (.int .i64 3) ∧ w'.cell? ⟨q, 1, none⟩ = some (.int .i64 lv) ∧ w'.cell? ⟨q, 2, none⟩ = some (.bool false) ∧ w'.cell? ⟨q, 3, none⟩ = some (.bool false) ∧ w'.cell? ⟨q, 4, none⟩ = some (.pointer tb)) ∧ w'.cell? ⟨q13, 0, none⟩ = some (.int .i64 kd') ∧ w'.cell? ⟨q13, 1, none⟩ = some (.int .i64 lv') ∧ w'.cell? ⟨q13, 2, none⟩ = some (.bool false) ∧ w'.cell? ⟨q13, 3, none⟩ = some (.bool false) ∧ w'.cell? ⟨q13, 4, none⟩ = some (.slice x n c)) (.h false [0, 4] (.q [1, 2, 5, 6] (.e 3 true false (.e 7 true false (.q [8, 9, 10, 11, 12, 13, 14, 15, 17] (.h false [16] (.e 18 true false (.q [19, 20, 21, 22, 23] (.e 24 true false (.q [25] (.line [26])))))))))))
        (by kernel_rfl) (by kernel_rfl) (by intro _ _ d _ _ h; cases d <;> exact h) ?hS ?_
      case hS => (intro c; cases c <;> (simp only [World.cell?_drew]; first | exact True.intro | (refine ⟨?_, ?_⟩ <;> assumption) | assumption | (repeat (first | assumption | (refine And.intro ?_ ?_)))))
      simp only [Ux.wpPlan, Ux.pickOps, Ux.keeps, List.getElem?_toArray, List.getElem?_cons_succ, List.getElem?_cons_zero]
      repeat (first
        | go_big_quiet_step (fail)
        | (with_reducible refine wpQuiet_nil ?_)
        | (refine Ux.quiet_held rfl ?_; apply Exists.intro; refine ⟨fun w' hS => ?_, ?_⟩; (focus ((try dsimp only at hS); go_simp; first | done | with_reducible rfl)); simp only [Act.put, List.setIfInBounds_toArray, List.set_cons_zero, List.set_cons_succ]))
      clear c0 c1 c2 c3 c4 d0 d1 d2 d3 d4
      have t0 := Lib.hid ((Ux.Touch.refl (fun _ => False) wa).drew)
      go_wp2_with (go_at_call 17; fail)
      refine (HC1.out _ t0.out).mono ?_
      rintro e wb ⟨rfl, Tb⟩
      have Hb := Lib.hid (t0.out.trans Tb fun _ _ f => f)
      clear Tb
      obtain ⟨⟨c0, c1, c2, c3, c4⟩, ⟨d0, d1, d2, d3, d4⟩⟩ := HCE.out wb Hb.out
      go_wp2_with (fail)
      refine ⟨⟨⟨c0, c1, c2, c3, c4⟩, d0, d1, d2, d3, d4⟩, ?_⟩
      repeat (first
        | go_big_quiet_step (fail)
        | (with_reducible refine wpQuiet_nil ?_)
        | (refine Ux.quiet_held rfl ?_; apply Exists.intro; refine ⟨fun w' hS => ?_, ?_⟩; (focus ((try dsimp only at hS); go_simp; first | done | with_reducible rfl)); simp only [Act.put, List.setIfInBounds_toArray, List.set_cons_zero, List.set_cons_succ]))
      clear c0 c1 c2 c3 c4 d0 d1 d2 d3 d4
      go_wp2_with (go_at_call 19; fail)
      refine (HC2.out wb Hb.out).mono ?_
      rintro e wd ⟨rfl, Td⟩
      have Hd := Lib.hid (Hb.out.trans Td fun _ _ f => f)
      clear Td
      obtain ⟨⟨c0, c1, c2, c3, c4⟩, ⟨d0, d1, d2, d3, d4⟩⟩ := HCE.out wd Hd.out
      go_wp2_with (fail)
      refine ⟨⟨⟨c0, c1, c2, c3, c4⟩, d0, d1, d2, d3, d4⟩, ?_⟩
      repeat (first
        | go_big_quiet_step (fail)
        | (with_reducible refine wpQuiet_nil ?_)
        | (refine Ux.quiet_held rfl ?_; apply Exists.intro; refine ⟨fun w' hS => ?_, ?_⟩; (focus ((try dsimp only at hS); go_simp; first | done | with_reducible rfl)); simp only [Act.put, List.setIfInBounds_toArray, List.set_cons_zero, List.set_cons_succ]))
      clear c0 c1 c2 c3 c4 d0 d1 d2 d3 d4
      go_wp2_with (go_at_call 23; fail)
      refine (HC3.out (.inr HOK.out) wd).mono ?_
      rintro e we ⟨rfl, Te⟩
      have He := Lib.hid (Hd.out.trans Te fun _ _ f => f)
      clear Te
      obtain ⟨⟨c0, c1, c2, c3, c4⟩, ⟨d0, d1, d2, d3, d4⟩⟩ := HCE.out we He.out
      go_wp2_with (fail)
      refine ⟨⟨⟨c0, c1, c2, c3, c4⟩, d0, d1, d2, d3, d4⟩, ?_⟩
      repeat (first
        | go_big_quiet_step (fail)
        | (with_reducible refine wpQuiet_nil ?_)
        | (refine Ux.quiet_held rfl ?_; apply Exists.intro; refine ⟨fun w' hS => ?_, ?_⟩; (focus ((try dsimp only at hS); go_simp; first | done | with_reducible rfl)); simp only [Act.put, List.setIfInBounds_toArray, List.set_cons_zero, List.set_cons_succ]))
      clear c0 c1 c2 c3 c4 d0 d1 d2 d3 d4
      go_wp2_with (go_at_call 15; fail)
      refine (HAWK.out we He.out).mono ?_
      rintro e wf ⟨rfl, Tf⟩
      have Hf := Lib.hid (He.out.trans Tf fun _ _ f => f)
      clear Tf
      obtain ⟨⟨c0, c1, c2, c3, c4⟩, ⟨d0, d1, d2, d3, d4⟩⟩ := HCE.out wf Hf.out
      go_wp2_with (fail)
      refine ⟨⟨⟨c0, c1, c2, c3, c4⟩, d0, d1, d2, d3, d4⟩, ?_⟩
      repeat (first
        | go_big_quiet_step (fail)
        | (with_reducible refine wpQuiet_nil ?_)
        | (refine Ux.quiet_held rfl ?_; apply Exists.intro; refine ⟨fun w' hS => ?_, ?_⟩; (focus ((try dsimp only at hS); go_simp; first | done | with_reducible rfl)); simp only [Act.put, List.setIfInBounds_toArray, List.set_cons_zero, List.set_cons_succ]))
      go_wp2
      go_returns
      exact ⟨rfl, HTw.out.trans Hf.out fun _ _ f => f⟩

end Go.Proofs.YtgpcpolcolgkdaaGreatDoor
