/- PART OF THE PROOF THAT THIS CLAIM HOLDS OF THE GIVEN PROGRAM, FOR EVERY INPUT THAT THE STATEMENT NAMES. No condition besides the statement's own. -/
import Derived.Test.YtkeodddpnmnheaaGreatDoorUxLikAZ
import Derived.Test.YtkeodddpnmnheaaGreatDoorMadeAZ
import Derived.Test.YtkeodddpnmnheaaGreatDoorAwakeZ
import Derived.Test.YtkeodddpnmnheaaGreatDoorRows
import Derived.WalkKit
import Derived.Handy
import Derived.Laws.EntriesVeiled
import Derived.WalkSpells
import Derived.WalkLawsBesides
import Derived.BigQuiet
import Derived.Deep.QuietTactic
import Derived.Deep.Cut
import Derived.Deep.DeepCutAuto
import Derived.Lib.Overlaps
import Derived.Laws.Externs
import Derived.Lib.Hide
import Derived.Test.YtkeodddpnmnheaaGreatDoorUxPlanAllZ
import Derived.Test.YtkeodddpnmnheaaGreatDoorUxMemAZ
import Derived.Test.YtkeodddpnmnheaaGreatDoorUxCollAZ
import Derived.Deep.LoopGhost
namespace Go.Proofs.YtkeodddpnmnheaaGreatDoor
open Go.RowKit
open Go.RowKit
open Ux (Ent rootE rootT SameE okT Row iv sv)
open Ux.Sign (signs)
open Ux.Like (mat elt ones unders)

theorem and15 (a : Int) : ∃ m : Nat, bits .and .i64 a 15 = (m : Int) ∧ m < 16 := by
  have h : (BitVec.ofInt 64 a &&& BitVec.ofInt 64 15).toNat < 16 := by
    rw [BitVec.toNat_and, show (BitVec.ofInt 64 15).toNat = 2 ^ 4 - 1 from rfl, Nat.and_two_pow_sub_one_eq_mod]
    exact Nat.mod_lt _ (by decide)
  refine ⟨(BitVec.ofInt 64 a &&& BitVec.ofInt 64 15).toNat, ?_, h⟩
  show IntKind.i64.wrap ((BitVec.ofInt 64 a &&& BitVec.ofInt 64 (15 : Int)).toNat : Nat) = _
  rw [IntKind.wrap_i64]
  omega
/-- so many signs '_' -/
def us (n : Nat) : ByteArray := ⟨(unders n).toArray⟩
theorem us_size (n : Nat) : (us n).size = n := by show ((unders n).toArray).size = n; simp [unders]
theorem us_zero : us 0 = ⟨#[]⟩ := rfl
theorem us_succ (n : Nat) : us n ++ ⟨#[95]⟩ = us (n + 1) := by
  apply ByteArray.ext
  rw [ByteArray.data_append]
  apply Array.toList_inj.1
  rw [Array.toList_append]
  show unders n ++ [95] = unders (n + 1)
  unfold unders
  rw [List.replicate_succ']
theorem us_data (n : Nat) : (us n).data.toList = unders n := rfl
theorem pat_x (n : Nat) : (signs (us n).data.toList).map elt = ones n := by
  have h := Ux.Like.signs_unders n [] [] (fun x hx => by cases hx) (fun x hx => by cases hx)
  simpa [us_data] using h
theorem pat_y (n : Nat) : (signs (us n ++ ⟨#[37]⟩).data.toList).map elt = ones n ++ [-1] := by
  have h := Ux.Like.signs_unders n [] [37] (fun x hx => by cases hx) (fun x hx => by simpa using hx)
  rw [ByteArray.data_append, Array.toList_append]
  simpa [us_data] using h
theorem pat_z (n : Nat) : (signs ((⟨#[37]⟩ ++ us n) ++ ⟨#[37, 37]⟩ : ByteArray).data.toList).map elt = -1 :: (ones n ++ [-1, -1]) := by
  have h := Ux.Like.signs_unders n [37] [37, 37] (fun x hx => by simpa using hx) (fun x hx => by simpa using hx)
  rw [ByteArray.data_append, Array.toList_append, ByteArray.data_append, Array.toList_append, List.append_assoc]
  simpa [us_data] using h
theorem only_stars (n : Nat) (a : Int) : (a ∈ ones n → a = -2) ∧ (a ∈ ones n ++ [-1] → a = -2 ∨ a = -1) ∧ (a ∈ -1 :: (ones n ++ [-1, -1]) → a = -2 ∨ a = -1) := by
  have h : a ∈ ones n → a = -2 := fun h => (List.mem_replicate.1 h).2
  refine ⟨h, fun h1 => ?_, fun h1 => ?_⟩
  · rcases List.mem_append.1 h1 with h1 | h1
    · exact .inl (h h1)
    · exact .inr (by simpa using h1)
  · rcases List.mem_cons.1 h1 with h1 | h1
    · exact .inr h1
    · rcases List.mem_append.1 h1 with h1 | h1
      · exact .inl (h h1)
      · exact .inr (by simpa using h1)
set_option maxHeartbeats 4000000 in
theorem counts_big (n : Int) (s : ByteArray) (k lv : Int) (w : World) (hT : Tabs w) (h1 : s.size ≤ 140737488355328) (h : s.size > 60) :
    Calls Tryz.prog 11 #[.int .i64 n, .string s, .int .i64 k, .int .i64 lv] w fun e w' => e = .returned (.bool true) ∧ Ux.Touch (fun _ => False) w w' := by
  have AW := Lib.hid fun W (T : Ux.Touch (fun _ => False) w W) => awake_ W (hT.touch T)
  obtain ⟨n1, e1⟩ : ∃ n, s.size = n := ⟨_, rfl⟩
  have g1 : (n1 : Int) ≤ 140737488355328 := by omega
  have g2 : ((n1 : Int) > 60) := by omega
  clear hT h1 h
  go_enter Tryz.func11, Tryz.ntmps11
  go_wp2_with (go_at_call 35; fail)
  refine (AW.out _ (Ux.Touch.refl _ _)).mono ?_
  rintro e w7 ⟨rfl, T7⟩
  have H7 := Lib.hid T7
  clear T7
  go_wp2
  go_returns
  exact ⟨rfl, H7.out⟩
set_option maxHeartbeats 16000000 in
set_option maxRecDepth 100000 in
theorem counts_ (n : Int) (s : ByteArray) (k lv : Int) (w : World) (hT : Tabs w) (hs : s.size ≤ 60) :
    Calls Tryz.prog 11 #[.int .i64 n, .string s, .int .i64 k, .int .i64 lv] w fun e w' => e = .returned (.bool true) ∧ Ux.Touch (fun _ => False) w w' := by
  have AW := Lib.hid fun W (T : Ux.Touch (fun _ => False) w W) => awake_ W (hT.touch T)
  have HM := Lib.hid (madeC0_ k lv false false w hT)
  have HT := Lib.hid hT
  obtain ⟨n1, e1⟩ : ∃ n, s.size = n := ⟨_, rfl⟩
  have g2 : ¬ ((n1 : Int) > 60) := by omega
  obtain ⟨L, hL⟩ : ∃ L, signs s.data.toList = L := ⟨_, rfl⟩
  obtain ⟨kk, hkk⟩ : ∃ kk, L.length = kk := ⟨_, rfl⟩
  have hkb : kk ≤ 60 := by
    have h1 := signs_len s.data.toList
    have h2 : s.data.toList.length = s.size := rfl
    rw [hL] at h1
    omega
  have HRS := Lib.hid fun W => rsigns_ s W (by omega)
  rw [hL] at HRS
  obtain ⟨m, hm, hm16⟩ := and15 n
  have HS := Lib.hid (And.intro hs (And.intro hm16 (And.intro hL hkk)))
  have m0 : (m : Int) < 16 := by omega
  have k0 : (kk : Int) ≤ 60 := by omega
  clear hT hs hL hkb hm16
  go_enter Tryz.func11, Tryz.ntmps11
  go_wp2_with (go_at_call 18; fail)
  refine HM.out.mono ?_
  rintro e w1 ⟨kd, LN, sh, bk, tb, u, rfl, hM, T1⟩
  obtain ⟨xa, xn, xc, rfl⟩ := hM.shape
  unfold cV rcV
  obtain ⟨W1, hW1⟩ : ∃ W, (w1.alloc (.cells #[.int .i64 kd, .int .i64 (LN : Nat), .bool sh, .bool bk, .pointer tb] 26)).alloc (.cells #[.int .i64 kd, .int .i64 (LN : Nat), .bool sh, .bool bk, .slice xa xn xc] 35) = W := ⟨_, rfl⟩
  have t1 : Ux.Touch (fun _ => False) w1 W1 := by rw [← hW1]; exact ((Ux.Touch.refl _ _).alloc _).alloc _
  obtain ⟨q1, hq1⟩ : ∃ q, w1.heap.size = q := ⟨_, rfl⟩
  have r1 : W1.heap[q1]? = some (.cells #[.int .i64 kd, .int .i64 (LN : Nat), .bool sh, .bool bk, .pointer tb] 26 (0, 0)) := by rw [← hW1, ← hq1]; exact ((Ux.Touch.refl (fun _ => False) _).alloc _).heap (heap_alloc_new w1 _) (fun f => f)
  have TW1 := T1.trans t1 fun _ _ f => f
  have HCA := Lib.hid fun W (T : Ux.Touch (fun _ => False) W1 W) => (CAt.of r1).touch T
  have H1 := Lib.hid TW1
  have HW1 := Lib.hid (And.intro hW1 hq1)
  clear hM T1 t1 r1 TW1 hW1 hq1
  go_upto_region 6 with (fail)
  rw [HW1.out.1, HW1.out.2]
  go_wp2_with (fail)
  go_loopg [12, 13] m (fun g s12 s13 wr => ∃ i : Nat, s13 = .int .i64 i ∧ i + g = m ∧ W1 = wr ∧ s12 = .string (us i))
  case atStart => exact ⟨0, rfl, by omega, rfl, rfl⟩
  case round =>
    obtain ⟨i, rfl, hig, rfl, rfl⟩ := hrel
    have i0 : (0 : Int) ≤ i := by omega
    obtain ⟨P, hP⟩ : ∃ P, us i = P := ⟨_, rfl⟩
    have hPs : P.size = i := by rw [← hP, us_size]
    rw [hP]
    by_cases hlt : i < m
    · obtain ⟨g', rfl⟩ : ∃ g', gk = g' + 1 := ⟨gk - 1, by omega⟩
      have i1 : (i : Int) < m := by omega
      have hcat : ¬ (9223372036854775807 < (i : Int) + 1) := by omega
      have HP := Lib.hid hP
      clear hlt hP
      go_wp2
      go_roundg g'
      case measure => omega
      case rel => exact ⟨i + 1, rfl, by omega, rfl, by rw [← us_succ, HP.out]⟩
    · obtain rfl : i = m := by omega
      have i1 : ¬ (i : Int) < i := by omega
      have hcat1 : ¬ (9223372036854775807 < (i : Int) + 1) := by omega
      have hcat2 : ¬ (9223372036854775807 < 1 + (i : Int)) := by omega
      have hcat3 : ¬ (9223372036854775807 < 1 + (i : Int) + 2) := by omega
      obtain ⟨PY, hPY⟩ : ∃ PY, P ++ (⟨#[37]⟩ : ByteArray) = PY := ⟨_, rfl⟩
      obtain ⟨PZ0, hPZ0⟩ : ∃ PZ, (⟨#[37]⟩ : ByteArray) ++ P = PZ := ⟨_, rfl⟩
      obtain ⟨PZ, hPZ⟩ : ∃ PZ, PZ0 ++ (⟨#[37, 37]⟩ : ByteArray) = PZ := ⟨_, rfl⟩
      have sz0 : PZ0.size = 1 + i := by rw [← hPZ0, ByteArray.size_append, hPs]; rfl
      have szY : PY.size = i + 1 := by rw [← hPY, ByteArray.size_append, hPs]; rfl
      have szZ : PZ.size = 1 + i + 2 := by rw [← hPZ, ByteArray.size_append, sz0]; rfl
      have hcat4 : ¬ (9223372036854775807 < ((1 + i : Nat) : Int) + 2) := by omega
      have px : (signs P.data.toList).map elt = ones i := by rw [← hP]; exact pat_x i
      have py : (signs PY.data.toList).map elt = ones i ++ [-1] := by rw [← hPY, ← hP]; exact pat_y i
      have pz : (signs PZ.data.toList).map elt = -1 :: (ones i ++ [-1, -1]) := by rw [← hPZ, ← hPZ0, ← hP]; exact pat_z i
      have HMK := Lib.hid fun (p : ByteArray) (hp : p.size ≤ 100) W (T : Ux.Touch (fun _ => False) W1 W) => make0_ p W (by omega) (HT.out.touch (H1.out.trans T fun _ _ f => f))
      have hm16 := HS.out.2.1
      have mk1 := HMK.out P (by omega)
      rw [px] at mk1
      have mk2 := HMK.out PY (by omega)
      rw [py] at mk2
      have mk3 := HMK.out PZ (by omega)
      rw [pz] at mk3
      have HM1 := Lib.hid mk1
      have HM2 := Lib.hid mk2
      have HM3 := Lib.hid mk3
      have HMT := Lib.hid fun (Q : List Int) (hQ : ∀ a ∈ Q, a = -2 ∨ a = -1) (hq : Q.length ≤ 100) (pv : Value) W (T : Ux.Touch (fun _ => False) W1 W) (hR : Row W 0 3 pv (iv Q)) =>
        match_ (fun _ _ => false) kd (LN : Nat) sh bk tb Q pv 0 s W (by have := HS.out.1; omega) (HT.out.touch (H1.out.trans T fun _ _ f => f)) hR (by omega) (fun a b w' ha h1 h2 _ _ => by rcases hQ a ha with h | h; exact absurd h h2; exact absurd h h1)
      rw [HS.out.2.2.1] at HMT
      have HON := Lib.hid (only_stars i)
      have HPP := Lib.hid hPs
      clear hlt hP px py pz mk1 mk2 mk3 HMK hm16
      go_wp2_with (go_at_call 36; fail)
      refine (HRS.out W1).mono ?_
      rintro e w2 ⟨v, rfl, hR, T2⟩
      obtain ⟨a2, c2, rfl, _⟩ := hR.is
      rw [Ux.iv_length, Ux.sv_length, HS.out.2.2.2]
      have H2 := Lib.hid T2
      clear hR T2
      go_wp2_with (go_at_call 37; fail)
      refine (HM1.out _ H2.out).mono ?_
      rintro e v3 ⟨a3, n3, c3, rfl, hR3, T3⟩
      obtain ⟨W3, hW3⟩ : ∃ W, v3.alloc (.cells #[.slice a3 n3 c3] 60) = W := ⟨_, rfl⟩
      obtain ⟨q3, hq3⟩ : ∃ q, v3.heap.size = q := ⟨_, rfl⟩
      have b3 : W3.heap[q3]? = some (.cells #[.slice a3 n3 c3] 60 (0, 0)) := by rw [← hW3, ← hq3]; exact heap_alloc_new v3 _
      have t3 : Ux.Touch (fun _ => False) v3 W3 := by rw [← hW3]; exact (Ux.Touch.refl _ _).alloc _
      have H3 := Lib.hid (And.intro ((H2.out).trans (T3.trans t3 fun _ _ f => f) fun _ _ f => f) (And.intro ((hR3.mono (Nat.zero_le _)).touch0 t3) b3))
      have HE3 := Lib.hid (T3.trans t3 fun _ _ f => f)
      clear hR3 T3 b3 t3
      go_wp2_with (go_at_call 37; fail)
      refine (HM2.out _ H3.out.1).mono ?_
      rintro e v5 ⟨a5, n5, c5, rfl, hR5, T5⟩
      obtain ⟨W5, hW5⟩ : ∃ W, v5.alloc (.cells #[.slice a5 n5 c5] 60) = W := ⟨_, rfl⟩
      obtain ⟨q5, hq5⟩ : ∃ q, v5.heap.size = q := ⟨_, rfl⟩
      have b5 : W5.heap[q5]? = some (.cells #[.slice a5 n5 c5] 60 (0, 0)) := by rw [← hW5, ← hq5]; exact heap_alloc_new v5 _
      have t5 : Ux.Touch (fun _ => False) v5 W5 := by rw [← hW5]; exact (Ux.Touch.refl _ _).alloc _
      have H5 := Lib.hid (And.intro ((H3.out.1).trans (T5.trans t5 fun _ _ f => f) fun _ _ f => f) (And.intro ((hR5.mono (Nat.zero_le _)).touch0 t5) b5))
      have HE5 := Lib.hid (T5.trans t5 fun _ _ f => f)
      clear hR5 T5 b5 t5
      go_wp2_with (go_at_call 37; fail)
      refine (HM3.out _ H5.out.1).mono ?_
      rintro e v6 ⟨a6, n6, c6, rfl, hR6, T6⟩
      obtain ⟨W6, hW6⟩ : ∃ W, v6.alloc (.cells #[.slice a6 n6 c6] 60) = W := ⟨_, rfl⟩
      obtain ⟨q6, hq6⟩ : ∃ q, v6.heap.size = q := ⟨_, rfl⟩
      have b6 : W6.heap[q6]? = some (.cells #[.slice a6 n6 c6] 60 (0, 0)) := by rw [← hW6, ← hq6]; exact heap_alloc_new v6 _
      have t6 : Ux.Touch (fun _ => False) v6 W6 := by rw [← hW6]; exact (Ux.Touch.refl _ _).alloc _
      have H6 := Lib.hid (And.intro ((H5.out.1).trans (T6.trans t6 fun _ _ f => f) fun _ _ f => f) (And.intro ((hR6.mono (Nat.zero_le _)).touch0 t6) b6))
      have HE6 := Lib.hid (T6.trans t6 fun _ _ f => f)
      clear hR6 T6 b6 t6
      go_upto_region 16 with (fail)
      have b3 : W6.heap[q3]? = some (.cells #[.slice a3 n3 c3] 60 (0, 0)) := (HE5.out.trans HE6.out fun _ _ f => f).heap H3.out.2.2 (fun f => f)
      have b5 : W6.heap[q5]? = some (.cells #[.slice a5 n5 c5] 60 (0, 0)) := HE6.out.heap H5.out.2.2 (fun f => f)
      have b6 := H6.out.2.2
      have HB := Lib.hid fun W (T : Ux.Touch (fun _ => False) W6 W) => (show W.cell? ⟨q3, 0, none⟩ = some (.slice a3 n3 c3) ∧ W.cell? ⟨q5, 0, none⟩ = some (.slice a5 n5 c5) ∧ W.cell? ⟨q6, 0, none⟩ = some (.slice a6 n6 c6) from ⟨by rw [cell_of_row W q3 0 _ _ (0, 0) (T.heap b3 (fun f => f))]; rfl, by rw [cell_of_row W q5 0 _ _ (0, 0) (T.heap b5 (fun f => f))]; rfl, by rw [cell_of_row W q6 0 _ _ (0, 0) (T.heap b6 (fun f => f))]; rfl⟩)
      have rr3 := H3.out.2.1.touch0 (HE5.out.trans HE6.out fun _ _ f => f)
      have rr5 := H5.out.2.1.touch0 HE6.out
      have rr6 := H6.out.2.1
      have lon : (ones i).length = i := List.length_replicate
      have i16 := HS.out.2.1
      have M1 := Lib.hid fun W (T : Ux.Touch (fun _ => False) W6 W) => HMT.out (ones i) (fun a ha => .inl ((HON.out a).1 ha)) (by omega) _ W (H6.out.1.trans T fun _ _ f => f) (rr3.touch0 T)
      have M2 := Lib.hid fun W (T : Ux.Touch (fun _ => False) W6 W) => HMT.out (ones i ++ [-1]) (fun a ha => (HON.out a).2.1 ha) (by rw [List.length_append]; simp; omega) _ W (H6.out.1.trans T fun _ _ f => f) (rr5.touch0 T)
      have M3 := Lib.hid fun W (T : Ux.Touch (fun _ => False) W6 W) => HMT.out (-1 :: (ones i ++ [-1, -1])) (fun a ha => (HON.out a).2.2 ha) (by rw [List.length_cons, List.length_append]; simp; omega) _ W (H6.out.1.trans T fun _ _ f => f) (rr6.touch0 T)
      have lL : (sv L).length = kk := by rw [Ux.sv_length, HS.out.2.2.2]
      rw [Ux.Like.count_x, lL] at M1
      rw [Ux.Like.count_y, lL] at M2
      rw [Ux.Like.count_z, lL] at M3
      have hcase : (decide (kk = i) = true ∧ decide (i ≤ kk) = true ∧ ((kk : Int) == (i : Int)) = true ∧ decide ((kk : Int) ≥ (i : Int)) = true) ∨ (decide (kk = i) = false ∧ decide (i ≤ kk) = true ∧ ((kk : Int) == (i : Int)) = false ∧ decide ((kk : Int) ≥ (i : Int)) = true) ∨ (decide (kk = i) = false ∧ decide (i ≤ kk) = false ∧ ((kk : Int) == (i : Int)) = false ∧ decide ((kk : Int) ≥ (i : Int)) = false) := by
        simp only [decide_eq_true_eq, decide_eq_false_iff_not, beq_iff_eq, beq_eq_false_iff_ne]
        omega
      clear b3 b5 b6 rr3 rr5 rr6 lon i16 lL HMT hcat1 hcat2 hcat3 hcat4 hPY hPZ0 hPZ sz0 szY szZ
      rcases hcase with ⟨z1, z2, z3, z4⟩ | ⟨z1, z2, z3, z4⟩ | ⟨z1, z2, z3, z4⟩
      all_goals
        rw [z1] at M1
        rw [z2] at M2 M3
        clear z1
        obtain ⟨y1, y2, y3⟩ := HB.out W6 (Ux.Touch.refl _ _)
        obtain ⟨x0, x1, x2, x3, x4⟩ := HCA.out W6 H6.out.1
        go_wp2_with (go_at_call 38; fail)
        refine (M1.out W6 (Ux.Touch.refl _ _)).mono ?_
        rintro e w7 ⟨rfl, T7⟩
        have H7 := Lib.hid T7
        clear T7 x0 x1 x2 x3 x4 y1 y2 y3
        obtain ⟨y1, y2, y3⟩ := HB.out w7 H7.out
        obtain ⟨x0, x1, x2, x3, x4⟩ := HCA.out w7 (H6.out.1.trans H7.out fun _ _ f => f)
        go_wp2_with (go_at_call 38; fail)
        refine (M2.out w7 H7.out).mono ?_
        rintro e w8 ⟨rfl, T8⟩
        have H8 := Lib.hid (H7.out.trans T8 fun _ _ f => f)
        clear T8 x0 x1 x2 x3 x4 y1 y2 y3
        obtain ⟨y1, y2, y3⟩ := HB.out w8 H8.out
        obtain ⟨x0, x1, x2, x3, x4⟩ := HCA.out w8 (H6.out.1.trans H8.out fun _ _ f => f)
        go_wp2_with (go_at_call 38; fail)
        refine (M3.out w8 H8.out).mono ?_
        rintro e w9 ⟨rfl, T9⟩
        have H9 := Lib.hid (H1.out.trans (H6.out.1.trans (H8.out.trans T9 fun _ _ f => f) fun _ _ f => f) fun _ _ f => f)
        clear T9 x0 x1 x2 x3 x4 y1 y2 y3
        go_wp2_with (go_at_call 35; fail)
        refine (AW.out w9 H9.out).mono ?_
        rintro e w10 ⟨rfl, T10⟩
        have H10 := Lib.hid (H9.out.trans T10 fun _ _ f => f)
        clear T10
        go_wp2
        go_returns
        exact ⟨rfl, H10.out⟩
theorem countsLaw_ (n : Int) (s : ByteArray) (k lv : Int) (w : World) (hT : Tabs w) (h1 : s.size ≤ 140737488355328) :
    Calls Tryz.prog 11 #[.int .i64 n, .string s, .int .i64 k, .int .i64 lv] w fun e w' => e = .returned (.bool true) ∧ Ux.Touch (fun _ => False) w w' := by
  by_cases h : s.size > 60
  · exact counts_big n s k lv w hT h1 h
  · exact counts_ n s k lv w hT (by omega)

end Go.Proofs.YtkeodddpnmnheaaGreatDoor
