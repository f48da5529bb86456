/- PART OF THE PROOF THAT THIS CLAIM HOLDS OF THE GIVEN PROGRAM, FOR EVERY INPUT THAT THE STATEMENT NAMES. No condition besides the statement's own. -/
import Derived.Test.YtglamoompicciaaGreatDoorSignZ
import Derived.Test.YtglamoompicciaaGreatDoorRows
import Derived.WalkKit
import Derived.Handy
import Derived.Laws.EntriesVeiled
import Derived.WalkSpells
import Derived.WalkLawsBesides
import Derived.BigQuiet
import Derived.Deep.QuietTactic
import Derived.Deep.Cut
import Derived.Deep.DeepCutAuto
import Derived.Lib.Overlaps
import Derived.Laws.Externs
import Derived.Lib.Hide
import Derived.Test.YtglamoompicciaaGreatDoorUxPlanAllZ
import Derived.Test.YtglamoompicciaaGreatDoorUxTreeAllZ
import Derived.Deep.LoopGhost
namespace Go.Proofs.YtglamoompicciaaGreatDoor
open Go.RowKit
open Go.RowKit
open Ux (Row iv sv bv)
open Ux.Sign (sg sgN bt tl isT v3 v4 signs signs_cons)

theorem tail_ (x : UInt8) (w : World) : Calls Tryz.prog 63 #[.int .u8 (x.toNat : Int)] w fun e w' => e = .returned (.bool (isT x)) ∧ w' = w := by
  have hd : isT x = true ↔ 128 ≤ x.toNat ∧ x.toNat ≤ 191 := by unfold isT; rw [decide_eq_true_eq]; unfold tl; omega
  have hlt := x.toNat_lt
  by_cases h1 : 128 ≤ x.toNat
  · have j1 : (x.toNat : Int) ≥ 128 := by omega
    by_cases h2 : x.toNat ≤ 191
    · have j2 : (x.toNat : Int) ≤ 191 := by omega
      rw [hd.2 ⟨h1, h2⟩]
      clear hd
      go_enter Tryz.func63, Tryz.ntmps63
      go_wp2
      go_ret
      exact ⟨rfl, rfl⟩
    · have j2 : ¬ ((x.toNat : Int) ≤ 191) := by omega
      have e : isT x = false := by rw [Bool.eq_false_iff]; exact fun h => h2 (hd.1 h).2
      rw [e]
      clear hd e
      go_enter Tryz.func63, Tryz.ntmps63
      go_wp2
      go_ret
      exact ⟨rfl, rfl⟩
  · have j1 : ¬ ((x.toNat : Int) ≥ 128) := by omega
    have e : isT x = false := by rw [Bool.eq_false_iff]; exact fun h => h1 (hd.1 h).1
    rw [e]
    clear hd e
    go_enter Tryz.func63, Tryz.ntmps63
    go_wp2
    go_ret
    exact ⟨rfl, rfl⟩

theorem bt_at (s : ByteArray) (i : Nat) (h : i < s.size) : bt s.data.toList i = (s[i]'h).toNat := by
  unfold bt
  rw [Lib.data_getElem? s i h]
theorem isT_tl (x : UInt8) : isT x = decide (tl x.toNat) := rfl
def RS (s : ByteArray) (w : World) : Prop := Calls Tryz.prog 33 #[.string s] w fun e w' => e = .returned (.tuple #[.int .i64 ((sg s.data.toList).1 : Int), .int .i64 ((sg s.data.toList).2 : Int)]) ∧ Ux.Touch (fun _ => False) w w'
theorem tl_of {x : UInt8} (h : isT x = true) : tl x.toNat := of_decide_eq_true h
theorem ntl_of {x : UInt8} (h : isT x = false) : ¬ tl x.toNat := of_decide_eq_false h
theorem bt_no (s : ByteArray) (i : Nat) (h : s.size ≤ i) : ¬ tl (bt s.data.toList i) := by
  have : bt s.data.toList i = 0 := by unfold bt; rw [List.getElem?_eq_none (by simpa using h)]
  rw [this]; decide
set_option maxHeartbeats 2000000 in
set_option maxRecDepth 100000 in
theorem rs_a (s : ByteArray) (w : World) (hs : 0 < s.size) (x0 : UInt8) (e0 : s[0]'hs = x0) (hb : x0.toNat < 128) :
    RS s w := by
  have n0 := x0.toNat_lt
  have hsg : sg s.data.toList = (x0.toNat, 1) := by
    unfold sg sgN
    rw [bt_at s 0 hs]
    rw [e0, if_pos hb]
  have j0 : (x0.toNat : Int) < 128 := by omega
  unfold RS
  rw [hsg]
  have HS := Lib.hid hsg
  clear hsg
  clear hb
  go_enter Tryz.func33, Tryz.ntmps33
  go_wp2_with (go_at_call 63; refine (tail_ _ _).mono ?_; rintro e w' ⟨rfl, rfl⟩)
  go_returns
  exact ⟨rfl, Ux.Touch.refl _ _⟩
set_option maxHeartbeats 2000000 in
set_option maxRecDepth 100000 in
theorem rs_e1 (s : ByteArray) (w : World) (hs : 0 < s.size) (x0 : UInt8) (e0 : s[0]'hs = x0) (hb : 128 ≤ x0.toNat ∧ x0.toNat < 194) :
    RS s w := by
  have n0 := x0.toNat_lt
  have hsg : sg s.data.toList = (1114112 + x0.toNat, 1) := by
    unfold sg sgN
    rw [bt_at s 0 hs]
    rw [e0, if_neg (by omega), if_neg (fun h => by omega), if_neg (fun h => by omega), if_neg (fun h => by omega)]
  have j0 : ¬ ((x0.toNat : Int) < 128) := by omega
  have j1 : ¬ ((x0.toNat : Int) ≥ 194) := by omega
  have j2 : ¬ ((x0.toNat : Int) ≥ 224) := by omega
  have j3 : ¬ ((x0.toNat : Int) ≥ 240) := by omega
  unfold RS
  rw [hsg]
  have HS := Lib.hid hsg
  clear hsg
  clear hb
  go_enter Tryz.func33, Tryz.ntmps33
  go_wp2_with (go_at_call 63; refine (tail_ _ _).mono ?_; rintro e w' ⟨rfl, rfl⟩)
  go_returns
  exact ⟨rfl, Ux.Touch.refl _ _⟩
set_option maxHeartbeats 2000000 in
set_option maxRecDepth 100000 in
theorem rs_e2 (s : ByteArray) (w : World) (hs : 0 < s.size) (x0 : UInt8) (e0 : s[0]'hs = x0) (hb : 244 < x0.toNat) :
    RS s w := by
  have n0 := x0.toNat_lt
  have hsg : sg s.data.toList = (1114112 + x0.toNat, 1) := by
    unfold sg sgN
    rw [bt_at s 0 hs]
    rw [e0, if_neg (by omega), if_neg (fun h => by omega), if_neg (fun h => by omega), if_neg (fun h => by omega)]
  have j0 : ¬ ((x0.toNat : Int) < 128) := by omega
  have j1 : (x0.toNat : Int) ≥ 194 := by omega
  have j2 : ¬ ((x0.toNat : Int) ≤ 223) := by omega
  have j3 : (x0.toNat : Int) ≥ 224 := by omega
  have j4 : ¬ ((x0.toNat : Int) ≤ 239) := by omega
  have j5 : (x0.toNat : Int) ≥ 240 := by omega
  have j6 : ¬ ((x0.toNat : Int) ≤ 244) := by omega
  unfold RS
  rw [hsg]
  have HS := Lib.hid hsg
  clear hsg
  clear hb
  go_enter Tryz.func33, Tryz.ntmps33
  go_wp2_with (go_at_call 63; refine (tail_ _ _).mono ?_; rintro e w' ⟨rfl, rfl⟩)
  go_returns
  exact ⟨rfl, Ux.Touch.refl _ _⟩
set_option maxHeartbeats 2000000 in
set_option maxRecDepth 100000 in
theorem rs_b0 (s : ByteArray) (w : World) (hs : 0 < s.size) (x0 : UInt8) (e0 : s[0]'hs = x0) (hb : 194 ≤ x0.toNat ∧ x0.toNat ≤ 223 ∧ s.size ≤ 1) :
    RS s w := by
  have n0 := x0.toNat_lt
  have hsg : sg s.data.toList = (1114112 + x0.toNat, 1) := by
    unfold sg sgN
    rw [bt_at s 0 hs]
    rw [e0, if_neg (by omega), if_neg (fun h => bt_no s 1 hb.2.2 h.2.2), if_neg (fun h => by omega), if_neg (fun h => by omega)]
  have j0 : ¬ ((x0.toNat : Int) < 128) := by omega
  have j1 : (x0.toNat : Int) ≥ 194 := by omega
  have j2 : (x0.toNat : Int) ≤ 223 := by omega
  have j3 : ¬ ((s.size : Int) > 1) := by omega
  unfold RS
  rw [hsg]
  have HS := Lib.hid hsg
  clear hsg
  clear hb
  go_enter Tryz.func33, Tryz.ntmps33
  go_wp2_with (go_at_call 63; refine (tail_ _ _).mono ?_; rintro e w' ⟨rfl, rfl⟩)
  go_returns
  exact ⟨rfl, Ux.Touch.refl _ _⟩
set_option maxHeartbeats 2000000 in
set_option maxRecDepth 100000 in
theorem rs_b1 (s : ByteArray) (w : World) (hs : 0 < s.size) (x0 : UInt8) (e0 : s[0]'hs = x0) (m1 : 1 < s.size) (x1 : UInt8) (e1 : s[1]'m1 = x1) (h1 : isT x1 = false) (hb : 194 ≤ x0.toNat ∧ x0.toNat ≤ 223) :
    RS s w := by
  have n0 := x0.toNat_lt
  have hsg : sg s.data.toList = (1114112 + x0.toNat, 1) := by
    unfold sg sgN
    rw [bt_at s 0 hs]
    rw [bt_at s 1 m1, e0, e1]
    rw [if_neg (by omega), if_neg (fun h => ntl_of h1 h.2.2), if_neg (fun h => by omega), if_neg (fun h => by omega)]
  have j0 : ¬ ((x0.toNat : Int) < 128) := by omega
  have j1 : (x0.toNat : Int) ≥ 194 := by omega
  have j2 : (x0.toNat : Int) ≤ 223 := by omega
  have j3 : (s.size : Int) > 1 := by omega
  have j4 : (1 : Int) < s.size := by omega
  unfold RS
  rw [hsg]
  have HS := Lib.hid hsg
  clear hsg
  clear hb
  go_enter Tryz.func33, Tryz.ntmps33
  go_wp2_with (go_at_call 63; refine (tail_ _ _).mono ?_; rintro e w' ⟨rfl, rfl⟩)
  go_returns
  exact ⟨rfl, Ux.Touch.refl _ _⟩
set_option maxHeartbeats 2000000 in
set_option maxRecDepth 100000 in
theorem rs_b2 (s : ByteArray) (w : World) (hs : 0 < s.size) (x0 : UInt8) (e0 : s[0]'hs = x0) (m1 : 1 < s.size) (x1 : UInt8) (e1 : s[1]'m1 = x1) (h1 : isT x1 = true) (hb : 194 ≤ x0.toNat ∧ x0.toNat ≤ 223) :
    RS s w := by
  have n0 := x0.toNat_lt
  have n1 := x1.toNat_lt
  have t1 := tl_of h1
  unfold tl at t1
  have hsg : sg s.data.toList = ((x0.toNat - 192) * 64 + (x1.toNat - 128), 2) := by
    unfold sg sgN
    rw [bt_at s 0 hs]
    rw [bt_at s 1 m1, e0, e1]
    rw [if_neg (by omega), if_pos ⟨hb.1, hb.2, tl_of h1⟩]
  have j0 : ¬ ((x0.toNat : Int) < 128) := by omega
  have j1 : (x0.toNat : Int) ≥ 194 := by omega
  have j2 : (x0.toNat : Int) ≤ 223 := by omega
  have j3 : (s.size : Int) > 1 := by omega
  have j4 : (1 : Int) < s.size := by omega
  unfold RS
  rw [hsg]
  have HS := Lib.hid hsg
  clear hsg
  clear hb
  go_enter Tryz.func33, Tryz.ntmps33
  go_wp2_with (go_at_call 63; refine (tail_ _ _).mono ?_; rintro e w' ⟨rfl, rfl⟩)
  go_returns
  refine ⟨?_, Ux.Touch.refl _ _⟩
  have hc : ((x0.toNat : Int) - 192) * 64 + (x1.toNat : Int) - 128 = (((x0.toNat - 192) * 64 + (x1.toNat - 128) : Nat) : Int) := by omega
  rw [hc]; rfl
set_option maxHeartbeats 2000000 in
set_option maxRecDepth 100000 in
theorem rs_c0 (s : ByteArray) (w : World) (hs : 0 < s.size) (x0 : UInt8) (e0 : s[0]'hs = x0) (hb : 224 ≤ x0.toNat ∧ x0.toNat ≤ 239 ∧ s.size ≤ 2) :
    RS s w := by
  have n0 := x0.toNat_lt
  have hsg : sg s.data.toList = (1114112 + x0.toNat, 1) := by
    unfold sg sgN
    rw [bt_at s 0 hs]
    rw [e0]
    rw [if_neg (by omega), if_neg (fun h => by omega), if_neg (fun h => bt_no s 2 hb.2.2 h.2.2.2.1), if_neg (fun h => by omega)]
  have j0 : ¬ ((x0.toNat : Int) < 128) := by omega
  have j1 : (x0.toNat : Int) ≥ 194 := by omega
  have j2 : ¬ ((x0.toNat : Int) ≤ 223) := by omega
  have j3 : (x0.toNat : Int) ≥ 224 := by omega
  have j4 : (x0.toNat : Int) ≤ 239 := by omega
  have j5 : ¬ ((s.size : Int) > 2) := by omega
  unfold RS
  rw [hsg]
  have HS := Lib.hid hsg
  clear hsg
  clear hb
  go_enter Tryz.func33, Tryz.ntmps33
  go_wp2_with (go_at_call 63; refine (tail_ _ _).mono ?_; rintro e w' ⟨rfl, rfl⟩)
  go_returns
  exact ⟨rfl, Ux.Touch.refl _ _⟩
set_option maxHeartbeats 2000000 in
set_option maxRecDepth 100000 in
theorem rs_c1 (s : ByteArray) (w : World) (hs : 0 < s.size) (x0 : UInt8) (e0 : s[0]'hs = x0) (m2 : 2 < s.size) (x1 x2 : UInt8) (e1 : s[1] = x1) (e2 : s[2]'m2 = x2) (h1 : isT x1 = false) (hb : 224 ≤ x0.toNat ∧ x0.toNat ≤ 239) :
    RS s w := by
  have n0 := x0.toNat_lt
  have m1 : 1 < s.size := by omega
  have hsg : sg s.data.toList = (1114112 + x0.toNat, 1) := by
    unfold sg sgN
    rw [bt_at s 0 hs]
    rw [bt_at s 1 m1, bt_at s 2 m2, e0, e1, e2]
    rw [if_neg (by omega), if_neg (fun h => by omega), if_neg (fun h => ntl_of h1 h.2.2.1), if_neg (fun h => by omega)]
  have j0 : ¬ ((x0.toNat : Int) < 128) := by omega
  have j1 : (x0.toNat : Int) ≥ 194 := by omega
  have j2 : ¬ ((x0.toNat : Int) ≤ 223) := by omega
  have j3 : (x0.toNat : Int) ≥ 224 := by omega
  have j4 : (x0.toNat : Int) ≤ 239 := by omega
  have j5 : (s.size : Int) > 2 := by omega
  have j6 : (2 : Int) < s.size := by omega
  have j7 : (1 : Int) < s.size := by omega
  unfold RS
  rw [hsg]
  have HS := Lib.hid hsg
  clear hsg
  clear hb
  go_enter Tryz.func33, Tryz.ntmps33
  go_wp2_with (go_at_call 63; refine (tail_ _ _).mono ?_; rintro e w' ⟨rfl, rfl⟩)
  go_returns
  exact ⟨rfl, Ux.Touch.refl _ _⟩
set_option maxHeartbeats 2000000 in
set_option maxRecDepth 100000 in
theorem rs_c2 (s : ByteArray) (w : World) (hs : 0 < s.size) (x0 : UInt8) (e0 : s[0]'hs = x0) (m2 : 2 < s.size) (x1 x2 : UInt8) (e1 : s[1] = x1) (e2 : s[2]'m2 = x2) (h1 : isT x1 = true) (h2 : isT x2 = false) (hb : 224 ≤ x0.toNat ∧ x0.toNat ≤ 239) :
    RS s w := by
  have n0 := x0.toNat_lt
  have m1 : 1 < s.size := by omega
  have hsg : sg s.data.toList = (1114112 + x0.toNat, 1) := by
    unfold sg sgN
    rw [bt_at s 0 hs]
    rw [bt_at s 1 m1, bt_at s 2 m2, e0, e1, e2]
    rw [if_neg (by omega), if_neg (fun h => by omega), if_neg (fun h => ntl_of h2 h.2.2.2.1), if_neg (fun h => by omega)]
  have j0 : ¬ ((x0.toNat : Int) < 128) := by omega
  have j1 : (x0.toNat : Int) ≥ 194 := by omega
  have j2 : ¬ ((x0.toNat : Int) ≤ 223) := by omega
  have j3 : (x0.toNat : Int) ≥ 224 := by omega
  have j4 : (x0.toNat : Int) ≤ 239 := by omega
  have j5 : (s.size : Int) > 2 := by omega
  have j6 : (2 : Int) < s.size := by omega
  have j7 : (1 : Int) < s.size := by omega
  unfold RS
  rw [hsg]
  have HS := Lib.hid hsg
  clear hsg
  clear hb
  go_enter Tryz.func33, Tryz.ntmps33
  go_wp2_with (go_at_call 63; refine (tail_ _ _).mono ?_; rintro e w' ⟨rfl, rfl⟩)
  go_returns
  exact ⟨rfl, Ux.Touch.refl _ _⟩
set_option maxHeartbeats 2000000 in
set_option maxRecDepth 100000 in
theorem rs_c3 (s : ByteArray) (w : World) (hs : 0 < s.size) (x0 : UInt8) (e0 : s[0]'hs = x0) (m2 : 2 < s.size) (x1 x2 : UInt8) (e1 : s[1] = x1) (e2 : s[2]'m2 = x2) (h1 : isT x1 = true) (h2 : isT x2 = true) (hb : 224 ≤ x0.toNat ∧ x0.toNat ≤ 239) (hv : v3 x0.toNat x1.toNat x2.toNat < 2048) :
    RS s w := by
  have n0 := x0.toNat_lt
  have m1 : 1 < s.size := by omega
  have n1 := x1.toNat_lt
  have n2 := x2.toNat_lt
  have t1 := tl_of h1
  have t2 := tl_of h2
  unfold tl at t1 t2
  have hsg : sg s.data.toList = (1114112 + x0.toNat, 1) := by
    unfold sg sgN
    rw [bt_at s 0 hs]
    rw [bt_at s 1 m1, bt_at s 2 m2, e0, e1, e2]
    rw [if_neg (by omega), if_neg (fun h => by omega), if_neg (fun h => by have := h.2.2.2.2.1; omega), if_neg (fun h => by omega)]
  have j0 : ¬ ((x0.toNat : Int) < 128) := by omega
  have j1 : (x0.toNat : Int) ≥ 194 := by omega
  have j2 : ¬ ((x0.toNat : Int) ≤ 223) := by omega
  have j3 : (x0.toNat : Int) ≥ 224 := by omega
  have j4 : (x0.toNat : Int) ≤ 239 := by omega
  have j5 : (s.size : Int) > 2 := by omega
  have j6 : (2 : Int) < s.size := by omega
  have j7 : (1 : Int) < s.size := by omega
  unfold RS
  rw [hsg]
  have HS := Lib.hid hsg
  clear hsg
  have HV := Lib.hid hv
  clear hv
  clear hb
  go_enter Tryz.func33, Tryz.ntmps33
  go_upto_region 10 with (go_at_call 63; refine (tail_ _ _).mono ?_; rintro e w' ⟨rfl, rfl⟩)
  refine Ux.wp_region_plan (fun _ _ => True) (.q [0, 1, 2, 3, 4, 5, 6, 7, 8, 9, 10, 11, 12, 13] (.line [14]))
    (by kernel_rfl) (by kernel_rfl) (by intro _ _ d _ _ h; cases d <;> exact h) ?hS ?_
  case hS => (intro c; cases c <;> (simp only [World.cell?_drew]; first | exact True.intro | (refine ⟨?_, ?_⟩ <;> assumption) | assumption | (repeat (first | assumption | (refine And.intro ?_ ?_)))))
  simp only [Ux.wpPlan, Ux.pickOps, Ux.keeps, List.getElem?_toArray, List.getElem?_cons_succ, List.getElem?_cons_zero]
  repeat (first
    | go_big_quiet_step (fail)
    | (with_reducible refine wpQuiet_nil ?_)
    | (refine Ux.quiet_held rfl ?_; apply Exists.intro; refine ⟨fun w' hS => ?_, ?_⟩; (focus ((try dsimp only at hS); go_simp; first | done | with_reducible rfl)); simp only [Act.put, List.setIfInBounds_toArray, List.set_cons_zero, List.set_cons_succ]))
  obtain ⟨V, hV⟩ : ∃ V : Int, ((x0.toNat : Int) - 224) * 4096 + ((x1.toNat : Int) - 128) * 64 + (x2.toNat : Int) - 128 = V := ⟨_, rfl⟩
  rw [hV]
  have hv := HV.out
  have q0 : ¬ (V ≥ 2048) := by unfold v3 at hv; omega
  have HVV := Lib.hid hV
  clear hV hv
  go_wp2
  go_returns
  exact ⟨rfl, (Ux.Touch.refl _ _).drew⟩
set_option maxHeartbeats 2000000 in
set_option maxRecDepth 100000 in
theorem rs_c4 (s : ByteArray) (w : World) (hs : 0 < s.size) (x0 : UInt8) (e0 : s[0]'hs = x0) (m2 : 2 < s.size) (x1 x2 : UInt8) (e1 : s[1] = x1) (e2 : s[2]'m2 = x2) (h1 : isT x1 = true) (h2 : isT x2 = true) (hb : 224 ≤ x0.toNat ∧ x0.toNat ≤ 239) (hv : 2048 ≤ v3 x0.toNat x1.toNat x2.toNat ∧ 55296 ≤ v3 x0.toNat x1.toNat x2.toNat ∧ v3 x0.toNat x1.toNat x2.toNat < 57344) :
    RS s w := by
  have n0 := x0.toNat_lt
  have m1 : 1 < s.size := by omega
  have n1 := x1.toNat_lt
  have n2 := x2.toNat_lt
  have t1 := tl_of h1
  have t2 := tl_of h2
  unfold tl at t1 t2
  have hsg : sg s.data.toList = (1114112 + x0.toNat, 1) := by
    unfold sg sgN
    rw [bt_at s 0 hs]
    rw [bt_at s 1 m1, bt_at s 2 m2, e0, e1, e2]
    rw [if_neg (by omega), if_neg (fun h => by omega), if_neg (fun h => by have := h.2.2.2.2.2; omega), if_neg (fun h => by omega)]
  have j0 : ¬ ((x0.toNat : Int) < 128) := by omega
  have j1 : (x0.toNat : Int) ≥ 194 := by omega
  have j2 : ¬ ((x0.toNat : Int) ≤ 223) := by omega
  have j3 : (x0.toNat : Int) ≥ 224 := by omega
  have j4 : (x0.toNat : Int) ≤ 239 := by omega
  have j5 : (s.size : Int) > 2 := by omega
  have j6 : (2 : Int) < s.size := by omega
  have j7 : (1 : Int) < s.size := by omega
  unfold RS
  rw [hsg]
  have HS := Lib.hid hsg
  clear hsg
  have HV := Lib.hid hv
  clear hv
  clear hb
  go_enter Tryz.func33, Tryz.ntmps33
  go_upto_region 10 with (go_at_call 63; refine (tail_ _ _).mono ?_; rintro e w' ⟨rfl, rfl⟩)
  refine Ux.wp_region_plan (fun _ _ => True) (.q [0, 1, 2, 3, 4, 5, 6, 7, 8, 9, 10, 11, 12, 13] (.line [14]))
    (by kernel_rfl) (by kernel_rfl) (by intro _ _ d _ _ h; cases d <;> exact h) ?hS ?_
  case hS => (intro c; cases c <;> (simp only [World.cell?_drew]; first | exact True.intro | (refine ⟨?_, ?_⟩ <;> assumption) | assumption | (repeat (first | assumption | (refine And.intro ?_ ?_)))))
  simp only [Ux.wpPlan, Ux.pickOps, Ux.keeps, List.getElem?_toArray, List.getElem?_cons_succ, List.getElem?_cons_zero]
  repeat (first
    | go_big_quiet_step (fail)
    | (with_reducible refine wpQuiet_nil ?_)
    | (refine Ux.quiet_held rfl ?_; apply Exists.intro; refine ⟨fun w' hS => ?_, ?_⟩; (focus ((try dsimp only at hS); go_simp; first | done | with_reducible rfl)); simp only [Act.put, List.setIfInBounds_toArray, List.set_cons_zero, List.set_cons_succ]))
  obtain ⟨V, hV⟩ : ∃ V : Int, ((x0.toNat : Int) - 224) * 4096 + ((x1.toNat : Int) - 128) * 64 + (x2.toNat : Int) - 128 = V := ⟨_, rfl⟩
  rw [hV]
  have hv := HV.out
  have q0 : V ≥ 2048 := by unfold v3 at hv; omega
  have q1 : ¬ (V < 55296) := by unfold v3 at hv; omega
  have q2 : ¬ (V > 57343) := by unfold v3 at hv; omega
  have HVV := Lib.hid hV
  clear hV hv
  go_wp2
  go_returns
  exact ⟨rfl, (Ux.Touch.refl _ _).drew⟩
set_option maxHeartbeats 2000000 in
set_option maxRecDepth 100000 in
theorem rs_c5 (s : ByteArray) (w : World) (hs : 0 < s.size) (x0 : UInt8) (e0 : s[0]'hs = x0) (m2 : 2 < s.size) (x1 x2 : UInt8) (e1 : s[1] = x1) (e2 : s[2]'m2 = x2) (h1 : isT x1 = true) (h2 : isT x2 = true) (hb : 224 ≤ x0.toNat ∧ x0.toNat ≤ 239) (hv : 2048 ≤ v3 x0.toNat x1.toNat x2.toNat ∧ v3 x0.toNat x1.toNat x2.toNat < 55296) :
    RS s w := by
  have n0 := x0.toNat_lt
  have m1 : 1 < s.size := by omega
  have n1 := x1.toNat_lt
  have n2 := x2.toNat_lt
  have t1 := tl_of h1
  have t2 := tl_of h2
  unfold tl at t1 t2
  have hsg : sg s.data.toList = (v3 x0.toNat x1.toNat x2.toNat, 3) := by
    unfold sg sgN
    rw [bt_at s 0 hs]
    rw [bt_at s 1 m1, bt_at s 2 m2, e0, e1, e2]
    rw [if_neg (by omega), if_neg (fun h => by omega), if_pos ⟨hb.1, hb.2, tl_of h1, tl_of h2, hv.1, .inl hv.2⟩]
  have j0 : ¬ ((x0.toNat : Int) < 128) := by omega
  have j1 : (x0.toNat : Int) ≥ 194 := by omega
  have j2 : ¬ ((x0.toNat : Int) ≤ 223) := by omega
  have j3 : (x0.toNat : Int) ≥ 224 := by omega
  have j4 : (x0.toNat : Int) ≤ 239 := by omega
  have j5 : (s.size : Int) > 2 := by omega
  have j6 : (2 : Int) < s.size := by omega
  have j7 : (1 : Int) < s.size := by omega
  unfold RS
  rw [hsg]
  have HS := Lib.hid hsg
  clear hsg
  have HV := Lib.hid hv
  clear hv
  clear hb
  go_enter Tryz.func33, Tryz.ntmps33
  go_upto_region 10 with (go_at_call 63; refine (tail_ _ _).mono ?_; rintro e w' ⟨rfl, rfl⟩)
  refine Ux.wp_region_plan (fun _ _ => True) (.q [0, 1, 2, 3, 4, 5, 6, 7, 8, 9, 10, 11, 12, 13] (.line [14]))
    (by kernel_rfl) (by kernel_rfl) (by intro _ _ d _ _ h; cases d <;> exact h) ?hS ?_
  case hS => (intro c; cases c <;> (simp only [World.cell?_drew]; first | exact True.intro | (refine ⟨?_, ?_⟩ <;> assumption) | assumption | (repeat (first | assumption | (refine And.intro ?_ ?_)))))
  simp only [Ux.wpPlan, Ux.pickOps, Ux.keeps, List.getElem?_toArray, List.getElem?_cons_succ, List.getElem?_cons_zero]
  repeat (first
    | go_big_quiet_step (fail)
    | (with_reducible refine wpQuiet_nil ?_)
    | (refine Ux.quiet_held rfl ?_; apply Exists.intro; refine ⟨fun w' hS => ?_, ?_⟩; (focus ((try dsimp only at hS); go_simp; first | done | with_reducible rfl)); simp only [Act.put, List.setIfInBounds_toArray, List.set_cons_zero, List.set_cons_succ]))
  obtain ⟨V, hV⟩ : ∃ V : Int, ((x0.toNat : Int) - 224) * 4096 + ((x1.toNat : Int) - 128) * 64 + (x2.toNat : Int) - 128 = V := ⟨_, rfl⟩
  rw [hV]
  have hv := HV.out
  have q0 : V ≥ 2048 := by unfold v3 at hv; omega
  have q1 : V < 55296 := by unfold v3 at hv; omega
  have HVV := Lib.hid hV
  clear hV hv
  go_wp2
  go_returns
  refine ⟨?_, (Ux.Touch.refl _ _).drew⟩
  have hV := HVV.out
  have hc : V = ((v3 x0.toNat x1.toNat x2.toNat : Nat) : Int) := by have := HV.out; unfold v3 at *; omega
  rw [hc]; rfl
set_option maxHeartbeats 2000000 in
set_option maxRecDepth 100000 in
theorem rs_c6 (s : ByteArray) (w : World) (hs : 0 < s.size) (x0 : UInt8) (e0 : s[0]'hs = x0) (m2 : 2 < s.size) (x1 x2 : UInt8) (e1 : s[1] = x1) (e2 : s[2]'m2 = x2) (h1 : isT x1 = true) (h2 : isT x2 = true) (hb : 224 ≤ x0.toNat ∧ x0.toNat ≤ 239) (hv : 57344 ≤ v3 x0.toNat x1.toNat x2.toNat) :
    RS s w := by
  have n0 := x0.toNat_lt
  have m1 : 1 < s.size := by omega
  have n1 := x1.toNat_lt
  have n2 := x2.toNat_lt
  have t1 := tl_of h1
  have t2 := tl_of h2
  unfold tl at t1 t2
  have hsg : sg s.data.toList = (v3 x0.toNat x1.toNat x2.toNat, 3) := by
    unfold sg sgN
    rw [bt_at s 0 hs]
    rw [bt_at s 1 m1, bt_at s 2 m2, e0, e1, e2]
    rw [if_neg (by omega), if_neg (fun h => by omega), if_pos ⟨hb.1, hb.2, tl_of h1, tl_of h2, by omega, .inr hv⟩]
  have j0 : ¬ ((x0.toNat : Int) < 128) := by omega
  have j1 : (x0.toNat : Int) ≥ 194 := by omega
  have j2 : ¬ ((x0.toNat : Int) ≤ 223) := by omega
  have j3 : (x0.toNat : Int) ≥ 224 := by omega
  have j4 : (x0.toNat : Int) ≤ 239 := by omega
  have j5 : (s.size : Int) > 2 := by omega
  have j6 : (2 : Int) < s.size := by omega
  have j7 : (1 : Int) < s.size := by omega
  unfold RS
  rw [hsg]
  have HS := Lib.hid hsg
  clear hsg
  have HV := Lib.hid hv
  clear hv
  clear hb
  go_enter Tryz.func33, Tryz.ntmps33
  go_upto_region 10 with (go_at_call 63; refine (tail_ _ _).mono ?_; rintro e w' ⟨rfl, rfl⟩)
  refine Ux.wp_region_plan (fun _ _ => True) (.q [0, 1, 2, 3, 4, 5, 6, 7, 8, 9, 10, 11, 12, 13] (.line [14]))
    (by kernel_rfl) (by kernel_rfl) (by intro _ _ d _ _ h; cases d <;> exact h) ?hS ?_
  case hS => (intro c; cases c <;> (simp only [World.cell?_drew]; first | exact True.intro | (refine ⟨?_, ?_⟩ <;> assumption) | assumption | (repeat (first | assumption | (refine And.intro ?_ ?_)))))
  simp only [Ux.wpPlan, Ux.pickOps, Ux.keeps, List.getElem?_toArray, List.getElem?_cons_succ, List.getElem?_cons_zero]
  repeat (first
    | go_big_quiet_step (fail)
    | (with_reducible refine wpQuiet_nil ?_)
    | (refine Ux.quiet_held rfl ?_; apply Exists.intro; refine ⟨fun w' hS => ?_, ?_⟩; (focus ((try dsimp only at hS); go_simp; first | done | with_reducible rfl)); simp only [Act.put, List.setIfInBounds_toArray, List.set_cons_zero, List.set_cons_succ]))
  obtain ⟨V, hV⟩ : ∃ V : Int, ((x0.toNat : Int) - 224) * 4096 + ((x1.toNat : Int) - 128) * 64 + (x2.toNat : Int) - 128 = V := ⟨_, rfl⟩
  rw [hV]
  have hv := HV.out
  have q0 : V ≥ 2048 := by unfold v3 at hv; omega
  have q1 : ¬ (V < 55296) := by unfold v3 at hv; omega
  have q2 : V > 57343 := by unfold v3 at hv; omega
  have HVV := Lib.hid hV
  clear hV hv
  go_wp2
  go_returns
  refine ⟨?_, (Ux.Touch.refl _ _).drew⟩
  have hV := HVV.out
  have hc : V = ((v3 x0.toNat x1.toNat x2.toNat : Nat) : Int) := by have := HV.out; unfold v3 at *; omega
  rw [hc]; rfl
set_option maxHeartbeats 2000000 in
set_option maxRecDepth 100000 in
theorem rs_d0 (s : ByteArray) (w : World) (hs : 0 < s.size) (x0 : UInt8) (e0 : s[0]'hs = x0) (hb : 240 ≤ x0.toNat ∧ x0.toNat ≤ 244 ∧ s.size ≤ 3) :
    RS s w := by
  have n0 := x0.toNat_lt
  have hsg : sg s.data.toList = (1114112 + x0.toNat, 1) := by
    unfold sg sgN
    rw [bt_at s 0 hs]
    rw [e0]
    rw [if_neg (by omega), if_neg (fun h => by omega), if_neg (fun h => by omega), if_neg (fun h => bt_no s 3 hb.2.2 h.2.2.2.2.1)]
  have j0 : ¬ ((x0.toNat : Int) < 128) := by omega
  have j1 : (x0.toNat : Int) ≥ 194 := by omega
  have j2 : ¬ ((x0.toNat : Int) ≤ 223) := by omega
  have j3 : (x0.toNat : Int) ≥ 224 := by omega
  have j4 : ¬ ((x0.toNat : Int) ≤ 239) := by omega
  have j5 : (x0.toNat : Int) ≥ 240 := by omega
  have j6 : (x0.toNat : Int) ≤ 244 := by omega
  have j7 : ¬ ((s.size : Int) > 3) := by omega
  unfold RS
  rw [hsg]
  have HS := Lib.hid hsg
  clear hsg
  clear hb
  go_enter Tryz.func33, Tryz.ntmps33
  go_wp2_with (go_at_call 63; refine (tail_ _ _).mono ?_; rintro e w' ⟨rfl, rfl⟩)
  go_returns
  exact ⟨rfl, Ux.Touch.refl _ _⟩
set_option maxHeartbeats 2000000 in
set_option maxRecDepth 100000 in
theorem rs_d1 (s : ByteArray) (w : World) (hs : 0 < s.size) (x0 : UInt8) (e0 : s[0]'hs = x0) (m3 : 3 < s.size) (x1 x2 x3 : UInt8) (e1 : s[1] = x1) (e2 : s[2] = x2) (e3 : s[3]'m3 = x3) (h1 : isT x1 = false) (hb : 240 ≤ x0.toNat ∧ x0.toNat ≤ 244) :
    RS s w := by
  have n0 := x0.toNat_lt
  have m1 : 1 < s.size := by omega
  have m2 : 2 < s.size := by omega
  have hsg : sg s.data.toList = (1114112 + x0.toNat, 1) := by
    unfold sg sgN
    rw [bt_at s 0 hs]
    rw [bt_at s 1 m1, bt_at s 2 m2, bt_at s 3 m3, e0, e1, e2, e3]
    rw [if_neg (by omega), if_neg (fun h => by omega), if_neg (fun h => by omega), if_neg (fun h => ntl_of h1 h.2.2.1)]
  have j0 : ¬ ((x0.toNat : Int) < 128) := by omega
  have j1 : (x0.toNat : Int) ≥ 194 := by omega
  have j2 : ¬ ((x0.toNat : Int) ≤ 223) := by omega
  have j3 : (x0.toNat : Int) ≥ 224 := by omega
  have j4 : ¬ ((x0.toNat : Int) ≤ 239) := by omega
  have j5 : (x0.toNat : Int) ≥ 240 := by omega
  have j6 : (x0.toNat : Int) ≤ 244 := by omega
  have j7 : (s.size : Int) > 3 := by omega
  have j8 : (3 : Int) < s.size := by omega
  have j9 : (2 : Int) < s.size := by omega
  have j10 : (1 : Int) < s.size := by omega
  unfold RS
  rw [hsg]
  have HS := Lib.hid hsg
  clear hsg
  clear hb
  go_enter Tryz.func33, Tryz.ntmps33
  go_wp2_with (go_at_call 63; refine (tail_ _ _).mono ?_; rintro e w' ⟨rfl, rfl⟩)
  go_returns
  exact ⟨rfl, Ux.Touch.refl _ _⟩
set_option maxHeartbeats 2000000 in
set_option maxRecDepth 100000 in
theorem rs_d2 (s : ByteArray) (w : World) (hs : 0 < s.size) (x0 : UInt8) (e0 : s[0]'hs = x0) (m3 : 3 < s.size) (x1 x2 x3 : UInt8) (e1 : s[1] = x1) (e2 : s[2] = x2) (e3 : s[3]'m3 = x3) (h1 : isT x1 = true) (h2 : isT x2 = false) (hb : 240 ≤ x0.toNat ∧ x0.toNat ≤ 244) :
    RS s w := by
  have n0 := x0.toNat_lt
  have m1 : 1 < s.size := by omega
  have m2 : 2 < s.size := by omega
  have hsg : sg s.data.toList = (1114112 + x0.toNat, 1) := by
    unfold sg sgN
    rw [bt_at s 0 hs]
    rw [bt_at s 1 m1, bt_at s 2 m2, bt_at s 3 m3, e0, e1, e2, e3]
    rw [if_neg (by omega), if_neg (fun h => by omega), if_neg (fun h => by omega), if_neg (fun h => ntl_of h2 h.2.2.2.1)]
  have j0 : ¬ ((x0.toNat : Int) < 128) := by omega
  have j1 : (x0.toNat : Int) ≥ 194 := by omega
  have j2 : ¬ ((x0.toNat : Int) ≤ 223) := by omega
  have j3 : (x0.toNat : Int) ≥ 224 := by omega
  have j4 : ¬ ((x0.toNat : Int) ≤ 239) := by omega
  have j5 : (x0.toNat : Int) ≥ 240 := by omega
  have j6 : (x0.toNat : Int) ≤ 244 := by omega
  have j7 : (s.size : Int) > 3 := by omega
  have j8 : (3 : Int) < s.size := by omega
  have j9 : (2 : Int) < s.size := by omega
  have j10 : (1 : Int) < s.size := by omega
  unfold RS
  rw [hsg]
  have HS := Lib.hid hsg
  clear hsg
  clear hb
  go_enter Tryz.func33, Tryz.ntmps33
  go_wp2_with (go_at_call 63; refine (tail_ _ _).mono ?_; rintro e w' ⟨rfl, rfl⟩)
  go_returns
  exact ⟨rfl, Ux.Touch.refl _ _⟩
set_option maxHeartbeats 2000000 in
set_option maxRecDepth 100000 in
theorem rs_d3 (s : ByteArray) (w : World) (hs : 0 < s.size) (x0 : UInt8) (e0 : s[0]'hs = x0) (m3 : 3 < s.size) (x1 x2 x3 : UInt8) (e1 : s[1] = x1) (e2 : s[2] = x2) (e3 : s[3]'m3 = x3) (h1 : isT x1 = true) (h2 : isT x2 = true) (h3 : isT x3 = false) (hb : 240 ≤ x0.toNat ∧ x0.toNat ≤ 244) :
    RS s w := by
  have n0 := x0.toNat_lt
  have m1 : 1 < s.size := by omega
  have m2 : 2 < s.size := by omega
  have hsg : sg s.data.toList = (1114112 + x0.toNat, 1) := by
    unfold sg sgN
    rw [bt_at s 0 hs]
    rw [bt_at s 1 m1, bt_at s 2 m2, bt_at s 3 m3, e0, e1, e2, e3]
    rw [if_neg (by omega), if_neg (fun h => by omega), if_neg (fun h => by omega), if_neg (fun h => ntl_of h3 h.2.2.2.2.1)]
  have j0 : ¬ ((x0.toNat : Int) < 128) := by omega
  have j1 : (x0.toNat : Int) ≥ 194 := by omega
  have j2 : ¬ ((x0.toNat : Int) ≤ 223) := by omega
  have j3 : (x0.toNat : Int) ≥ 224 := by omega
  have j4 : ¬ ((x0.toNat : Int) ≤ 239) := by omega
  have j5 : (x0.toNat : Int) ≥ 240 := by omega
  have j6 : (x0.toNat : Int) ≤ 244 := by omega
  have j7 : (s.size : Int) > 3 := by omega
  have j8 : (3 : Int) < s.size := by omega
  have j9 : (2 : Int) < s.size := by omega
  have j10 : (1 : Int) < s.size := by omega
  unfold RS
  rw [hsg]
  have HS := Lib.hid hsg
  clear hsg
  clear hb
  go_enter Tryz.func33, Tryz.ntmps33
  go_wp2_with (go_at_call 63; refine (tail_ _ _).mono ?_; rintro e w' ⟨rfl, rfl⟩)
  go_returns
  exact ⟨rfl, Ux.Touch.refl _ _⟩
set_option maxHeartbeats 2000000 in
set_option maxRecDepth 100000 in
theorem rs_d4 (s : ByteArray) (w : World) (hs : 0 < s.size) (x0 : UInt8) (e0 : s[0]'hs = x0) (m3 : 3 < s.size) (x1 x2 x3 : UInt8) (e1 : s[1] = x1) (e2 : s[2] = x2) (e3 : s[3]'m3 = x3) (h1 : isT x1 = true) (h2 : isT x2 = true) (h3 : isT x3 = true) (hb : 240 ≤ x0.toNat ∧ x0.toNat ≤ 244) (hv : v4 x0.toNat x1.toNat x2.toNat x3.toNat < 65536) :
    RS s w := by
  have n0 := x0.toNat_lt
  have m1 : 1 < s.size := by omega
  have m2 : 2 < s.size := by omega
  have n1 := x1.toNat_lt
  have n2 := x2.toNat_lt
  have n3 := x3.toNat_lt
  have t1 := tl_of h1
  have t2 := tl_of h2
  have t3 := tl_of h3
  unfold tl at t1 t2 t3
  have hsg : sg s.data.toList = (1114112 + x0.toNat, 1) := by
    unfold sg sgN
    rw [bt_at s 0 hs]
    rw [bt_at s 1 m1, bt_at s 2 m2, bt_at s 3 m3, e0, e1, e2, e3]
    rw [if_neg (by omega), if_neg (fun h => by omega), if_neg (fun h => by omega), if_neg (fun h => by have := h.2.2.2.2.2.1; omega)]
  have j0 : ¬ ((x0.toNat : Int) < 128) := by omega
  have j1 : (x0.toNat : Int) ≥ 194 := by omega
  have j2 : ¬ ((x0.toNat : Int) ≤ 223) := by omega
  have j3 : (x0.toNat : Int) ≥ 224 := by omega
  have j4 : ¬ ((x0.toNat : Int) ≤ 239) := by omega
  have j5 : (x0.toNat : Int) ≥ 240 := by omega
  have j6 : (x0.toNat : Int) ≤ 244 := by omega
  have j7 : (s.size : Int) > 3 := by omega
  have j8 : (3 : Int) < s.size := by omega
  have j9 : (2 : Int) < s.size := by omega
  have j10 : (1 : Int) < s.size := by omega
  unfold RS
  rw [hsg]
  have HS := Lib.hid hsg
  clear hsg
  have HV := Lib.hid hv
  clear hv
  clear hb
  go_enter Tryz.func33, Tryz.ntmps33
  go_upto_region 15 with (go_at_call 63; refine (tail_ _ _).mono ?_; rintro e w' ⟨rfl, rfl⟩)
  refine Ux.wp_region_plan (fun _ _ => True) (.q [0, 1, 2, 3, 4, 5, 6, 7, 8, 9, 10, 11, 12, 13, 14, 15, 16, 17, 18, 19] (.line [20]))
    (by kernel_rfl) (by kernel_rfl) (by intro _ _ d _ _ h; cases d <;> exact h) ?hS ?_
  case hS => (intro c; cases c <;> (simp only [World.cell?_drew]; first | exact True.intro | (refine ⟨?_, ?_⟩ <;> assumption) | assumption | (repeat (first | assumption | (refine And.intro ?_ ?_)))))
  simp only [Ux.wpPlan, Ux.pickOps, Ux.keeps, List.getElem?_toArray, List.getElem?_cons_succ, List.getElem?_cons_zero]
  repeat (first
    | go_big_quiet_step (fail)
    | (with_reducible refine wpQuiet_nil ?_)
    | (refine Ux.quiet_held rfl ?_; apply Exists.intro; refine ⟨fun w' hS => ?_, ?_⟩; (focus ((try dsimp only at hS); go_simp; first | done | with_reducible rfl)); simp only [Act.put, List.setIfInBounds_toArray, List.set_cons_zero, List.set_cons_succ]))
  obtain ⟨V, hV⟩ : ∃ V : Int, ((x0.toNat : Int) - 240) * 262144 + ((x1.toNat : Int) - 128) * 4096 + ((x2.toNat : Int) - 128) * 64 + (x3.toNat : Int) - 128 = V := ⟨_, rfl⟩
  rw [hV]
  have hv := HV.out
  have q0 : ¬ (V ≥ 65536) := by unfold v4 at hv; omega
  have HVV := Lib.hid hV
  clear hV hv
  go_wp2
  go_returns
  exact ⟨rfl, (Ux.Touch.refl _ _).drew⟩
set_option maxHeartbeats 2000000 in
set_option maxRecDepth 100000 in
theorem rs_d5 (s : ByteArray) (w : World) (hs : 0 < s.size) (x0 : UInt8) (e0 : s[0]'hs = x0) (m3 : 3 < s.size) (x1 x2 x3 : UInt8) (e1 : s[1] = x1) (e2 : s[2] = x2) (e3 : s[3]'m3 = x3) (h1 : isT x1 = true) (h2 : isT x2 = true) (h3 : isT x3 = true) (hb : 240 ≤ x0.toNat ∧ x0.toNat ≤ 244) (hv : 65536 ≤ v4 x0.toNat x1.toNat x2.toNat x3.toNat ∧ 1114111 < v4 x0.toNat x1.toNat x2.toNat x3.toNat) :
    RS s w := by
  have n0 := x0.toNat_lt
  have m1 : 1 < s.size := by omega
  have m2 : 2 < s.size := by omega
  have n1 := x1.toNat_lt
  have n2 := x2.toNat_lt
  have n3 := x3.toNat_lt
  have t1 := tl_of h1
  have t2 := tl_of h2
  have t3 := tl_of h3
  unfold tl at t1 t2 t3
  have hsg : sg s.data.toList = (1114112 + x0.toNat, 1) := by
    unfold sg sgN
    rw [bt_at s 0 hs]
    rw [bt_at s 1 m1, bt_at s 2 m2, bt_at s 3 m3, e0, e1, e2, e3]
    rw [if_neg (by omega), if_neg (fun h => by omega), if_neg (fun h => by omega), if_neg (fun h => by have := h.2.2.2.2.2.2; omega)]
  have j0 : ¬ ((x0.toNat : Int) < 128) := by omega
  have j1 : (x0.toNat : Int) ≥ 194 := by omega
  have j2 : ¬ ((x0.toNat : Int) ≤ 223) := by omega
  have j3 : (x0.toNat : Int) ≥ 224 := by omega
  have j4 : ¬ ((x0.toNat : Int) ≤ 239) := by omega
  have j5 : (x0.toNat : Int) ≥ 240 := by omega
  have j6 : (x0.toNat : Int) ≤ 244 := by omega
  have j7 : (s.size : Int) > 3 := by omega
  have j8 : (3 : Int) < s.size := by omega
  have j9 : (2 : Int) < s.size := by omega
  have j10 : (1 : Int) < s.size := by omega
  unfold RS
  rw [hsg]
  have HS := Lib.hid hsg
  clear hsg
  have HV := Lib.hid hv
  clear hv
  clear hb
  go_enter Tryz.func33, Tryz.ntmps33
  go_upto_region 15 with (go_at_call 63; refine (tail_ _ _).mono ?_; rintro e w' ⟨rfl, rfl⟩)
  refine Ux.wp_region_plan (fun _ _ => True) (.q [0, 1, 2, 3, 4, 5, 6, 7, 8, 9, 10, 11, 12, 13, 14, 15, 16, 17, 18, 19] (.line [20]))
    (by kernel_rfl) (by kernel_rfl) (by intro _ _ d _ _ h; cases d <;> exact h) ?hS ?_
  case hS => (intro c; cases c <;> (simp only [World.cell?_drew]; first | exact True.intro | (refine ⟨?_, ?_⟩ <;> assumption) | assumption | (repeat (first | assumption | (refine And.intro ?_ ?_)))))
  simp only [Ux.wpPlan, Ux.pickOps, Ux.keeps, List.getElem?_toArray, List.getElem?_cons_succ, List.getElem?_cons_zero]
  repeat (first
    | go_big_quiet_step (fail)
    | (with_reducible refine wpQuiet_nil ?_)
    | (refine Ux.quiet_held rfl ?_; apply Exists.intro; refine ⟨fun w' hS => ?_, ?_⟩; (focus ((try dsimp only at hS); go_simp; first | done | with_reducible rfl)); simp only [Act.put, List.setIfInBounds_toArray, List.set_cons_zero, List.set_cons_succ]))
  obtain ⟨V, hV⟩ : ∃ V : Int, ((x0.toNat : Int) - 240) * 262144 + ((x1.toNat : Int) - 128) * 4096 + ((x2.toNat : Int) - 128) * 64 + (x3.toNat : Int) - 128 = V := ⟨_, rfl⟩
  rw [hV]
  have hv := HV.out
  have q0 : V ≥ 65536 := by unfold v4 at hv; omega
  have q1 : ¬ (V ≤ 1114111) := by unfold v4 at hv; omega
  have HVV := Lib.hid hV
  clear hV hv
  go_wp2
  go_returns
  exact ⟨rfl, (Ux.Touch.refl _ _).drew⟩
set_option maxHeartbeats 2000000 in
set_option maxRecDepth 100000 in
theorem rs_d6 (s : ByteArray) (w : World) (hs : 0 < s.size) (x0 : UInt8) (e0 : s[0]'hs = x0) (m3 : 3 < s.size) (x1 x2 x3 : UInt8) (e1 : s[1] = x1) (e2 : s[2] = x2) (e3 : s[3]'m3 = x3) (h1 : isT x1 = true) (h2 : isT x2 = true) (h3 : isT x3 = true) (hb : 240 ≤ x0.toNat ∧ x0.toNat ≤ 244) (hv : 65536 ≤ v4 x0.toNat x1.toNat x2.toNat x3.toNat ∧ v4 x0.toNat x1.toNat x2.toNat x3.toNat ≤ 1114111) :
    RS s w := by
  have n0 := x0.toNat_lt
  have m1 : 1 < s.size := by omega
  have m2 : 2 < s.size := by omega
  have n1 := x1.toNat_lt
  have n2 := x2.toNat_lt
  have n3 := x3.toNat_lt
  have t1 := tl_of h1
  have t2 := tl_of h2
  have t3 := tl_of h3
  unfold tl at t1 t2 t3
  have hsg : sg s.data.toList = (v4 x0.toNat x1.toNat x2.toNat x3.toNat, 4) := by
    unfold sg sgN
    rw [bt_at s 0 hs]
    rw [bt_at s 1 m1, bt_at s 2 m2, bt_at s 3 m3, e0, e1, e2, e3]
    rw [if_neg (by omega), if_neg (fun h => by omega), if_neg (fun h => by omega), if_pos ⟨hb.1, hb.2, tl_of h1, tl_of h2, tl_of h3, hv.1, hv.2⟩]
  have j0 : ¬ ((x0.toNat : Int) < 128) := by omega
  have j1 : (x0.toNat : Int) ≥ 194 := by omega
  have j2 : ¬ ((x0.toNat : Int) ≤ 223) := by omega
  have j3 : (x0.toNat : Int) ≥ 224 := by omega
  have j4 : ¬ ((x0.toNat : Int) ≤ 239) := by omega
  have j5 : (x0.toNat : Int) ≥ 240 := by omega
  have j6 : (x0.toNat : Int) ≤ 244 := by omega
  have j7 : (s.size : Int) > 3 := by omega
  have j8 : (3 : Int) < s.size := by omega
  have j9 : (2 : Int) < s.size := by omega
  have j10 : (1 : Int) < s.size := by omega
  unfold RS
  rw [hsg]
  have HS := Lib.hid hsg
  clear hsg
  have HV := Lib.hid hv
  clear hv
  clear hb
  go_enter Tryz.func33, Tryz.ntmps33
  go_upto_region 15 with (go_at_call 63; refine (tail_ _ _).mono ?_; rintro e w' ⟨rfl, rfl⟩)
  refine Ux.wp_region_plan (fun _ _ => True) (.q [0, 1, 2, 3, 4, 5, 6, 7, 8, 9, 10, 11, 12, 13, 14, 15, 16, 17, 18, 19] (.line [20]))
    (by kernel_rfl) (by kernel_rfl) (by intro _ _ d _ _ h; cases d <;> exact h) ?hS ?_
  case hS => (intro c; cases c <;> (simp only [World.cell?_drew]; first | exact True.intro | (refine ⟨?_, ?_⟩ <;> assumption) | assumption | (repeat (first | assumption | (refine And.intro ?_ ?_)))))
  simp only [Ux.wpPlan, Ux.pickOps, Ux.keeps, List.getElem?_toArray, List.getElem?_cons_succ, List.getElem?_cons_zero]
  repeat (first
    | go_big_quiet_step (fail)
    | (with_reducible refine wpQuiet_nil ?_)
    | (refine Ux.quiet_held rfl ?_; apply Exists.intro; refine ⟨fun w' hS => ?_, ?_⟩; (focus ((try dsimp only at hS); go_simp; first | done | with_reducible rfl)); simp only [Act.put, List.setIfInBounds_toArray, List.set_cons_zero, List.set_cons_succ]))
  obtain ⟨V, hV⟩ : ∃ V : Int, ((x0.toNat : Int) - 240) * 262144 + ((x1.toNat : Int) - 128) * 4096 + ((x2.toNat : Int) - 128) * 64 + (x3.toNat : Int) - 128 = V := ⟨_, rfl⟩
  rw [hV]
  have hv := HV.out
  have q0 : V ≥ 65536 := by unfold v4 at hv; omega
  have q1 : V ≤ 1114111 := by unfold v4 at hv; omega
  have HVV := Lib.hid hV
  clear hV hv
  go_wp2
  go_returns
  refine ⟨?_, (Ux.Touch.refl _ _).drew⟩
  have hV := HVV.out
  have hc : V = ((v4 x0.toNat x1.toNat x2.toNat x3.toNat : Nat) : Int) := by have := HV.out; unfold v4 at *; omega
  rw [hc]; rfl
theorem rsign_ (s : ByteArray) (w : World) (hs : 0 < s.size) : RS s w := by
  obtain ⟨x0, e0⟩ : ∃ x0, s[0]'hs = x0 := ⟨_, rfl⟩
  by_cases a : x0.toNat < 128
  · exact rs_a s w hs x0 e0 a
  by_cases b : x0.toNat < 194
  · exact rs_e1 s w hs x0 e0 ⟨by omega, b⟩
  by_cases c : x0.toNat ≤ 223
  · by_cases m1 : 1 < s.size
    · cases h1 : isT (s[1]'m1) with
      | false => exact rs_b1 s w hs x0 e0 m1 _ rfl h1 ⟨by omega, c⟩
      | true => exact rs_b2 s w hs x0 e0 m1 _ rfl h1 ⟨by omega, c⟩
    · exact rs_b0 s w hs x0 e0 ⟨by omega, c, by omega⟩
  by_cases d : x0.toNat ≤ 239
  · by_cases m2 : 2 < s.size
    · cases h1 : isT (s[1]'(by omega)) with
      | false => exact rs_c1 s w hs x0 e0 m2 _ _ rfl rfl h1 ⟨by omega, d⟩
      | true =>
        cases h2 : isT (s[2]'m2) with
        | false => exact rs_c2 s w hs x0 e0 m2 _ _ rfl rfl h1 h2 ⟨by omega, d⟩
        | true =>
          by_cases v : v3 x0.toNat (s[1]'(by omega)).toNat (s[2]'m2).toNat < 2048
          · exact rs_c3 s w hs x0 e0 m2 _ _ rfl rfl h1 h2 ⟨by omega, d⟩ v
          by_cases v2 : v3 x0.toNat (s[1]'(by omega)).toNat (s[2]'m2).toNat < 55296
          · exact rs_c5 s w hs x0 e0 m2 _ _ rfl rfl h1 h2 ⟨by omega, d⟩ ⟨by omega, v2⟩
          by_cases v3' : v3 x0.toNat (s[1]'(by omega)).toNat (s[2]'m2).toNat < 57344
          · exact rs_c4 s w hs x0 e0 m2 _ _ rfl rfl h1 h2 ⟨by omega, d⟩ ⟨by omega, by omega, v3'⟩
          · exact rs_c6 s w hs x0 e0 m2 _ _ rfl rfl h1 h2 ⟨by omega, d⟩ (by omega)
    · exact rs_c0 s w hs x0 e0 ⟨by omega, d, by omega⟩
  by_cases f : x0.toNat ≤ 244
  · by_cases m3 : 3 < s.size
    · cases h1 : isT (s[1]'(by omega)) with
      | false => exact rs_d1 s w hs x0 e0 m3 _ _ _ rfl rfl rfl h1 ⟨by omega, f⟩
      | true =>
        cases h2 : isT (s[2]'(by omega)) with
        | false => exact rs_d2 s w hs x0 e0 m3 _ _ _ rfl rfl rfl h1 h2 ⟨by omega, f⟩
        | true =>
          cases h3 : isT (s[3]'m3) with
          | false => exact rs_d3 s w hs x0 e0 m3 _ _ _ rfl rfl rfl h1 h2 h3 ⟨by omega, f⟩
          | true =>
            by_cases v : v4 x0.toNat (s[1]'(by omega)).toNat (s[2]'(by omega)).toNat (s[3]'m3).toNat < 65536
            · exact rs_d4 s w hs x0 e0 m3 _ _ _ rfl rfl rfl h1 h2 h3 ⟨by omega, f⟩ v
            by_cases v2 : v4 x0.toNat (s[1]'(by omega)).toNat (s[2]'(by omega)).toNat (s[3]'m3).toNat ≤ 1114111
            · exact rs_d6 s w hs x0 e0 m3 _ _ _ rfl rfl rfl h1 h2 h3 ⟨by omega, f⟩ ⟨by omega, v2⟩
            · exact rs_d5 s w hs x0 e0 m3 _ _ _ rfl rfl rfl h1 h2 h3 ⟨by omega, f⟩ ⟨by omega, by omega⟩
    · exact rs_d0 s w hs x0 e0 ⟨by omega, f, by omega⟩
  · exact rs_e2 s w hs x0 e0 (by omega)

end Go.Proofs.YtglamoompicciaaGreatDoor
