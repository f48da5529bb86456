/- PART OF THE PROOF THAT THIS CLAIM HOLDS OF THE GIVEN PROGRAM, FOR EVERY INPUT THAT THE STATEMENT NAMES. No condition besides the statement's own. -/
import Derived.Test.YtkeodddpnmnheaaGreatDoorMadeAZ
import Derived.Test.YtkeodddpnmnheaaGreatDoorMakeZ
import Derived.Test.YtkeodddpnmnheaaGreatDoorRows
import Derived.WalkKit
import Derived.Handy
import Derived.Laws.EntriesVeiled
import Derived.WalkSpells
import Derived.WalkLawsBesides
import Derived.BigQuiet
import Derived.Deep.QuietTactic
import Derived.Deep.Cut
import Derived.Deep.DeepCutAuto
import Derived.Lib.Overlaps
import Derived.Laws.Externs
import Derived.Lib.Hide
import Derived.Test.YtkeodddpnmnheaaGreatDoorUxPlanAllZ
import Derived.Test.YtkeodddpnmnheaaGreatDoorUxMemAZ
import Derived.Test.YtkeodddpnmnheaaGreatDoorUxCollAZ
import Derived.Deep.LoopGhost
namespace Go.Proofs.YtkeodddpnmnheaaGreatDoor
open Go.RowKit
open Go.RowKit
open Ux (Row iv sv Ent)
open Ux.Sign (cp raw signs)

/-- are all signs code points? -/
def vld (p : ByteArray) : Bool := (signs p.data.toList).all fun c => decide (c < 1114112)
/-- what Begin tells -/
def begB (kd : Int) (p : ByteArray) : Bool := decide (kd = 1) || (decide (kd = 2) && vld p)
def begS (kd : Int) (p : ByteArray) : ByteArray := if kd = 1 then p else if begB kd p = true then ftB p else ⟨#[]⟩
set_option maxHeartbeats 8000000 in
set_option maxRecDepth 100000 in
theorem begin_ (kd : Int) (LN : Nat) (sh bk : Bool) (tb : Option Addr) (hk : kd = 1 ∨ kd = 2 ∨ kd = 3) (hok : okC kd LN tb = true) (p : ByteArray) (w : World) (hT : Tabs w) (hp : p.size ≤ 1000000) :
    Calls Tryz.prog 32 #[cV kd (LN : Nat) sh bk tb, .string p] w fun e w' => e = .returned (.tuple #[.string (begS kd p), .bool (begB kd p)]) ∧ Ux.Touch (fun _ => False) w w' := by
  have HO := Lib.hid fun W => cok_ kd (LN : Nat) sh bk tb W
  rw [hok] at HO
  have HV := Lib.hid fun W (T : Ux.Touch (fun _ => False) w W) => valid_ p W (by omega) (hT.touch T)
  have HF := Lib.hid fun W (T : Ux.Touch (fun _ => False) w W) => ft_ p W (by omega) (hT.touch T)
  have e1 : ((signs p.data.toList).all fun c => decide (c < 1114112)) = vld p := rfl
  have e2 : (⟨(Ux.Sign.foldText p.data.toList).toArray⟩ : ByteArray) = ftB p := rfl
  rw [e1] at HV
  rw [e2] at HF
  have T0 : Ux.Touch (fun _ => False) w (w.alloc (.cells #[.int .i64 kd, .int .i64 (LN : Nat), .bool sh, .bool bk, .pointer tb] 26)) := (Ux.Touch.refl _ _).alloc _
  have hb : (w.alloc (.cells #[.int .i64 kd, .int .i64 (LN : Nat), .bool sh, .bool bk, .pointer tb] 26)).heap[w.heap.size]? = some (.cells #[.int .i64 kd, .int .i64 (LN : Nat), .bool sh, .bool bk, .pointer tb] 26 (0, 0)) := heap_alloc_new w _
  obtain ⟨W, hW⟩ : ∃ W, w.alloc (.cells #[.int .i64 kd, .int .i64 (LN : Nat), .bool sh, .bool bk, .pointer tb] 26) = W := ⟨_, rfl⟩
  obtain ⟨q, hq⟩ : ∃ q, w.heap.size = q := ⟨_, rfl⟩
  rw [hW] at T0 hb
  rw [hq] at hb
  have HC := Lib.hid fun W' (T : Ux.Touch (fun _ => False) W W') => (CAt.of hb).touch T
  have H0 := Lib.hid T0
  have HW := Lib.hid (And.intro hW hq)
  clear hok hT hp e1 e2 T0 hb hW hq
  unfold cV at HO ⊢
  obtain ⟨x0, x1, x2, x3, x4⟩ := HC.out W (Ux.Touch.refl _ _)
  unfold begS
  obtain ⟨V, hV⟩ : ∃ V, vld p = V := ⟨_, rfl⟩
  have hbb : begB kd p = (decide (kd = 1) || (decide (kd = 2) && V)) := by unfold begB; rw [hV]
  rw [hV] at HV
  rw [hbb]
  clear hbb hV
  go_enter Tryz.func32, Tryz.ntmps32
  go_upto_region 1 with (fail)
  rw [HW.out.1, HW.out.2]
  go_wp2_with (go_at_call 20; fail)
  refine (HO.out W).mono ?_
  rintro e w2 ⟨rfl, T2⟩
  have H2 := Lib.hid (And.intro (H0.out.trans T2 fun _ _ f => f) T2)
  clear T2 x0 x1 x2 x3 x4
  obtain ⟨x0, x1, x2, x3, x4⟩ := HC.out w2 H2.out.2
  rcases hk with rfl | rfl | rfl
  · go_wp2
    go_returns
    exact ⟨rfl, H2.out.1⟩
  · go_wp2_with (go_at_call 60; fail)
    refine (HV.out w2 H2.out.1).mono ?_
    rintro e w3 ⟨rfl, T3⟩
    have H3 := Lib.hid (H2.out.1.trans T3 fun _ _ f => f)
    clear T3 x0 x1 x2 x3 x4
    cases V with
    | true =>
      go_wp2_with (go_at_call 58; fail)
      refine (HF.out w3 H3.out).mono ?_
      rintro e w4 ⟨rfl, T4⟩
      have H4 := Lib.hid (H3.out.trans T4 fun _ _ f => f)
      clear T4
      go_wp2
      go_returns
      exact ⟨rfl, H4.out⟩
    | false =>
      go_wp2
      go_returns
      exact ⟨rfl, H3.out⟩
  · go_wp2
    go_returns
    exact ⟨rfl, H2.out.1⟩
set_option maxHeartbeats 4000000 in
theorem valid9_ (p : ByteArray) (w : World) (hp : p.size ≤ 1000000) : Calls Tryz.prog 33 #[.string p] w fun e w' => e = .returned (.bool (vld p)) ∧ Ux.Touch (fun _ => False) w w' := by
  have HS := Lib.hid (rsigns_ p w (by omega))
  obtain ⟨l, hl⟩ : ∃ l, signs p.data.toList = l := ⟨_, rfl⟩
  have hv : vld p = l.all fun c => decide (c < 1114112) := by unfold vld; rw [hl]
  have hln : l.length ≤ 1000000 := by have := signs_len p.data.toList; have e : p.data.toList.length = p.size := rfl; rw [← hl]; omega
  rw [hl] at HS
  rw [hv]
  obtain ⟨n, hn⟩ : ∃ n, l.length = n := ⟨_, rfl⟩
  have HL := Lib.hid (And.intro hn hln)
  have nb : (n : Int) ≤ 1000000 := by omega
  clear hv hl hp hn hln
  go_enter Tryz.func33, Tryz.ntmps33
  go_wp2_with (go_at_call 36; fail)
  refine HS.out.mono ?_
  rintro e w2 ⟨v, rfl, hR, T2⟩
  obtain ⟨a, c, rfl, _⟩ := hR.is
  rw [Ux.iv_length, Ux.sv_length, HL.out.1] at hR ⊢
  have H2 := Lib.hid (And.intro hR T2)
  clear hR T2
  go_wp2_with (fail)
  go_loopg [4] n (fun gk s4 wr => ∃ i : Nat, s4 = .int .i64 i ∧ i + gk = n ∧ w2 = wr ∧ Hid (∀ (j x : Nat), j < i → l[j]? = some x → x < 1114112))
  case atStart => exact ⟨0, rfl, by omega, rfl, Lib.hid fun j x h => by omega⟩
  case round =>
    obtain ⟨i, rfl, hig, rfl, HI⟩ := hrel
    have p0 : (0 : Int) ≤ i := by omega
    by_cases hlt : i < n
    · obtain ⟨g', rfl⟩ : ∃ g', gk = g' + 1 := ⟨gk - 1, by omega⟩
      have p1 : (i : Int) < n := by omega
      obtain ⟨x, hx⟩ : ∃ x, l[i]? = some x := ⟨_, List.getElem?_eq_getElem (by have := HL.out.1; omega)⟩
      obtain ⟨g, rfl, _, hc⟩ := H2.out.1.at (Ux.iv_get (Ux.sv_get hx))
      have HX := Lib.hid hx
      by_cases hb : x < 1114112
      · have k1 : ¬ ((x : Int) > 1114111) := by omega
        clear hx hlt
        go_wp2
        go_roundg g'
        case measure => omega
        case rel =>
          refine ⟨i + 1, rfl, by omega, rfl, Lib.hid fun j y hj hy => ?_⟩
          by_cases e : j = i
          · subst e
            rw [HX.out] at hy
            cases hy
            exact hb
          · exact HI.out j y (by omega) hy
      · have k1 : ((x : Int) > 1114111) := by omega
        have hall : (l.all fun c => decide (c < 1114112)) = false := List.all_eq_false.2 ⟨x, List.mem_of_getElem? hx, by simpa using hb⟩
        have HALL := Lib.hid hall
        clear hx hlt hb hall
        go_wp2
        go_returns
        exact ⟨by rw [HALL.out]; rfl, H2.out.2⟩
    · obtain rfl : i = n := by omega
      have p1 : ¬ (i : Int) < i := by omega
      have hall : (l.all fun c => decide (c < 1114112)) = true := List.all_eq_true.2 fun x hx => by
        obtain ⟨j, hj⟩ := List.getElem?_of_mem hx
        have := (List.getElem?_eq_some_iff.1 hj).1
        have h2 := HL.out.1
        simpa using HI.out j x (by omega) hj
      have HALL := Lib.hid hall
      clear hlt hall
      go_wp2
      go_returns
      exact ⟨by rw [HALL.out]; rfl, H2.out.2⟩

end Go.Proofs.YtkeodddpnmnheaaGreatDoor
