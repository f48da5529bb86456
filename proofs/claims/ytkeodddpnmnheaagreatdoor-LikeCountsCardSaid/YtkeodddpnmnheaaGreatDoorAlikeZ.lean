/- PART OF THE PROOF THAT THIS CLAIM HOLDS OF THE GIVEN PROGRAM, FOR EVERY INPUT THAT THE STATEMENT NAMES. No condition besides the statement's own. -/
import Derived.Test.YtkeodddpnmnheaaGreatDoorUxLikAZ
import Derived.Test.YtkeodddpnmnheaaGreatDoorSignAZ
import Derived.Test.YtkeodddpnmnheaaGreatDoorRows
import Derived.WalkKit
import Derived.Handy
import Derived.Laws.EntriesVeiled
import Derived.WalkSpells
import Derived.WalkLawsBesides
import Derived.BigQuiet
import Derived.Deep.QuietTactic
import Derived.Deep.Cut
import Derived.Deep.DeepCutAuto
import Derived.Lib.Overlaps
import Derived.Laws.Externs
import Derived.Lib.Hide
import Derived.Test.YtkeodddpnmnheaaGreatDoorUxPlanAllZ
import Derived.Test.YtkeodddpnmnheaaGreatDoorUxMemAZ
import Derived.Test.YtkeodddpnmnheaaGreatDoorUxCollAZ
import Derived.Deep.LoopGhost
namespace Go.Proofs.YtkeodddpnmnheaaGreatDoor
open Go.RowKit
open Go.RowKit
open Ux (Row iv sv bv)
open Ux.Sign (foldI)

/-- a collation of bytes or of small signs, as a value -/
def collV (k : Int) : Value := .agg #[.int .i64 k, .int .i64 0, .bool false, .bool false, .pointer none]
/-- what is alike by it -/
def eqvK (k : Int) (a b : Int) : Bool := if k = 2 then foldI a == foldI b else a == b

set_option maxHeartbeats 1000000 in
theorem collOk_ (k : Int) (hk : k = 1 ∨ k = 2) (w : World) : Calls Tryz.prog 20 #[collV k] w fun e w' => e = .returned (.bool true) ∧ Ux.Touch (fun _ => False) w w' := by
  unfold collV
  rcases hk with rfl | rfl
  · go_enter Tryz.func20, Tryz.ntmps20
    go_wp2
    go_ret
    exact ⟨rfl, (Ux.Touch.refl _ w).alloc _⟩
  · go_enter Tryz.func20, Tryz.ntmps20
    go_wp2
    go_ret
    exact ⟨rfl, (Ux.Touch.refl _ w).alloc _⟩

set_option maxHeartbeats 4000000 in
set_option maxRecDepth 100000 in
theorem alike_ (k : Int) (hk : k = 1 ∨ k = 2) (a b : Int) (ha : -9000000000 < a ∧ a < 9000000000) (hb : -9000000000 < b ∧ b < 9000000000) (w : World) :
    Calls Tryz.prog 66 #[collV k, .int .i64 a, .int .i64 b] w fun e w' => e = .returned (.bool (eqvK k a b)) ∧ Ux.Touch (fun _ => False) w w' := by
  have CO := Lib.hid (collOk_ k hk)
  have CA := Lib.hid fun w' => fold_ a w' ha.1 ha.2
  have CB := Lib.hid fun w' => fold_ b w' hb.1 hb.2
  clear ha hb
  unfold collV at CO ⊢
  have T0 := (Ux.Touch.refl (fun _ => False) w).alloc (.cells #[.int .i64 k, .int .i64 0, .bool false, .bool false, .pointer none] 26)
  obtain ⟨w1, hw1⟩ : ∃ w1, w.alloc (.cells #[.int .i64 k, .int .i64 0, .bool false, .bool false, .pointer none] 26) = w1 := ⟨_, rfl⟩
  rw [hw1] at T0
  obtain ⟨B, hB⟩ : ∃ B, w.heap.size = B := ⟨_, rfl⟩
  have h1 : w1.heap[B]? = some (.cells #[.int .i64 k, .int .i64 0, .bool false, .bool false, .pointer none] 26 (0, 0)) := by rw [← hw1, ← hB]; exact heap_alloc_new w _
  have c0 : w1.cell? ⟨B, 0, none⟩ = some (.int .i64 k) := by rw [cell_of_row w1 B 0 _ _ (0, 0) h1]; rfl
  have c1 : w1.cell? ⟨B, 1, none⟩ = some (.int .i64 0) := by rw [cell_of_row w1 B 1 _ _ (0, 0) h1]; rfl
  have c2 : w1.cell? ⟨B, 2, none⟩ = some (.bool false) := by rw [cell_of_row w1 B 2 _ _ (0, 0) h1]; rfl
  have c3 : w1.cell? ⟨B, 3, none⟩ = some (.bool false) := by rw [cell_of_row w1 B 3 _ _ (0, 0) h1]; rfl
  have c4 : w1.cell? ⟨B, 4, none⟩ = some (.pointer none) := by rw [cell_of_row w1 B 4 _ _ (0, 0) h1]; rfl
  have HT := Lib.hid T0
  clear T0 h1
  cases hab : (a == b) with
  | true =>
    have e : eqvK k a b = true := by
      have : a = b := by simpa using hab
      subst this
      unfold eqvK
      split <;> simp
    rw [e]
    clear e hk c0 c1 c2 c3 c4
    go_enter Tryz.func66, Tryz.ntmps66
    go_wp2
    go_ret
    exact ⟨rfl, HT.out⟩
  | false =>
    go_enter Tryz.func66, Tryz.ntmps66
    go_wp2_with (go_at_call 20; fail)
    refine (CO.out _).mono ?_
    rintro e w2 ⟨rfl, T2⟩
    have d0 := T2.cell c0 (fun f => f)
    have HT2 := Lib.hid (HT.out.trans T2 fun _ _ f => f)
    clear T2 c0 c1 c2 c3 c4
    rcases hk with rfl | rfl
    · have e : eqvK 1 a b = false := by unfold eqvK; rw [if_neg (by decide)]; exact hab
      have HE := Lib.hid e
      clear e
      go_wp2
      go_ret
      refine ⟨?_, HT2.out⟩
      rw [HE.out]
      rfl
    · have e : eqvK 2 a b = (foldI a == foldI b) := by unfold eqvK; rw [if_pos rfl]
      have HE := Lib.hid e
      clear e
      go_wp2_with (go_at_call 99; fail)
      refine (CA.out _).mono ?_
      rintro e w3 ⟨rfl, rfl⟩
      go_wp2_with (go_at_call 99; fail)
      refine (CB.out _).mono ?_
      rintro e w3 ⟨rfl, rfl⟩
      go_wp2
      go_ret
      refine ⟨?_, HT2.out⟩
      rw [HE.out]
      rfl

end Go.Proofs.YtkeodddpnmnheaaGreatDoor
