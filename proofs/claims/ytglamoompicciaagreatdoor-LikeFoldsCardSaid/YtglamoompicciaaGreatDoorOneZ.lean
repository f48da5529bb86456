/- PART OF THE PROOF THAT THIS CLAIM HOLDS OF THE GIVEN PROGRAM, FOR EVERY INPUT THAT THE STATEMENT NAMES. No condition besides the statement's own. -/
import Derived.Test.YtglamoompicciaaGreatDoorUxFoldZ
import Derived.Test.YtglamoompicciaaGreatDoorPutZ
import Derived.Test.YtglamoompicciaaGreatDoorFoldZ
import Derived.Test.YtglamoompicciaaGreatDoorRsignsZ
import Derived.Test.YtglamoompicciaaGreatDoorRows
import Derived.WalkKit
import Derived.Handy
import Derived.Laws.EntriesVeiled
import Derived.WalkSpells
import Derived.WalkLawsBesides
import Derived.BigQuiet
import Derived.Deep.QuietTactic
import Derived.Deep.Cut
import Derived.Deep.DeepCutAuto
import Derived.Lib.Overlaps
import Derived.Laws.Externs
import Derived.Lib.Hide
import Derived.Test.YtglamoompicciaaGreatDoorUxPlanAllZ
import Derived.Test.YtglamoompicciaaGreatDoorUxTreeAllZ
import Derived.Deep.LoopGhost
namespace Go.Proofs.YtglamoompicciaaGreatDoor
open Go.RowKit
open Go.RowKit
open Ux (Row iv sv bv)
open Ux.Sign (enc encN put signs foldN foldI foldText)
/-- bytes that were just built, made a text -/
theorem convNew (w : World) (vals : List Value) (l : List UInt8) (h : bv l = vals) (n : Nat) (hn : l.length = n) : (convert 84 9 (.slice (some ⟨w.heap.size, 0, none⟩) n n)).run Tryz.prog (w.alloc (.cells vals.toArray 5)) = .ok (.string ⟨l.toArray⟩) (w.alloc (.cells vals.toArray 5)) := by
  subst h
  subst hn
  exact convB (lo := 0) (.inr ⟨w.heap.size, _, _, by rw [Ux.bv_length], Nat.zero_le _, heap_alloc_last w _, by rw [Ux.bv_length]; exact Nat.le_refl _, by simp [Ux.bv_length], by simp⟩)
theorem enc_a2 (c : Nat) (hc : 1114112 ≤ c) (h2 : c < 1114368) : bv (enc c) = [.int .u8 ((c : Int) - 1114112)] := by
  rw [enc_a c hc h2]
  simp only [List.cons.injEq, Value.int.injEq, true_and, and_true]
  omega
set_option maxHeartbeats 4000000 in
set_option maxRecDepth 100000 in
theorem one_a (c : Nat) (hc : 1114112 ≤ c) (h2 : c < 1114368) (w : World) :
    Calls Tryz.prog 30 #[.int .i64 (c : Int)] w fun e w' => e = .returned (.string ⟨(enc c).toArray⟩) ∧ Ux.Touch (fun _ => False) w w' := by
  have hv := convNew w _ (enc c) (enc_a2 c hc h2) 1 (by have := congrArg List.length (enc_a2 c hc h2); rw [Ux.bv_length] at this; exact this)
  have HV := Lib.hid hv
  have p0 : (0 : Int) ≤ c := by omega
  have j0 : ((c : Int) ≥ 1114112) := by omega
  clear hv
  go_enter Tryz.func30, Tryz.ntmps30
  go_wp2_with (fail)
  rw [HV.out]
  go_wp2
  go_ret
  exact ⟨rfl, (Ux.Touch.refl _ w).alloc _⟩
set_option maxHeartbeats 4000000 in
set_option maxRecDepth 100000 in
theorem one_b (c : Nat) (hc : c < 128) (h2 : c < 1114368) (w : World) :
    Calls Tryz.prog 30 #[.int .i64 (c : Int)] w fun e w' => e = .returned (.string ⟨(enc c).toArray⟩) ∧ Ux.Touch (fun _ => False) w w' := by
  have hv := convNew w _ (enc c) (enc_b c hc h2) 1 (by have := congrArg List.length (enc_b c hc h2); rw [Ux.bv_length] at this; exact this)
  have HV := Lib.hid hv
  have p0 : (0 : Int) ≤ c := by omega
  have j0 : ¬ ((c : Int) ≥ 1114112) := by omega
  have j1 : (c : Int) < 128 := by omega
  clear hv
  go_enter Tryz.func30, Tryz.ntmps30
  go_wp2_with (fail)
  rw [HV.out]
  go_wp2
  go_ret
  exact ⟨rfl, (Ux.Touch.refl _ w).alloc _⟩
set_option maxHeartbeats 4000000 in
set_option maxRecDepth 100000 in
theorem one_c (c : Nat) (hc : 128 ≤ c ∧ c < 2048) (h2 : c < 1114368) (w : World) :
    Calls Tryz.prog 30 #[.int .i64 (c : Int)] w fun e w' => e = .returned (.string ⟨(enc c).toArray⟩) ∧ Ux.Touch (fun _ => False) w w' := by
  have hv := convNew w _ (enc c) (enc_c c hc h2) 2 (by have := congrArg List.length (enc_c c hc h2); rw [Ux.bv_length] at this; exact this)
  have HV := Lib.hid hv
  have p0 : (0 : Int) ≤ c := by omega
  have j0 : ¬ ((c : Int) ≥ 1114112) := by omega
  have j1 : ¬ ((c : Int) < 128) := by omega
  have j2 : (c : Int) < 2048 := by omega
  clear hv
  go_enter Tryz.func30, Tryz.ntmps30
  go_wp2_with (fail)
  rw [HV.out]
  go_wp2
  go_ret
  exact ⟨rfl, (Ux.Touch.refl _ w).alloc _⟩
set_option maxHeartbeats 4000000 in
set_option maxRecDepth 100000 in
theorem one_d (c : Nat) (hc : 2048 ≤ c ∧ c < 65536) (h2 : c < 1114368) (w : World) :
    Calls Tryz.prog 30 #[.int .i64 (c : Int)] w fun e w' => e = .returned (.string ⟨(enc c).toArray⟩) ∧ Ux.Touch (fun _ => False) w w' := by
  have hv := convNew w _ (enc c) (enc_d c hc h2) 3 (by have := congrArg List.length (enc_d c hc h2); rw [Ux.bv_length] at this; exact this)
  have HV := Lib.hid hv
  have p0 : (0 : Int) ≤ c := by omega
  have j0 : ¬ ((c : Int) ≥ 1114112) := by omega
  have j1 : ¬ ((c : Int) < 128) := by omega
  have j2 : ¬ ((c : Int) < 2048) := by omega
  have j3 : (c : Int) < 65536 := by omega
  clear hv
  go_enter Tryz.func30, Tryz.ntmps30
  go_wp2_with (fail)
  rw [HV.out]
  go_wp2
  go_ret
  exact ⟨rfl, (Ux.Touch.refl _ w).alloc _⟩
set_option maxHeartbeats 4000000 in
set_option maxRecDepth 100000 in
theorem one_e (c : Nat) (hc : 65536 ≤ c ∧ c < 1114112) (h2 : c < 1114368) (w : World) :
    Calls Tryz.prog 30 #[.int .i64 (c : Int)] w fun e w' => e = .returned (.string ⟨(enc c).toArray⟩) ∧ Ux.Touch (fun _ => False) w w' := by
  have hv := convNew w _ (enc c) (enc_e c hc h2) 4 (by have := congrArg List.length (enc_e c hc h2); rw [Ux.bv_length] at this; exact this)
  have HV := Lib.hid hv
  have p0 : (0 : Int) ≤ c := by omega
  have j0 : ¬ ((c : Int) ≥ 1114112) := by omega
  have j1 : ¬ ((c : Int) < 128) := by omega
  have j2 : ¬ ((c : Int) < 2048) := by omega
  have j3 : ¬ ((c : Int) < 65536) := by omega
  clear hv
  go_enter Tryz.func30, Tryz.ntmps30
  go_wp2_with (fail)
  rw [HV.out]
  go_wp2
  go_ret
  exact ⟨rfl, (Ux.Touch.refl _ w).alloc _⟩
theorem one_ (c : Nat) (h2 : c < 1114368) (w : World) :
    Calls Tryz.prog 30 #[.int .i64 (c : Int)] w fun e w' => e = .returned (.string ⟨(enc c).toArray⟩) ∧ Ux.Touch (fun _ => False) w w' := by
  by_cases a : 1114112 ≤ c
  · exact one_a c a h2 w
  by_cases b : c < 128
  · exact one_b c b h2 w
  by_cases d : c < 2048
  · exact one_c c ⟨by omega, d⟩ h2 w
  by_cases f : c < 65536
  · exact one_d c ⟨by omega, f⟩ h2 w
  · exact one_e c ⟨by omega, by omega⟩ h2 w

end Go.Proofs.YtglamoompicciaaGreatDoor
