/- PART OF THE PROOF THAT THIS CLAIM HOLDS OF THE GIVEN PROGRAM, FOR EVERY INPUT THAT THE STATEMENT NAMES. No condition besides the statement's own. -/
import Derived.Test.YtglamoompicciaaGreatDoorUxFoldZ
import Derived.Test.YtglamoompicciaaGreatDoorSignZ
import Derived.Test.YtglamoompicciaaGreatDoorRows
import Derived.WalkKit
import Derived.Handy
import Derived.Laws.EntriesVeiled
import Derived.WalkSpells
import Derived.WalkLawsBesides
import Derived.BigQuiet
import Derived.Deep.QuietTactic
import Derived.Deep.Cut
import Derived.Deep.DeepCutAuto
import Derived.Lib.Overlaps
import Derived.Laws.Externs
import Derived.Lib.Hide
import Derived.Test.YtglamoompicciaaGreatDoorUxPlanAllZ
import Derived.Test.YtglamoompicciaaGreatDoorUxTreeAllZ
import Derived.Deep.LoopGhost
namespace Go.Proofs.YtglamoompicciaaGreatDoor
open Go.RowKit
open Go.RowKit
open Ux.Sign (foldI)
set_option maxHeartbeats 4000000 in
theorem fold_ (c : Int) (w : World) (h1 : -9000000000 < c) (h2 : c < 9000000000) : Calls Tryz.prog 61 #[.int .i64 c] w fun e w' => e = .returned (.int .i64 (foldI c)) ∧ w' = w := by
  rcases (show (c ≤ 64) ∨ (65 ≤ c ∧ c ≤ 90) ∨ (91 ≤ c ∧ c ≤ 191) ∨ (192 ≤ c ∧ c ≤ 214) ∨ (c = 215) ∨ (216 ≤ c ∧ c ≤ 222) ∨ (223 ≤ c ∧ c ≤ 912) ∨ (913 ≤ c ∧ c ≤ 929) ∨ (c = 930) ∨ (931 ≤ c ∧ c ≤ 937) ∨ (938 ≤ c ∧ c ≤ 1023) ∨ (1024 ≤ c ∧ c ≤ 1039) ∨ (1040 ≤ c ∧ c ≤ 1071) ∨ (1072 ≤ c) by omega) with h | h | h | h | h | h | h | h | h | h | h | h | h | h
  · have e : foldI c = c := by unfold foldI; first | (rw [if_pos (by omega)]) | (rw [if_neg (by omega), if_pos (by omega)]) | (rw [if_neg (by omega), if_neg (by omega)])
    rw [e]
    have j0 : ¬ (c ≥ 65) := by omega
    have j1 : c ≤ 90 := by omega
    have j2 : ¬ (c ≥ 192) := by omega
    have j3 : c ≤ 222 := by omega
    have j4 : ¬ (c ≥ 913) := by omega
    have j5 : c ≤ 937 := by omega
    have j6 : ¬ (c ≥ 1040) := by omega
    have j7 : c ≤ 1071 := by omega
    have j8 : ¬ (c ≥ 1024) := by omega
    have j9 : c ≤ 1039 := by omega
    have k0 : (c == 215) = false := by simp; omega
    have k1 : (c == 930) = false := by simp; omega
    clear e h
    go_enter Tryz.func61, Tryz.ntmps61
    go_wp2
    go_ret
    exact ⟨rfl, rfl⟩
  · have e : foldI c = c + 32 := by unfold foldI; first | (rw [if_pos (by omega)]) | (rw [if_neg (by omega), if_pos (by omega)]) | (rw [if_neg (by omega), if_neg (by omega)])
    rw [e]
    have j0 : c ≥ 65 := by omega
    have j1 : c ≤ 90 := by omega
    have j2 : ¬ (c ≥ 192) := by omega
    have j3 : c ≤ 222 := by omega
    have j4 : ¬ (c ≥ 913) := by omega
    have j5 : c ≤ 937 := by omega
    have j6 : ¬ (c ≥ 1040) := by omega
    have j7 : c ≤ 1071 := by omega
    have j8 : ¬ (c ≥ 1024) := by omega
    have j9 : c ≤ 1039 := by omega
    have k0 : (c == 215) = false := by simp; omega
    have k1 : (c == 930) = false := by simp; omega
    clear e h
    go_enter Tryz.func61, Tryz.ntmps61
    go_wp2
    go_ret
    exact ⟨rfl, rfl⟩
  · have e : foldI c = c := by unfold foldI; first | (rw [if_pos (by omega)]) | (rw [if_neg (by omega), if_pos (by omega)]) | (rw [if_neg (by omega), if_neg (by omega)])
    rw [e]
    have j0 : c ≥ 65 := by omega
    have j1 : ¬ (c ≤ 90) := by omega
    have j2 : ¬ (c ≥ 192) := by omega
    have j3 : c ≤ 222 := by omega
    have j4 : ¬ (c ≥ 913) := by omega
    have j5 : c ≤ 937 := by omega
    have j6 : ¬ (c ≥ 1040) := by omega
    have j7 : c ≤ 1071 := by omega
    have j8 : ¬ (c ≥ 1024) := by omega
    have j9 : c ≤ 1039 := by omega
    have k0 : (c == 215) = false := by simp; omega
    have k1 : (c == 930) = false := by simp; omega
    clear e h
    go_enter Tryz.func61, Tryz.ntmps61
    go_wp2
    go_ret
    exact ⟨rfl, rfl⟩
  · have e : foldI c = c + 32 := by unfold foldI; first | (rw [if_pos (by omega)]) | (rw [if_neg (by omega), if_pos (by omega)]) | (rw [if_neg (by omega), if_neg (by omega)])
    rw [e]
    have j0 : c ≥ 65 := by omega
    have j1 : ¬ (c ≤ 90) := by omega
    have j2 : c ≥ 192 := by omega
    have j3 : c ≤ 222 := by omega
    have j4 : ¬ (c ≥ 913) := by omega
    have j5 : c ≤ 937 := by omega
    have j6 : ¬ (c ≥ 1040) := by omega
    have j7 : c ≤ 1071 := by omega
    have j8 : ¬ (c ≥ 1024) := by omega
    have j9 : c ≤ 1039 := by omega
    have k0 : (c == 215) = false := by simp; omega
    have k1 : (c == 930) = false := by simp; omega
    clear e h
    go_enter Tryz.func61, Tryz.ntmps61
    go_wp2
    go_ret
    exact ⟨rfl, rfl⟩
  · subst h
    have e : foldI 215 = 215 := by decide
    rw [e]
    clear e
    go_enter Tryz.func61, Tryz.ntmps61
    go_wp2
    go_ret
    exact ⟨rfl, rfl⟩
  · have e : foldI c = c + 32 := by unfold foldI; first | (rw [if_pos (by omega)]) | (rw [if_neg (by omega), if_pos (by omega)]) | (rw [if_neg (by omega), if_neg (by omega)])
    rw [e]
    have j0 : c ≥ 65 := by omega
    have j1 : ¬ (c ≤ 90) := by omega
    have j2 : c ≥ 192 := by omega
    have j3 : c ≤ 222 := by omega
    have j4 : ¬ (c ≥ 913) := by omega
    have j5 : c ≤ 937 := by omega
    have j6 : ¬ (c ≥ 1040) := by omega
    have j7 : c ≤ 1071 := by omega
    have j8 : ¬ (c ≥ 1024) := by omega
    have j9 : c ≤ 1039 := by omega
    have k0 : (c == 215) = false := by simp; omega
    have k1 : (c == 930) = false := by simp; omega
    clear e h
    go_enter Tryz.func61, Tryz.ntmps61
    go_wp2
    go_ret
    exact ⟨rfl, rfl⟩
  · have e : foldI c = c := by unfold foldI; first | (rw [if_pos (by omega)]) | (rw [if_neg (by omega), if_pos (by omega)]) | (rw [if_neg (by omega), if_neg (by omega)])
    rw [e]
    have j0 : c ≥ 65 := by omega
    have j1 : ¬ (c ≤ 90) := by omega
    have j2 : c ≥ 192 := by omega
    have j3 : ¬ (c ≤ 222) := by omega
    have j4 : ¬ (c ≥ 913) := by omega
    have j5 : c ≤ 937 := by omega
    have j6 : ¬ (c ≥ 1040) := by omega
    have j7 : c ≤ 1071 := by omega
    have j8 : ¬ (c ≥ 1024) := by omega
    have j9 : c ≤ 1039 := by omega
    have k0 : (c == 215) = false := by simp; omega
    have k1 : (c == 930) = false := by simp; omega
    clear e h
    go_enter Tryz.func61, Tryz.ntmps61
    go_wp2
    go_ret
    exact ⟨rfl, rfl⟩
  · have e : foldI c = c + 32 := by unfold foldI; first | (rw [if_pos (by omega)]) | (rw [if_neg (by omega), if_pos (by omega)]) | (rw [if_neg (by omega), if_neg (by omega)])
    rw [e]
    have j0 : c ≥ 65 := by omega
    have j1 : ¬ (c ≤ 90) := by omega
    have j2 : c ≥ 192 := by omega
    have j3 : ¬ (c ≤ 222) := by omega
    have j4 : c ≥ 913 := by omega
    have j5 : c ≤ 937 := by omega
    have j6 : ¬ (c ≥ 1040) := by omega
    have j7 : c ≤ 1071 := by omega
    have j8 : ¬ (c ≥ 1024) := by omega
    have j9 : c ≤ 1039 := by omega
    have k0 : (c == 215) = false := by simp; omega
    have k1 : (c == 930) = false := by simp; omega
    clear e h
    go_enter Tryz.func61, Tryz.ntmps61
    go_wp2
    go_ret
    exact ⟨rfl, rfl⟩
  · subst h
    have e : foldI 930 = 930 := by decide
    rw [e]
    clear e
    go_enter Tryz.func61, Tryz.ntmps61
    go_wp2
    go_ret
    exact ⟨rfl, rfl⟩
  · have e : foldI c = c + 32 := by unfold foldI; first | (rw [if_pos (by omega)]) | (rw [if_neg (by omega), if_pos (by omega)]) | (rw [if_neg (by omega), if_neg (by omega)])
    rw [e]
    have j0 : c ≥ 65 := by omega
    have j1 : ¬ (c ≤ 90) := by omega
    have j2 : c ≥ 192 := by omega
    have j3 : ¬ (c ≤ 222) := by omega
    have j4 : c ≥ 913 := by omega
    have j5 : c ≤ 937 := by omega
    have j6 : ¬ (c ≥ 1040) := by omega
    have j7 : c ≤ 1071 := by omega
    have j8 : ¬ (c ≥ 1024) := by omega
    have j9 : c ≤ 1039 := by omega
    have k0 : (c == 215) = false := by simp; omega
    have k1 : (c == 930) = false := by simp; omega
    clear e h
    go_enter Tryz.func61, Tryz.ntmps61
    go_wp2
    go_ret
    exact ⟨rfl, rfl⟩
  · have e : foldI c = c := by unfold foldI; first | (rw [if_pos (by omega)]) | (rw [if_neg (by omega), if_pos (by omega)]) | (rw [if_neg (by omega), if_neg (by omega)])
    rw [e]
    have j0 : c ≥ 65 := by omega
    have j1 : ¬ (c ≤ 90) := by omega
    have j2 : c ≥ 192 := by omega
    have j3 : ¬ (c ≤ 222) := by omega
    have j4 : c ≥ 913 := by omega
    have j5 : ¬ (c ≤ 937) := by omega
    have j6 : ¬ (c ≥ 1040) := by omega
    have j7 : c ≤ 1071 := by omega
    have j8 : ¬ (c ≥ 1024) := by omega
    have j9 : c ≤ 1039 := by omega
    have k0 : (c == 215) = false := by simp; omega
    have k1 : (c == 930) = false := by simp; omega
    clear e h
    go_enter Tryz.func61, Tryz.ntmps61
    go_wp2
    go_ret
    exact ⟨rfl, rfl⟩
  · have e : foldI c = c + 80 := by unfold foldI; first | (rw [if_pos (by omega)]) | (rw [if_neg (by omega), if_pos (by omega)]) | (rw [if_neg (by omega), if_neg (by omega)])
    rw [e]
    have j0 : c ≥ 65 := by omega
    have j1 : ¬ (c ≤ 90) := by omega
    have j2 : c ≥ 192 := by omega
    have j3 : ¬ (c ≤ 222) := by omega
    have j4 : c ≥ 913 := by omega
    have j5 : ¬ (c ≤ 937) := by omega
    have j6 : ¬ (c ≥ 1040) := by omega
    have j7 : c ≤ 1071 := by omega
    have j8 : c ≥ 1024 := by omega
    have j9 : c ≤ 1039 := by omega
    have k0 : (c == 215) = false := by simp; omega
    have k1 : (c == 930) = false := by simp; omega
    clear e h
    go_enter Tryz.func61, Tryz.ntmps61
    go_wp2
    go_ret
    exact ⟨rfl, rfl⟩
  · have e : foldI c = c + 32 := by unfold foldI; first | (rw [if_pos (by omega)]) | (rw [if_neg (by omega), if_pos (by omega)]) | (rw [if_neg (by omega), if_neg (by omega)])
    rw [e]
    have j0 : c ≥ 65 := by omega
    have j1 : ¬ (c ≤ 90) := by omega
    have j2 : c ≥ 192 := by omega
    have j3 : ¬ (c ≤ 222) := by omega
    have j4 : c ≥ 913 := by omega
    have j5 : ¬ (c ≤ 937) := by omega
    have j6 : c ≥ 1040 := by omega
    have j7 : c ≤ 1071 := by omega
    have j8 : c ≥ 1024 := by omega
    have j9 : ¬ (c ≤ 1039) := by omega
    have k0 : (c == 215) = false := by simp; omega
    have k1 : (c == 930) = false := by simp; omega
    clear e h
    go_enter Tryz.func61, Tryz.ntmps61
    go_wp2
    go_ret
    exact ⟨rfl, rfl⟩
  · have e : foldI c = c := by unfold foldI; first | (rw [if_pos (by omega)]) | (rw [if_neg (by omega), if_pos (by omega)]) | (rw [if_neg (by omega), if_neg (by omega)])
    rw [e]
    have j0 : c ≥ 65 := by omega
    have j1 : ¬ (c ≤ 90) := by omega
    have j2 : c ≥ 192 := by omega
    have j3 : ¬ (c ≤ 222) := by omega
    have j4 : c ≥ 913 := by omega
    have j5 : ¬ (c ≤ 937) := by omega
    have j6 : c ≥ 1040 := by omega
    have j7 : ¬ (c ≤ 1071) := by omega
    have j8 : c ≥ 1024 := by omega
    have j9 : ¬ (c ≤ 1039) := by omega
    have k0 : (c == 215) = false := by simp; omega
    have k1 : (c == 930) = false := by simp; omega
    clear e h
    go_enter Tryz.func61, Tryz.ntmps61
    go_wp2
    go_ret
    exact ⟨rfl, rfl⟩
set_option maxHeartbeats 4000000 in
theorem rfold_ (c : Int) (w : World) (h1 : -9000000000 < c) (h2 : c < 9000000000) : Calls Tryz.prog 31 #[.int .i64 c] w fun e w' => e = .returned (.int .i64 (foldI c)) ∧ w' = w := by
  rcases (show (c ≤ 64) ∨ (65 ≤ c ∧ c ≤ 90) ∨ (91 ≤ c ∧ c ≤ 191) ∨ (192 ≤ c ∧ c ≤ 214) ∨ (c = 215) ∨ (216 ≤ c ∧ c ≤ 222) ∨ (223 ≤ c ∧ c ≤ 912) ∨ (913 ≤ c ∧ c ≤ 929) ∨ (c = 930) ∨ (931 ≤ c ∧ c ≤ 937) ∨ (938 ≤ c ∧ c ≤ 1023) ∨ (1024 ≤ c ∧ c ≤ 1039) ∨ (1040 ≤ c ∧ c ≤ 1071) ∨ (1072 ≤ c) by omega) with h | h | h | h | h | h | h | h | h | h | h | h | h | h
  · have e : foldI c = c := by unfold foldI; first | (rw [if_pos (by omega)]) | (rw [if_neg (by omega), if_pos (by omega)]) | (rw [if_neg (by omega), if_neg (by omega)])
    rw [e]
    have j0 : ¬ (c ≥ 65) := by omega
    have j1 : c ≤ 90 := by omega
    have j2 : ¬ (c ≥ 192) := by omega
    have j3 : c ≤ 222 := by omega
    have j4 : ¬ (c ≥ 913) := by omega
    have j5 : c ≤ 937 := by omega
    have j6 : ¬ (c ≥ 1040) := by omega
    have j7 : c ≤ 1071 := by omega
    have j8 : ¬ (c ≥ 1024) := by omega
    have j9 : c ≤ 1039 := by omega
    have k0 : (c == 215) = false := by simp; omega
    have k1 : (c == 930) = false := by simp; omega
    clear e h
    go_enter Tryz.func31, Tryz.ntmps31
    go_wp2
    go_ret
    exact ⟨rfl, rfl⟩
  · have e : foldI c = c + 32 := by unfold foldI; first | (rw [if_pos (by omega)]) | (rw [if_neg (by omega), if_pos (by omega)]) | (rw [if_neg (by omega), if_neg (by omega)])
    rw [e]
    have j0 : c ≥ 65 := by omega
    have j1 : c ≤ 90 := by omega
    have j2 : ¬ (c ≥ 192) := by omega
    have j3 : c ≤ 222 := by omega
    have j4 : ¬ (c ≥ 913) := by omega
    have j5 : c ≤ 937 := by omega
    have j6 : ¬ (c ≥ 1040) := by omega
    have j7 : c ≤ 1071 := by omega
    have j8 : ¬ (c ≥ 1024) := by omega
    have j9 : c ≤ 1039 := by omega
    have k0 : (c == 215) = false := by simp; omega
    have k1 : (c == 930) = false := by simp; omega
    clear e h
    go_enter Tryz.func31, Tryz.ntmps31
    go_wp2
    go_ret
    exact ⟨rfl, rfl⟩
  · have e : foldI c = c := by unfold foldI; first | (rw [if_pos (by omega)]) | (rw [if_neg (by omega), if_pos (by omega)]) | (rw [if_neg (by omega), if_neg (by omega)])
    rw [e]
    have j0 : c ≥ 65 := by omega
    have j1 : ¬ (c ≤ 90) := by omega
    have j2 : ¬ (c ≥ 192) := by omega
    have j3 : c ≤ 222 := by omega
    have j4 : ¬ (c ≥ 913) := by omega
    have j5 : c ≤ 937 := by omega
    have j6 : ¬ (c ≥ 1040) := by omega
    have j7 : c ≤ 1071 := by omega
    have j8 : ¬ (c ≥ 1024) := by omega
    have j9 : c ≤ 1039 := by omega
    have k0 : (c == 215) = false := by simp; omega
    have k1 : (c == 930) = false := by simp; omega
    clear e h
    go_enter Tryz.func31, Tryz.ntmps31
    go_wp2
    go_ret
    exact ⟨rfl, rfl⟩
  · have e : foldI c = c + 32 := by unfold foldI; first | (rw [if_pos (by omega)]) | (rw [if_neg (by omega), if_pos (by omega)]) | (rw [if_neg (by omega), if_neg (by omega)])
    rw [e]
    have j0 : c ≥ 65 := by omega
    have j1 : ¬ (c ≤ 90) := by omega
    have j2 : c ≥ 192 := by omega
    have j3 : c ≤ 222 := by omega
    have j4 : ¬ (c ≥ 913) := by omega
    have j5 : c ≤ 937 := by omega
    have j6 : ¬ (c ≥ 1040) := by omega
    have j7 : c ≤ 1071 := by omega
    have j8 : ¬ (c ≥ 1024) := by omega
    have j9 : c ≤ 1039 := by omega
    have k0 : (c == 215) = false := by simp; omega
    have k1 : (c == 930) = false := by simp; omega
    clear e h
    go_enter Tryz.func31, Tryz.ntmps31
    go_wp2
    go_ret
    exact ⟨rfl, rfl⟩
  · subst h
    have e : foldI 215 = 215 := by decide
    rw [e]
    clear e
    go_enter Tryz.func31, Tryz.ntmps31
    go_wp2
    go_ret
    exact ⟨rfl, rfl⟩
  · have e : foldI c = c + 32 := by unfold foldI; first | (rw [if_pos (by omega)]) | (rw [if_neg (by omega), if_pos (by omega)]) | (rw [if_neg (by omega), if_neg (by omega)])
    rw [e]
    have j0 : c ≥ 65 := by omega
    have j1 : ¬ (c ≤ 90) := by omega
    have j2 : c ≥ 192 := by omega
    have j3 : c ≤ 222 := by omega
    have j4 : ¬ (c ≥ 913) := by omega
    have j5 : c ≤ 937 := by omega
    have j6 : ¬ (c ≥ 1040) := by omega
    have j7 : c ≤ 1071 := by omega
    have j8 : ¬ (c ≥ 1024) := by omega
    have j9 : c ≤ 1039 := by omega
    have k0 : (c == 215) = false := by simp; omega
    have k1 : (c == 930) = false := by simp; omega
    clear e h
    go_enter Tryz.func31, Tryz.ntmps31
    go_wp2
    go_ret
    exact ⟨rfl, rfl⟩
  · have e : foldI c = c := by unfold foldI; first | (rw [if_pos (by omega)]) | (rw [if_neg (by omega), if_pos (by omega)]) | (rw [if_neg (by omega), if_neg (by omega)])
    rw [e]
    have j0 : c ≥ 65 := by omega
    have j1 : ¬ (c ≤ 90) := by omega
    have j2 : c ≥ 192 := by omega
    have j3 : ¬ (c ≤ 222) := by omega
    have j4 : ¬ (c ≥ 913) := by omega
    have j5 : c ≤ 937 := by omega
    have j6 : ¬ (c ≥ 1040) := by omega
    have j7 : c ≤ 1071 := by omega
    have j8 : ¬ (c ≥ 1024) := by omega
    have j9 : c ≤ 1039 := by omega
    have k0 : (c == 215) = false := by simp; omega
    have k1 : (c == 930) = false := by simp; omega
    clear e h
    go_enter Tryz.func31, Tryz.ntmps31
    go_wp2
    go_ret
    exact ⟨rfl, rfl⟩
  · have e : foldI c = c + 32 := by unfold foldI; first | (rw [if_pos (by omega)]) | (rw [if_neg (by omega), if_pos (by omega)]) | (rw [if_neg (by omega), if_neg (by omega)])
    rw [e]
    have j0 : c ≥ 65 := by omega
    have j1 : ¬ (c ≤ 90) := by omega
    have j2 : c ≥ 192 := by omega
    have j3 : ¬ (c ≤ 222) := by omega
    have j4 : c ≥ 913 := by omega
    have j5 : c ≤ 937 := by omega
    have j6 : ¬ (c ≥ 1040) := by omega
    have j7 : c ≤ 1071 := by omega
    have j8 : ¬ (c ≥ 1024) := by omega
    have j9 : c ≤ 1039 := by omega
    have k0 : (c == 215) = false := by simp; omega
    have k1 : (c == 930) = false := by simp; omega
    clear e h
    go_enter Tryz.func31, Tryz.ntmps31
    go_wp2
    go_ret
    exact ⟨rfl, rfl⟩
  · subst h
    have e : foldI 930 = 930 := by decide
    rw [e]
    clear e
    go_enter Tryz.func31, Tryz.ntmps31
    go_wp2
    go_ret
    exact ⟨rfl, rfl⟩
  · have e : foldI c = c + 32 := by unfold foldI; first | (rw [if_pos (by omega)]) | (rw [if_neg (by omega), if_pos (by omega)]) | (rw [if_neg (by omega), if_neg (by omega)])
    rw [e]
    have j0 : c ≥ 65 := by omega
    have j1 : ¬ (c ≤ 90) := by omega
    have j2 : c ≥ 192 := by omega
    have j3 : ¬ (c ≤ 222) := by omega
    have j4 : c ≥ 913 := by omega
    have j5 : c ≤ 937 := by omega
    have j6 : ¬ (c ≥ 1040) := by omega
    have j7 : c ≤ 1071 := by omega
    have j8 : ¬ (c ≥ 1024) := by omega
    have j9 : c ≤ 1039 := by omega
    have k0 : (c == 215) = false := by simp; omega
    have k1 : (c == 930) = false := by simp; omega
    clear e h
    go_enter Tryz.func31, Tryz.ntmps31
    go_wp2
    go_ret
    exact ⟨rfl, rfl⟩
  · have e : foldI c = c := by unfold foldI; first | (rw [if_pos (by omega)]) | (rw [if_neg (by omega), if_pos (by omega)]) | (rw [if_neg (by omega), if_neg (by omega)])
    rw [e]
    have j0 : c ≥ 65 := by omega
    have j1 : ¬ (c ≤ 90) := by omega
    have j2 : c ≥ 192 := by omega
    have j3 : ¬ (c ≤ 222) := by omega
    have j4 : c ≥ 913 := by omega
    have j5 : ¬ (c ≤ 937) := by omega
    have j6 : ¬ (c ≥ 1040) := by omega
    have j7 : c ≤ 1071 := by omega
    have j8 : ¬ (c ≥ 1024) := by omega
    have j9 : c ≤ 1039 := by omega
    have k0 : (c == 215) = false := by simp; omega
    have k1 : (c == 930) = false := by simp; omega
    clear e h
    go_enter Tryz.func31, Tryz.ntmps31
    go_wp2
    go_ret
    exact ⟨rfl, rfl⟩
  · have e : foldI c = c + 80 := by unfold foldI; first | (rw [if_pos (by omega)]) | (rw [if_neg (by omega), if_pos (by omega)]) | (rw [if_neg (by omega), if_neg (by omega)])
    rw [e]
    have j0 : c ≥ 65 := by omega
    have j1 : ¬ (c ≤ 90) := by omega
    have j2 : c ≥ 192 := by omega
    have j3 : ¬ (c ≤ 222) := by omega
    have j4 : c ≥ 913 := by omega
    have j5 : ¬ (c ≤ 937) := by omega
    have j6 : ¬ (c ≥ 1040) := by omega
    have j7 : c ≤ 1071 := by omega
    have j8 : c ≥ 1024 := by omega
    have j9 : c ≤ 1039 := by omega
    have k0 : (c == 215) = false := by simp; omega
    have k1 : (c == 930) = false := by simp; omega
    clear e h
    go_enter Tryz.func31, Tryz.ntmps31
    go_wp2
    go_ret
    exact ⟨rfl, rfl⟩
  · have e : foldI c = c + 32 := by unfold foldI; first | (rw [if_pos (by omega)]) | (rw [if_neg (by omega), if_pos (by omega)]) | (rw [if_neg (by omega), if_neg (by omega)])
    rw [e]
    have j0 : c ≥ 65 := by omega
    have j1 : ¬ (c ≤ 90) := by omega
    have j2 : c ≥ 192 := by omega
    have j3 : ¬ (c ≤ 222) := by omega
    have j4 : c ≥ 913 := by omega
    have j5 : ¬ (c ≤ 937) := by omega
    have j6 : c ≥ 1040 := by omega
    have j7 : c ≤ 1071 := by omega
    have j8 : c ≥ 1024 := by omega
    have j9 : ¬ (c ≤ 1039) := by omega
    have k0 : (c == 215) = false := by simp; omega
    have k1 : (c == 930) = false := by simp; omega
    clear e h
    go_enter Tryz.func31, Tryz.ntmps31
    go_wp2
    go_ret
    exact ⟨rfl, rfl⟩
  · have e : foldI c = c := by unfold foldI; first | (rw [if_pos (by omega)]) | (rw [if_neg (by omega), if_pos (by omega)]) | (rw [if_neg (by omega), if_neg (by omega)])
    rw [e]
    have j0 : c ≥ 65 := by omega
    have j1 : ¬ (c ≤ 90) := by omega
    have j2 : c ≥ 192 := by omega
    have j3 : ¬ (c ≤ 222) := by omega
    have j4 : c ≥ 913 := by omega
    have j5 : ¬ (c ≤ 937) := by omega
    have j6 : c ≥ 1040 := by omega
    have j7 : ¬ (c ≤ 1071) := by omega
    have j8 : c ≥ 1024 := by omega
    have j9 : ¬ (c ≤ 1039) := by omega
    have k0 : (c == 215) = false := by simp; omega
    have k1 : (c == 930) = false := by simp; omega
    clear e h
    go_enter Tryz.func31, Tryz.ntmps31
    go_wp2
    go_ret
    exact ⟨rfl, rfl⟩

end Go.Proofs.YtglamoompicciaaGreatDoor
