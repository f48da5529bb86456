/- PART OF THE PROOF THAT THIS CLAIM HOLDS OF THE GIVEN PROGRAM, FOR EVERY INPUT THAT THE STATEMENT NAMES. No condition besides the statement's own. -/
import Derived.Test.YtglamoompicciaaGreatDoorUxSignZ
/- A sign's small one, in plain numbers. No program. -/
namespace Go.Ux.Sign
open Go
def foldI (c : Int) : Int := if (65 ≤ c ∧ c ≤ 90) ∨ (192 ≤ c ∧ c ≤ 222 ∧ c ≠ 215) ∨ (913 ≤ c ∧ c ≤ 937 ∧ c ≠ 930) ∨ (1040 ≤ c ∧ c ≤ 1071) then c + 32 else if 1024 ≤ c ∧ c ≤ 1039 then c + 80 else c
def foldN (c : Nat) : Nat := if (65 ≤ c ∧ c ≤ 90) ∨ (192 ≤ c ∧ c ≤ 222 ∧ c ≠ 215) ∨ (913 ≤ c ∧ c ≤ 937 ∧ c ≠ 930) ∨ (1040 ≤ c ∧ c ≤ 1071) then c + 32 else if 1024 ≤ c ∧ c ≤ 1039 then c + 80 else c
theorem foldI_nat (c : Nat) : foldI (c : Int) = (foldN c : Nat) := by
  unfold foldI foldN
  by_cases h : (65 ≤ c ∧ c ≤ 90) ∨ (192 ≤ c ∧ c ≤ 222 ∧ c ≠ 215) ∨ (913 ≤ c ∧ c ≤ 937 ∧ c ≠ 930) ∨ (1040 ≤ c ∧ c ≤ 1071)
  · rw [if_pos (by omega), if_pos h]; omega
  · rw [if_neg (by omega), if_neg h]
    by_cases h2 : 1024 ≤ c ∧ c ≤ 1039
    · rw [if_pos (by omega), if_pos h2]; omega
    · rw [if_neg (by omega), if_neg h2]
theorem foldN_cp (c : Nat) (h : cp c) : cp (foldN c) := by
  unfold cp at *
  unfold foldN
  split
  · omega
  · split <;> omega
theorem foldN_raw (c : Nat) (h : raw c) : foldN c = c := by
  unfold raw at h
  unfold foldN
  rw [if_neg (by omega), if_neg (by omega)]
theorem foldN_twice (c : Nat) : foldN (foldN c) = foldN c := by
  unfold foldN
  repeat' split
  all_goals omega
theorem foldN_lt (c : Nat) (h : c < 1114368) : foldN c < 1114368 := by
  unfold foldN
  repeat' split
  all_goals omega
theorem good_foldN {l : List Nat} (h : good l) : good (l.map foldN) := good_map foldN_cp foldN_raw h
/-- a text with small signs -/
def foldText (l : List UInt8) : List UInt8 := put ((signs l).map foldN)
theorem signs_foldText (l : List UInt8) : signs (foldText l) = (signs l).map foldN := signs_put (good_foldN (good_signs l))
/-- bytes below 128 are signs each -/
theorem signs_ascii : ∀ (l : List UInt8), (∀ b ∈ l, b.toNat < 128) → signs l = l.map UInt8.toNat
  | [], _ => by unfold signs; rfl
  | x :: l, h => by
    have hx := h x List.mem_cons_self
    have e : sg (x :: l) = (x.toNat, 1) := by
      unfold sg sgN
      rw [bt_zero, if_pos hx]
    rw [signs_cons (by simp), e, List.map_cons]
    show x.toNat :: signs l = _
    rw [signs_ascii l fun b hb => h b (List.mem_cons_of_mem _ hb)]
end Go.Ux.Sign
