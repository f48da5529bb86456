/- PART OF THE PROOF THAT THIS CLAIM HOLDS OF THE GIVEN PROGRAM, FOR EVERY INPUT THAT THE STATEMENT NAMES. No condition besides the statement's own. -/
import Derived.Test.YtlibbngcdeblmaaDoorUxBitsZ
import Derived.Lib.IndexBytes
import Derived.Test.YtlibbngcdeblmaaDoorRows
import Derived.WalkKit
import Derived.Handy
import Derived.Laws.EntriesVeiled
import Derived.WalkSpells
import Derived.WalkLawsBesides
import Derived.BigQuiet
import Derived.Deep.QuietTactic
import Derived.Deep.Cut
import Derived.Deep.DeepCutAuto
import Derived.Lib.Overlaps
import Derived.Laws.Externs
import Derived.Lib.Hide
import Derived.Test.YtlibbngcdeblmaaDoorUxPlanAllZ
import Derived.Test.YtlibbngcdeblmaaDoorUxTreeAllZ
import Derived.Deep.LoopGhost
namespace Go.Proofs.YtlibbngcdeblmaaDoor
open Go.RowKit
-- imports: UxBits Derived.Lib.IndexBytes
open Go.RowKit

/-- eight bytes' number -/
def be8 (l : List UInt8) : Nat := l.foldl (fun a b => a * 256 + b.toNat) 0
/-- what a row's number and code are -/
def rowIs (s : List UInt8) : Int × Int :=
  if s.length < 9 then (0, 4)
  else if s[s.length - 9]? ≠ some 5 then (0, 3)
  else ((be8 (s.drop (s.length - 8)) : Int) - 9223372036854775808, 0)

theorem be8_snoc (l : List UInt8) (b : UInt8) : be8 (l ++ [b]) = be8 l * 256 + b.toNat := by unfold be8; rw [List.foldl_append]; rfl
theorem be8_take {l : List UInt8} {j : Nat} {b : UInt8} (h : l[j]? = some b) : be8 (l.take (j + 1)) = be8 (l.take j) * 256 + b.toNat := by rw [List.take_add_one, h]; exact be8_snoc _ _
theorem u8_in_u64 (y : UInt8) : IntKind.u64.wrap (y.toNat : Int) = (y.toNat : Int) := by
  have := y.toNat_lt
  rw [Ux.u64w]
  omega

set_option maxHeartbeats 2000000 in
theorem row6 (s : ByteArray) (w : World) (hs : s.size ≤ 9223372036854775807) : Calls Tryd.prog 6 #[.string s] w fun e w' => e = .returned (.tuple #[.int .i64 (rowIs s.data.toList).1, .int .i64 (rowIs s.data.toList).2]) ∧ w' = w := by
  have hlen : s.data.toList.length = s.size := by simp
  by_cases h9 : s.size < 9
  · have e1 : rowIs s.data.toList = (0, 4) := by unfold rowIs; rw [hlen, if_pos h9]
    rw [e1]
    have h9' : (s.size : Int) < 9 := by omega
    go_enter Tryd.func6, Tryd.ntmps6
    go_wp2
    go_ret2
    exact ⟨rfl, rfl⟩
  · obtain ⟨m, hm⟩ : ∃ m, s.size = m + 9 := ⟨s.size - 9, by omega⟩
    have hml : m < s.size := by omega
    obtain ⟨x, hx⟩ : ∃ x : UInt8, s[m]'hml = x := ⟨_, rfl⟩
    have hg : s.data.toList[m]? = some x := by rw [← hx]; exact Lib.data_getElem? s m hml
    have e0 : rowIs s.data.toList = if s.data.toList[m]? ≠ some 5 then (0, 3) else ((be8 (s.data.toList.drop (m + 1)) : Int) - 9223372036854775808, 0) := by
      unfold rowIs
      rw [hlen, if_neg h9, hm]
      simp only [Nat.add_sub_cancel, show m + 9 - 8 = m + 1 by omega]
    by_cases h5 : x = 5
    · subst h5
      have e1 : rowIs s.data.toList = ((be8 (s.data.toList.drop (m + 1)) : Int) - 9223372036854775808, 0) := by rw [e0, hg, if_neg (by simp)]
      rw [e1]
      clear e0 e1 hg h9
      have HS := Lib.hid (And.intro hm hlen)
      clear hlen
      go_enter Tryd.func6, Tryd.ntmps6
      go_wp2
      go_loopg [17, 5] 8 (fun g s17 s5 wr => ∃ (j a : Nat), s17 = .int .i64 j ∧ s5 = .int .u64 a ∧ j + g = 8 ∧ a < 256 ^ j ∧ Hid (a = be8 ((s.data.toList.drop (m + 1)).take j)) ∧ wr = w)
      case atStart => exact ⟨0, 0, rfl, rfl, rfl, by simp, Lib.hid rfl, rfl⟩
      case round =>
        obtain ⟨j, a, rfl, rfl, hjg, ha, HA, rfl⟩ := hrel
        have p0 : (0 : Int) ≤ j := by omega
        by_cases hj : j < 8
        · obtain ⟨g', rfl⟩ : ∃ g', gk = g' + 1 := ⟨gk - 1, by omega⟩
          have j1 : (j : Int) < 8 := by omega
          have hjl : m + 1 + j < s.size := by omega
          obtain ⟨y, hy⟩ : ∃ y : UInt8, s[m + 1 + j]'hjl = y := ⟨_, rfl⟩
          have hyb : y.toNat < 256 := y.toNat_lt
          have ha8 : a < 72057594037927936 := by
            have : 256 ^ j ≤ 256 ^ 7 := Nat.pow_le_pow_right (by omega) (by omega)
            omega
          go_wp2
          go_roundg g'
          case measure => omega
          case rel =>
            refine ⟨j + 1, a * 256 + y.toNat, rfl, ?_, by omega, by rw [Nat.pow_succ]; omega, Lib.hid ?_, rfl⟩
            · rw [Ux.or_byte a y.toNat hyb (by omega)]
              rfl
            · rw [HA.out]
              exact (be8_take (by rw [List.getElem?_drop, ← hy]; exact Lib.data_getElem? s _ hjl)).symm
        · obtain rfl : j = 8 := by omega
          have ha8 : a < 18446744073709551616 := by omega
          have hxor := Ux.xor_top a ha8
          have e2 : ((be8 (s.data.toList.drop (m + 1)) : Nat) : Int) - 9223372036854775808 = wrap64 (((a : Int) + 9223372036854775808) % 18446744073709551616) := by
            have e3 : a = be8 (s.data.toList.drop (m + 1)) := by
              have := HA.out
              rwa [List.take_of_length_le (by rw [List.length_drop, HS.out.2]; omega)] at this
            rw [← e3]
            unfold wrap64
            omega
          have E2 := Lib.hid e2
          clear e2 hj
          go_wp2
          go_ret2
          exact ⟨by rw [E2.out]; rfl, rfl⟩
    · have e1 : rowIs s.data.toList = (0, 3) := by rw [e0, hg, if_pos (by simpa using h5)]
      rw [e1]
      have hx5 : ¬ (x.toNat : Int) = 5 := fun e => h5 (UInt8.toNat_inj.1 (by simpa using (by omega : x.toNat = 5)))
      clear e0 e1 hg h9 hlen h5
      go_enter Tryd.func6, Tryd.ntmps6
      go_wp2
      go_ret2
      exact ⟨rfl, rfl⟩

set_option maxHeartbeats 2000000 in
theorem row7 (s : ByteArray) (w : World) (hs : s.size ≤ 9223372036854775807) : Calls Tryd.prog 7 #[.string s] w fun e w' => e = .returned (.tuple #[.int .i64 (rowIs s.data.toList).1, .int .i64 (rowIs s.data.toList).2]) ∧ w' = w := by
  have hlen : s.data.toList.length = s.size := by simp
  by_cases h9 : s.size < 9
  · have e1 : rowIs s.data.toList = (0, 4) := by unfold rowIs; rw [hlen, if_pos h9]
    rw [e1]
    have h9' : (s.size : Int) < 9 := by omega
    go_enter Tryd.func7, Tryd.ntmps7
    go_wp2
    go_ret2
    exact ⟨rfl, rfl⟩
  · obtain ⟨m, hm⟩ : ∃ m, s.size = m + 9 := ⟨s.size - 9, by omega⟩
    have hml : m < s.size := by omega
    obtain ⟨x, hx⟩ : ∃ x : UInt8, s[m]'hml = x := ⟨_, rfl⟩
    have hg : s.data.toList[m]? = some x := by rw [← hx]; exact Lib.data_getElem? s m hml
    have e0 : rowIs s.data.toList = if s.data.toList[m]? ≠ some 5 then (0, 3) else ((be8 (s.data.toList.drop (m + 1)) : Int) - 9223372036854775808, 0) := by
      unfold rowIs
      rw [hlen, if_neg h9, hm]
      simp only [Nat.add_sub_cancel, show m + 9 - 8 = m + 1 by omega]
    by_cases h5 : x = 5
    · subst h5
      have e1 : rowIs s.data.toList = ((be8 (s.data.toList.drop (m + 1)) : Int) - 9223372036854775808, 0) := by rw [e0, hg, if_neg (by simp)]
      rw [e1]
      clear e0 e1 hg h9
      have HS := Lib.hid (And.intro hm hlen)
      clear hlen
      go_enter Tryd.func7, Tryd.ntmps7
      go_wp2
      go_loopg [5, 4] 8 (fun g s5 s4 wr => ∃ (j a : Nat), s5 = .int .i64 ((m : Int) + 9 - 8 + j) ∧ s4 = .int .u64 a ∧ j + g = 8 ∧ a < 256 ^ j ∧ Hid (a = be8 ((s.data.toList.drop (m + 1)).take j)) ∧ wr = w)
      case atStart => exact ⟨0, 0, by simp, rfl, rfl, by simp, Lib.hid rfl, rfl⟩
      case round =>
        obtain ⟨j, a, rfl, rfl, hjg, ha, HA, rfl⟩ := hrel
        have p0 : (0 : Int) ≤ j := by omega
        by_cases hj : j < 8
        · obtain ⟨g', rfl⟩ : ∃ g', gk = g' + 1 := ⟨gk - 1, by omega⟩
          have j1 : (j : Int) < 8 := by omega
          have hjl : m + 1 + j < s.size := by omega
          obtain ⟨y, hy⟩ : ∃ y : UInt8, s[m + 1 + j]'hjl = y := ⟨_, rfl⟩
          have hyb : y.toNat < 256 := y.toNat_lt
          have ha8 : a < 72057594037927936 := by
            have : 256 ^ j ≤ 256 ^ 7 := Nat.pow_le_pow_right (by omega) (by omega)
            omega
          go_wp2
          go_roundg g'
          case measure => omega
          case rel =>
            refine ⟨j + 1, a * 256 + y.toNat, by congr 1; omega, ?_, by omega, by rw [Nat.pow_succ]; omega, Lib.hid ?_, rfl⟩
            · rw [Ux.or_byte a y.toNat hyb (by omega)]
              rfl
            · rw [HA.out]
              exact (be8_take (by rw [List.getElem?_drop, ← hy]; exact Lib.data_getElem? s _ hjl)).symm
        · obtain rfl : j = 8 := by omega
          have ha8 : a < 18446744073709551616 := by omega
          have hxor : (0 : Nat) = 0 := rfl
          have e2 : ((be8 (s.data.toList.drop (m + 1)) : Nat) : Int) - 9223372036854775808 = wrap64 (IntKind.u64.wrap ((a : Int) - 9223372036854775808)) := by
            have e3 : a = be8 (s.data.toList.drop (m + 1)) := by
              have := HA.out
              rwa [List.take_of_length_le (by rw [List.length_drop, HS.out.2]; omega)] at this
            rw [← e3]
            rw [Ux.u64w]
            unfold wrap64
            omega
          have E2 := Lib.hid e2
          clear e2 hj
          go_wp2
          go_ret2
          exact ⟨by rw [E2.out]; rfl, rfl⟩
    · have e1 : rowIs s.data.toList = (0, 3) := by rw [e0, hg, if_pos (by simpa using h5)]
      rw [e1]
      have hx5 : ¬ (x.toNat : Int) = 5 := fun e => h5 (UInt8.toNat_inj.1 (by simpa using (by omega : x.toNat = 5)))
      clear e0 e1 hg h9 hlen h5
      go_enter Tryd.func7, Tryd.ntmps7
      go_wp2
      go_ret2
      exact ⟨rfl, rfl⟩

end Go.Proofs.YtlibbngcdeblmaaDoor
