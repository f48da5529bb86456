/- PART OF THE PROOF THAT THIS CLAIM HOLDS OF THE GIVEN PROGRAM, FOR EVERY INPUT THAT THE STATEMENT NAMES. No condition besides the statement's own. -/
import Derived.Test.YtglamoompicciaaGreatDoorUxSignZ
import Derived.Lib.DecodeN
/- The first sign of a text as the library's decoder and as the document's cases tell it. No program. -/
namespace Go.Ux.Sign
open Go

set_option maxHeartbeats 4000000 in
theorem decodeN_sgN (n b0 b1 b2 b3 : Nat) (h0 : b0 < 256) (h1 : b1 < 256) (h2 : b2 < 256) (h3 : b3 < 256) (n1 : 1 < n ∨ b1 = 0) (n2 : 2 < n ∨ b2 = 0) (n3 : 3 < n ∨ b3 = 0) :
    (if (Lib.decodeN n b0 b1 b2 b3).1 = 65533 ∧ (Lib.decodeN n b0 b1 b2 b3).2 = 1 then (1114112 + b0, 1) else Lib.decodeN n b0 b1 b2 b3) = sgN b0 b1 b2 b3 := by
  unfold sgN Lib.decodeN tl v3 v4
  by_cases c0 : b0 < 128
  · simp only [if_pos c0]
    rw [if_neg (by omega)]
  · simp only [if_neg c0]
    by_cases c1 : b0 / 32 = 6 ∧ 1 < n ∧ b1 / 64 = 2
    · simp only [if_pos c1]
      by_cases c2 : b0 % 32 * 64 + b1 % 64 ≥ 128
      · simp only [if_pos c2]
        rw [if_neg (by omega), if_pos (by omega)]
        exact Prod.ext (by show b0 % 32 * 64 + b1 % 64 = _; omega) rfl
      · simp only [if_neg c2]
        rw [if_pos ⟨trivial, trivial⟩, if_neg (by omega), if_neg (by omega), if_neg (by omega)]
    · simp only [if_neg c1]
      rw [if_neg (by omega : ¬ (194 ≤ b0 ∧ b0 ≤ 223 ∧ 128 ≤ b1 ∧ b1 < 192))]
      by_cases c3 : b0 / 16 = 14 ∧ (1 < n ∧ b1 / 64 = 2) ∧ (2 < n ∧ b2 / 64 = 2)
      · simp only [if_pos c3]
        have e : b0 % 16 * 4096 + b1 % 64 * 64 + b2 % 64 = (b0 - 224) * 4096 + (b1 - 128) * 64 + (b2 - 128) := by omega
        rw [e]
        by_cases c4 : (b0 - 224) * 4096 + (b1 - 128) * 64 + (b2 - 128) ≥ 2048 ∧ ((b0 - 224) * 4096 + (b1 - 128) * 64 + (b2 - 128) < 55296 ∨ (57344 ≤ (b0 - 224) * 4096 + (b1 - 128) * 64 + (b2 - 128) ∧ (b0 - 224) * 4096 + (b1 - 128) * 64 + (b2 - 128) ≤ 1114111))
        · simp only [if_pos c4]
          rw [if_neg (by omega), if_pos (by omega)]
        · simp only [if_neg c4]
          rw [if_pos ⟨trivial, trivial⟩, if_neg (by omega), if_neg (by omega)]
      · simp only [if_neg c3]
        rw [if_neg (by omega : ¬ (224 ≤ b0 ∧ b0 ≤ 239 ∧ (128 ≤ b1 ∧ b1 < 192) ∧ (128 ≤ b2 ∧ b2 < 192) ∧ _ ∧ _))]
        by_cases c5 : b0 / 8 = 30 ∧ (1 < n ∧ b1 / 64 = 2) ∧ (2 < n ∧ b2 / 64 = 2) ∧ (3 < n ∧ b3 / 64 = 2)
        · simp only [if_pos c5]
          have e : b0 % 8 * 262144 + b1 % 64 * 4096 + b2 % 64 * 64 + b3 % 64 = (b0 - 240) * 262144 + (b1 - 128) * 4096 + (b2 - 128) * 64 + (b3 - 128) := by omega
          rw [e]
          by_cases c6 : (b0 - 240) * 262144 + (b1 - 128) * 4096 + (b2 - 128) * 64 + (b3 - 128) ≥ 65536 ∧ ((b0 - 240) * 262144 + (b1 - 128) * 4096 + (b2 - 128) * 64 + (b3 - 128) < 55296 ∨ (57344 ≤ (b0 - 240) * 262144 + (b1 - 128) * 4096 + (b2 - 128) * 64 + (b3 - 128) ∧ (b0 - 240) * 262144 + (b1 - 128) * 4096 + (b2 - 128) * 64 + (b3 - 128) ≤ 1114111))
          · simp only [if_pos c6]
            rw [if_neg (by omega), if_pos (by omega)]
          · simp only [if_neg c6]
            rw [if_pos ⟨trivial, trivial⟩, if_neg (by omega)]
        · simp only [if_neg c5]
          rw [if_pos ⟨trivial, trivial⟩, if_neg (by omega)]

theorem bt_get (s : ByteArray) (i : Nat) : (s.get! i).toNat = bt s.data.toList i := by
  obtain ⟨d⟩ := s
  show (d[i]!).toNat = bt d.toList i
  unfold bt
  rw [Array.getElem?_toList]
  by_cases h : i < d.size
  · rw [getElem!_pos d i h, Array.getElem?_eq_getElem h]
  · rw [getElem!_neg d i h, Array.getElem?_eq_none (by omega)]
    rfl

/-- the library's decoder at a text that is not empty -/
theorem decode_sg (s : ByteArray) : (if (Utf8.decode s 0).1 = 65533 ∧ (Utf8.decode s 0).2 = 1 then (1114112 + (s.get! 0).toNat, 1) else Utf8.decode s 0) = sg s.data.toList := by
  rw [Lib.decode_at]
  have hl : s.size = s.data.toList.length := by rw [Array.length_toList]; rfl
  have hz : ∀ i, i < s.size - 0 ∨ (s.get! i).toNat = 0 := fun i => by
    rw [bt_get]
    by_cases h : i < s.size
    · exact .inl h
    · refine .inr ?_
      unfold bt
      rw [List.getElem?_eq_none (by omega)]
  rw [decodeN_sgN _ _ _ _ _ (UInt8.toNat_lt _) (UInt8.toNat_lt _) (UInt8.toNat_lt _) (UInt8.toNat_lt _) (hz 1) (hz 2) (hz 3)]
  simp only [bt_get]
  rfl
end Go.Ux.Sign
