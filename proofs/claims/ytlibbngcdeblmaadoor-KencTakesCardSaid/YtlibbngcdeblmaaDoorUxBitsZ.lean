/- PART OF THE PROOF THAT THIS CLAIM HOLDS OF THE GIVEN PROGRAM, FOR EVERY INPUT THAT THE STATEMENT NAMES. No condition besides the statement's own. -/
import Derived.Laws.BitsLemmas
import Derived.IntWalk
/- Bits of unsigned words: a byte laid behind others, the top bit turned. -/
namespace Go.Ux
open Go Go.RowKit

theorem u64w (n : Int) : IntKind.u64.wrap n = n % 18446744073709551616 := by simp [IntKind.wrap, IntKind.bits, IntKind.signed]

theorem or_byte (a c : Nat) (hc : c < 256) (h : a * 256 + c < 18446744073709551616) : bits .or .u64 ((a : Int) * 256) (c : Int) = (a : Int) * 256 + c := by
  have e1 : (BitVec.ofInt 64 ((a : Int) * 256)).toNat = a * 256 := by
    rw [BitVec.toNat_ofInt]; omega
  have e2 : (BitVec.ofInt 64 (c : Int)).toNat = c := by
    rw [BitVec.toNat_ofInt]; omega
  have key : (BitVec.ofInt 64 ((a : Int) * 256) ||| BitVec.ofInt 64 (c : Int)).toNat = a * 256 + c := by
    rw [BitVec.toNat_or, e1, e2]
    have := Nat.shiftLeft_add_eq_or_of_lt (b := c) (i := 8) (by omega) a
    rw [Nat.shiftLeft_eq] at this
    exact this.symm
  show IntKind.u64.wrap ((BitVec.ofInt 64 ((a : Int) * 256) ||| BitVec.ofInt 64 (c : Int)).toNat : Nat) = _
  rw [key, u64w]
  omega

theorem xor_pow (y : Nat) (h : y < 2 ^ 63) : y ^^^ 2 ^ 63 = y + 2 ^ 63 := by
  apply Nat.eq_of_testBit_eq
  intro i
  rw [Nat.testBit_xor, Nat.testBit_two_pow, Nat.add_comm]
  rcases Nat.lt_trichotomy i 63 with hi | hi | hi
  · rw [Nat.testBit_two_pow_add_gt hi]
    have h3 : decide (63 = i) = false := by simp; omega
    rw [h3, Bool.xor_false]
  · subst hi
    rw [Nat.testBit_two_pow_add_eq]
    cases y.testBit 63 <;> rfl
  · have h1 : y.testBit i = false := Nat.testBit_lt_two_pow (Nat.lt_of_lt_of_le h (Nat.pow_le_pow_right (by omega) (by omega)))
    have h2 : (2 ^ 63 + y).testBit i = false := Nat.testBit_lt_two_pow (Nat.lt_of_lt_of_le (by omega : 2 ^ 63 + y < 2 ^ 64) (Nat.pow_le_pow_right (by omega) (by omega)))
    have h3 : decide (63 = i) = false := by simp; omega
    rw [h1, h2, h3]
    rfl
/-- the top bit turned: half the words further on -/
theorem xor_top (y : Nat) (h : y < 18446744073709551616) : bits .xor .u64 (y : Int) 9223372036854775808 = ((y + 9223372036854775808) % 18446744073709551616 : Nat) := by
  have e1 : (BitVec.ofInt 64 (y : Int)).toNat = y := by rw [BitVec.toNat_ofInt]; omega
  have e2 : (BitVec.ofInt 64 (9223372036854775808 : Int)).toNat = 2 ^ 63 := by rw [BitVec.toNat_ofInt]; decide
  have key : (BitVec.ofInt 64 (y : Int) ^^^ BitVec.ofInt 64 (9223372036854775808 : Int)).toNat = (y + 9223372036854775808) % 18446744073709551616 := by
    rw [BitVec.toNat_xor, e1, e2]
    rcases Nat.lt_or_ge y (2 ^ 63) with hy | hy
    · rw [xor_pow y hy]; omega
    · obtain ⟨z, rfl⟩ : ∃ z, y = z + 2 ^ 63 := ⟨y - 2 ^ 63, by omega⟩
      have hz : z < 2 ^ 63 := by omega
      rw [← xor_pow z hz, Nat.xor_assoc, Nat.xor_self, Nat.xor_zero, xor_pow z hz]
      omega
  show IntKind.u64.wrap ((BitVec.ofInt 64 (y : Int) ^^^ BitVec.ofInt 64 (9223372036854775808 : Int)).toNat : Nat) = _
  rw [key, u64w]
  omega
end Go.Ux
