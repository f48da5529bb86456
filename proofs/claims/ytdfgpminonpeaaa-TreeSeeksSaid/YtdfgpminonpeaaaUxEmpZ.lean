/- PART OF THE PROOF THAT TreeSeeksSaid HOLDS OF THE GIVEN PROGRAM, FOR EVERY INPUT THAT THE STATEMENT NAMES. No condition besides the statement's own. -/
import Derived.Test.YtdfgpminonpeaaaUxKeysZ
/- Marks: which of the keys are in a list. -/
namespace Go.Ux
open Go Go.RowKit

/-- the i-th key -/
def ky (i : Nat) : ByteArray := ⟨#[UInt8.ofNat (i * 7 / 16), UInt8.ofNat i, 107]⟩

theorem ky_inj {i j : Nat} (hi : i < 256) (hj : j < 256) (h : ky i = ky j) : i = j := by
  have h2 : (ky i).data[1]? = (ky j).data[1]? := by rw [h]
  simp only [ky, List.getElem?_toArray, List.getElem?_cons_succ, List.getElem?_cons_zero, Option.some.injEq] at h2
  have h3 := congrArg UInt8.toNat h2
  simp at h3
  omega

/-- which keys are in l -/
def Marks (l : List Ent) (xs : List Bool) : Prop := l.length = xs.count true ∧ ∀ j b, xs[j]? = some b → has (keys l) (ky j) = b

theorem Marks.none (n : Nat) : Marks [] (List.replicate n false) := by
  refine ⟨by simp [List.count_replicate], fun j b h => ?_⟩
  rw [List.getElem?_replicate] at h
  split at h
  · cases h; rfl
  · cases h

theorem Marks.put {l : List Ent} {xs : List Bool} {j : Nat} (h : Marks l xs) (hu : Up l) (hj : xs[j]? = some false) (hn : xs.length ≤ 256) (v : Int) : Marks (ins (ky j) v l) (xs.set j true) := by
  obtain ⟨h1, h2⟩ := h
  have hjl := (List.getElem?_eq_some_iff.1 hj).1
  have hj0 := (List.getElem?_eq_some_iff.1 hj).2
  refine ⟨?_, fun i b hi => ?_⟩
  · rw [ins_len_not (h2 j false hj), h1, List.count_set hjl, hj0]
    simp
  · have hil : i < xs.length := by have := (List.getElem?_eq_some_iff.1 hi).1; simpa using this
    rw [has_ins hu]
    rw [List.getElem?_set] at hi
    split at hi
    · rename_i e
      subst e
      cases hi
      simp
    · rename_i e
      rw [h2 i b hi]
      have : ky i ≠ ky j := fun e' => e (ky_inj (by omega) (by omega) e').symm
      simp [this]

theorem Marks.del {l : List Ent} {xs : List Bool} {j : Nat} (h : Marks l xs) (hu : Up l) (hj : xs[j]? = some true) (hn : xs.length ≤ 256) : Marks (del (ky j) l) (xs.set j false) := by
  obtain ⟨h1, h2⟩ := h
  have hjl := (List.getElem?_eq_some_iff.1 hj).1
  have hj0 := (List.getElem?_eq_some_iff.1 hj).2
  refine ⟨?_, fun i b hi => ?_⟩
  · have := del_len_has (h2 j true hj)
    rw [List.count_set hjl, hj0, ← h1]
    simp
    omega
  · have hil : i < xs.length := by have := (List.getElem?_eq_some_iff.1 hi).1; simpa using this
    rw [has_del hu]
    rw [List.getElem?_set] at hi
    split at hi
    · rename_i e
      subst e
      cases hi
      simp
    · rename_i e
      rw [h2 i b hi]
      have : ky i ≠ ky j := fun e' => e (ky_inj (by omega) (by omega) e').symm
      simp [this]

/-- of marks of which not all are b one that is not b stands somewhere behind any place, going round -/
theorem marks_round {xs : List Bool} {b : Bool} (h : xs.count b < xs.length) (at_ : Nat) : ∃ s, s < xs.length ∧ xs[(at_ + s) % xs.length]? = some (!b) := by
  have h1 : ∃ j, j < xs.length ∧ xs[j]? = some (!b) := by
    by_cases hx : ∃ j, j < xs.length ∧ xs[j]? = some (!b)
    · exact hx
    · exfalso
      have : xs.count b = xs.length := by
        rw [List.count_eq_length]
        intro c hc
        obtain ⟨j, hj, rfl⟩ := List.getElem_of_mem hc
        cases hb : (b == xs[j]) with
        | true => exact eq_of_beq hb
        | false =>
          exfalso
          apply hx
          refine ⟨j, hj, ?_⟩
          rw [List.getElem?_eq_getElem hj]
          congr 1
          revert hb
          cases xs[j] <;> cases b <;> simp
      omega
  obtain ⟨j, hj, hm⟩ := h1
  have := round_some (n := xs.length) (m := fun j => xs[j]? == some (!b)) true ⟨j, hj, by simp [hm]⟩ at_
  obtain ⟨s, hs, hs2⟩ := this
  exact ⟨s, hs, by simpa using hs2⟩

theorem count_split (xs : List Bool) : xs.count true + xs.count false = xs.length := by
  induction xs with
  | nil => rfl
  | cons x xs ih => cases x <;> simp <;> omega
end Go.Ux
namespace Go.Ux
open Go Go.RowKit
theorem i64_and7 (n : Int) : bits .and .i64 n 7 = n % 8 := by
  have h127 : (BitVec.ofInt 64 7).toNat = 2 ^ 3 - 1 := by decide
  have key : (BitVec.ofInt 64 n &&& BitVec.ofInt 64 7).toNat = (n % ((2 ^ 64 : Nat) : Int)).toNat % 2 ^ 3 := by
    rw [BitVec.toNat_and, BitVec.toNat_ofInt, h127, Nat.and_two_pow_sub_one_eq_mod]
  show IntKind.i64.wrap ((BitVec.ofInt 64 n &&& BitVec.ofInt 64 7).toNat : Nat) = n % 8
  rw [key, IntKind.wrap_i64]
  omega
theorem many_of (n : Int) : ∃ (m : Int) (Z : Nat), bits .and .i64 n 65535 = m ∧ 0 ≤ m ∧ m ≤ 65535 ∧ m % 200 + 1 = Z ∧ 1 ≤ Z ∧ Z ≤ 200 :=
  ⟨n % 65536, (n % 65536 % 200 + 1).toNat, i64_and65535 n, by omega, by omega, by omega, by omega, by omega⟩
def stepsL : List Nat := [1, 3, 7, 11, 13, 17, 19, 23]
theorem step_of (n : Int) : ∃ (i p : Nat), bits .and .i64 n 7 = (i : Int) ∧ i < 8 ∧ stepsL[i]? = some p ∧ 1 ≤ p ∧ p ≤ 23 := by
  have h : ∀ i, i < 8 → ∃ p, stepsL[i]? = some p ∧ 1 ≤ p ∧ p ≤ 23 := by decide
  obtain ⟨p, h1, h2, h3⟩ := h (n % 8).toNat (by omega)
  exact ⟨(n % 8).toNat, p, by rw [i64_and7]; omega, by omega, h1, h2, h3⟩
theorem made_false (n : Nat) : madeCells #[Value.bool false] (n * 1) = ((List.replicate n false).map Value.bool).toArray := by
  rw [Nat.mul_one, List.map_replicate]
  apply Array.ext
  · simp [size_madeCells]
  · intro i h1 h2
    simp [madeCells, Nat.mod_one]
end Go.Ux
