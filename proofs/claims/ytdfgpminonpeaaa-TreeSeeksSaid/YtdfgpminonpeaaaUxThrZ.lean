/- PART OF THE PROOF THAT TreeSeeksSaid HOLDS OF THE GIVEN PROGRAM, FOR EVERY INPUT THAT THE STATEMENT NAMES. No condition besides the statement's own. -/
import Derived.Test.YtdfgpminonpeaaaUxCur3Z
import Derived.Laws.BitsLemmas
/- Keys put one behind the other; what a number leaves below 65536. -/
namespace Go.Ux
open Go Go.RowKit

theorem i64_and65535 (n : Int) : bits .and .i64 n 65535 = n % 65536 := by
  have h127 : (BitVec.ofInt 64 65535).toNat = 2 ^ 16 - 1 := by decide
  have key : (BitVec.ofInt 64 n &&& BitVec.ofInt 64 65535).toNat = (n % ((2 ^ 64 : Nat) : Int)).toNat % 2 ^ 16 := by
    rw [BitVec.toNat_and, BitVec.toNat_ofInt, h127, Nat.and_two_pow_sub_one_eq_mod]
  show IntKind.i64.wrap ((BitVec.ofInt 64 n &&& BitVec.ofInt 64 65535).toNat : Nat) = n % 65536
  rw [key, IntKind.wrap_i64]
  omega

/-- a fan out of any number -/
theorem fan_of (n : Int) : ∃ (m : Int) (F : Nat), bits .and .i64 n 65535 = m ∧ 0 ≤ m ∧ m ≤ 65535 ∧ m % 61 + 4 = F ∧ 4 ≤ F ∧ F ≤ 64 :=
  ⟨n % 65536, (n % 65536 % 61 + 4).toNat, i64_and65535 n, by omega, by omega, by omega, by omega, by omega⟩

/-- the first i keys put, each with its place as its row -/
def putAll (ss : List ByteArray) : Nat → List Ent
  | 0 => []
  | i + 1 => ins (ss.getD i ⟨#[]⟩) i (putAll ss i)

theorem putAll_rows {ss : List ByteArray} : ∀ {i : Nat} {p : Ent}, p ∈ putAll ss i → ∃ j, j < i ∧ p.2 = (j : Int) ∧ ss.getD j ⟨#[]⟩ = p.1
  | i + 1, p, h => by
    rcases mem_ins h with h | rfl
    · obtain ⟨j, h1, h2, h3⟩ := putAll_rows h
      exact ⟨j, by omega, h2, h3⟩
    · exact ⟨i, by omega, rfl, rfl⟩
theorem putAll_length (ss : List ByteArray) : ∀ i, (putAll ss i).length ≤ i
  | 0 => Nat.le_refl _
  | i + 1 => by
    have := putAll_length ss i
    have h := (ins_length (k := ss.getD i ⟨#[]⟩) (v := (i : Int)) (l := putAll ss i)).2
    simp only [putAll]
    omega

theorem lb_self {ks : List ByteArray} (hs : Rises ks) {i : Nat} {x : ByteArray} (h : ks[i]? = some x) : lb ks x = i := by
  have hi := (List.getElem?_eq_some_iff.1 h).1
  refine lb_unique (by omega) (fun j y hy hj => ?_) (fun y hy => ?_)
  · have := List.pairwise_iff_getElem.1 hs j i (List.getElem?_eq_some_iff.1 hy).1 hi hj
    rw [(List.getElem?_eq_some_iff.1 hy).2, (List.getElem?_eq_some_iff.1 h).2] at this
    exact this
  · rw [h] at hy
    cases hy
    exact slt_irrefl _
theorem has_self {ks : List ByteArray} (hs : Rises ks) {i : Nat} {x : ByteArray} (h : ks[i]? = some x) : has ks x = true := by
  unfold has
  rw [lb_self hs h, h]
  simp
theorem slt_empty (x : ByteArray) : slt x ⟨#[]⟩ = false := by
  cases h : slt x ⟨#[]⟩ with
  | false => rfl
  | true =>
    rw [slt_iff] at h
    have e : (⟨#[]⟩ : ByteArray).toList = [] := by rw [Lib.toList_data]
    rw [e] at h
    exact absurd h (List.not_lt_nil _)
theorem lb_empty (ks : List ByteArray) : lb ks ⟨#[]⟩ = 0 := by
  cases ks with
  | nil => rfl
  | cons a l => unfold lb; rw [List.takeWhile_cons, slt_empty]; rfl
theorem up_at {l : List Ent} (hu : Up l) {i j : Nat} {p q : Ent} (hp : l[i]? = some p) (hq : l[j]? = some q) (h : i < j) : slt p.1 q.1 = true := by
  have := List.pairwise_iff_getElem.1 hu i j (List.getElem?_eq_some_iff.1 hp).1 (List.getElem?_eq_some_iff.1 hq).1 h
  rwa [(List.getElem?_eq_some_iff.1 hp).2, (List.getElem?_eq_some_iff.1 hq).2] at this
end Go.Ux
