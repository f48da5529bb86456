/- PART OF THE PROOF THAT THIS CLAIM HOLDS OF THE GIVEN PROGRAM, FOR EVERY INPUT THAT THE STATEMENT NAMES. No condition besides the statement's own. -/
import Derived.RangeFuncKeeps
import Derived.RangeFuncLeaves
import Derived.RangeFuncCalls
import Derived.Shelf.Abstract
import Derived.OwnWalkIn
import Derived.TacticsInMore
import Derived.LoopIn
import Derived.Laws.BitsLemmas
import Derived.Test.YtdfgpminonpeaaaUxCurAllZ
/- What lies between two keys of a list in order. -/
namespace Go.Ux
open Go

def fits (hi : ByteArray) (op : Bool) (p : Ent) : Bool := op || slt p.1 hi
def wantOf (l : List Ent) (lo hi : ByteArray) (op : Bool) : List Ent := (l.drop (lb (keys l) lo)).takeWhile (fits hi op)

theorem takeWhile_stop {α : Type} {p : α → Bool} {l : List α} {j : Nat} (hj : j ≤ (l.takeWhile p).length) : (∀ x, l[j]? = some x → (p x = true ↔ j < (l.takeWhile p).length)) := by
  intro x hx
  induction l generalizing j with
  | nil => simp at hx
  | cons a l ih =>
    rw [List.takeWhile_cons] at hj ⊢
    cases ha : p a with
    | false =>
      simp only [ha, Bool.false_eq_true, if_false, List.length_nil] at hj ⊢
      obtain rfl : j = 0 := by omega
      simp at hx
      subst hx
      simp [ha]
    | true =>
      simp only [ha, if_true, List.length_cons] at hj ⊢
      cases j with
      | zero => simp at hx; subst hx; simp [ha]
      | succ j =>
        have := ih (j := j) (by omega) (by simpa using hx)
        rw [this]
        omega
theorem takeWhile_at {α : Type} {p : α → Bool} {l : List α} {j : Nat} (hj : j < (l.takeWhile p).length) : (l.takeWhile p)[j]? = l[j]? := by
  obtain ⟨t, ht⟩ := List.takeWhile_prefix (l := l) p
  rw [← ht, List.getElem?_append_left]
  · rw [ht]
  · exact hj
end Go.Ux
namespace Go.Ux
open Go Go.RowKit
/-- what is asked of a pair between two keys -/
def midOk (lo hi : ByteArray) (op : Bool) (p : Ent) : Bool := !slt p.1 lo && (op || slt p.1 hi)

theorem filter_none {α : Type} {f : α → Bool} {l : List α} (h : ∀ x ∈ l, f x = false) : l.filter f = [] := by
  rw [List.filter_eq_nil_iff]
  intro x hx
  rw [h x hx]
  exact Bool.false_ne_true
theorem filter_takeWhile {f : Ent → Bool} {l : List Ent} (hu : Up l) (hm : ∀ p q, slt p.1 q.1 = true → f p = false → f q = false) : l.filter f = l.takeWhile f := by
  induction l with
  | nil => rfl
  | cons a l ih =>
    have h1 := List.pairwise_cons.1 hu
    rw [List.filter_cons, List.takeWhile_cons]
    cases ha : f a with
    | true => simp only [if_true]; rw [ih h1.2]
    | false =>
      simp only [Bool.false_eq_true, if_false]
      exact filter_none fun x hx => hm a x (h1.1 x hx) ha
theorem want_is {l : List Ent} (hu : Up l) (lo hi : ByteArray) (op : Bool) : l.filter (midOk lo hi op) = wantOf l lo hi op := by
  have hsp : l = l.take (lb (keys l) lo) ++ l.drop (lb (keys l) lo) := (List.take_append_drop _ _).symm
  have hu' := hu
  rw [hsp] at hu'
  have hud := (List.pairwise_append.1 hu').2.1
  have h1 : (l.take (lb (keys l) lo)).filter (midOk lo hi op) = [] := filter_none fun x hx => by
    obtain ⟨i, hi'⟩ := List.getElem?_of_mem hx
    rw [List.getElem?_take] at hi'
    split at hi'
    · rename_i hlt
      have := lb_below (keys l) lo i x.1 (by rw [getElem?_keys, hi']; rfl) hlt
      unfold midOk; rw [this]; rfl
    · cases hi'
  have h2 : ∀ x ∈ l.drop (lb (keys l) lo), midOk lo hi op x = fits hi op x := fun x hx => by
    obtain ⟨i, hi'⟩ := List.getElem?_of_mem hx
    rw [List.getElem?_drop] at hi'
    have := lb_above hu.rises lo (lb (keys l) lo + i) x.1 (by rw [getElem?_keys, hi']; rfl) (by omega)
    unfold midOk fits; rw [this]; rfl
  have e : l.filter (midOk lo hi op) = (l.drop (lb (keys l) lo)).filter (midOk lo hi op) := by
    conv => lhs; rw [hsp, List.filter_append, h1, List.nil_append]
  rw [e, List.filter_congr h2]
  unfold wantOf
  refine filter_takeWhile hud fun p q hpq hp => ?_
  unfold fits at hp ⊢
  simp only [Bool.or_eq_false_iff] at hp ⊢
  refine ⟨hp.1, ?_⟩
  cases h : slt q.1 hi with
  | false => rfl
  | true => rw [slt_trans hpq h] at hp; exact absurd hp.2 (by simp)
theorem filter_step {f : Ent → Bool} {l : List Ent} {i : Nat} {p : Ent} (h : l[i]? = some p) : (l.take (i + 1)).filter f = (l.take i).filter f ++ if f p = true then [p] else [] := by
  rw [List.take_add_one, h, List.filter_append]
  simp [List.filter_cons]
theorem i64_and15 (n : Int) : bits .and .i64 n 15 = n % 16 := by
  have h127 : (BitVec.ofInt 64 15).toNat = 2 ^ 4 - 1 := by decide
  have key : (BitVec.ofInt 64 n &&& BitVec.ofInt 64 15).toNat = (n % ((2 ^ 64 : Nat) : Int)).toNat % 2 ^ 4 := by
    rw [BitVec.toNat_and, BitVec.toNat_ofInt, h127, Nat.and_two_pow_sub_one_eq_mod]
  show IntKind.i64.wrap ((BitVec.ofInt 64 n &&& BitVec.ofInt 64 15).toNat : Nat) = n % 16
  rw [key, IntKind.wrap_i64]
  omega
theorem few_of (n : Int) : ∃ k : Nat, bits .and .i64 n 15 = (k : Int) ∧ k < 16 := ⟨(n % 16).toNat, by rw [i64_and15]; omega, by omega⟩
end Go.Ux
