/- PART OF THE PROOF THAT TreeSeeksSaid HOLDS OF THE GIVEN PROGRAM, FOR EVERY INPUT THAT THE STATEMENT NAMES. No condition besides the statement's own. -/
import Derived.Test.YtdfgpminonpeaaaUxKeysZ
/- A script, played upon a list in order. -/
namespace Go.Ux
open Go

/-- one call of a script: its kind, its row, its key -/
abbrev Act3 := Int × Int × ByteArray
def play1 (l : List Ent) (o : Act3) : List Ent := if o.1 = 1 then del o.2.2 l else if o.1 = 2 then l else ins o.2.2 o.2.1 l
def playN (ops : List Act3) : Nat → List Ent
  | 0 => []
  | i + 1 => play1 (playN ops i) (ops.getD i (0, 0, ⟨#[]⟩))

theorem del_length_le {k : ByteArray} {l : List Ent} : (del k l).length ≤ l.length := by
  cases h : has (keys l) k with
  | true => have := del_len_has h; omega
  | false => rw [del_not h]; exact Nat.le_refl _
theorem play1_length (l : List Ent) (o : Act3) : (play1 l o).length ≤ l.length + 1 := by
  unfold play1
  split
  · have := del_length_le (k := o.2.2) (l := l); omega
  · split
    · omega
    · exact (ins_length (k := o.2.2) (v := o.2.1) (l := l)).2
theorem playN_length (ops : List Act3) : ∀ i, (playN ops i).length ≤ i
  | 0 => Nat.le_refl _
  | i + 1 => by
    have h1 := playN_length ops i
    have h2 := play1_length (playN ops i) (ops.getD i (0, 0, ⟨#[]⟩))
    simp only [playN]
    omega
theorem playN_up (ops : List Act3) : ∀ i, Up (playN ops i)
  | 0 => List.Pairwise.nil
  | i + 1 => by
    have h := playN_up ops i
    simp only [playN, play1]
    split
    · exact up_del h
    · split
      · exact h
      · exact up_ins h
/-- what the list's own steps make -/
theorem del_is {k : ByteArray} {l : List Ent} (h : has (keys l) k = true) : del k l = l.take (lb (keys l) k) ++ l.drop (lb (keys l) k + 1) := by unfold del; rw [if_pos h]
theorem ins_is {k : ByteArray} {v : Int} {l : List Ent} (h : has (keys l) k = true) : ins k v l = (l.take (lb (keys l) k) ++ [(k, v)]) ++ l.drop (lb (keys l) k + 1) := by unfold ins; rw [if_pos h]; simp
theorem ins_isnt {k : ByteArray} {v : Int} {l : List Ent} (h : has (keys l) k = false) : ins k v l = (l.take (lb (keys l) k) ++ [(k, v)]) ++ l.drop (lb (keys l) k) := by unfold ins; rw [if_neg (by rw [h]; exact Bool.false_ne_true)]; simp
theorem has_lt {k : ByteArray} {l : List Ent} (h : has (keys l) k = true) : lb (keys l) k < l.length := by
  have h' := h
  unfold has at h'
  rw [decide_eq_true_iff, getElem?_keys] at h'
  rcases Nat.lt_or_ge (lb (keys l) k) l.length with h1 | h1
  · exact h1
  · rw [List.getElem?_eq_none h1] at h'; cases h'
end Go.Ux
