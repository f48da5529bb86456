/- PART OF THE PROOF THAT TreeSeeksSaid HOLDS OF THE GIVEN PROGRAM, FOR EVERY INPUT THAT THE STATEMENT NAMES. No condition besides the statement's own. -/
import Derived.Test.YtdfgpminonpeaaaUxTree3Z
/- A cell of a row written anew; what a leaf's put does to its rows. -/
namespace Go.Ux
open Go Go.RowKit

theorem own_set {w : World} {e : TypeId} {g n c i : Nat} {xs : List Value} (h : w.ownsRow 0 e 1 (.slice (some ⟨g, 0, none⟩) n c) n xs) (hi : i < n) (u : Value) : (w.setCell ⟨g, i, none⟩ u).ownsRow 0 e 1 (.slice (some ⟨g, 0, none⟩) n c) n (xs.set i u) := by
  obtain ⟨h1, h2⟩ := h
  refine ⟨by simpa using h1, .inr ?_⟩
  rcases h2 with ⟨hv, _⟩ | ⟨g', cap, cur, hv, hb, hh, h3, h4, h5, h6⟩
  · cases hv
  · cases hv
    have := heap_setCell_same w g i cur e u hh
    refine ⟨g, c, _, rfl, hb, this, h3, h4, ?_, ?_⟩
    · simpa using h5
    · rw [Nat.mul_one] at h6 ⊢
      rw [← h6]
      simp [List.take_set]

theorem ins_has {k : ByteArray} {v : Int} {l : List Ent} (h : has (keys l) k = true) : lb (keys l) k < l.length ∧ ins k v l = l.set (lb (keys l) k) (k, v) ∧ (l[lb (keys l) k]?).map (·.1) = some k := by
  have h' := h
  unfold has at h'
  rw [decide_eq_true_iff] at h'
  have hl := (List.getElem?_eq_some_iff.1 h').1
  rw [keys_length] at hl
  refine ⟨hl, ?_, by rw [← getElem?_keys]; exact h'⟩
  unfold ins
  rw [if_pos h, List.set_eq_take_append_cons_drop, if_pos hl]
theorem ins_not {k : ByteArray} {v : Int} {l : List Ent} (h : has (keys l) k = false) : ins k v l = l.take (lb (keys l) k) ++ (k, v) :: l.drop (lb (keys l) k) := by
  unfold ins
  rw [if_neg (by rw [h]; exact Bool.false_ne_true)]
theorem ins_keys {k : ByteArray} {v : Int} {l : List Ent} (h : has (keys l) k = true) : (ins k v l).map (fun p => Value.string p.1) = l.map fun p => Value.string p.1 := by
  obtain ⟨h1, h2, h3⟩ := ins_has (v := v) h
  rw [h2, List.map_set]
  apply List.ext_getElem?
  intro j
  rw [List.getElem?_set]
  split
  · rename_i hj
    subst hj
    rw [if_pos (by simpa using h1), List.getElem?_map]
    cases e : l[lb (keys l) k]? with
    | none => rw [e] at h3; cases h3
    | some p => rw [e] at h3; simp at h3 ⊢; exact h3.symm
  · rfl
end Go.Ux
namespace Go.Ux
open Go Go.RowKit

/-- blocks in the place of others: old ones of theirs, or new ones -/
theorem fp_swap {pre post fc fc' : List Nat} {N : Nat} (h : (pre ++ (fc ++ post)).Nodup) (hlt : ∀ b ∈ pre ++ (fc ++ post), b < N) (h' : fc'.Nodup) (hs : ∀ b ∈ fc', b ∈ fc ∨ N ≤ b) : (pre ++ (fc' ++ post)).Nodup := by
  obtain ⟨n1, n2, n3⟩ := List.nodup_append.1 h
  obtain ⟨n4, n5, n6⟩ := List.nodup_append.1 n2
  refine List.nodup_append.2 ⟨n1, List.nodup_append.2 ⟨h', n5, ?_⟩, ?_⟩
  · intro a ha b hb e
    subst e
    rcases hs a ha with h | h
    · exact n6 a h a hb rfl
    · have := hlt a (by simp [hb]); omega
  · intro a ha b hb e
    subst e
    rcases List.mem_append.1 hb with hb | hb
    · rcases hs a hb with h | h
      · exact n3 a ha a (by simp [h]) rfl
      · have := hlt a (by simp [ha]); omega
    · exact n3 a ha a (by simp [hb]) rfl

theorem back_small {fan : Nat} {ks : List ByteArray} {A B : List T} {c c' : T} (h : c'.size ≤ fan) : back fan ks (A ++ c :: B) A.length c' = .node ks (A ++ c' :: B) := by
  have eT : (A ++ c :: B).take A.length = A := List.take_left
  have eD : (A ++ c :: B).drop (A.length + 1) = B := by rw [List.drop_append, List.drop_eq_nil_of_le (by omega), show A.length + 1 - A.length = 1 by omega]; rfl
  unfold back
  rw [if_neg (by omega), eT, eD]
theorem back_big {fan : Nat} {ks : List ByteArray} {A B : List T} {c c' : T} (h : fan < c'.size) : back fan ks (A ++ c :: B) A.length c' = .node (ks.take A.length ++ halfK c' :: ks.drop A.length) (A ++ half1 c' :: half2 c' :: B) := by
  have eT : (A ++ c :: B).take A.length = A := List.take_left
  have eD : (A ++ c :: B).drop (A.length + 1) = B := by rw [List.drop_append, List.drop_eq_nil_of_le (by omega), show A.length + 1 - A.length = 1 by omega]; rfl
  unfold back
  rw [if_pos h, eT, eD]
theorem put_length {α : Type} {A B : List α} {c c' : α} : (A ++ c :: B).length = (A ++ c' :: B).length := by simp
end Go.Ux
namespace Go.Ux
open Go Go.RowKit
theorem ins_len_has {k : ByteArray} {v : Int} {l : List Ent} (h : has (keys l) k = true) : (ins k v l).length = l.length := by
  rw [(ins_has h).2.1, List.length_set]
theorem ins_len_not {k : ByteArray} {v : Int} {l : List Ent} (h : has (keys l) k = false) : (ins k v l).length = l.length + 1 := by
  have hl := lb_le (keys l) k
  rw [keys_length] at hl
  rw [ins_not h]
  simp only [List.length_append, List.length_take, List.length_cons, List.length_drop]; omega
end Go.Ux
