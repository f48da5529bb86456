/- PART OF THE PROOF THAT TreeSeeksSaid HOLDS OF THE GIVEN PROGRAM, FOR EVERY INPUT THAT THE STATEMENT NAMES. No condition besides the statement's own. -/
import Derived.Test.YtdfgpminonpeaaaUxThrZ
/- Which keys a list has behind a put, behind a del. -/
namespace Go.Ux
open Go Go.RowKit

theorem keys_ins_set {k : ByteArray} {v : Int} {l : List Ent} (hu : Up l) (k' : ByteArray) : k' ∈ keys (ins k v l) ↔ k' = k ∨ k' ∈ keys l := by
  cases h : has (keys l) k with
  | true =>
    have h1 := (has_iff hu.rises k).1 h
    have h2 : keys (ins k v l) = keys l := by
      have := ins_keys (v := v) h
      have e : (keys (ins k v l)).map Value.string = (keys l).map Value.string := by
        unfold keys
        rw [List.map_map, List.map_map]
        exact this
      exact (List.map_inj_right (fun a b h => by cases h; rfl)).1 e
    rw [h2]
    constructor
    · exact .inr
    · rintro (rfl | h')
      · exact h1
      · exact h'
  | false =>
    have hsp : l = l.take (lb (keys l) k) ++ l.drop (lb (keys l) k) := (List.take_append_drop _ _).symm
    have : keys (ins k v l) = keys (l.take (lb (keys l) k)) ++ k :: keys (l.drop (lb (keys l) k)) := by
      rw [ins_not h]
      simp [keys]
    have h3 : ∀ p, k' ∈ keys l ↔ k' ∈ keys (l.take p) ∨ k' ∈ keys (l.drop p) := fun p => by
      rw [← List.mem_append, ← keys_append, List.take_append_drop]
    rw [this, h3 (lb (keys l) k)]
    simp only [List.mem_append, List.mem_cons]
    constructor
    · rintro (h | h | h)
      · exact .inr (.inl h)
      · exact .inl h
      · exact .inr (.inr h)
    · rintro (h | h | h)
      · exact .inr (.inl h)
      · exact .inl h
      · exact .inr (.inr h)

theorem del_has {k : ByteArray} {l : List Ent} (h : has (keys l) k = true) : ∃ p, l[lb (keys l) k]? = some p ∧ p.1 = k ∧ del k l = l.take (lb (keys l) k) ++ l.drop (lb (keys l) k + 1) := by
  have h' := h
  unfold has at h'
  rw [decide_eq_true_iff, getElem?_keys] at h'
  cases e : l[lb (keys l) k]? with
  | none => rw [e] at h'; cases h'
  | some p =>
    rw [e] at h'
    simp at h'
    refine ⟨p, rfl, h', ?_⟩
    unfold del
    rw [if_pos h]
theorem del_not {k : ByteArray} {l : List Ent} (h : has (keys l) k = false) : del k l = l := by
  unfold del
  rw [if_neg (by rw [h]; exact Bool.false_ne_true)]

theorem keys_del_set {k : ByteArray} {l : List Ent} (hu : Up l) (k' : ByteArray) : k' ∈ keys (del k l) ↔ k' ≠ k ∧ k' ∈ keys l := by
  cases h : has (keys l) k with
  | false =>
    rw [del_not h]
    have h1 : ¬ k ∈ keys l := fun hm => by rw [(has_iff hu.rises k).2 hm] at h; cases h
    exact ⟨fun hm => ⟨fun e => h1 (e ▸ hm), hm⟩, fun hm => hm.2⟩
  | true =>
    obtain ⟨p, hp, hpk, hd⟩ := del_has h
    obtain ⟨A, B, hA, rfl⟩ : ∃ A B, A.length = lb (keys l) k ∧ l = A ++ p :: B := ⟨l.take (lb (keys l) k), l.drop (lb (keys l) k + 1), by simp; have := (List.getElem?_eq_some_iff.1 hp).1; omega, split_at hp⟩
    have e : del k (A ++ p :: B) = A ++ B := by
      rw [hd, ← hA, List.take_left]
      congr 1
      rw [List.drop_append, List.drop_eq_nil_of_le (by omega), show A.length + 1 - A.length = 1 by omega]
      rfl
    rw [e]
    have hr := hu.rises
    unfold Rises at hr
    rw [keys_append, List.pairwise_append] at hr
    have hr2 := List.pairwise_cons.1 (show (p.1 :: keys B).Pairwise _ from hr.2.1)
    have hnA : k ∉ keys A := fun hm => by
      have := hr.2.2 k hm p.1 (by simp [keys])
      rw [hpk, slt_irrefl] at this
      cases this
    have hnB : k ∉ keys B := fun hm => by
      have := hr2.1 k hm
      rw [hpk, slt_irrefl] at this
      cases this
    rw [keys_append, keys_append, List.mem_append, List.mem_append]
    constructor
    · rintro (h | h)
      · exact ⟨fun e => hnA (e ▸ h), .inl h⟩
      · exact ⟨fun e => hnB (e ▸ h), .inr (List.mem_map.2 (by obtain ⟨q, hq, rfl⟩ := List.mem_map.1 h; exact ⟨q, by simp [hq], rfl⟩))⟩
    · rintro ⟨hne, h | h⟩
      · exact .inl h
      · obtain ⟨q, hq, rfl⟩ := List.mem_map.1 h
        rcases List.mem_cons.1 hq with rfl | hq
        · exact absurd hpk hne
        · exact .inr (List.mem_map.2 ⟨q, hq, rfl⟩)

theorem has_ins {k : ByteArray} {v : Int} {l : List Ent} (hu : Up l) (k' : ByteArray) : has (keys (ins k v l)) k' = (decide (k' = k) || has (keys l) k') := by
  rw [Bool.eq_iff_iff, has_iff (up_ins hu).rises, keys_ins_set hu, Bool.or_eq_true, decide_eq_true_iff, has_iff hu.rises]
theorem has_del {k : ByteArray} {l : List Ent} (hu : Up l) (k' : ByteArray) : has (keys (del k l)) k' = (!decide (k' = k) && has (keys l) k') := by
  rw [Bool.eq_iff_iff, has_iff (up_del hu).rises, keys_del_set hu, Bool.and_eq_true, has_iff hu.rises]
  simp
theorem del_len_has {k : ByteArray} {l : List Ent} (h : has (keys l) k = true) : (del k l).length + 1 = l.length := by
  obtain ⟨p, hp, _, hd⟩ := del_has h
  have := (List.getElem?_eq_some_iff.1 hp).1
  rw [hd]
  simp only [List.length_append, List.length_take, List.length_drop]
  omega

/-- of marks that are not all set one stands somewhere behind any place, going round -/
theorem round_some {n : Nat} {m : Nat → Bool} (b : Bool) (h : ∃ j, j < n ∧ m j = b) (at_ : Nat) : ∃ s, s < n ∧ m ((at_ + s) % n) = b := by
  obtain ⟨j, hj, hm⟩ := h
  refine ⟨(j + n - at_ % n) % n, Nat.mod_lt _ (by omega), ?_⟩
  have h1 : at_ % n < n := Nat.mod_lt _ (by omega)
  have : (at_ + (j + n - at_ % n) % n) % n = j := by
    rw [Nat.add_mod, Nat.mod_mod, ← Nat.add_mod]
    have e : at_ + (j + n - at_ % n) = n * (at_ / n) + (j + n) := by have := Nat.div_add_mod at_ n; omega
    rw [e, Nat.mul_add_mod, Nat.add_mod_right, Nat.mod_eq_of_lt hj]
  rw [this, hm]
end Go.Ux
