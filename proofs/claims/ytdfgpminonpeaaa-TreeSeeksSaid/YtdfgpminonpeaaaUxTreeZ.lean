/- PART OF THE PROOF THAT TreeSeeksSaid HOLDS OF THE GIVEN PROGRAM, FOR EVERY INPUT THAT THE STATEMENT NAMES. No condition besides the statement's own. -/
import Derived.Test.YtdfgpminonpeaaaUxTreeRepZ
/- Trees of keys, the plain law: what put and del make of a tree is what they make of a list in order. -/
namespace Go.Ux
open Go

abbrev Ent := ByteArray × Int

mutual
def flat : T → List Ent
  | .leaf l => l
  | .node _ cs => flats cs
def flats : List T → List Ent
  | [] => []
  | t :: ts => flat t ++ flats ts
end

theorem flats_append (A B : List T) : flats (A ++ B) = flats A ++ flats B := by
  induction A with
  | nil => rfl
  | cons t A ih => simp only [List.cons_append, flats, ih, List.append_assoc]
theorem flats_cons (t : T) (B : List T) : flats (t :: B) = flat t ++ flats B := rfl
theorem flats_at (A B : List T) (c : T) : flats (A ++ c :: B) = flats A ++ (flat c ++ flats B) := by rw [flats_append]; rfl
theorem mem_flats {p : Ent} {cs : List T} : p ∈ flats cs ↔ ∃ (j : Nat) (c : T), cs[j]? = some c ∧ p ∈ flat c := by
  induction cs with
  | nil => simp [flats]
  | cons t ts ih =>
    rw [flats_cons, List.mem_append, ih]
    constructor
    · rintro (h | ⟨j, c, hc, hp⟩)
      · exact ⟨0, t, rfl, h⟩
      · exact ⟨j + 1, c, by simpa using hc, hp⟩
    · rintro ⟨j, c, hc, hp⟩
      cases j with
      | zero => simp at hc; subst hc; exact .inl hp
      | succ j => exact .inr ⟨j, c, by simpa using hc, hp⟩

/-- all keys below one; none below it -/
def AllLt (l : List Ent) (s : ByteArray) : Prop := ∀ p ∈ l, slt p.1 s = true
def AllGe (l : List Ent) (s : ByteArray) : Prop := ∀ p ∈ l, slt p.1 s = false
def Up (l : List Ent) : Prop := l.Pairwise fun p q => slt p.1 q.1 = true

/-- each key between two trees parts what is ahead of it from what is behind it -/
def Sep (ks : List ByteArray) (cs : List T) : Prop := ∀ (i : Nat) (s : ByteArray) (j : Nat) (c : T), ks[i]? = some s → cs[j]? = some c → (j ≤ i → AllLt (flat c) s) ∧ (i < j → AllGe (flat c) s)

/-- all nodes below the root have what they should; d: how many nodes stand on one another -/
def Good (fan : Nat) : Nat → T → Prop
  | 0, t => ∃ l, t = .leaf l
  | d + 1, t => ∃ ks cs, t = .node ks cs ∧ cs.length = ks.length + 1 ∧ Sep ks cs ∧ ∀ c ∈ cs, Good fan d c ∧ fan / 2 ≤ c.size ∧ c.size ≤ fan

/-! ### lists in order -/
def keys (l : List Ent) : List ByteArray := l.map (·.1)
theorem Up.rises {l : List Ent} (h : Up l) : Rises (keys l) := by unfold Rises keys; rw [List.pairwise_map]; exact h

/-- put, and take away -/
def ins (k : ByteArray) (v : Int) (l : List Ent) : List Ent := if has (keys l) k = true then l.take (lb (keys l) k) ++ (k, v) :: l.drop (lb (keys l) k + 1) else l.take (lb (keys l) k) ++ (k, v) :: l.drop (lb (keys l) k)
def del (k : ByteArray) (l : List Ent) : List Ent := if has (keys l) k = true then l.take (lb (keys l) k) ++ l.drop (lb (keys l) k + 1) else l

theorem keys_append (A B : List Ent) : keys (A ++ B) = keys A ++ keys B := List.map_append
theorem keys_length (A : List Ent) : (keys A).length = A.length := List.length_map _
theorem mem_keys {A : List Ent} {x : ByteArray} (h : x ∈ keys A) : ∃ p ∈ A, p.1 = x := by
  obtain ⟨p, hp, rfl⟩ := List.mem_map.1 h
  exact ⟨p, hp, rfl⟩

theorem lb_append {A B : List ByteArray} {k : ByteArray} (h : ∀ x ∈ A, slt x k = true) : lb (A ++ B) k = A.length + lb B k := by
  induction A with
  | nil => simp
  | cons a A ih =>
    have ha := h a (by simp)
    have := ih (fun x hx => h x (by simp [hx]))
    unfold lb at this ⊢
    rw [List.cons_append, List.takeWhile_cons]
    simp only [ha, if_true, List.length_cons, this]
    omega
theorem lb_right {C B : List ByteArray} {k : ByteArray} (h : ∀ x ∈ B, slt x k = false) : lb (C ++ B) k = lb C k := by
  induction C with
  | nil =>
    cases B with
    | nil => rfl
    | cons b B => unfold lb; rw [List.nil_append, List.takeWhile_cons]; simp [h b (by simp)]
  | cons a C ih =>
    unfold lb at ih ⊢
    rw [List.cons_append, List.takeWhile_cons, List.takeWhile_cons]
    cases slt a k with
    | true => simp only [if_true, List.length_cons, ih]
    | false => rfl
theorem has_left {A C : List ByteArray} {k : ByteArray} (h : ∀ x ∈ A, slt x k = true) : has (A ++ C) k = has C k := by
  unfold has
  rw [lb_append h, List.getElem?_append_right (by omega), Nat.add_sub_cancel_left]
theorem has_right {C B : List ByteArray} {k : ByteArray} (h : ∀ x ∈ B, slt k x = true) : has (C ++ B) k = has C k := by
  unfold has
  rw [lb_right (fun x hx => slt_asymm (h x hx))]
  have hl := lb_le C k
  rcases Nat.lt_or_ge (lb C k) C.length with h' | h'
  · rw [List.getElem?_append_left h']
  · have e : lb C k = C.length := by omega
    have hC : C[C.length]? = none := List.getElem?_eq_none (Nat.le_refl _)
    rw [e, List.getElem?_append_right (Nat.le_refl _), Nat.sub_self, hC]
    cases B with
    | nil => rfl
    | cons b B =>
      have hb := h b (by simp)
      simp
      intro e'
      rw [e', slt_irrefl] at hb
      cases hb

theorem ins_left {A C : List Ent} {k : ByteArray} {v : Int} (h : AllLt A k) : ins k v (A ++ C) = A ++ ins k v C := by
  have hA : ∀ x ∈ keys A, slt x k = true := fun x hx => by obtain ⟨p, hp, rfl⟩ := mem_keys hx; exact h p hp
  have e1 : (keys A).length = A.length := keys_length A
  unfold ins
  rw [keys_append, has_left hA, lb_append hA, e1]
  have t : ∀ n, (A ++ C).take (A.length + n) = A ++ C.take n := fun n => by rw [List.take_length_add_append]
  have d : ∀ n, (A ++ C).drop (A.length + n) = C.drop n := fun n => by rw [List.drop_length_add_append]
  rw [Nat.add_assoc, t, d, d]
  split <;> rw [List.append_assoc]
theorem ins_right {C B : List Ent} {k : ByteArray} {v : Int} (h : ∀ p ∈ B, slt k p.1 = true) : ins k v (C ++ B) = ins k v C ++ B := by
  have hB : ∀ x ∈ keys B, slt k x = true := fun x hx => by obtain ⟨p, hp, rfl⟩ := mem_keys hx; exact h p hp
  have hl := lb_le (keys C) k
  rw [keys_length] at hl
  unfold ins
  rw [keys_append, has_right hB, lb_right (fun x hx => slt_asymm (hB x hx))]
  split
  · rename_i hh
    have hlt : lb (keys C) k < C.length := by
      unfold has at hh
      rw [decide_eq_true_iff] at hh
      have := (List.getElem?_eq_some_iff.1 hh).1
      rwa [keys_length] at this
    rw [List.take_append_of_le_length hl, List.drop_append_of_le_length (by omega)]
    simp
  · rw [List.take_append_of_le_length hl, List.drop_append_of_le_length hl]
    simp
theorem ins_mid {A C B : List Ent} {k : ByteArray} {v : Int} (hA : AllLt A k) (hB : ∀ p ∈ B, slt k p.1 = true) : ins k v (A ++ (C ++ B)) = A ++ (ins k v C ++ B) := by
  rw [ins_left hA, ins_right hB]

theorem del_left {A C : List Ent} {k : ByteArray} (h : AllLt A k) : del k (A ++ C) = A ++ del k C := by
  have hA : ∀ x ∈ keys A, slt x k = true := fun x hx => by obtain ⟨p, hp, rfl⟩ := mem_keys hx; exact h p hp
  have e1 : (keys A).length = A.length := keys_length A
  unfold del
  rw [keys_append, has_left hA, lb_append hA, e1]
  have t : ∀ n, (A ++ C).take (A.length + n) = A ++ C.take n := fun n => by rw [List.take_length_add_append]
  have d : ∀ n, (A ++ C).drop (A.length + n) = C.drop n := fun n => by rw [List.drop_length_add_append]
  rw [Nat.add_assoc, t, d]
  split
  · rw [List.append_assoc]
  · rfl
theorem del_right {C B : List Ent} {k : ByteArray} (h : ∀ p ∈ B, slt k p.1 = true) : del k (C ++ B) = del k C ++ B := by
  have hB : ∀ x ∈ keys B, slt k x = true := fun x hx => by obtain ⟨p, hp, rfl⟩ := mem_keys hx; exact h p hp
  have hl := lb_le (keys C) k
  rw [keys_length] at hl
  unfold del
  rw [keys_append, has_right hB, lb_right (fun x hx => slt_asymm (hB x hx))]
  split
  · rename_i hh
    have hlt : lb (keys C) k < C.length := by
      unfold has at hh
      rw [decide_eq_true_iff] at hh
      have := (List.getElem?_eq_some_iff.1 hh).1
      rwa [keys_length] at this
    rw [List.take_append_of_le_length hl, List.drop_append_of_le_length (by omega)]
    simp
  · rfl
theorem del_mid {A C B : List Ent} {k : ByteArray} (hA : AllLt A k) (hB : ∀ p ∈ B, slt k p.1 = true) : del k (A ++ (C ++ B)) = A ++ (del k C ++ B) := by
  rw [del_left hA, del_right hB]

theorem mem_ins {k : ByteArray} {v : Int} {l : List Ent} {p : Ent} (h : p ∈ ins k v l) : p ∈ l ∨ p = (k, v) := by
  unfold ins at h
  split at h <;> simp only [List.mem_append, List.mem_cons] at h <;> rcases h with h | h | h
  · exact .inl (List.mem_of_mem_take h)
  · exact .inr h
  · exact .inl (List.mem_of_mem_drop h)
  · exact .inl (List.mem_of_mem_take h)
  · exact .inr h
  · exact .inl (List.mem_of_mem_drop h)
theorem mem_del {k : ByteArray} {l : List Ent} {p : Ent} (h : p ∈ del k l) : p ∈ l := by
  unfold del at h
  split at h
  · rw [List.mem_append] at h
    rcases h with h | h
    · exact List.mem_of_mem_take h
    · exact List.mem_of_mem_drop h
  · exact h

theorem getElem?_keys (l : List Ent) (i : Nat) : (keys l)[i]? = (l[i]?).map (·.1) := by unfold keys; rw [List.getElem?_map]

theorem up_ins {k : ByteArray} {v : Int} {l : List Ent} (h : Up l) : Up (ins k v l) := by
  have hr := h.rises
  have lo : ∀ p ∈ l.take (lb (keys l) k), slt p.1 k = true := fun p hp => by
    obtain ⟨i, hi, rfl⟩ := List.getElem_of_mem hp
    simp only [List.length_take] at hi
    exact lb_below (keys l) k i _ (by rw [getElem?_keys, List.getElem?_eq_getElem (by omega)]; simp) (by omega)
  have hi : ∀ n, lb (keys l) k ≤ n → ∀ p ∈ l.drop n, slt p.1 k = false := fun n hn p hp => by
    obtain ⟨i, hi, rfl⟩ := List.getElem_of_mem hp
    simp only [List.length_drop] at hi
    exact lb_above hr k (n + i) _ (by rw [getElem?_keys, List.getElem?_eq_getElem (by omega)]; simp) (by omega)
  have up2 : ∀ n, lb (keys l) k ≤ n → (∀ p ∈ l.drop n, slt k p.1 = true) → Up (l.take (lb (keys l) k) ++ (k, v) :: l.drop n) := fun n hn hk => by
    unfold Up
    rw [List.pairwise_append, List.pairwise_cons]
    refine ⟨h.sublist (List.take_sublist _ _), ⟨fun p hp => hk p hp, h.sublist (List.drop_sublist _ _)⟩, fun p hp q hq => ?_⟩
    rcases List.mem_cons.1 hq with rfl | hq
    · exact lo p hp
    · exact slt_trans (lo p hp) (hk q hq)
  unfold ins
  split
  · rename_i hh
    refine up2 _ (by omega) fun p hp => ?_
    unfold has at hh
    rw [decide_eq_true_iff] at hh
    obtain ⟨i, hi, rfl⟩ := List.getElem_of_mem hp
    simp only [List.length_drop] at hi
    have hl := (List.getElem?_eq_some_iff.1 hh).1
    have := List.pairwise_iff_getElem.1 hr (lb (keys l) k) (lb (keys l) k + 1 + i) hl (by rw [keys_length]; omega) (by omega)
    rw [(List.getElem?_eq_some_iff.1 hh).2] at this
    simpa [keys] using this
  · rename_i hh
    refine up2 _ (by omega) fun p hp => ?_
    have hge := hi _ (Nat.le_refl _) p hp
    cases hkp : slt k p.1 with
    | true => rfl
    | false =>
      exfalso
      have e := slt_conn hkp hge
      apply hh
      rw [has_iff hr, e]
      exact List.mem_map.2 ⟨p, List.mem_of_mem_drop hp, rfl⟩
theorem up_del {k : ByteArray} {l : List Ent} (h : Up l) : Up (del k l) := by
  unfold del
  split
  · have : (l.take (lb (keys l) k) ++ l.drop (lb (keys l) k + 1)).Sublist l := by
      have h1 : (l.drop (lb (keys l) k + 1)).Sublist (l.drop (lb (keys l) k)) := by
        rw [← List.drop_drop]
        exact List.drop_sublist _ _
      have := (List.Sublist.refl (l.take (lb (keys l) k))).append h1
      rwa [List.take_append_drop] at this
    exact h.sublist this
  · exact h
end Go.Ux
