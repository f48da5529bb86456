/- PART OF THE PROOF THAT TreeSeeksSaid HOLDS OF THE GIVEN PROGRAM, FOR EVERY INPUT THAT THE STATEMENT NAMES. No condition besides the statement's own. -/
import Derived.Test.YtdfgpminonpeaaaUxTreeZ
/- Put and Del, node by node: the same as upon the list of all keys; the nodes keep their shape. -/
namespace Go.Ux
open Go

theorem AllLt.mono {l : List Ent} {s s' : ByteArray} (h : AllLt l s) (k : slt s s' = true) : AllLt l s' := fun p hp => slt_trans (h p hp) k
theorem AllGe.mono {l : List Ent} {s s' : ByteArray} (h : AllGe l s) (k : slt s s' = false) : AllGe l s' := fun p hp => by
  cases e : slt p.1 s' with
  | false => rfl
  | true => have a := h p hp; rw [slt_of_le' e k] at a; cases a

theorem Good.shp {fan : Nat} : ∀ {d : Nat} {t : T}, Good fan d t → Shp t
  | 0, _, h => by obtain ⟨l, rfl⟩ := h; trivial
  | d + 1, _, h => by
    obtain ⟨ks, cs, rfl, h1, _, h3⟩ := h
    exact ⟨h1, Shps.mk fun c hc => Good.shp (h3 c hc).1⟩

/-- a tree that has something has a key -/
theorem good_some {fan : Nat} (hf : 4 ≤ fan) : ∀ {d : Nat} {t : T}, Good fan d t → 1 ≤ t.size → ∃ p, p ∈ flat t
  | 0, _, h, hs => by
    obtain ⟨l, rfl⟩ := h
    cases l with
    | nil => simp [T.size] at hs
    | cons p l => exact ⟨p, by simp [flat]⟩
  | d + 1, _, h, hs => by
    obtain ⟨ks, cs, rfl, h1, _, h3⟩ := h
    cases cs with
    | nil => simp at h1
    | cons c cs =>
      obtain ⟨g, hz, _⟩ := h3 c (by simp)
      obtain ⟨p, hp⟩ := good_some hf g (by omega)
      exact ⟨p, by simp [flat, flats, hp]⟩

/-- the keys between rise -/
theorem Good.rises {fan : Nat} (hf : 4 ≤ fan) {d : Nat} {ks : List ByteArray} {cs : List T} (h : Good fan (d + 1) (.node ks cs)) : Rises ks := by
  obtain ⟨ks', cs', e, h1, h2, h3⟩ := h
  cases e
  unfold Rises
  rw [List.pairwise_iff_getElem]
  intro i j hi hj hij
  obtain ⟨c, hc⟩ : ∃ c, cs[i + 1]? = some c := ⟨cs[i + 1]'(by omega), List.getElem?_eq_getElem _⟩
  obtain ⟨g, hz, _⟩ := h3 c (List.mem_of_getElem? hc)
  obtain ⟨p, hp⟩ := good_some hf g (by omega)
  have a := (h2 i ks[i] (i + 1) c (List.getElem?_eq_getElem hi) hc).2 (by omega) p hp
  have b := (h2 j ks[j] (i + 1) c (List.getElem?_eq_getElem hj) hc).1 (by omega) p hp
  exact slt_of_le a b

/-! ### the way down -/
theorem wayN_le (ks : List ByteArray) (k : ByteArray) : wayN ks k ≤ ks.length := by
  unfold wayN
  have := lb_le ks k
  split
  · rename_i h
    unfold has at h
    rw [decide_eq_true_iff] at h
    have := (List.getElem?_eq_some_iff.1 h).1
    omega
  · omega
theorem wayN_lo {ks : List ByteArray} {k : ByteArray} {j : Nat} {s : ByteArray} (hs : ks[j]? = some s) (h : j < wayN ks k) : slt k s = false := by
  unfold wayN at h
  rcases Nat.lt_or_ge j (lb ks k) with h' | h'
  · exact slt_asymm (lb_below ks k j s hs h')
  · split at h
    · rename_i hh
      have : j = lb ks k := by omega
      subst this
      unfold has at hh
      rw [decide_eq_true_iff, hs] at hh
      cases hh
      exact slt_irrefl _
    · omega
theorem wayN_hi {ks : List ByteArray} (hr : Rises ks) {k : ByteArray} {j : Nat} {s : ByteArray} (hs : ks[j]? = some s) (h : wayN ks k ≤ j) : slt k s = true := by
  unfold wayN at h
  have hl : lb ks k ≤ j := by split at h <;> omega
  have hge := lb_above hr k j s hs hl
  cases hk : slt k s with
  | true => rfl
  | false =>
    exfalso
    have e := slt_conn hk hge
    subst e
    have hh : has ks k = true := (has_iff hr k).2 (List.mem_of_getElem? hs)
    rw [if_pos hh] at h
    have h1 := (has_iff hr k).1 hh
    unfold has at hh
    rw [decide_eq_true_iff] at hh
    have := List.pairwise_iff_getElem.1 hr (lb ks k) j (List.getElem?_eq_some_iff.1 hh).1 (List.getElem?_eq_some_iff.1 hs).1 (by omega)
    rw [(List.getElem?_eq_some_iff.1 hh).2, (List.getElem?_eq_some_iff.1 hs).2, slt_irrefl] at this
    cases this

/-- what is ahead of the way is below the key, what is behind it above -/
theorem way_ahead {ks : List ByteArray} {A B : List T} {c : T} {k : ByteArray} (h : Sep ks (A ++ c :: B)) (hl : (A ++ c :: B).length = ks.length + 1) (hw : A.length = wayN ks k) : AllLt (flats A) k := by
  intro p hp
  obtain ⟨j, t, hj, hp⟩ := mem_flats.1 hp
  have hjA := (List.getElem?_eq_some_iff.1 hj).1
  obtain ⟨s, hs⟩ : ∃ s, ks[A.length - 1]? = some s := ⟨ks[A.length - 1]'(by simp at hl; omega), List.getElem?_eq_getElem _⟩
  have a := (h (A.length - 1) s j t hs (by rw [List.getElem?_append_left hjA]; exact hj)).1 (by omega) p hp
  have b := wayN_lo hs (by omega : A.length - 1 < wayN ks k)
  exact slt_of_le' a b
theorem way_behind {ks : List ByteArray} (hr : Rises ks) {A B : List T} {c : T} {k : ByteArray} (h : Sep ks (A ++ c :: B)) (hl : (A ++ c :: B).length = ks.length + 1) (hw : A.length = wayN ks k) : ∀ p ∈ flats B, slt k p.1 = true := by
  intro p hp
  obtain ⟨j, t, hj, hp⟩ := mem_flats.1 hp
  have hjB := (List.getElem?_eq_some_iff.1 hj).1
  obtain ⟨s, hs⟩ : ∃ s, ks[A.length]? = some s := ⟨ks[A.length]'(by simp at hl; omega), List.getElem?_eq_getElem _⟩
  have a := (h A.length s (A.length + 1 + j) t hs (by rw [List.getElem?_append_right (by omega), show A.length + 1 + j - A.length = j + 1 by omega]; simpa using hj)).2 (by omega) p hp
  have b := wayN_hi hr hs (by omega : wayN ks k ≤ A.length)
  cases e : slt k p.1 with
  | true => rfl
  | false => rw [slt_of_le e b] at a; cases a

theorem getElem?_mid {A B : List T} {c : T} {j : Nat} {t : T} (h : (A ++ c :: B)[j]? = some t) : (j < A.length ∧ A[j]? = some t) ∨ (j = A.length ∧ t = c) ∨ (A.length < j ∧ B[j - A.length - 1]? = some t) := by
  rcases Nat.lt_or_ge j A.length with h' | h'
  · rw [List.getElem?_append_left h'] at h; exact .inl ⟨h', h⟩
  · rw [List.getElem?_append_right h'] at h
    rcases Nat.eq_or_lt_of_le h' with e | e
    · rw [← e, Nat.sub_self] at h; simp at h; exact .inr (.inl ⟨e.symm, h.symm⟩)
    · obtain ⟨n, hn⟩ : ∃ n, j - A.length = n + 1 := ⟨j - A.length - 1, by omega⟩
      rw [hn] at h
      rw [show j - A.length - 1 = n by omega]
      exact .inr (.inr ⟨e, by simpa using h⟩)
theorem at_left {A B : List T} {c : T} {j : Nat} {t : T} (h : A[j]? = some t) : (A ++ c :: B)[j]? = some t := by
  rw [List.getElem?_append_left (List.getElem?_eq_some_iff.1 h).1]; exact h
theorem at_mid {A B : List T} {c : T} : (A ++ c :: B)[A.length]? = some c := by
  rw [List.getElem?_append_right (Nat.le_refl _), Nat.sub_self]; rfl
theorem at_right {A B : List T} {c : T} {j : Nat} {t : T} (h : B[j]? = some t) : (A ++ c :: B)[A.length + 1 + j]? = some t := by
  rw [List.getElem?_append_right (by omega), show A.length + 1 + j - A.length = j + 1 by omega]; simpa using h

/-- one tree put in another's place -/
theorem Sep.set {ks : List ByteArray} {A B : List T} {c c' : T} (h : Sep ks (A ++ c :: B)) (hc : ∀ j s, ks[j]? = some s → (A.length ≤ j → AllLt (flat c) s → AllLt (flat c') s) ∧ (j < A.length → AllGe (flat c) s → AllGe (flat c') s)) : Sep ks (A ++ c' :: B) := by
  intro i s j t hs ht
  rcases getElem?_mid ht with ⟨h1, h2⟩ | ⟨rfl, rfl⟩ | ⟨h1, h2⟩
  · exact h i s j t hs (at_left h2)
  · have a := h i s _ c hs at_mid
    exact ⟨fun hi => (hc i s hs).1 hi (a.1 hi), fun hi => (hc i s hs).2 hi (a.2 hi)⟩
  · have := h i s (A.length + 1 + (j - A.length - 1)) t hs (at_right h2)
    rw [show A.length + 1 + (j - A.length - 1) = j by omega] at this
    exact this

/-- one tree parted in two -/
theorem Sep.part {Ka Kb : List ByteArray} {m : ByteArray} {A B : List T} {c c1 c2 : T} (h : Sep (Ka ++ Kb) (A ++ c :: B)) (hlen : Ka.length = A.length) (he : flat c = flat c1 ++ flat c2)
    (h1 : AllLt (flat c1) m) (h2 : AllGe (flat c2) m) (hA : AllLt (flats A) m) (hB : AllGe (flats B) m) : Sep (Ka ++ m :: Kb) (A ++ c1 :: c2 :: B) := by
  have ge : ∀ i s j t, (Ka ++ Kb)[i]? = some s → (A ++ c1 :: c2 :: B)[j]? = some t → ((j ≤ A.length → j ≤ i → AllLt (flat t) s) ∧ (A.length < j → j ≤ i + 1 → AllLt (flat t) s)) ∧ ((j ≤ A.length → i < j → AllGe (flat t) s) ∧ (A.length < j → i + 1 < j → AllGe (flat t) s)) := by
    intro i s j t hs ht
    rcases getElem?_mid ht with ⟨a1, a2⟩ | ⟨rfl, rfl⟩ | ⟨a1, a2⟩
    · have := h i s j t hs (at_left a2)
      exact ⟨⟨fun _ => this.1, fun x => by omega⟩, ⟨fun _ => this.2, fun x => by omega⟩⟩
    · have a := h i s _ c hs at_mid
      rw [he] at a
      exact ⟨⟨fun _ hi p hp => a.1 hi p (List.mem_append_left _ hp), fun x => by omega⟩, ⟨fun _ hi p hp => a.2 hi p (List.mem_append_left _ hp), fun x => by omega⟩⟩
    · obtain ⟨n, hn⟩ : ∃ n, j - A.length - 1 = n := ⟨_, rfl⟩
      rw [hn] at a2
      cases n with
      | zero =>
        simp at a2
        subst a2
        have a := h i s _ c hs at_mid
        rw [he] at a
        exact ⟨⟨fun x => by omega, fun _ hi p hp => a.1 (by omega) p (List.mem_append_right _ hp)⟩, ⟨fun x => by omega, fun _ hi p hp => a.2 (by omega) p (List.mem_append_right _ hp)⟩⟩
      | succ n =>
        have := h i s (A.length + 1 + n) t hs (at_right (by simpa using a2))
        exact ⟨⟨fun x => by omega, fun _ hi => this.1 (by omega)⟩, ⟨fun x => by omega, fun _ hi => this.2 (by omega)⟩⟩
  intro i s j t hs ht
  rcases Nat.lt_trichotomy i Ka.length with hi | hi | hi
  · have hs' : (Ka ++ Kb)[i]? = some s := by rw [List.getElem?_append_left hi] at hs ⊢; exact hs
    have g := ge i s j t hs' ht
    exact ⟨fun hj => g.1.1 (by omega) hj, fun hj => by
      rcases Nat.lt_or_ge A.length j with x | x
      · exact g.2.2 x (by omega)
      · exact g.2.1 x hj⟩
  · rw [hi, List.getElem?_append_right (Nat.le_refl _), Nat.sub_self] at hs
    simp at hs
    subst hs
    rcases getElem?_mid ht with ⟨a1, a2⟩ | ⟨rfl, rfl⟩ | ⟨a1, a2⟩
    · exact ⟨fun _ p hp => hA p (mem_flats.2 ⟨j, t, a2, hp⟩), fun x => by omega⟩
    · exact ⟨fun _ => h1, fun x => by omega⟩
    · refine ⟨fun x => by omega, fun _ => ?_⟩
      cases hn : j - A.length - 1 with
      | zero => rw [hn] at a2; simp at a2; subst a2; exact h2
      | succ n => rw [hn] at a2; exact fun p hp => hB p (mem_flats.2 ⟨n, t, by simpa using a2, hp⟩)
  · obtain ⟨n, rfl⟩ : ∃ n, i = n + 1 := ⟨i - 1, by omega⟩
    have hs' : (Ka ++ Kb)[n]? = some s := by
      rw [List.getElem?_append_right (by omega), show n + 1 - Ka.length = (n - Ka.length) + 1 by omega] at hs
      rw [List.getElem?_append_right (by omega)]
      simpa using hs
    have g := ge n s j t hs' ht
    exact ⟨fun hj => by
      rcases Nat.lt_or_ge A.length j with x | x
      · exact g.1.2 x hj
      · exact g.1.1 x (by omega), fun hj => g.2.2 (by omega) hj⟩

/-! ### parted in two -/
theorem half_good {fan : Nat} (hf : 4 ≤ fan) : ∀ {d : Nat} {t : T}, Good fan d t → Up (flat t) → fan < t.size → t.size ≤ 2 * fan →
    Good fan d (half1 t) ∧ Good fan d (half2 t) ∧ flat t = flat (half1 t) ++ flat (half2 t) ∧ AllLt (flat (half1 t)) (halfK t) ∧ AllGe (flat (half2 t)) (halfK t) ∧
    (fan / 2 ≤ (half1 t).size ∧ (half1 t).size ≤ fan) ∧ (fan / 2 ≤ (half2 t).size ∧ (half2 t).size ≤ fan)
  | 0, _, h, hu, h1, h2 => by
    obtain ⟨l, rfl⟩ := h
    simp only [T.size] at h1 h2
    simp only [half1, half2, halfK, flat] at hu ⊢
    obtain ⟨p, hp⟩ : ∃ p, l[l.length / 2]? = some p := ⟨l[l.length / 2]'(by omega), List.getElem?_eq_getElem _⟩
    have hp' := (List.getElem?_eq_some_iff.1 hp)
    rw [hp]
    refine ⟨⟨_, rfl⟩, ⟨_, rfl⟩, (List.take_append_drop _ _).symm, ?_, ?_, ?_, ?_⟩
    · intro q hq
      obtain ⟨i, hi, rfl⟩ := List.getElem_of_mem hq
      simp only [List.length_take] at hi
      have := List.pairwise_iff_getElem.1 hu i (l.length / 2) (by omega) (by omega) (by omega)
      simpa [hp'.2] using this
    · intro q hq
      obtain ⟨i, hi, rfl⟩ := List.getElem_of_mem hq
      simp only [List.length_drop] at hi
      cases i with
      | zero => simp [hp'.2, slt_irrefl]
      | succ i =>
        have := List.pairwise_iff_getElem.1 hu (l.length / 2) (l.length / 2 + (i + 1)) (by omega) (by omega) (by omega)
        rw [hp'.2] at this
        simpa using slt_asymm this
    · simp only [T.size, List.length_take]; omega
    · simp only [T.size, List.length_drop]; omega
  | d + 1, _, h, hu, h1, h2 => by
    obtain ⟨ks, cs, rfl, e1, e2, e3⟩ := h
    simp only [T.size] at h1 h2
    simp only [half1, half2, halfK, flat] at hu ⊢
    obtain ⟨m, hm⟩ : ∃ m, cs.length / 2 = m := ⟨_, rfl⟩
    rw [hm]
    obtain ⟨s, hs⟩ : ∃ s, ks[m - 1]? = some s := ⟨ks[m - 1]'(by omega), List.getElem?_eq_getElem _⟩
    rw [hs]
    have hd : ∀ (i : Nat) (s : ByteArray), (ks.drop m)[i]? = some s → ks[m + i]? = some s := fun i s h => by rw [List.getElem?_drop] at h; exact h
    have hd' : ∀ (i : Nat) (c : T), (cs.drop m)[i]? = some c → cs[m + i]? = some c := fun i c h => by rw [List.getElem?_drop] at h; exact h
    have ht : ∀ (i n : Nat) (s : ByteArray), (ks.take n)[i]? = some s → ks[i]? = some s ∧ i < n := fun i n s h => by
      rw [List.getElem?_take] at h
      split at h
      · exact ⟨h, by assumption⟩
      · cases h
    have ht' : ∀ (i : Nat) (c : T), (cs.take m)[i]? = some c → cs[i]? = some c ∧ i < m := fun i c h => by
      rw [List.getElem?_take] at h
      split at h
      · exact ⟨h, by assumption⟩
      · cases h
    refine ⟨⟨_, _, rfl, ?_, ?_, fun c hc => e3 c (List.mem_of_mem_take hc)⟩, ⟨_, _, rfl, ?_, ?_, fun c hc => e3 c (List.mem_of_mem_drop hc)⟩, ?_, ?_, ?_, ?_, ?_⟩
    · simp only [List.length_take]; omega
    · intro i s j c hs hc
      exact e2 i s j c (ht i _ s hs).1 (ht' j c hc).1
    · simp only [List.length_drop]; omega
    · intro i s j c hs hc
      have := e2 (m + i) s (m + j) c (hd i s hs) (hd' j c hc)
      exact ⟨fun h => this.1 (by omega), fun h => this.2 (by omega)⟩
    · rw [← flats_append, List.take_append_drop]
    · intro p hp
      obtain ⟨j, c, hc, hp⟩ := mem_flats.1 hp
      have := ht' j c hc
      exact (e2 (m - 1) s j c hs this.1).1 (by omega) p hp
    · intro p hp
      obtain ⟨j, c, hc, hp⟩ := mem_flats.1 hp
      exact (e2 (m - 1) s (m + j) c hs (hd' j c hc)).2 (by omega) p hp
    · simp only [T.size, List.length_take]; omega
    · simp only [T.size, List.length_drop]; omega
end Go.Ux
