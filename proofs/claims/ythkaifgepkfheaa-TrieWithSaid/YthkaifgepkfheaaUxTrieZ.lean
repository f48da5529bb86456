/- PART OF THE PROOF THAT THIS CLAIM HOLDS OF THE GIVEN PROGRAM, FOR EVERY INPUT THAT THE STATEMENT NAMES. No condition besides the statement's own. -/
import Derived.IntWalk
/- A number for each sign, in plain lists: pairs, blocks of 64, unlike blocks. No program. -/
namespace Go.Ux.Trie
open Go

abbrev Pr := Int × Int

/-- a sign's number in pairs -/
def fnd : List Pr → Int → Int
  | [], _ => 0
  | p :: l, c => if p.1 = c then p.2 else fnd l c

/-- may a pair be there? -/
def may (p : Pr) : Bool := decide (0 ≤ p.1) && decide (p.1 ≤ 1114367) && decide (-2147483648 ≤ p.2) && decide (p.2 < 2147483648)

/-- the block i of a function on signs -/
def blk (f : Int → Int) (i : Int) : List Int := (List.range 64).map fun (j : Nat) => f (64 * i + (j : Int))
def zero64 : List Int := List.replicate 64 0
theorem zero64_get {j : Nat} (h : j < 64) : zero64[j]? = some 0 := by unfold zero64; rw [List.getElem?_replicate, if_pos h]

/-- a block behind unlike ones, if it is none of them -/
def addB {α : Type} [DecidableEq α] (bl : List α) (b : α) : List α := if b ∈ bl then bl else bl ++ [b]
def addAll {α : Type} [DecidableEq α] (bl : List α) (l : List α) : List α := l.foldl addB bl

section
variable {α : Type} [DecidableEq α]
theorem addAll_cons (bl : List α) (b : α) (l : List α) : addAll bl (b :: l) = addAll (addB bl b) l := rfl
theorem addAll_snoc (bl : List α) (b : α) (l : List α) : addAll bl (l ++ [b]) = addB (addAll bl l) b := by simp [addAll, List.foldl_append]
theorem mem_addB {bl : List α} {b x : α} : x ∈ addB bl b ↔ x ∈ bl ∨ x = b := by
  unfold addB
  split
  · rename_i h
    exact ⟨.inl, fun h' => h'.elim id fun e => by rw [e]; exact h⟩
  · simp
theorem nodup_addB {bl : List α} (h : bl.Nodup) (b : α) : (addB bl b).Nodup := by
  unfold addB
  split
  · exact h
  · rename_i hb
    rw [List.nodup_append]
    exact ⟨h, by simp, fun x hx y hy e => hb (by rw [List.mem_singleton] at hy; rw [← hy, ← e]; exact hx)⟩
theorem mem_addAll {x : α} : ∀ (l bl : List α), x ∈ addAll bl l ↔ x ∈ bl ∨ x ∈ l
  | [], bl => by simp [addAll]
  | b :: l, bl => by rw [addAll_cons, mem_addAll l, mem_addB]; simp [or_assoc]
theorem nodup_addAll : ∀ (l : List α) {bl : List α}, bl.Nodup → (addAll bl l).Nodup
  | [], _, h => h
  | _ :: l, _, h => nodup_addAll l (nodup_addB h _)
/-- what was there stands where it stood -/
theorem addB_get {bl : List α} {b : α} {k : Nat} {x : α} (h : bl[k]? = some x) : (addB bl b)[k]? = some x := by
  unfold addB
  split
  · exact h
  · rw [List.getElem?_append_left (List.getElem?_eq_some_iff.1 h).1]; exact h
theorem addAll_get {k : Nat} {x : α} : ∀ (l : List α) {bl : List α}, bl[k]? = some x → (addAll bl l)[k]? = some x
  | [], _, h => h
  | _ :: l, _, h => addAll_get l (addB_get h)

theorem length_le_of_nodup : ∀ {a b : List α}, a.Nodup → (∀ x ∈ a, x ∈ b) → a.length ≤ b.length
  | [], _, _, _ => Nat.zero_le _
  | x :: a, b, h, hs => by
    obtain ⟨hx, ha⟩ := List.nodup_cons.1 h
    have h1 : a.length ≤ (b.erase x).length := length_le_of_nodup ha fun y hy =>
      (List.mem_erase_of_ne (fun e : y = x => hx (by rw [← e]; exact hy))).2 (hs y (List.mem_cons_of_mem _ hy))
    have h2 := List.length_erase_of_mem (hs x List.mem_cons_self)
    have h3 : 0 < b.length := List.length_pos_of_mem (hs x List.mem_cons_self)
    simp only [List.length_cons]
    omega
theorem length_of_nodup {a b : List α} (ha : a.Nodup) (hb : b.Nodup) (h : ∀ x, x ∈ a ↔ x ∈ b) : a.length = b.length :=
  Nat.le_antisymm (length_le_of_nodup ha fun x hx => (h x).1 hx) (length_le_of_nodup hb fun x hx => (h x).2 hx)
end

/-! ### what pairs say -/
theorem fnd_none : ∀ {l : List Pr} {c : Int}, (∀ p ∈ l, p.1 ≠ c) → fnd l c = 0
  | [], _, _ => rfl
  | p :: l, c, h => by
    unfold fnd
    rw [if_neg (h p List.mem_cons_self)]
    exact fnd_none fun q hq => h q (List.mem_cons_of_mem _ hq)

def apart (l : List Pr) : Prop := l.Pairwise fun p q => p.1 ≠ q.1

theorem fnd_mem : ∀ {l : List Pr} (_ : apart l) {p : Pr}, p ∈ l → fnd l p.1 = p.2
  | q :: l, h, p, hp => by
    obtain ⟨h1, h2⟩ := List.pairwise_cons.1 h
    unfold fnd
    rcases List.mem_cons.1 hp with rfl | hp
    · rw [if_pos rfl]
    · rw [if_neg (h1 p hp)]
      exact fnd_mem h2 hp
theorem mem_of_fnd : ∀ {l : List Pr} {c : Int}, fnd l c ≠ 0 → (c, fnd l c) ∈ l
  | [], c, h => absurd rfl h
  | q :: l, c, h => by
    unfold fnd at h ⊢
    split at h
    · rename_i hq
      rw [if_pos hq, ← hq]
      exact List.mem_cons_self
    · rename_i hq
      rw [if_neg hq]
      exact List.mem_cons_of_mem _ (mem_of_fnd h)

theorem fnd_append (l : List Pr) (p : Pr) (h : ∀ q ∈ l, q.1 ≠ p.1) (c : Int) : fnd (l ++ [p]) c = if c = p.1 then p.2 else fnd l c := by
  induction l with
  | nil =>
    show (if p.1 = c then p.2 else 0) = if c = p.1 then p.2 else 0
    by_cases e : p.1 = c
    · rw [if_pos e, if_pos e.symm]
    · rw [if_neg e, if_neg (fun h => e h.symm)]
  | cons q l ih =>
    have ih := ih fun q hq => h q (List.mem_cons_of_mem _ hq)
    simp only [List.cons_append, fnd, ih]
    by_cases e : q.1 = c
    · have : c ≠ p.1 := fun e' => h q List.mem_cons_self (e.trans e')
      simp [e, this]
    · simp [e]

theorem blk_length (f : Int → Int) (i : Int) : (blk f i).length = 64 := by simp [blk]
theorem blk_get (f : Int → Int) (i : Int) {j : Nat} (h : j < 64) : (blk f i)[j]? = some (f (64 * i + (j : Int))) := by
  simp [blk, List.getElem?_map, List.getElem?_range h]
theorem blk_zero {f : Int → Int} {i : Int} (h : ∀ j : Nat, j < 64 → f (64 * i + (j : Int)) = 0) : blk f i = zero64 := by
  apply List.ext_getElem?
  intro j
  by_cases hj : j < 64
  · rw [blk_get f i hj, h j hj, zero64_get hj]
  · rw [List.getElem?_eq_none (by rw [blk_length]; omega), List.getElem?_eq_none (by unfold zero64; rw [List.length_replicate]; omega)]
theorem zero_of_blk {f : Int → Int} {i : Int} (h : blk f i = zero64) {j : Nat} (hj : j < 64) : f (64 * i + (j : Int)) = 0 := by
  have h1 := blk_get f i hj
  rw [h, zero64_get hj] at h1
  exact (Option.some.inj h1).symm

/-- the unlike blocks: the one of noughts, then those of the keys in turn -/
def bls (ks : List Int) (f : Int → Int) : List (List Int) := addAll [zero64] (ks.map (blk f))

theorem bls_mem {ks : List Int} {f : Int → Int} (h : ∀ i, i ∉ ks → blk f i = zero64) (b : List Int) : b ∈ bls ks f ↔ b = zero64 ∨ ∃ i, blk f i = b := by
  unfold bls
  rw [mem_addAll]
  constructor
  · rintro (h | h)
    · exact .inl (by simpa using h)
    · obtain ⟨i, _, rfl⟩ := List.mem_map.1 h
      exact .inr ⟨i, rfl⟩
  · rintro (h | ⟨i, rfl⟩)
    · exact .inl (by simp [h])
    · by_cases hi : i ∈ ks
      · exact .inr (List.mem_map_of_mem hi)
      · exact .inl (by simp [h i hi])
theorem bls_nodup (ks : List Int) (f : Int → Int) : (bls ks f).Nodup := nodup_addAll _ (by simp)
/-- how many there are hangs on the function alone -/
theorem bls_length {ks ks' : List Int} {f : Int → Int} (h : ∀ i, i ∉ ks → blk f i = zero64) (h' : ∀ i, i ∉ ks' → blk f i = zero64) : (bls ks f).length = (bls ks' f).length :=
  length_of_nodup (bls_nodup _ _) (bls_nodup _ _) fun b => by rw [bls_mem h, bls_mem h']

theorem blk_off {l : List Pr} {ks : List Int} (hk : ∀ p ∈ l, p.1 / 64 ∈ ks) : ∀ i, i ∉ ks → blk (fnd l) i = zero64 := by
  intro i hi
  refine blk_zero fun j hj => fnd_none fun p hp e => hi ?_
  have := hk p hp
  rw [e] at this
  have e2 : (64 * i + (j : Int)) / 64 = i := by omega
  rwa [e2] at this

/-- the law's own count: of the keys of numbers that are not nought, in the order in which they come, those whose block stood not before -/
def ats (l : List Pr) : List Int := l.foldl (fun at_ p => if p.2 = 0 then at_ else addB at_ (p.1 / 64)) []
theorem mem_ats (l : List Pr) (i : Int) : i ∈ ats l ↔ ∃ p ∈ l, p.2 ≠ 0 ∧ p.1 / 64 = i := by
  have key : ∀ (l : List Pr) (a : List Int), i ∈ l.foldl (fun at_ p => if p.2 = 0 then at_ else addB at_ (p.1 / 64)) a ↔ i ∈ a ∨ ∃ p ∈ l, p.2 ≠ 0 ∧ p.1 / 64 = i := by
    intro l
    induction l with
    | nil => simp
    | cons p l ih =>
      intro a
      rw [List.foldl_cons, ih]
      by_cases hp : p.2 = 0
      · simp [hp]
      · rw [if_neg hp, mem_addB]
        constructor
        · rintro ((h | h) | ⟨q, hq, h⟩)
          · exact .inl h
          · exact .inr ⟨p, List.mem_cons_self, hp, h.symm⟩
          · exact .inr ⟨q, List.mem_cons_of_mem _ hq, h⟩
        · rintro (h | ⟨q, hq, hv, h⟩)
          · exact .inl (.inl h)
          · rcases List.mem_cons.1 hq with rfl | hq
            · exact .inl (.inr h.symm)
            · exact .inr ⟨q, hq, hv, h⟩
  unfold ats
  rw [key l []]
  simp

theorem count_eq {l : List Pr} (ha : apart l) {ks : List Int} (hk : ∀ p ∈ l, p.1 / 64 ∈ ks) : (bls ks (fnd l)).length = 1 + (addAll [] ((ats l).map (blk (fnd l)))).length := by
  have h0 : zero64 ∉ addAll [] ((ats l).map (blk (fnd l))) := by
    rw [mem_addAll]
    rintro (h | h)
    · simp at h
    · obtain ⟨i, hi, hz⟩ := List.mem_map.1 h
      obtain ⟨p, hp, hv, rfl⟩ := (mem_ats l i).1 hi
      have hj : (p.1 % 64).toNat < 64 := by omega
      have := zero_of_blk hz hj
      have e : 64 * (p.1 / 64) + ((p.1 % 64).toNat : Int) = p.1 := by omega
      rw [e, fnd_mem ha hp] at this
      exact hv this
  have e1 : 1 + (addAll [] ((ats l).map (blk (fnd l)))).length = (zero64 :: addAll [] ((ats l).map (blk (fnd l)))).length := by simp; omega
  rw [e1]
  refine length_of_nodup (bls_nodup _ _) (List.nodup_cons.2 ⟨h0, nodup_addAll _ (by simp)⟩) fun b => ?_
  rw [bls_mem (blk_off hk), List.mem_cons, mem_addAll]
  constructor
  · rintro (h | ⟨i, rfl⟩)
    · exact .inl h
    · by_cases hi : i ∈ ats l
      · exact .inr (.inr (List.mem_map_of_mem hi))
      · refine .inl (blk_zero fun j hj => Classical.byContradiction fun hn => hi ?_)
        refine (mem_ats l i).2 ⟨_, mem_of_fnd hn, hn, ?_⟩
        show (64 * i + (j : Int)) / 64 = i
        omega
  · rintro (h | h | h)
    · exact .inl h
    · simp at h
    · obtain ⟨i, _, rfl⟩ := List.mem_map.1 h
      exact .inr ⟨i, rfl⟩

/-! ### the pairs that a trie tells -/
def pairsIn (f : Int → Int) (i : Int) : List Pr := (List.range 64).filterMap fun (j : Nat) => if f (64 * i + (j : Int)) = 0 then none else some (64 * i + (j : Int), f (64 * i + (j : Int)))
def pairsOf (ks : List Int) (f : Int → Int) : List Pr := ks.flatMap (pairsIn f)

theorem mem_pairsIn {f : Int → Int} {i : Int} {p : Pr} : p ∈ pairsIn f i ↔ p.1 / 64 = i ∧ f p.1 ≠ 0 ∧ p.2 = f p.1 := by
  unfold pairsIn
  rw [List.mem_filterMap]
  constructor
  · rintro ⟨j, hj, h⟩
    rw [List.mem_range] at hj
    split at h
    · cases h
    · rename_i hn
      cases h
      exact ⟨by show (64 * i + (j : Int)) / 64 = i; omega, hn, rfl⟩
  · rintro ⟨hi, hn, h2⟩
    refine ⟨(p.1 % 64).toNat, List.mem_range.2 (by omega), ?_⟩
    have e : 64 * i + (((p.1 % 64).toNat : Nat) : Int) = p.1 := by omega
    rw [e, if_neg hn, ← h2]
theorem mem_pairsOf {ks : List Int} {f : Int → Int} {p : Pr} : p ∈ pairsOf ks f ↔ p.1 / 64 ∈ ks ∧ f p.1 ≠ 0 ∧ p.2 = f p.1 := by
  unfold pairsOf
  rw [List.mem_flatMap]
  constructor
  · rintro ⟨i, hi, h⟩
    obtain ⟨h1, h2⟩ := mem_pairsIn.1 h
    exact ⟨by rw [h1]; exact hi, h2⟩
  · rintro ⟨hi, h⟩
    exact ⟨_, hi, mem_pairsIn.2 ⟨rfl, h⟩⟩

theorem pairsIn_rising (f : Int → Int) (i : Int) : (pairsIn f i).Pairwise fun p q => p.1 < q.1 := by
  unfold pairsIn
  rw [List.pairwise_filterMap]
  refine List.Pairwise.imp ?_ (List.pairwise_lt_range (n := 64))
  intro a b hab p hp q hq
  split at hp
  · cases hp
  · split at hq
    · cases hq
    · cases hp
      cases hq
      show 64 * i + (a : Int) < 64 * i + (b : Int)
      omega
theorem pairsOf_rising {f : Int → Int} : ∀ {ks : List Int}, ks.Pairwise (· < ·) → (pairsOf ks f).Pairwise fun p q => p.1 < q.1
  | [], _ => List.Pairwise.nil
  | i :: ks, h => by
    obtain ⟨h1, h2⟩ := List.pairwise_cons.1 h
    show (pairsIn f i ++ pairsOf ks f).Pairwise _
    rw [List.pairwise_append]
    refine ⟨pairsIn_rising f i, pairsOf_rising h2, fun p hp q hq => ?_⟩
    have e1 := (mem_pairsIn.1 hp).1
    have e2 := h1 _ (mem_pairsOf.1 hq).1
    omega

theorem apart_of_rising {l : List Pr} (h : l.Pairwise fun p q => p.1 < q.1) : apart l := h.imp fun h => by omega
theorem apart_map {l : List Pr} (h : apart l) : (l.map (·.1)).Nodup := by
  unfold List.Nodup
  rw [List.pairwise_map]
  exact h

theorem fnd_pairsOf {ks : List Int} {f : Int → Int} (hs : ks.Pairwise (· < ·)) (h : ∀ i, i ∉ ks → blk f i = zero64) (c : Int) : fnd (pairsOf ks f) c = f c := by
  by_cases hc : f c = 0
  · rw [hc]
    exact fnd_none fun p hp e => (mem_pairsOf.1 hp).2.1 (by rw [e]; exact hc)
  · have hk : c / 64 ∈ ks := Classical.byContradiction fun hn => hc (by
      have := zero_of_blk (h _ hn) (j := (c % 64).toNat) (by omega)
      have e : 64 * (c / 64) + (((c % 64).toNat : Nat) : Int) = c := by omega
      rwa [e] at this)
    exact fnd_mem (apart_of_rising (pairsOf_rising hs)) (p := (c, f c)) (mem_pairsOf.2 ⟨hk, hc, rfl⟩)

theorem pairsOf_length {l : List Pr} (ha : apart l) {ks : List Int} (hs : ks.Pairwise (· < ·)) (hk : ∀ p ∈ l, p.1 / 64 ∈ ks) : (pairsOf ks (fnd l)).length = (l.filter fun p => p.2 ≠ 0).length := by
  have h1 : ((pairsOf ks (fnd l)).map (·.1)).Nodup := apart_map (apart_of_rising (pairsOf_rising hs))
  have h2 : ((l.filter fun p => p.2 ≠ 0).map (·.1)).Nodup := apart_map (List.Pairwise.filter _ ha)
  have := length_of_nodup h1 h2 fun c => by
    rw [List.mem_map, List.mem_map]
    constructor
    · rintro ⟨p, hp, rfl⟩
      obtain ⟨_, hn, _⟩ := mem_pairsOf.1 hp
      exact ⟨_, List.mem_filter.2 ⟨mem_of_fnd hn, by simpa using hn⟩, rfl⟩
    · rintro ⟨p, hp, rfl⟩
      obtain ⟨hp, hn⟩ := List.mem_filter.1 hp
      have hn' : p.2 ≠ 0 := by simpa using hn
      have e := fnd_mem ha hp
      exact ⟨p, mem_pairsOf.2 ⟨hk p hp, by rw [e]; exact hn', e.symm⟩, rfl⟩
  simpa using this

/-- a pair in the place of another -/
def withP (l : List Pr) (c v : Int) : List Pr := (l.filter fun p => decide (p.1 ≠ c)) ++ [(c, v)]
theorem withP_off {l : List Pr} {c : Int} : ∀ q ∈ l.filter (fun p => decide (p.1 ≠ c)), q.1 ≠ c := fun q hq => by
  have := (List.mem_filter.1 hq).2
  simpa using this
theorem apart_snoc {l : List Pr} (h : apart l) {p : Pr} (hp : ∀ q ∈ l, q.1 ≠ p.1) : apart (l ++ [p]) := by
  unfold apart
  rw [List.pairwise_append]
  exact ⟨h, by simp, fun q hq r hr => by rw [List.mem_singleton] at hr; rw [hr]; exact hp q hq⟩
theorem withP_apart {l : List Pr} (h : apart l) (c v : Int) : apart (withP l c v) := apart_snoc (List.Pairwise.filter _ h) withP_off
theorem fnd_filter {l : List Pr} {c x : Int} (hx : x ≠ c) : fnd (l.filter fun p => decide (p.1 ≠ c)) x = fnd l x := by
  induction l with
  | nil => rfl
  | cons p l ih =>
    by_cases hp : p.1 = c
    · rw [List.filter_cons_of_neg (by simpa using hp), ih]
      show _ = if p.1 = x then p.2 else fnd l x
      rw [if_neg (fun e => hx (e.symm.trans hp))]
    · rw [List.filter_cons_of_pos (by simpa using hp)]
      show (if p.1 = x then p.2 else fnd (l.filter _) x) = if p.1 = x then p.2 else fnd l x
      rw [ih]
theorem fnd_withP (l : List Pr) (c v x : Int) : fnd (withP l c v) x = if x = c then v else fnd l x := by
  unfold withP
  rw [fnd_append _ (c, v) withP_off]
  by_cases hx : x = c
  · rw [if_pos hx, if_pos hx]
  · rw [if_neg hx, if_neg hx, fnd_filter hx]
theorem withP_may {l : List Pr} (h : ∀ p ∈ l, may p = true) {c v : Int} (hc : may (c, v) = true) : ∀ p ∈ withP l c v, may p = true := fun p hp => by
  rcases List.mem_append.1 hp with hp | hp
  · exact h p (List.mem_filter.1 hp).1
  · rw [List.mem_singleton] at hp; rw [hp]; exact hc
theorem pairsOf_may {l : List Pr} (ha : apart l) (h : ∀ p ∈ l, may p = true) (ks : List Int) : ∀ p ∈ pairsOf ks (fnd l), may p = true := fun p hp => by
  obtain ⟨_, hn, h2⟩ := mem_pairsOf.1 hp
  have hm := mem_of_fnd hn
  have := h _ hm
  rw [← h2] at this
  exact this
end Go.Ux.Trie
