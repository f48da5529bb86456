import Derived.IntWalk
import Derived.Test.YtkeodddpnmnheaaGreatDoorUxNumAZ
/- PART OF THE PROOF THAT THIS CLAIM HOLDS OF THE GIVEN PROGRAM, FOR EVERY INPUT THAT THE STATEMENT NAMES. No condition besides the statement's own. -/
/- Patterns against signs, in plain lists: what a pattern matches, and the search that goes back to the last 'any signs' alone. No program. -/
namespace Go.Ux.Like
open Go

/-- does one element of a pattern (-2: any sign) stand for a sign? -/
def hit (eqv : Int → Int → Bool) (c x : Int) : Bool := decide (c = -2) || eqv c x

/-- any rest of a text -/
def tails (f : List Int → Bool) : List Int → Bool
  | [] => f []
  | x :: s => f (x :: s) || tails f s

/-- what a pattern matches: -1 stands for any signs, -2 for any one -/
def mat (eqv : Int → Int → Bool) : List Int → List Int → Bool
  | [], s => s.isEmpty
  | c :: p, s => if c = -1 then tails (mat eqv p) s else match s with
    | [] => false
    | x :: s' => hit eqv c x && mat eqv p s'

theorem mat_cons (eqv : Int → Int → Bool) (c : Int) (p s : List Int) : mat eqv (c :: p) s = if c = -1 then tails (mat eqv p) s else match s with
    | [] => false
    | x :: s' => hit eqv c x && mat eqv p s' := by cases s <;> rfl

theorem tails_iff {f : List Int → Bool} : ∀ {s : List Int}, tails f s = true ↔ ∃ j, j ≤ s.length ∧ f (s.drop j) = true
  | [] => ⟨fun h => ⟨0, Nat.le_refl _, h⟩, fun ⟨j, _, h⟩ => by rw [List.drop_nil] at h; exact h⟩
  | x :: s => by
    unfold tails
    rw [Bool.or_eq_true, tails_iff (s := s)]
    constructor
    · rintro (h | ⟨j, hj, h⟩)
      · exact ⟨0, Nat.zero_le _, h⟩
      · exact ⟨j + 1, Nat.succ_le_succ hj, h⟩
    · rintro ⟨j, hj, h⟩
      cases j with
      | zero => exact .inl h
      | succ j => exact .inr ⟨j, Nat.le_of_succ_le_succ hj, h⟩

variable {eqv : Int → Int → Bool}

theorem mat_star {p s : List Int} : mat eqv (-1 :: p) s = true ↔ ∃ j, j ≤ s.length ∧ mat eqv p (s.drop j) = true := by
  rw [mat_cons, if_pos rfl, tails_iff]
theorem mat_sign {c : Int} (hc : c ≠ -1) {p s : List Int} : mat eqv (c :: p) s = true ↔ ∃ x s', s = x :: s' ∧ hit eqv c x = true ∧ mat eqv p s' = true := by
  rw [mat_cons, if_neg hc]
  cases s with
  | nil => simp
  | cons x s =>
    show (hit eqv c x && mat eqv p s) = true ↔ _
    rw [Bool.and_eq_true]
    constructor
    · exact fun h => ⟨x, s, rfl, h⟩
    · rintro ⟨y, s', e, h⟩
      cases e
      exact h

/-- a run without 'any signs' that stands for the signs at a place -/
def seg (eqv : Int → Int → Bool) : List Int → List Int → Bool
  | [], _ => true
  | c :: p, s => decide (c ≠ -1) && match s with
    | [] => false
    | x :: s' => hit eqv c x && seg eqv p s'

theorem seg_snoc {c : Int} : ∀ {p s : List Int} {x : Int}, seg eqv p s = true → s[p.length]? = some x → c ≠ -1 → hit eqv c x = true → seg eqv (p ++ [c]) s = true
  | [], s, x, _, hx, hc, hh => by
    cases s with
    | nil => simp at hx
    | cons y s =>
      simp at hx
      subst hx
      simp [seg, hc, hh]
  | d :: p, s, x, h, hx, hc, hh => by
    cases s with
    | nil => simp [seg] at h
    | cons y s =>
      simp only [seg, Bool.and_eq_true] at h
      simp only [List.cons_append, seg, Bool.and_eq_true]
      exact ⟨h.1, h.2.1, seg_snoc h.2.2 (by simpa using hx) hc hh⟩

/-- a run stands ahead of what goes on -/
theorem mat_seg {q : List Int} : ∀ {p s : List Int}, (∀ c ∈ p, c ≠ -1) → (mat eqv (p ++ q) s = true ↔ seg eqv p s = true ∧ mat eqv q (s.drop p.length) = true)
  | [], s, _ => by simp [seg]
  | c :: p, s, h => by
    have hc : c ≠ -1 := h c List.mem_cons_self
    rw [List.cons_append, mat_sign hc]
    cases s with
    | nil => simp [seg]
    | cons y s =>
      simp only [seg, Bool.and_eq_true, decide_eq_true_eq, List.length_cons, List.drop_succ_cons]
      have ih := mat_seg (q := q) (p := p) (s := s) fun c hc => h c (List.mem_cons_of_mem _ hc)
      constructor
      · rintro ⟨x, s', e, h1, h2⟩
        cases e
        exact ⟨⟨hc, h1, (ih.1 h2).1⟩, (ih.1 h2).2⟩
      · rintro ⟨⟨_, h1, h2⟩, h3⟩
        exact ⟨y, s, rfl, h1, ih.2 ⟨h2, h3⟩⟩
theorem seg_length : ∀ {p s : List Int}, seg eqv p s = true → p.length ≤ s.length
  | [], _, _ => Nat.zero_le _
  | c :: p, s, h => by
    cases s with
    | nil => simp [seg] at h
    | cons y s =>
      simp only [seg, Bool.and_eq_true] at h
      have := seg_length h.2.2
      simp only [List.length_cons]
      omega
theorem seg_plain : ∀ {p s : List Int}, seg eqv p s = true → ∀ c ∈ p, c ≠ -1
  | c :: p, s, h, d, hd => by
    cases s with
    | nil => simp [seg] at h
    | cons y s =>
      simp only [seg, Bool.and_eq_true, decide_eq_true_eq] at h
      rcases List.mem_cons.1 hd with rfl | hd
      · exact h.1
      · exact seg_plain h.2.2 d hd

theorem mat_star_later {p s : List Int} {m : Nat} (hm : m ≤ s.length) (h : mat eqv (-1 :: p) (s.drop m) = true) : mat eqv (-1 :: p) s = true := by
  rw [mat_star] at h ⊢
  obtain ⟨j, hj, h⟩ := h
  rw [List.drop_drop] at h
  rw [List.length_drop] at hj
  exact ⟨m + j, by omega, h⟩

/-- 'any signs', a run, 'any signs': the run may as well stand where it stands first -/
theorem star_seg {p q s : List Int} (hp : ∀ c ∈ p, c ≠ -1) (hs : seg eqv p s = true) : mat eqv (-1 :: (p ++ -1 :: q)) s = mat eqv (-1 :: q) (s.drop p.length) := by
  rw [Bool.eq_iff_iff, mat_star]
  constructor
  · rintro ⟨j, hj, h⟩
    obtain ⟨h1, h2⟩ := (mat_seg hp).1 h
    have h3 := seg_length h1
    have h4 := seg_length hs
    rw [List.length_drop] at h3
    rw [List.drop_drop] at h2
    have : (s.drop (j + p.length)) = (s.drop p.length).drop j := by rw [List.drop_drop, Nat.add_comm]
    rw [this] at h2
    exact mat_star_later (by rw [List.length_drop]; omega) h2
  · intro h
    exact ⟨0, Nat.zero_le _, (mat_seg hp).2 ⟨hs, h⟩⟩
/-- 'any signs' and a run that does not go on: one sign further on -/
theorem star_fail {p s : List Int} {x : Int} (h : mat eqv p (x :: s) = false) : mat eqv (-1 :: p) (x :: s) = mat eqv (-1 :: p) s := by
  rw [mat_cons, if_pos rfl]
  conv => rhs; rw [mat_cons, if_pos rfl]
  show (mat eqv p (x :: s) || tails (mat eqv p) s) = _
  rw [h, Bool.false_or]

/-- signs that a pattern needs at the least -/
def need (p : List Int) : Nat := (p.filter fun c => decide (c ≠ -1)).length
theorem need_le : ∀ {p s : List Int}, mat eqv p s = true → need p ≤ s.length
  | [], _, _ => Nat.zero_le _
  | c :: p, s, h => by
    by_cases hc : c = -1
    · subst hc
      obtain ⟨j, hj, h⟩ := mat_star.1 h
      have := need_le h
      rw [List.length_drop] at this
      show (List.filter _ _).length ≤ _
      rw [List.filter_cons_of_neg (by simp)]
      have e : (p.filter fun c => decide (c ≠ -1)).length = need p := rfl
      rw [e]
      omega
    · obtain ⟨x, s', rfl, _, h⟩ := (mat_sign hc).1 h
      have := need_le h
      show (List.filter _ _).length ≤ _
      rw [List.filter_cons_of_pos (by simpa using hc)]
      have e : (p.filter fun c => decide (c ≠ -1)).length = need p := rfl
      simp only [List.length_cons]
      rw [e]
      omega
theorem mat_nil : ∀ {p : List Int}, mat eqv p [] = p.all fun c => decide (c = -1)
  | [] => rfl
  | c :: p => by
    by_cases hc : c = -1
    · rw [mat_cons, if_pos hc]
      show mat eqv p [] = _
      rw [mat_nil]
      simp [hc]
    · rw [mat_cons, if_neg hc]
      simp [hc]

/-- THE SEARCH's OWN LAW. b: where the last 'any signs' stands (-1: nowhere), f: the sign at which what is behind it was begun, i: the sign, k: the element that is looked at. -/
def At (eqv : Int → Int → Bool) (P L : List Int) (b : Int) (f i k : Nat) : Prop :=
  i ≤ L.length ∧ k ≤ P.length ∧ f ≤ i ∧
  (b < 0 ∧ f = 0 ∧ mat eqv P L = mat eqv (P.drop k) (L.drop i) ∨
   ∃ n : Nat, b = n ∧ P[n]? = some (-1) ∧ n + 1 + (i - f) = k ∧ mat eqv P L = mat eqv (P.drop n) (L.drop f) ∧ seg eqv ((P.drop (n + 1)).take (i - f)) (L.drop f) = true)

theorem At.start (P L : List Int) : At eqv P L (-1) 0 0 0 := ⟨Nat.zero_le _, Nat.zero_le _, Nat.le_refl _, .inl ⟨by omega, rfl, rfl⟩⟩

theorem drop_cons {l : List Int} {k : Nat} {x : Int} (h : l[k]? = some x) : l.drop k = x :: l.drop (k + 1) := by
  obtain ⟨hk, e⟩ := List.getElem?_eq_some_iff.1 h
  rw [List.drop_eq_getElem_cons hk, e]

theorem At.split {P L : List Int} {n f i k : Nat} (hk : n + 1 + (i - f) = k) : P.drop (n + 1) = (P.drop (n + 1)).take (i - f) ++ P.drop k := by
  conv => lhs; rw [← List.take_append_drop (i - f) (P.drop (n + 1))]
  rw [List.drop_drop, hk]

/-- at 'any signs' -/
theorem At.star {P L : List Int} {b : Int} {f i k : Nat} (h : At eqv P L b f i k) (hk : P[k]? = some (-1)) : At eqv P L k i i (k + 1) := by
  obtain ⟨h1, h2, h3, h4⟩ := h
  have hk' := (List.getElem?_eq_some_iff.1 hk).1
  refine ⟨h1, hk', Nat.le_refl _, .inr ⟨k, rfl, hk, by omega, ?_, by simp [seg]⟩⟩
  rcases h4 with ⟨_, _, h4⟩ | ⟨n, _, hn, e, h4, h5⟩
  · exact h4
  · rw [h4, drop_cons hn, At.split (P := P) (L := L) e, drop_cons hk, star_seg (seg_plain h5) h5, List.drop_drop, List.length_take, List.length_drop]
    congr 2
    omega
/-- at a sign that stands for this one -/
theorem At.sign {P L : List Int} {b : Int} {f i k : Nat} (h : At eqv P L b f i k) {c x : Int} (hk : P[k]? = some c) (hi : L[i]? = some x) (hc : c ≠ -1) (hh : hit eqv c x = true) : At eqv P L b f (i + 1) (k + 1) := by
  obtain ⟨h1, h2, h3, h4⟩ := h
  have hk' := (List.getElem?_eq_some_iff.1 hk).1
  have hi' := (List.getElem?_eq_some_iff.1 hi).1
  refine ⟨hi', hk', by omega, ?_⟩
  rcases h4 with ⟨hb, hf, h4⟩ | ⟨n, hb, hn, e, h4, h5⟩
  · refine .inl ⟨hb, hf, ?_⟩
    rw [h4, drop_cons hk, drop_cons hi, Bool.eq_iff_iff, mat_sign hc]
    constructor
    · rintro ⟨y, s, e, _, h⟩
      cases e
      exact h
    · exact fun h => ⟨_, _, rfl, hh, h⟩
  · refine .inr ⟨n, hb, hn, by omega, h4, ?_⟩
    have e1 : i + 1 - f = (i - f) + 1 := by omega
    have e2 : (P.drop (n + 1))[i - f]? = some c := by rw [List.getElem?_drop, e]; exact hk
    rw [e1, List.take_add_one, e2]
    refine seg_snoc h5 ?_ hc hh
    rw [List.length_take, List.length_drop, List.getElem?_drop, ← hi]
    congr 1
    omega
/-- at a sign that this one does not stand for, or behind the last: no 'any signs' -/
theorem At.no {P L : List Int} {b : Int} {f i k : Nat} (h : At eqv P L b f i k) {x : Int} (hi : L[i]? = some x) (hk : ∀ c, P[k]? = some c → c ≠ -1 ∧ hit eqv c x = false) (hb : b < 0) : mat eqv P L = false := by
  obtain ⟨h1, h2, h3, h4⟩ := h
  rcases h4 with ⟨_, _, h4⟩ | ⟨n, hb', _⟩
  · rw [h4, drop_cons hi]
    cases hp : P[k]? with
    | none =>
      rw [List.drop_eq_nil_of_le (List.getElem?_eq_none_iff.1 hp)]
      rfl
    | some c =>
      obtain ⟨hc, hh⟩ := hk c hp
      rw [drop_cons hp, mat_cons, if_neg hc]
      show (hit eqv c x && _) = false
      rw [hh]
      rfl
  · omega
/-- .. and one: what stands behind it is begun anew, one sign further on -/
theorem At.again {P L : List Int} {b : Int} {f i k : Nat} (h : At eqv P L b f i k) {x : Int} (hi : L[i]? = some x) (hk : ∀ c, P[k]? = some c → c ≠ -1 ∧ hit eqv c x = false) (hb : ¬ b < 0) : At eqv P L b (f + 1) (f + 1) ((b + 1).toNat) := by
  obtain ⟨h1, h2, h3, h4⟩ := h
  have hi' := (List.getElem?_eq_some_iff.1 hi).1
  rcases h4 with ⟨hb', _⟩ | ⟨n, rfl, hn, e, h4, h5⟩
  · exact absurd hb' hb
  · have hn' := (List.getElem?_eq_some_iff.1 hn).1
    have e0 : ((n : Int) + 1).toNat = n + 1 := by omega
    rw [e0]
    refine ⟨by omega, hn', Nat.le_refl _, .inr ⟨n, rfl, hn, by omega, ?_, by simp [seg]⟩⟩
    obtain ⟨y, hy⟩ : ∃ y, L[f]? = some y := ⟨L[f], List.getElem?_eq_getElem (by omega)⟩
    rw [h4, drop_cons hn, drop_cons hy, star_fail]
    rw [← drop_cons hy, Bool.eq_false_iff]
    intro hm
    rw [At.split (P := P) (L := L) e, mat_seg (seg_plain h5)] at hm
    have hm := hm.2
    rw [List.drop_drop, List.length_take, List.length_drop] at hm
    have e2 : f + min (i - f) (P.length - (n + 1)) = i := by omega
    rw [e2, drop_cons hi] at hm
    cases hp : P[k]? with
    | none =>
      rw [List.drop_eq_nil_of_le (List.getElem?_eq_none_iff.1 hp)] at hm
      cases hm
    | some c =>
      obtain ⟨hc, hh⟩ := hk c hp
      rw [drop_cons hp, mat_cons, if_neg hc] at hm
      simp [hh] at hm
/-- behind the last sign -/
theorem At.done {P L : List Int} {b : Int} {f k : Nat} (h : At eqv P L b f L.length k) : mat eqv P L = (P.drop k).all fun c => decide (c = -1) := by
  obtain ⟨h1, h2, h3, h4⟩ := h
  rcases h4 with ⟨_, _, h4⟩ | ⟨n, rfl, hn, e, h4, h5⟩
  · rw [h4, List.drop_length, mat_nil]
  · rw [h4, drop_cons hn, At.split (P := P) (L := L) e, Bool.eq_iff_iff, mat_star]
    constructor
    · rintro ⟨j, hj, hm⟩
      have hneed := need_le hm
      rw [List.drop_drop, List.length_drop] at hneed
      rw [List.length_drop] at hj
      have e3 : need ((P.drop (n + 1)).take (L.length - f) ++ P.drop k) = (L.length - f) + need (P.drop k) := by
        unfold need
        rw [List.filter_append, List.length_append, List.filter_eq_self.2 (fun c hc => by simpa using seg_plain h5 c hc), List.length_take, List.length_drop]
        omega
      rw [e3] at hneed
      have h0 : need (P.drop k) = 0 := by omega
      rw [List.all_eq_true]
      intro c hc
      unfold need at h0
      have := List.length_eq_zero_iff.1 h0
      rw [List.filter_eq_nil_iff] at this
      simpa using this c hc
    · intro h
      refine ⟨0, Nat.zero_le _, (mat_seg (seg_plain h5)).2 ⟨by simpa using h5, ?_⟩⟩
      have e2 : ((L.drop f).drop 0).drop ((P.drop (n + 1)).take (L.length - f)).length = [] := List.drop_eq_nil_of_le (by rw [List.length_take, List.length_drop, List.length_drop, List.length_drop]; omega)
      rw [e2, mat_nil]
      exact h
end Go.Ux.Like
/- Laws of patterns in plain lists: a quoted text, a folded one, signs at the ends. No program. -/
namespace Go.Ux.Like
open Go

/-- what a sign of a pattern's text stands for -/
def elt (c : Nat) : Int := if c = 37 then -1 else if c = 95 then -2 else (c : Int)
/-- the elements of a pattern's text; none: the sign that escapes is its last -/
def pat (e : Option Nat) : List Nat → Option (List Int)
  | [] => some []
  | c :: l => if e = some c then (match l with
      | [] => none
      | d :: l' => (pat e l').map (((d : Nat) : Int) :: ·))
    else (pat e l).map (elt c :: ·)

theorem pat_cons (e : Option Nat) (c : Nat) (l : List Nat) : pat e (c :: l) = if e = some c then (match l with
      | [] => none
      | d :: l' => (pat e l').map (((d : Nat) : Int) :: ·))
    else (pat e l).map (elt c :: ·) := by cases l <;> rfl

theorem pat_none : ∀ l : List Nat, pat none l = some (l.map elt)
  | [] => rfl
  | c :: l => by rw [pat_cons, if_neg (by simp), pat_none l]; rfl

def special (e c : Nat) : Bool := decide (c = 37) || decide (c = 95) || decide (c = e)
theorem pat_quote (e : Nat) : ∀ l : List Nat, pat (some e) (Sign.quote (special e) e l) = some (l.map fun (c : Nat) => (c : Int))
  | [] => rfl
  | c :: l => by
    have ih := pat_quote e l
    rw [Sign.quote_cons]
    by_cases h : special e c = true
    · rw [if_pos h]
      show (if some e = some e then ((pat (some e) (Sign.quote (special e) e l)).map (((c : Nat) : Int) :: ·)) else _) = _
      rw [if_pos rfl, ih]
      rfl
    · rw [if_neg h]
      simp only [special, Bool.or_eq_true, decide_eq_true_eq, not_or] at h
      rw [pat_cons, if_neg (by simp; exact fun h' => h.2 h'.symm), ih]
      have : elt c = (c : Int) := by unfold elt; rw [if_neg h.1.1, if_neg h.1.2]
      rw [this]
      rfl

/-- signs that are alike just where they are the same -/
def same (a b : Int) : Bool := a == b
theorem mat_plain {eqv : Int → Int → Bool} : ∀ {p : List Int} {s : List Int}, (∀ c ∈ p, 0 ≤ c) → mat eqv p s = (decide (p.length = s.length) && (p.zip s).all fun x => eqv x.1 x.2)
  | [], [], _ => rfl
  | [], _ :: _, _ => rfl
  | c :: p, s, h => by
    have hc : 0 ≤ c := h c List.mem_cons_self
    rw [mat_cons, if_neg (by omega)]
    cases s with
    | nil => rfl
    | cons x s =>
      show (hit eqv c x && mat eqv p s) = _
      rw [mat_plain fun c hc => h c (List.mem_cons_of_mem _ hc)]
      unfold hit
      rw [decide_eq_false (by omega : ¬ c = -2), Bool.false_or]
      simp only [List.length_cons, List.zip_cons_cons, List.all_cons, Nat.add_right_cancel_iff]
      rw [← Bool.and_assoc, ← Bool.and_assoc, Bool.and_comm (eqv c x)]
theorem mat_same : ∀ {p s : List Int}, (∀ c ∈ p, 0 ≤ c) → (mat same p s = true ↔ p = s)
  | [], [], _ => by simp [mat]
  | [], _ :: _, _ => by simp [mat]
  | c :: p, s, h => by
    have hc : 0 ≤ c := h c List.mem_cons_self
    rw [mat_sign (by omega)]
    constructor
    · rintro ⟨x, s', rfl, h1, h2⟩
      have e := (mat_same fun c hc => h c (List.mem_cons_of_mem _ hc)).1 h2
      unfold hit same at h1
      rw [decide_eq_false (by omega : ¬ c = -2), Bool.false_or] at h1
      rw [e, eq_of_beq h1]
    · rintro rfl
      exact ⟨c, p, rfl, by unfold hit same; simp, (mat_same fun c hc => h c (List.mem_cons_of_mem _ hc)).2 rfl⟩
theorem mat_signs {l m : List Nat} : mat same (l.map fun (c : Nat) => (c : Int)) (m.map fun (c : Nat) => (c : Int)) = true ↔ l = m := by
  rw [mat_same (by intro c hc; obtain ⟨d, _, rfl⟩ := List.mem_map.1 hc; exact Int.natCast_nonneg d)]
  constructor
  · intro h
    have := congrArg (List.map Int.toNat) h
    rw [List.map_map, List.map_map] at this
    have e : (Int.toNat ∘ fun (c : Nat) => (c : Int)) = id := by funext c; simp
    rwa [e, List.map_id, List.map_id] at this
  · rintro rfl; rfl

/-- one alikeness in another's place, sign by sign -/
theorem mat_turn {eqv eqv' : Int → Int → Bool} {g : Int → Int} {k : Int → Int} (hs : ∀ c, g c = -1 ↔ c = -1) : ∀ {p s : List Int}, (∀ c ∈ p, ∀ x ∈ s, c ≠ -1 → hit eqv' (g c) (k x) = hit eqv c x) → mat eqv' (p.map g) (s.map k) = mat eqv p s
  | [], [], _ => rfl
  | [], _ :: _, _ => rfl
  | c :: p, s, h => by
    have ih : ∀ s', (∀ x ∈ s', x ∈ s) → mat eqv' (p.map g) (s'.map k) = mat eqv p s' := fun s' hs' => mat_turn hs fun c hc x hx => h c (List.mem_cons_of_mem _ hc) x (hs' x hx)
    rw [List.map_cons, mat_cons, mat_cons]
    by_cases hc : c = -1
    · rw [if_pos hc, if_pos ((hs c).2 hc)]
      have key : ∀ s', (∀ x ∈ s', x ∈ s) → tails (mat eqv' (p.map g)) (s'.map k) = tails (mat eqv p) s' := by
        intro s'
        induction s' with
        | nil => intro h'; exact ih [] h'
        | cons x s' ih' =>
          intro h'
          show (mat eqv' (p.map g) ((x :: s').map k) || tails _ (s'.map k)) = (mat eqv p (x :: s') || tails _ s')
          rw [ih (x :: s') h', ih' fun y hy => h' y (List.mem_cons_of_mem _ hy)]
      exact key s fun x hx => hx
    · rw [if_neg hc, if_neg (fun e => hc ((hs c).1 e))]
      cases s with
      | nil => rfl
      | cons x s =>
        show (hit eqv' (g c) (k x) && mat eqv' (p.map g) (s.map k)) = (hit eqv c x && mat eqv p s)
        rw [h c List.mem_cons_self x List.mem_cons_self hc, ih s fun y hy => List.mem_cons_of_mem _ hy]

/-! ### signs at the ends -/
theorem mat_append_same {a p s : List Int} (h : ∀ c ∈ a, 0 ≤ c) : mat same (a ++ p) (a ++ s) = mat same p s := by
  induction a with
  | nil => rfl
  | cons c a ih =>
    have hc : 0 ≤ c := h c List.mem_cons_self
    rw [List.cons_append, List.cons_append, mat_cons, if_neg (by omega)]
    show (hit same c c && mat same (a ++ p) (a ++ s)) = _
    rw [ih fun c hc => h c (List.mem_cons_of_mem _ hc)]
    unfold hit same
    simp
theorem mat_star_end {p s t : List Int} (h : mat same p t = true) : mat same (-1 :: p) (s ++ t) = true := by
  rw [mat_star]
  exact ⟨s.length, by simp, by rw [List.drop_left]; exact h⟩
theorem mat_star_nil (s : List Int) : mat same [-1] s = true := by
  have := mat_star_end (p := []) (s := s) (t := []) rfl
  rwa [List.append_nil] at this
/-- what lies within -/
theorem mat_within {b d : List Int} (h : ∀ c ∈ b, 0 ≤ c) : mat same (-1 :: (b ++ [-1])) d = true ↔ ∃ i, i + b.length ≤ d.length ∧ (d.drop i).take b.length = b := by
  have hm : ∀ s : List Int, mat same (b ++ [-1]) s = true ↔ s.take b.length = b := by
    intro s
    rw [mat_seg fun c hc => by have := h c hc; omega]
    constructor
    · rintro ⟨h1, h0⟩
      clear h0
      induction b generalizing s with
      | nil => simp
      | cons c b ih =>
        cases s with
        | nil => simp [seg] at h1
        | cons x s =>
          simp only [seg, Bool.and_eq_true, decide_eq_true_eq] at h1
          have hc : 0 ≤ c := h c List.mem_cons_self
          have h2 := h1.2.1
          unfold hit same at h2
          rw [decide_eq_false (by omega : ¬ c = -2), Bool.false_or] at h2
          rw [List.length_cons, List.take_succ_cons, ih (fun c hc => h c (List.mem_cons_of_mem _ hc)) s h1.2.2, eq_of_beq h2]
    · intro e
      refine ⟨?_, mat_star_nil _⟩
      induction b generalizing s with
      | nil => rfl
      | cons c b ih =>
        cases s with
        | nil => simp at e
        | cons x s =>
          rw [List.length_cons, List.take_succ_cons, List.cons.injEq] at e
          have hc : 0 ≤ c := h c List.mem_cons_self
          simp only [seg, Bool.and_eq_true, decide_eq_true_eq]
          exact ⟨by omega, by unfold hit same; simp [e.1], ih (fun c hc => h c (List.mem_cons_of_mem _ hc)) s e.2⟩
  rw [mat_star]
  constructor
  · rintro ⟨i, hi, h1⟩
    have e := (hm _).1 h1
    have := congrArg List.length e
    rw [List.length_take, List.length_drop] at this
    exact ⟨i, by omega, e⟩
  · rintro ⟨i, hi, e⟩
    exact ⟨i, by omega, (hm _).2 e⟩
end Go.Ux.Like
/- Patterns of single signs: what they match is told by the number of signs. No program. -/
namespace Go.Ux.Like
open Go
variable {eqv : Int → Int → Bool}
def ones (n : Nat) : List Int := List.replicate n (-2)
theorem mat_ones (q : List Int) : ∀ (n : Nat) (s : List Int), mat eqv (ones n ++ q) s = (decide (n ≤ s.length) && mat eqv q (s.drop n))
  | 0, s => by simp [ones]
  | n + 1, s => by
    show mat eqv (-2 :: (ones n ++ q)) s = _
    rw [mat_cons, if_neg (by decide)]
    cases s with
    | nil => simp
    | cons x s =>
      show (hit eqv (-2) x && mat eqv (ones n ++ q) s) = _
      rw [mat_ones q n s]
      have : hit eqv (-2) x = true := by unfold hit; simp
      rw [this, Bool.true_and, List.drop_succ_cons, List.length_cons]
      congr 1
      rw [decide_eq_decide]
      omega
theorem mat_nil_is (s : List Int) : mat eqv [] s = decide (s.length = 0) := by
  cases s <;> simp [mat]
theorem mat_stars : ∀ (k : Nat) (s : List Int), mat eqv (List.replicate (k + 1) (-1)) s = true
  | 0, s => mat_star.2 ⟨s.length, Nat.le_refl _, by rw [List.drop_length]; rfl⟩
  | k + 1, s => mat_star.2 ⟨0, Nat.zero_le _, mat_stars k _⟩
theorem count_x (n : Nat) (s : List Int) : mat eqv (ones n) s = decide (s.length = n) := by
  have h := mat_ones (eqv := eqv) [] n s
  rw [List.append_nil] at h
  rw [h, mat_nil_is, List.length_drop, ← Bool.decide_and, decide_eq_decide]
  omega
theorem count_y (n : Nat) (s : List Int) : mat eqv (ones n ++ [-1]) s = decide (n ≤ s.length) := by
  rw [mat_ones, show ([-1] : List Int) = List.replicate (0 + 1) (-1) from rfl, mat_stars, Bool.and_true]
theorem count_z (n : Nat) (s : List Int) : mat eqv (-1 :: (ones n ++ [-1, -1])) s = decide (n ≤ s.length) := by
  rw [Bool.eq_iff_iff, mat_star, decide_eq_true_eq]
  have h : ∀ j, mat eqv (ones n ++ [-1, -1]) (s.drop j) = decide (n ≤ s.length - j) := fun j => by
    rw [mat_ones, show ([-1, -1] : List Int) = List.replicate (1 + 1) (-1) from rfl, mat_stars, Bool.and_true, List.length_drop]
  constructor
  · rintro ⟨j, hj, h1⟩
    rw [h j, decide_eq_true_eq] at h1
    omega
  · intro hn
    exact ⟨0, Nat.zero_le _, by rw [h 0, decide_eq_true_eq]; omega⟩
/-- n signs '_' as bytes -/
def unders (n : Nat) : List UInt8 := List.replicate n 95
theorem signs_unders (n : Nat) (a b : List UInt8) (ha : ∀ x ∈ a, x = 37) (hb : ∀ x ∈ b, x = 37) : (Sign.signs (a ++ (unders n ++ b))).map elt = a.map (fun _ => (-1 : Int)) ++ (ones n ++ b.map fun _ => (-1 : Int)) := by
  rw [Sign.signs_ascii _ (fun x hx => by
    rcases List.mem_append.1 hx with h | h
    · rw [ha x h]; decide
    · rcases List.mem_append.1 h with h | h
      · rw [(List.mem_replicate.1 h).2]; decide
      · rw [hb x h]; decide)]
  simp only [List.map_append, List.map_map]
  congr 1
  · exact List.map_congr_left fun x hx => by rw [ha x hx]; rfl
  · congr 1
    · unfold unders ones
      rw [List.map_replicate]
      rfl
    · exact List.map_congr_left fun x hx => by rw [hb x hx]; rfl
end Go.Ux.Like
