/- PART OF THE PROOF THAT THIS CLAIM HOLDS OF THE GIVEN PROGRAM, FOR EVERY INPUT THAT THE STATEMENT NAMES. No condition besides the statement's own. -/
import Derived.Test.YtglamoompicciaaGreatDoorUxLikeZ
import Derived.Test.YtglamoompicciaaGreatDoorUxSignZ
/- Laws of patterns in plain lists: a quoted text, a folded one, signs at the ends. No program. -/
namespace Go.Ux.Like
open Go

/-- what a sign of a pattern's text stands for -/
def elt (c : Nat) : Int := if c = 37 then -1 else if c = 95 then -2 else (c : Int)
/-- the elements of a pattern's text; none: the sign that escapes is its last -/
def pat (e : Option Nat) : List Nat → Option (List Int)
  | [] => some []
  | c :: l => if e = some c then (match l with
      | [] => none
      | d :: l' => (pat e l').map (((d : Nat) : Int) :: ·))
    else (pat e l).map (elt c :: ·)

theorem pat_cons (e : Option Nat) (c : Nat) (l : List Nat) : pat e (c :: l) = if e = some c then (match l with
      | [] => none
      | d :: l' => (pat e l').map (((d : Nat) : Int) :: ·))
    else (pat e l).map (elt c :: ·) := by cases l <;> rfl

theorem pat_none : ∀ l : List Nat, pat none l = some (l.map elt)
  | [] => rfl
  | c :: l => by rw [pat_cons, if_neg (by simp), pat_none l]; rfl

def special (e c : Nat) : Bool := decide (c = 37) || decide (c = 95) || decide (c = e)
theorem pat_quote (e : Nat) : ∀ l : List Nat, pat (some e) (Sign.quote (special e) e l) = some (l.map fun (c : Nat) => (c : Int))
  | [] => rfl
  | c :: l => by
    have ih := pat_quote e l
    rw [Sign.quote_cons]
    by_cases h : special e c = true
    · rw [if_pos h]
      show (if some e = some e then ((pat (some e) (Sign.quote (special e) e l)).map (((c : Nat) : Int) :: ·)) else _) = _
      rw [if_pos rfl, ih]
      rfl
    · rw [if_neg h]
      simp only [special, Bool.or_eq_true, decide_eq_true_eq, not_or] at h
      rw [pat_cons, if_neg (by simp; exact fun h' => h.2 h'.symm), ih]
      have : elt c = (c : Int) := by unfold elt; rw [if_neg h.1.1, if_neg h.1.2]
      rw [this]
      rfl

/-- signs that are alike just where they are the same -/
def same (a b : Int) : Bool := a == b
theorem mat_plain {eqv : Int → Int → Bool} : ∀ {p : List Int} {s : List Int}, (∀ c ∈ p, 0 ≤ c) → mat eqv p s = (decide (p.length = s.length) && (p.zip s).all fun x => eqv x.1 x.2)
  | [], [], _ => rfl
  | [], _ :: _, _ => rfl
  | c :: p, s, h => by
    have hc : 0 ≤ c := h c List.mem_cons_self
    rw [mat_cons, if_neg (by omega)]
    cases s with
    | nil => rfl
    | cons x s =>
      show (hit eqv c x && mat eqv p s) = _
      rw [mat_plain fun c hc => h c (List.mem_cons_of_mem _ hc)]
      unfold hit
      rw [decide_eq_false (by omega : ¬ c = -2), Bool.false_or]
      simp only [List.length_cons, List.zip_cons_cons, List.all_cons, Nat.add_right_cancel_iff]
      rw [← Bool.and_assoc, ← Bool.and_assoc, Bool.and_comm (eqv c x)]
theorem mat_same : ∀ {p s : List Int}, (∀ c ∈ p, 0 ≤ c) → (mat same p s = true ↔ p = s)
  | [], [], _ => by simp [mat]
  | [], _ :: _, _ => by simp [mat]
  | c :: p, s, h => by
    have hc : 0 ≤ c := h c List.mem_cons_self
    rw [mat_sign (by omega)]
    constructor
    · rintro ⟨x, s', rfl, h1, h2⟩
      have e := (mat_same fun c hc => h c (List.mem_cons_of_mem _ hc)).1 h2
      unfold hit same at h1
      rw [decide_eq_false (by omega : ¬ c = -2), Bool.false_or] at h1
      rw [e, eq_of_beq h1]
    · rintro rfl
      exact ⟨c, p, rfl, by unfold hit same; simp, (mat_same fun c hc => h c (List.mem_cons_of_mem _ hc)).2 rfl⟩
theorem mat_signs {l m : List Nat} : mat same (l.map fun (c : Nat) => (c : Int)) (m.map fun (c : Nat) => (c : Int)) = true ↔ l = m := by
  rw [mat_same (by intro c hc; obtain ⟨d, _, rfl⟩ := List.mem_map.1 hc; exact Int.natCast_nonneg d)]
  constructor
  · intro h
    have := congrArg (List.map Int.toNat) h
    rw [List.map_map, List.map_map] at this
    have e : (Int.toNat ∘ fun (c : Nat) => (c : Int)) = id := by funext c; simp
    rwa [e, List.map_id, List.map_id] at this
  · rintro rfl; rfl

/-- one alikeness in another's place, sign by sign -/
theorem mat_turn {eqv eqv' : Int → Int → Bool} {g : Int → Int} {k : Int → Int} (hs : ∀ c, g c = -1 ↔ c = -1) : ∀ {p s : List Int}, (∀ c ∈ p, ∀ x ∈ s, c ≠ -1 → hit eqv' (g c) (k x) = hit eqv c x) → mat eqv' (p.map g) (s.map k) = mat eqv p s
  | [], [], _ => rfl
  | [], _ :: _, _ => rfl
  | c :: p, s, h => by
    have ih : ∀ s', (∀ x ∈ s', x ∈ s) → mat eqv' (p.map g) (s'.map k) = mat eqv p s' := fun s' hs' => mat_turn hs fun c hc x hx => h c (List.mem_cons_of_mem _ hc) x (hs' x hx)
    rw [List.map_cons, mat_cons, mat_cons]
    by_cases hc : c = -1
    · rw [if_pos hc, if_pos ((hs c).2 hc)]
      have key : ∀ s', (∀ x ∈ s', x ∈ s) → tails (mat eqv' (p.map g)) (s'.map k) = tails (mat eqv p) s' := by
        intro s'
        induction s' with
        | nil => intro h'; exact ih [] h'
        | cons x s' ih' =>
          intro h'
          show (mat eqv' (p.map g) ((x :: s').map k) || tails _ (s'.map k)) = (mat eqv p (x :: s') || tails _ s')
          rw [ih (x :: s') h', ih' fun y hy => h' y (List.mem_cons_of_mem _ hy)]
      exact key s fun x hx => hx
    · rw [if_neg hc, if_neg (fun e => hc ((hs c).1 e))]
      cases s with
      | nil => rfl
      | cons x s =>
        show (hit eqv' (g c) (k x) && mat eqv' (p.map g) (s.map k)) = (hit eqv c x && mat eqv p s)
        rw [h c List.mem_cons_self x List.mem_cons_self hc, ih s fun y hy => List.mem_cons_of_mem _ hy]

/-! ### signs at the ends -/
theorem mat_append_same {a p s : List Int} (h : ∀ c ∈ a, 0 ≤ c) : mat same (a ++ p) (a ++ s) = mat same p s := by
  induction a with
  | nil => rfl
  | cons c a ih =>
    have hc : 0 ≤ c := h c List.mem_cons_self
    rw [List.cons_append, List.cons_append, mat_cons, if_neg (by omega)]
    show (hit same c c && mat same (a ++ p) (a ++ s)) = _
    rw [ih fun c hc => h c (List.mem_cons_of_mem _ hc)]
    unfold hit same
    simp
theorem mat_star_end {p s t : List Int} (h : mat same p t = true) : mat same (-1 :: p) (s ++ t) = true := by
  rw [mat_star]
  exact ⟨s.length, by simp, by rw [List.drop_left]; exact h⟩
theorem mat_star_nil (s : List Int) : mat same [-1] s = true := by
  have := mat_star_end (p := []) (s := s) (t := []) rfl
  rwa [List.append_nil] at this
/-- what lies within -/
theorem mat_within {b d : List Int} (h : ∀ c ∈ b, 0 ≤ c) : mat same (-1 :: (b ++ [-1])) d = true ↔ ∃ i, i + b.length ≤ d.length ∧ (d.drop i).take b.length = b := by
  have hm : ∀ s : List Int, mat same (b ++ [-1]) s = true ↔ s.take b.length = b := by
    intro s
    rw [mat_seg fun c hc => by have := h c hc; omega]
    constructor
    · rintro ⟨h1, h0⟩
      clear h0
      induction b generalizing s with
      | nil => simp
      | cons c b ih =>
        cases s with
        | nil => simp [seg] at h1
        | cons x s =>
          simp only [seg, Bool.and_eq_true, decide_eq_true_eq] at h1
          have hc : 0 ≤ c := h c List.mem_cons_self
          have h2 := h1.2.1
          unfold hit same at h2
          rw [decide_eq_false (by omega : ¬ c = -2), Bool.false_or] at h2
          rw [List.length_cons, List.take_succ_cons, ih (fun c hc => h c (List.mem_cons_of_mem _ hc)) s h1.2.2, eq_of_beq h2]
    · intro e
      refine ⟨?_, mat_star_nil _⟩
      induction b generalizing s with
      | nil => rfl
      | cons c b ih =>
        cases s with
        | nil => simp at e
        | cons x s =>
          rw [List.length_cons, List.take_succ_cons, List.cons.injEq] at e
          have hc : 0 ≤ c := h c List.mem_cons_self
          simp only [seg, Bool.and_eq_true, decide_eq_true_eq]
          exact ⟨by omega, by unfold hit same; simp [e.1], ih (fun c hc => h c (List.mem_cons_of_mem _ hc)) s e.2⟩
  rw [mat_star]
  constructor
  · rintro ⟨i, hi, h1⟩
    have e := (hm _).1 h1
    have := congrArg List.length e
    rw [List.length_take, List.length_drop] at this
    exact ⟨i, by omega, e⟩
  · rintro ⟨i, hi, e⟩
    exact ⟨i, by omega, (hm _).2 e⟩
end Go.Ux.Like
