/- PART OF THE PROOF THAT THIS CLAIM HOLDS OF THE GIVEN PROGRAM, FOR EVERY INPUT THAT THE STATEMENT NAMES. No condition besides the statement's own. -/
import Derived.Test.YtlibbngcdeblmaaDoorUxEscZ
/- A value's bytes at the head of a key: found again, and none is another one's beginning. No program. -/
namespace Go.Ux

/-- how many bytes the first value has (0: fine, 3: no form, 4: torn) -/
def tk : List UInt8 → Nat × Int
  | [] => (0, 4)
  | b :: r =>
    if b = 1 then (1, 0)
    else if b = 2 then (match r with
      | [] => (0, 4)
      | c :: _ => if 1 < c.toNat then (0, 3) else (2, 0))
    else if b = 3 then (if r.length < 8 then (0, 4) else (9, 0))
    else if b = 4 then (if (une r [] 0).2.2 = 0 then (1 + (une r [] 0).2.1, 0) else (0, (une r [] 0).2.2))
    else (0, 3)

theorem tk_cons (b : UInt8) (r : List UInt8) : tk (b :: r) = if b = 1 then ((1 : Nat), (0 : Int))
    else if b = 2 then (match r with
      | [] => (0, 4)
      | c :: _ => if 1 < c.toNat then (0, 3) else (2, 0))
    else if b = 3 then (if r.length < 8 then (0, 4) else (9, 0))
    else if b = 4 then (if (une r [] 0).2.2 = 0 then (1 + (une r [] 0).2.1, 0) else (0, (une r [] 0).2.2))
    else (0, 3) := rfl

/-- the bytes of values -/
inductive IsVal : List UInt8 → Prop
  | null : IsVal [1]
  | bool (b : UInt8) (h : b.toNat ≤ 1) : IsVal [2, b]
  | int (e : List UInt8) (h : e.length = 8) : IsVal (3 :: e)
  | text (s : List UInt8) : IsVal (4 :: esc s)

theorem tk_val {a : List UInt8} (h : IsVal a) (more : List UInt8) : tk (a ++ more) = (a.length, 0) := by
  cases h with
  | null => rfl
  | bool b h =>
    show tk (2 :: b :: more) = (2, 0)
    rw [tk_cons, if_neg (by decide), if_pos rfl]
    exact if_neg (by omega)
  | int e h =>
    rw [List.cons_append, tk_cons, if_neg (by decide), if_neg (by decide), if_pos rfl, if_neg (by rw [List.length_append]; omega), List.length_cons, h]
  | text s =>
    rw [List.cons_append, tk_cons, if_neg (by decide), if_neg (by decide), if_neg (by decide), if_pos rfl, une_esc, if_pos rfl]
    simp only [List.length_cons, Prod.mk.injEq, and_true]
    omega

theorem no_begin {a b : List UInt8} (ha : IsVal a) (hb : IsVal b) (h : a <+: b) : a = b := by
  obtain ⟨t, rfl⟩ := h
  have h1 := tk_val ha t
  have h2 := tk_val hb []
  rw [List.append_nil, h1] at h2
  have h3 : a.length = (a ++ t).length := congrArg Prod.fst h2
  rw [List.length_append] at h3
  have : t = [] := List.length_eq_zero_iff.1 (by omega)
  rw [this, List.append_nil]

/-- bytes that stand the other way round -/
def turn (s : List UInt8) : List UInt8 := s.map fun c => 255 - c
def turnIf (d : Bool) (s : List UInt8) : List UInt8 := if d then turn s else s
theorem turn_turn (s : List UInt8) : turn (turn s) = s := by
  unfold turn
  rw [List.map_map]
  have : ((fun c : UInt8 => 255 - c) ∘ fun c => 255 - c) = id := by
    funext c
    show 255 - (255 - c) = c
    rw [← UInt8.toNat_inj]
    have := UInt8.toNat_lt c
    simp [UInt8.toNat_sub]
    omega
  rw [this, List.map_id]
theorem turnIf_turnIf (d : Bool) (s : List UInt8) : turnIf d (turnIf d s) = s := by cases d <;> simp [turnIf, turn_turn]
theorem turnIf_append (d : Bool) (s t : List UInt8) : turnIf d (s ++ t) = turnIf d s ++ turnIf d t := by cases d <;> simp [turnIf, turn]
theorem turnIf_length (d : Bool) (s : List UInt8) : (turnIf d s).length = s.length := by cases d <;> simp [turnIf, turn]

theorem take_val {a : List UInt8} (h : IsVal a) (d : Bool) (more : List UInt8) : tk (turnIf d (turnIf d a ++ more)) = ((turnIf d a).length, 0) := by
  rw [turnIf_append, turnIf_turnIf, tk_val h, turnIf_length]
theorem no_begin_turned {a b : List UInt8} (ha : IsVal a) (hb : IsVal b) (d : Bool) (h : turnIf d a <+: turnIf d b) : turnIf d a = turnIf d b := by
  obtain ⟨t, h⟩ := h
  have : a ++ turnIf d t = b := by rw [← turnIf_turnIf d b, ← h, turnIf_append, turnIf_turnIf]
  rw [no_begin ha hb ⟨_, this⟩]

/-! ### eight bytes, the greatest first -/
def be (l : List UInt8) : Nat := l.foldl (fun w c => w * 256 + c.toNat) 0
theorem be_snoc (l : List UInt8) (c : UInt8) : be (l ++ [c]) = be l * 256 + c.toNat := by unfold be; rw [List.foldl_append]; rfl
theorem be_lt (l : List UInt8) : be l < 256 ^ l.length := by
  have key : ∀ n (l : List UInt8), l.length = n → be l < 256 ^ n := by
    intro n
    induction n with
    | zero => intro l h; rw [List.length_eq_zero_iff.1 h]; decide
    | succ n ih =>
      intro l h
      have hne : l ≠ [] := by intro e; rw [e] at h; cases h
      have e := List.dropLast_concat_getLast hne
      rw [← e, be_snoc]
      have h1 := ih l.dropLast (by rw [List.length_dropLast]; omega)
      have h2 := UInt8.toNat_lt (l.getLast hne)
      rw [Nat.pow_succ]
      omega
  exact key _ l rfl
theorem be_take_lt {l : List UInt8} {i : Nat} (hi : i < 8) : be (l.take i) * 256 + 256 ≤ 18446744073709551616 := by
  have h1 := be_lt (l.take i)
  have h2 : (256 : Nat) ^ (l.take i).length ≤ 256 ^ 7 := Nat.pow_le_pow_right (by omega) (by rw [List.length_take]; omega)
  have h3 : (256 : Nat) ^ 7 = 72057594037927936 := by decide
  omega
end Go.Ux
