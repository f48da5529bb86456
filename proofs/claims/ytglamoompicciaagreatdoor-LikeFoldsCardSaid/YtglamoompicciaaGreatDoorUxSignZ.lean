/- PART OF THE PROOF THAT THIS CLAIM HOLDS OF THE GIVEN PROGRAM, FOR EVERY INPUT THAT THE STATEMENT NAMES. No condition besides the statement's own. -/
import Derived.IntWalk
/- Texts as signs, in plain lists of bytes: the first sign, all signs, their bytes again; what may be put in between. No program. -/
namespace Go.Ux.Sign
open Go

/-- a byte that goes on within a sign -/
def tl (b : Nat) : Prop := 128 ≤ b ∧ b < 192
instance (b : Nat) : Decidable (tl b) := inferInstanceAs (Decidable (_ ∧ _))
def isT (x : UInt8) : Bool := decide (tl x.toNat)

/-- the byte at a place, nought beyond the end -/
def bt (s : List UInt8) (i : Nat) : Nat := match s[i]? with
  | some x => x.toNat
  | none => 0

def v3 (b0 b1 b2 : Nat) : Nat := (b0 - 224) * 4096 + (b1 - 128) * 64 + (b2 - 128)
def v4 (b0 b1 b2 b3 : Nat) : Nat := (b0 - 240) * 262144 + (b1 - 128) * 4096 + (b2 - 128) * 64 + (b3 - 128)

/-- the first sign and how many bytes it has, of four bytes -/
def sgN (b0 b1 b2 b3 : Nat) : Nat × Nat :=
  if b0 < 128 then (b0, 1)
  else if 194 ≤ b0 ∧ b0 ≤ 223 ∧ tl b1 then ((b0 - 192) * 64 + (b1 - 128), 2)
  else if 224 ≤ b0 ∧ b0 ≤ 239 ∧ tl b1 ∧ tl b2 ∧ 2048 ≤ v3 b0 b1 b2 ∧ (v3 b0 b1 b2 < 55296 ∨ 57344 ≤ v3 b0 b1 b2) then (v3 b0 b1 b2, 3)
  else if 240 ≤ b0 ∧ b0 ≤ 244 ∧ tl b1 ∧ tl b2 ∧ tl b3 ∧ 65536 ≤ v4 b0 b1 b2 b3 ∧ v4 b0 b1 b2 b3 ≤ 1114111 then (v4 b0 b1 b2 b3, 4)
  else (1114112 + b0, 1)
def sg (s : List UInt8) : Nat × Nat := sgN (bt s 0) (bt s 1) (bt s 2) (bt s 3)

theorem bt_lt (s : List UInt8) (i : Nat) : bt s i < 256 := by
  unfold bt
  split
  · exact UInt8.toNat_lt _
  · omega
theorem bt_zero (x : UInt8) (s : List UInt8) : bt (x :: s) 0 = x.toNat := rfl
theorem bt_succ (x : UInt8) (s : List UInt8) (i : Nat) : bt (x :: s) (i + 1) = bt s i := by unfold bt; rw [List.getElem?_cons_succ]
theorem bt_nil (i : Nat) : bt [] i = 0 := rfl
theorem bt_pos {s : List UInt8} {i : Nat} (h : tl (bt s i)) : i < s.length := Classical.byContradiction fun hn => by
  have : bt s i = 0 := by unfold bt; rw [List.getElem?_eq_none (by omega)]
  rw [this] at h
  exact absurd h (by decide)

theorem sgN_one (b0 b1 b2 b3 : Nat) : 1 ≤ (sgN b0 b1 b2 b3).2 := by
  unfold sgN
  repeat' split
  all_goals (simp only; omega)
theorem sg_le {s : List UInt8} (h : s ≠ []) : (sg s).2 ≤ s.length := by
  have h0 : 0 < s.length := List.length_pos_iff.2 h
  unfold sg sgN
  split
  · exact h0
  · split
    · rename_i h; have := bt_pos h.2.2; exact this
    · split
      · rename_i h; have := bt_pos h.2.2.2.1; exact this
      · split
        · rename_i h; have := bt_pos h.2.2.2.2.1; exact this
        · exact h0

def signs : List UInt8 → List Nat
  | [] => []
  | x :: s => (sg (x :: s)).1 :: signs ((x :: s).drop (sg (x :: s)).2)
termination_by s => s.length
decreasing_by
  have := sgN_one (bt (x :: s) 0) (bt (x :: s) 1) (bt (x :: s) 2) (bt (x :: s) 3)
  rw [List.length_drop]
  show (x :: s).length - (sg (x :: s)).2 < (x :: s).length
  have h2 : 1 ≤ (sg (x :: s)).2 := this
  simp only [List.length_cons]
  omega

/-! ### what a sign is -/
def cp (c : Nat) : Prop := c < 55296 ∨ 57344 ≤ c ∧ c < 1114112
def raw (c : Nat) : Prop := 1114240 ≤ c ∧ c < 1114368
theorem sgN_is (b0 b1 b2 b3 : Nat) (h : b0 < 256) : cp (sgN b0 b1 b2 b3).1 ∨ raw (sgN b0 b1 b2 b3).1 ∧ sgN b0 b1 b2 b3 = (1114112 + b0, 1) := by
  unfold sgN cp raw
  split
  · simp only; omega
  · split
    · rename_i h; unfold tl at h; simp only; omega
    · split
      · rename_i h; unfold tl v3 at h; unfold v3; simp only; omega
      · split
        · rename_i h; simp only; omega
        · refine .inr ⟨?_, rfl⟩
          simp only; omega

def encN (c : Nat) : List Nat :=
  if 1114112 ≤ c then [c - 1114112]
  else if c < 128 then [c]
  else if c < 2048 then [192 + c / 64, 128 + c % 64]
  else if c < 65536 then [224 + c / 4096, 128 + c / 64 % 64, 128 + c % 64]
  else [240 + c / 262144, 128 + c / 4096 % 64, 128 + c / 64 % 64, 128 + c % 64]
def enc (c : Nat) : List UInt8 := (encN c).map UInt8.ofNat
def put (l : List Nat) : List UInt8 := l.flatMap enc

theorem toNat_of {n : Nat} (h : n < 256) : (UInt8.ofNat n).toNat = n := by simp; omega

/-- a code point's bytes are that sign, whatever is behind -/
theorem sg_enc {c : Nat} (h : cp c) (x : List UInt8) : sg (enc c ++ x) = (c, (enc c).length) := by
  unfold cp at h
  unfold sg enc encN
  rw [if_neg (by omega : ¬ 1114112 ≤ c)]
  by_cases h1 : c < 128
  · rw [if_pos h1]
    simp only [List.map_cons, List.map_nil, List.cons_append, List.nil_append, bt_zero, toNat_of (by omega : c < 256), List.length_cons, List.length_nil]
    unfold sgN
    rw [if_pos h1]
  · rw [if_neg h1]
    by_cases h2 : c < 2048
    · rw [if_pos h2]
      simp only [List.map_cons, List.map_nil, List.cons_append, List.nil_append, bt_zero, bt_succ, toNat_of (by omega : 192 + c / 64 < 256), toNat_of (by omega : 128 + c % 64 < 256), List.length_cons, List.length_nil]
      unfold sgN
      rw [if_neg (by omega), if_pos ⟨by omega, by omega, by unfold tl; omega⟩]
      refine Prod.ext ?_ rfl
      show (192 + c / 64 - 192) * 64 + (128 + c % 64 - 128) = c
      omega
    · rw [if_neg h2]
      by_cases h3 : c < 65536
      · rw [if_pos h3]
        simp only [List.map_cons, List.map_nil, List.cons_append, List.nil_append, bt_zero, bt_succ, toNat_of (by omega : 224 + c / 4096 < 256), toNat_of (by omega : 128 + c / 64 % 64 < 256), toNat_of (by omega : 128 + c % 64 < 256), List.length_cons, List.length_nil]
        have e : v3 (224 + c / 4096) (128 + c / 64 % 64) (128 + c % 64) = c := by unfold v3; omega
        unfold sgN
        rw [e, if_neg (by omega), if_neg (by omega), if_pos ⟨by omega, by omega, by unfold tl; omega, by unfold tl; omega, by omega, by omega⟩]
      · rw [if_neg h3]
        simp only [List.map_cons, List.map_nil, List.cons_append, List.nil_append, bt_zero, bt_succ, toNat_of (by omega : 240 + c / 262144 < 256), toNat_of (by omega : 128 + c / 4096 % 64 < 256), toNat_of (by omega : 128 + c / 64 % 64 < 256), toNat_of (by omega : 128 + c % 64 < 256), List.length_cons, List.length_nil]
        have e : v4 (240 + c / 262144) (128 + c / 4096 % 64) (128 + c / 64 % 64) (128 + c % 64) = c := by unfold v4; omega
        unfold sgN
        rw [e, if_neg (by omega), if_neg (by omega), if_neg (by omega), if_pos ⟨by omega, by omega, by unfold tl; omega, by unfold tl; omega, by unfold tl; omega, by omega, by omega⟩]

/-- .. and the bytes that a sign was read of are its bytes -/
theorem enc_sgN {b0 b1 b2 b3 : Nat} (h0 : b0 < 256) : encN (sgN b0 b1 b2 b3).1 = [b0, b1, b2, b3].take (sgN b0 b1 b2 b3).2 := by
  unfold sgN
  split
  · unfold encN; simp only; rw [if_neg (by omega), if_pos (by omega)]; rfl
  · split
    · rename_i h; unfold tl at h
      unfold encN; simp only; rw [if_neg (by omega), if_neg (by omega), if_pos (by omega)]
      simp only [List.take_succ_cons, List.take_zero, List.cons.injEq, and_true]
      omega
    · split
      · rename_i h; unfold tl v3 at h
        unfold encN v3; simp only; rw [if_neg (by omega), if_neg (by omega), if_neg (by omega), if_pos (by omega)]
        simp only [List.take_succ_cons, List.take_zero, List.cons.injEq, and_true]
        omega
      · split
        · rename_i h; unfold tl v4 at h
          unfold encN v4; simp only; rw [if_neg (by omega), if_neg (by omega), if_neg (by omega), if_neg (by omega)]
          simp only [List.take_succ_cons, List.take_zero, List.cons.injEq, and_true]
          omega
        · unfold encN; simp only; rw [if_pos (by omega)]
          simp
theorem take_bt : ∀ (n : Nat) (s : List UInt8), n ≤ s.length → ((List.range n).map (bt s)).map UInt8.ofNat = s.take n := by
  intro n s h
  apply List.ext_getElem?
  intro i
  by_cases hi : i < n
  · have hs : i < s.length := by omega
    rw [List.getElem?_take_of_lt hi, List.map_map, List.getElem?_map, List.getElem?_range hi, List.getElem?_eq_getElem hs]
    simp only [Option.map_some, Function.comp, bt, List.getElem?_eq_getElem hs, UInt8.ofNat_toNat]
  · rw [List.getElem?_eq_none (by simp; omega), List.getElem?_eq_none (by simp; omega)]
theorem enc_sg {s : List UInt8} (hs : s ≠ []) : enc (sg s).1 = s.take (sg s).2 := by
  unfold enc
  have h4 : (sg s).2 ≤ 4 := by
    unfold sg sgN
    repeat' split
    all_goals (simp only; omega)
  rw [show encN (sg s).1 = [bt s 0, bt s 1, bt s 2, bt s 3].take (sg s).2 from enc_sgN (bt_lt s 0)]
  have e : [bt s 0, bt s 1, bt s 2, bt s 3] = (List.range 4).map (bt s) := rfl
  rw [e, ← List.map_take, List.take_range, Nat.min_eq_left h4, take_bt _ _ (sg_le hs)]

theorem signs_cons {s : List UInt8} (h : s ≠ []) : signs s = (sg s).1 :: signs (s.drop (sg s).2) := by
  cases s with
  | nil => exact absurd rfl h
  | cons x s => rw [signs]
theorem put_cons (c : Nat) (l : List Nat) : put (c :: l) = enc c ++ put l := rfl
theorem put_signs (s : List UInt8) : put (signs s) = s := by
  by_cases h : s = []
  · subst h; rw [signs]; rfl
  · have h1 := sgN_one (bt s 0) (bt s 1) (bt s 2) (bt s 3)
    have h2 : 1 ≤ (sg s).2 := h1
    have h3 : 0 < s.length := List.length_pos_iff.2 h
    rw [signs_cons h, put_cons, put_signs (s.drop (sg s).2), enc_sg h, List.take_append_drop]
termination_by s.length
decreasing_by
  rw [List.length_drop]
  omega
theorem signs_inj {s t : List UInt8} (h : signs s = signs t) : s = t := by rw [← put_signs s, h, put_signs]

/-! ### lists of signs that are read again -/
/-- the bytes ahead that go on within a sign -/
def run (s : List UInt8) : List UInt8 := s.takeWhile isT

/-- a list of signs of which each lone byte stays one -/
def good : List Nat → Prop
  | [] => True
  | c :: l => (cp c ∨ raw c ∧ sg (enc c ++ run (put l)) = (c, 1)) ∧ good l

theorem bt_run0 (s : List UInt8) : bt (run s) 0 = if tl (bt s 0) then bt s 0 else 0 := by
  cases s with
  | nil => rfl
  | cons x s =>
    unfold run
    rw [List.takeWhile_cons]
    by_cases h : isT x = true
    · rw [if_pos h, bt_zero, bt_zero, if_pos (by simpa [isT] using h)]
    · rw [if_neg h, bt_nil, bt_zero, if_neg (by simpa [isT] using h)]
theorem run_cons (x : UInt8) (s : List UInt8) : run (x :: s) = if isT x then x :: run s else [] := by unfold run; rw [List.takeWhile_cons]
theorem bt_run1 (s : List UInt8) : bt (run s) 1 = if tl (bt s 0) ∧ tl (bt s 1) then bt s 1 else 0 := by
  cases s with
  | nil => rfl
  | cons x s =>
    rw [run_cons]
    by_cases h : isT x = true
    · rw [if_pos h, bt_succ, bt_succ, bt_run0, bt_zero]
      have : tl x.toNat := by simpa [isT] using h
      simp [this]
    · rw [if_neg h, bt_nil, bt_zero]
      have : ¬ tl x.toNat := by simpa [isT] using h
      simp [this]
theorem bt_run2 (s : List UInt8) : bt (run s) 2 = if tl (bt s 0) ∧ tl (bt s 1) ∧ tl (bt s 2) then bt s 2 else 0 := by
  cases s with
  | nil => rfl
  | cons x s =>
    rw [run_cons]
    by_cases h : isT x = true
    · rw [if_pos h, bt_succ, bt_succ, bt_run1, bt_zero, bt_succ]
      have : tl x.toNat := by simpa [isT] using h
      simp [this]
    · rw [if_neg h, bt_nil, bt_zero]
      have : ¬ tl x.toNat := by simpa [isT] using h
      simp [this]
theorem sgN_run (b0 b1 b2 b3 : Nat) : sgN b0 (if tl b1 then b1 else 0) (if tl b1 ∧ tl b2 then b2 else 0) (if tl b1 ∧ tl b2 ∧ tl b3 then b3 else 0) = sgN b0 b1 b2 b3 := by
  have t0 : ¬ tl 0 := by decide
  by_cases h1 : tl b1
  · by_cases h2 : tl b2
    · by_cases h3 : tl b3
      · simp only [h1, h2, h3, and_self, if_true]
      · simp only [h1, h2, h3, and_false, and_true, if_true, if_false]
        unfold sgN
        simp only [h3, t0, and_false, false_and, if_false]
    · simp only [h1, h2, and_false, false_and, if_true, if_false]
      unfold sgN
      simp only [h2, t0, and_false, false_and, if_false]
  · simp only [h1, false_and, if_false]
    unfold sgN
    simp only [h1, t0, and_false, false_and, if_false]
theorem sg_run (x : UInt8) (s : List UInt8) : sg (x :: run s) = sg (x :: s) := by
  unfold sg
  rw [bt_zero, bt_zero, bt_succ, bt_succ, bt_succ, bt_succ, bt_succ, bt_succ, bt_run0, bt_run1, bt_run2]
  exact sgN_run _ _ _ _

theorem raw_of_sg {s : List UInt8} {c : Nat} (hs : s ≠ []) (h : (sg s).1 = c) (hc : raw c) : sg s = (c, 1) ∧ 128 ≤ bt s 0 ∧ c = 1114112 + bt s 0 := by
  have h1 := sgN_is (bt s 0) (bt s 1) (bt s 2) (bt s 3) (bt_lt s 0)
  rcases h1 with h1 | ⟨_, h1⟩
  · have h1 : cp (sg s).1 := h1
    rw [h] at h1
    unfold cp at h1
    unfold raw at hc
    omega
  · have h1 : sg s = (1114112 + bt s 0, 1) := h1
    have e : c = 1114112 + bt s 0 := by rw [← h, h1]
    exact ⟨by rw [e]; exact h1, by unfold raw at hc; omega, e⟩
theorem enc_raw {c : Nat} (h : raw c) : enc c = [UInt8.ofNat (c - 1114112)] := by
  unfold raw at h
  unfold enc encN
  rw [if_pos (by omega)]
  rfl

theorem good_signs (s : List UInt8) : good (signs s) := by
  by_cases h : s = []
  · subst h; rw [signs]; trivial
  · have h2 : 1 ≤ (sg s).2 := sgN_one (bt s 0) (bt s 1) (bt s 2) (bt s 3)
    have h3 : 0 < s.length := List.length_pos_iff.2 h
    rw [signs_cons h]
    refine ⟨?_, good_signs _⟩
    rcases sgN_is (bt s 0) (bt s 1) (bt s 2) (bt s 3) (bt_lt s 0) with h1 | ⟨h1, _⟩
    · exact .inl h1
    · refine .inr ⟨h1, ?_⟩
      obtain ⟨e1, _, e3⟩ := raw_of_sg h rfl h1
      have e4 := enc_sg h
      rw [put_signs]
      have e5 : (sg s).2 = 1 := congrArg Prod.snd e1
      rw [e5] at e4 ⊢
      obtain ⟨x, s', rfl⟩ := List.exists_cons_of_ne_nil h
      rw [e4]
      show sg (x :: run s') = _
      rw [sg_run]
      exact e1
termination_by s.length
decreasing_by
  rw [List.length_drop]
  omega

theorem signs_put : ∀ {l : List Nat}, good l → signs (put l) = l
  | [], _ => by unfold put; rw [List.flatMap_nil, signs]
  | c :: l, h => by
    obtain ⟨h1, h2⟩ := h
    have ih := signs_put h2
    rw [put_cons]
    have hsg : sg (enc c ++ put l) = (c, (enc c).length) := by
      rcases h1 with h1 | ⟨h1, h3⟩
      · exact sg_enc h1 _
      · rw [enc_raw h1] at h3 ⊢
        show sg (_ :: put l) = _
        rw [← sg_run]
        exact h3
    have hne : enc c ++ put l ≠ [] := fun e => by
      rw [e] at hsg
      have h4 : (1 : Nat) ≤ (sg []).2 := sgN_one _ _ _ _
      rw [hsg] at h4
      obtain ⟨e1, _⟩ := List.append_eq_nil_iff.1 e
      rw [e1] at h4
      exact absurd (show 1 ≤ 0 from h4) (by decide)
    rw [signs_cons hne, hsg]
    show c :: signs ((enc c ++ put l).drop (enc c).length) = _
    rw [List.drop_left, ih]

theorem run_append_cp {c : Nat} (h : cp c) (x : List UInt8) : run (enc c ++ x) = [] := by
  have key : ∃ n r, enc c = UInt8.ofNat n :: r ∧ n < 256 ∧ ¬ tl n := by
    unfold cp at h
    unfold enc encN tl
    rw [if_neg (by omega : ¬ 1114112 ≤ c)]
    by_cases h1 : c < 128
    · rw [if_pos h1]; exact ⟨_, _, rfl, by omega, by omega⟩
    · rw [if_neg h1]
      by_cases h2 : c < 2048
      · rw [if_pos h2]; exact ⟨_, _, rfl, by omega, by omega⟩
      · rw [if_neg h2]
        by_cases h3 : c < 65536
        · rw [if_pos h3]; exact ⟨_, _, rfl, by omega, by omega⟩
        · rw [if_neg h3]; exact ⟨_, _, rfl, by omega, by omega⟩
  obtain ⟨n, r, e, h1, h2⟩ := key
  rw [e, List.cons_append, run_cons, if_neg]
  intro h
  unfold isT at h
  rw [toNat_of h1] at h
  exact h2 (by simpa using h)
theorem run_append_raw {c : Nat} (h : raw c) (x : List UInt8) : run (enc c ++ x) = if tl (c - 1114112) then UInt8.ofNat (c - 1114112) :: run x else [] := by
  rw [enc_raw h]
  show run (_ :: x) = _
  rw [run_cons]
  unfold raw at h
  unfold isT
  rw [toNat_of (by omega)]
  by_cases ht : tl (c - 1114112)
  · rw [if_pos ht, if_pos (by simpa using ht)]
  · rw [if_neg ht, if_neg (by simpa using ht)]

/-- signs turned, the lone bytes left: what they are is read again -/
theorem run_map {g : Nat → Nat} (hc : ∀ c, cp c → cp (g c)) (hr : ∀ c, raw c → g c = c) : ∀ {l : List Nat}, (∀ c ∈ l, cp c ∨ raw c) → run (put (l.map g)) = run (put l)
  | [], _ => rfl
  | c :: l, h => by
    have ih := run_map hc hr (l := l) fun c hc => h c (List.mem_cons_of_mem _ hc)
    rw [List.map_cons, put_cons, put_cons]
    rcases h c List.mem_cons_self with h1 | h1
    · rw [run_append_cp (hc c h1), run_append_cp h1]
    · rw [hr c h1, run_append_raw h1, run_append_raw h1, ih]
theorem good_all : ∀ {l : List Nat}, good l → ∀ c ∈ l, cp c ∨ raw c
  | d :: l, h, c, hc => by
    rcases List.mem_cons.1 hc with rfl | hc
    · exact h.1.imp id And.left
    · exact good_all h.2 c hc
theorem good_map {g : Nat → Nat} (hc : ∀ c, cp c → cp (g c)) (hr : ∀ c, raw c → g c = c) : ∀ {l : List Nat}, good l → good (l.map g)
  | [], _ => trivial
  | c :: l, h => by
    refine ⟨?_, good_map hc hr h.2⟩
    rcases h.1 with h1 | ⟨h1, h3⟩
    · exact .inl (hc c h1)
    · refine .inr ?_
      rw [hr c h1, run_map hc hr (good_all h.2)]
      exact ⟨h1, h3⟩

/-! ### a sign put ahead of some -/
theorem sgN_pre {b0 b1 b2 b3 c1 c2 c3 : Nat} (h1 : tl c1 → c1 = b1) (h2 : tl c1 → tl c2 → c2 = b2) (h3 : tl c1 → tl c2 → tl c3 → c3 = b3) (h : sgN b0 b1 b2 b3 = (1114112 + b0, 1)) (hb : b0 < 256) (h128 : 128 ≤ b0) : sgN b0 c1 c2 c3 = (1114112 + b0, 1) := by
  unfold sgN
  rw [if_neg (by omega)]
  split
  · rename_i hh
    have e1 := h1 hh.2.2
    subst e1
    exfalso
    unfold sgN at h
    rw [if_neg (by omega), if_pos hh] at h
    have := congrArg Prod.snd h
    exact absurd (show (2 : Nat) = 1 from this) (by decide)
  · split
    · rename_i hn hh
      have e1 := h1 hh.2.2.1
      have e2 := h2 hh.2.2.1 hh.2.2.2.1
      subst e1; subst e2
      exfalso
      unfold sgN at h
      rw [if_neg (by omega), if_neg hn, if_pos hh] at h
      have := congrArg Prod.snd h
      exact absurd (show (3 : Nat) = 1 from this) (by decide)
    · split
      · rename_i hn hm hh
        have e1 := h1 hh.2.2.1
        have e2 := h2 hh.2.2.1 hh.2.2.2.1
        have e3 := h3 hh.2.2.1 hh.2.2.2.1 hh.2.2.2.2.1
        subst e1; subst e2; subst e3
        exfalso
        unfold sgN at h
        rw [if_neg (by omega), if_neg hn, if_neg hm, if_pos hh] at h
        have := congrArg Prod.snd h
        exact absurd (show (4 : Nat) = 1 from this) (by decide)
      · rfl
theorem sg_pre {x : UInt8} {r r' : List UInt8} (hp : r' <+: r) (h : sg (x :: r) = (1114112 + x.toNat, 1)) (hx : 128 ≤ x.toNat) : sg (x :: r') = (1114112 + x.toNat, 1) := by
  obtain ⟨t, rfl⟩ := hp
  have key : ∀ i, tl (bt r' i) → bt r' i = bt (r' ++ t) i := fun i hi => by
    have := bt_pos hi
    unfold bt
    rw [List.getElem?_append_left this]
  refine sgN_pre (b1 := bt (r' ++ t) 0) (b2 := bt (r' ++ t) 1) (b3 := bt (r' ++ t) 2) ?_ ?_ ?_ h (UInt8.toNat_lt _) hx
  · exact fun h => key 0 h
  · exact fun _ h => key 1 h
  · exact fun _ _ h => key 2 h

/-- a sign e put ahead of each that t picks -/
def quote (t : Nat → Bool) (e : Nat) (l : List Nat) : List Nat := l.flatMap fun c => if t c then [e, c] else [c]
theorem quote_cons (t : Nat → Bool) (e c : Nat) (l : List Nat) : quote t e (c :: l) = if t c then e :: c :: quote t e l else c :: quote t e l := by
  unfold quote
  rw [List.flatMap_cons]
  by_cases h : t c = true <;> simp [h]
theorem quote_run {t : Nat → Bool} {e : Nat} (he : cp e) : ∀ {l : List Nat}, (∀ c ∈ l, cp c ∨ raw c) → run (put (quote t e l)) <+: run (put l)
  | [], _ => List.prefix_refl _
  | c :: l, h => by
    have ih := quote_run (t := t) he (l := l) fun c hc => h c (List.mem_cons_of_mem _ hc)
    rw [quote_cons]
    split
    · rw [put_cons, run_append_cp he]
      exact List.nil_prefix
    · rw [put_cons, put_cons]
      rcases h c List.mem_cons_self with h1 | h1
      · rw [run_append_cp h1]
        exact List.nil_prefix
      · rw [run_append_raw h1, run_append_raw h1]
        split
        · exact List.cons_prefix_cons.2 ⟨rfl, ih⟩
        · exact List.nil_prefix
theorem good_quote {t : Nat → Bool} {e : Nat} (he : cp e) : ∀ {l : List Nat}, good l → good (quote t e l)
  | [], _ => trivial
  | c :: l, h => by
    have ih := good_quote (t := t) he h.2
    have hc : good (c :: quote t e l) := by
      refine ⟨?_, ih⟩
      rcases h.1 with h1 | ⟨h1, h3⟩
      · exact .inl h1
      · refine .inr ⟨h1, ?_⟩
        rw [enc_raw h1] at h3 ⊢
        have hb : (UInt8.ofNat (c - 1114112)).toNat = c - 1114112 := by unfold raw at h1; exact toNat_of (by omega)
        have e1 : c = 1114112 + (UInt8.ofNat (c - 1114112)).toNat := by rw [hb]; unfold raw at h1; omega
        have := sg_pre (x := UInt8.ofNat (c - 1114112)) (r := run (put l)) (quote_run (t := t) he (good_all h.2)) (by rw [← e1]; exact h3) (by rw [hb]; unfold raw at h1; omega)
        rw [← e1] at this
        exact this
    rw [quote_cons]
    split
    · exact ⟨.inl he, hc⟩
    · exact hc
end Go.Ux.Sign
