/- PART OF THE PROOF THAT TreeSeeksSaid HOLDS OF THE GIVEN PROGRAM, FOR EVERY INPUT THAT THE STATEMENT NAMES. No condition besides the statement's own. -/
import Derived.Test.YtdfgpminonpeaaaUxTree4Z
/- Ways into a tree: where a cursor stands, and where it goes. -/
namespace Go.Ux
open Go Go.RowKit

/-- a node on the way, its block, the place in it -/
abbrev Fr := T × Nat × Nat

/-- how many keys stand ahead of a place of a node -/
def ahead : T → Nat → Nat
  | .leaf _, i => i
  | .node _ cs, i => (flats (cs.take i)).length

/-- The frames lead from the root to t; a, b: what is ahead of t, and behind it. -/
inductive Ctx (root : T) : List Fr → T → List Ent → List Ent → Prop
  | nil : Ctx root [] root [] []
  | snoc {pre : List Fr} {ks : List ByteArray} {cs : List T} {c : T} {x i : Nat} {a b : List Ent} : Ctx root pre (.node ks cs) a b → cs[i]? = some c → Ctx root (pre ++ [(.node ks cs, x, i)]) c (a ++ flats (cs.take i)) (flats (cs.drop (i + 1)) ++ b)

theorem flats_split {cs : List T} {i : Nat} {c : T} (h : cs[i]? = some c) : flats cs = flats (cs.take i) ++ (flat c ++ flats (cs.drop (i + 1))) := by
  have := congrArg flats (split_at h)
  rw [flats_at] at this
  exact this

theorem Ctx.flat {root t : T} {pre : List Fr} {a b : List Ent} (h : Ctx root pre t a b) : Ux.flat root = a ++ (Ux.flat t ++ b) := by
  induction h with
  | nil => simp
  | snoc h hc ih =>
    rw [ih]
    simp only [Ux.flat]
    rw [flats_split hc]
    simp only [List.append_assoc]

theorem Ctx.inv {root t : T} {st : List Fr} {a b : List Ent} (h : Ctx root st t a b) : (st = [] ∧ t = root ∧ a = [] ∧ b = []) ∨
    ∃ pre ks cs x i a' b', st = pre ++ [(.node ks cs, x, i)] ∧ Ctx root pre (.node ks cs) a' b' ∧ cs[i]? = some t ∧ a = a' ++ flats (cs.take i) ∧ b = flats (cs.drop (i + 1)) ++ b' := by
  cases h with
  | nil => exact .inl ⟨rfl, rfl, rfl, rfl⟩
  | snoc h hc => exact .inr ⟨_, _, _, _, _, _, _, rfl, h, hc, rfl, rfl⟩

theorem Ctx.good {fan d : Nat} {root t : T} {pre : List Fr} {a b : List Ent} (h : Ctx root pre t a b) (hf : 4 ≤ fan) (hg : Good fan d root) (hs : root.size ≤ fan) :
    ∃ d', Good fan d' t ∧ pre.length + d' = d ∧ (pre = [] ∨ 2 ≤ t.size) ∧ t.size ≤ fan := by
  induction h with
  | nil => exact ⟨d, hg, by simp, .inl rfl, hs⟩
  | @snoc pre ks cs c x i a b h hc ih =>
    obtain ⟨d', g, e, _, _⟩ := ih
    cases d' with
    | zero => obtain ⟨l, hl⟩ := g; cases hl
    | succ d' =>
      obtain ⟨ks', cs', e', _, _, h3⟩ := g
      cases e'
      obtain ⟨g', s1, s2⟩ := h3 c (List.mem_of_getElem? hc)
      exact ⟨d', g', by simp; omega, .inr (by omega), s2⟩

theorem ahead_zero (t : T) : ahead t 0 = 0 := by cases t <;> simp [ahead, flats]
theorem ahead_full (t : T) : ahead t t.size = (flat t).length := by cases t <;> simp [ahead, T.size, flat]
theorem ahead_succ {ks : List ByteArray} {cs : List T} {i : Nat} {c : T} (h : cs[i]? = some c) : ahead (.node ks cs) (i + 1) = ahead (.node ks cs) i + (flat c).length := by
  obtain ⟨hl, rfl⟩ := List.getElem?_eq_some_iff.1 h
  simp only [ahead]
  rw [List.take_succ_eq_append_getElem hl, flats_append, List.length_append]
  simp [flats]

/-- Where the frames stand: on a key, or on none. -/
def Stands (root : T) (st : List Fr) : Option Nat → Prop
  | none => st = []
  | some q => ∃ pre l x i a b, st = pre ++ [(.leaf l, x, i)] ∧ i < l.length ∧ Ctx root pre (.leaf l) a b ∧ q = a.length + i

theorem Stands.key {root : T} {st : List Fr} {q : Nat} (h : Stands root st (some q)) : ∃ pre l x i p, st = pre ++ [(.leaf l, x, i)] ∧ l[i]? = some p ∧ (flat root)[q]? = some p := by
  obtain ⟨pre, l, x, i, a, b, rfl, hi, hc, rfl⟩ := h
  have hp : l[i]? = some l[i] := List.getElem?_eq_getElem hi
  refine ⟨pre, l, x, i, l[i], rfl, hp, ?_⟩
  rw [hc.flat, List.getElem?_append_right (by omega), show a.length + i - a.length = i by omega]
  simp only [Ux.flat]
  rw [List.getElem?_append_left hi, hp]

theorem Stands.lt {root : T} {st : List Fr} {q : Nat} (h : Stands root st (some q)) : q < (flat root).length := by
  obtain ⟨_, _, _, _, p, _, _, h⟩ := h.key
  exact (List.getElem?_eq_some_iff.1 h).1

/-- the next place of a node is none of it: the same place, one node up -/
theorem pop_up {root t : T} {st : List Fr} {a b : List Ent} (h : Ctx root st t a b) :
    (st = [] ∧ a.length + ahead t t.size = (flat root).length ∧ a = []) ∨
    ∃ pre ks cs x j a' b', st = pre ++ [(.node ks cs, x, j)] ∧ Ctx root pre (.node ks cs) a' b' ∧ j < cs.length ∧ a.length + ahead t t.size = a'.length + ahead (.node ks cs) (j + 1) ∧ a.length = a'.length + ahead (.node ks cs) j := by
  rcases h.inv with ⟨rfl, rfl, rfl, rfl⟩ | ⟨pre, ks, cs, x, i, a', b', rfl, h', hc, rfl, rfl⟩
  · exact .inl ⟨rfl, by rw [ahead_full]; simp, rfl⟩
  · refine .inr ⟨pre, ks, cs, x, i, a', b', rfl, h', (List.getElem?_eq_some_iff.1 hc).1, ?_, ?_⟩
    · rw [ahead_full, ahead_succ hc, List.length_append]
      simp only [ahead]
      omega
    · rw [List.length_append]; rfl

/-! ### in memory -/
/-- the tree t lies at block x, within FP -/
def FrAt (w : World) (FP : List Nat) (t : T) (x : Nat) : Prop := ∃ f, NodeAt w t x f ∧ ∀ b ∈ f, b ∈ FP

theorem FrAt.touch {w w' : World} {R : Nat → Prop} {FP : List Nat} {t : T} {x : Nat} (h : FrAt w FP t x) (ht : Touch R w w') (hn : ∀ b ∈ FP, ¬ R b) : FrAt w' FP t x := by
  obtain ⟨f, h1, h2⟩ := h
  exact ⟨f, h1.touch ht (fun b hb => hn b (h2 b hb)), h2⟩

theorem FrAt.kid {w : World} {FP : List Nat} {ks : List ByteArray} {cs : List T} {x i : Nat} {c : T} (h : FrAt w FP (.node ks cs) x) (hc : cs[i]? = some c) :
    ∃ g cc y, w.cell? ⟨x, 2, none⟩ = some (.slice (some ⟨g, 0, none⟩) cs.length cc) ∧ w.cell? ⟨g, i, none⟩ = some (.pointer (some ⟨y, 0, none⟩)) ∧ FrAt w FP c y ∧ cs.length ≤ cc ∧ cc ≤ maxLen ∧ x ∈ FP ∧ g ∈ FP := by
  obtain ⟨f, ⟨kv, cv, xs, fs, h1, h2, h3, h4, rfl⟩, hs⟩ := h
  have hil := (List.getElem?_eq_some_iff.1 hc).1
  obtain ⟨g, cc, cur, rfl, hn1, hn2, hg, _, htk⟩ := own_pos h3 (by omega)
  rw [split_at hc] at h4
  obtain ⟨xa, y, xb, fa, f, fb, rfl, rfl, na, nc, nb⟩ := NodesAt.at h4
  have hla := na.length
  simp only [List.length_take] at hla
  refine ⟨g, cc, y, by rw [cell_of_row w x 2 _ 62 (0, 0) h1]; rfl, ?_, ⟨f, nc, fun b hb => hs b (by simp [hb])⟩, hn1, hn2, hs x (by simp), hs g (by simp [blk, Value.ownBlock])⟩
  refine row_cell hg htk i _ ?_
  rw [List.getElem?_map, List.getElem?_append_right (by omega), show i - xa.length = 0 by omega]
  rfl

theorem FrAt.leaf {w : World} {FP : List Nat} {l : List Ent} {x : Nat} (h : FrAt w FP (.leaf l) x) : w.cell? ⟨x, 2, none⟩ = some (.slice none 0 0) ∧
    ∀ i p, l[i]? = some p → ∃ g c g' c', w.cell? ⟨x, 0, none⟩ = some (.slice (some ⟨g, 0, none⟩) l.length c) ∧ w.cell? ⟨g, i, none⟩ = some (.string p.1) ∧ w.cell? ⟨x, 1, none⟩ = some (.slice (some ⟨g', 0, none⟩) l.length c') ∧ w.cell? ⟨g', i, none⟩ = some (.int .i64 p.2) := by
  obtain ⟨f, ⟨kv, rv, h1, h2, h3, rfl⟩, hs⟩ := h
  refine ⟨by rw [cell_of_row w x 2 _ 62 (0, 0) h1]; rfl, fun i p hp => ?_⟩
  have hil := (List.getElem?_eq_some_iff.1 hp).1
  obtain ⟨g, c, cur, rfl, _, _, hg, _, htk⟩ := own_pos h2 (by omega)
  obtain ⟨g', c', cur', rfl, _, _, hg', _, htk'⟩ := own_pos h3 (by omega)
  refine ⟨g, c, g', c', by rw [cell_of_row w x 0 _ 62 (0, 0) h1]; rfl, row_cell hg htk i _ (by rw [List.getElem?_map, hp]; rfl), by rw [cell_of_row w x 1 _ 62 (0, 0) h1]; rfl, row_cell hg' htk' i _ (by rw [List.getElem?_map, hp]; rfl)⟩

/-- the blocks of a tree, by their types -/
def TypeIn (w : World) (b : Nat) (ts : List Nat) : Prop := ∃ cs ty, w.heap[b]? = some (.cells cs ty (0, 0)) ∧ ty ∈ ts
theorem TypeIn.ne {w : World} {b c : Nat} {ts us : List Nat} (h : TypeIn w b ts) (k : TypeIn w c us) (hd : ∀ t ∈ ts, t ∉ us) : b ≠ c := by
  rintro rfl
  obtain ⟨cs, ty, h1, h2⟩ := h
  obtain ⟨cs', ty', k1, k2⟩ := k
  rw [h1] at k1
  cases k1
  exact hd _ h2 k2
theorem own_type {w : World} {e : TypeId} {size n : Nat} {v : Value} {xs : List Value} (h : w.ownsRow 0 e size v n xs) : ∀ b ∈ blk v, TypeIn w b [e] := by
  intro b hb
  have hb' : v.ownBlock = some b := by simpa [blk] using hb
  rcases h.2 with ⟨rfl, _⟩ | ⟨g, cap, cur, rfl, _, hh, _⟩
  · cases hb'
  · cases hb'
    exact ⟨_, _, hh, by simp⟩
theorem TypeIn.mono {w : World} {b : Nat} {ts us : List Nat} (h : TypeIn w b ts) (hs : ∀ t ∈ ts, t ∈ us) : TypeIn w b us := by
  obtain ⟨cs, ty, h1, h2⟩ := h
  exact ⟨cs, ty, h1, hs _ h2⟩
mutual
theorem NodeAt.types {w : World} : ∀ {t : T} {x : Nat} {fp : List Nat}, NodeAt w t x fp → ∀ b ∈ fp, TypeIn w b [62, 9, 3, 59]
  | .leaf l, x, fp, h => by
    obtain ⟨kv, rv, h1, h2, h3, rfl⟩ := h
    intro b hb
    rcases List.mem_cons.1 hb with rfl | hb
    · exact ⟨_, _, h1, by simp⟩
    · rcases List.mem_append.1 hb with hb | hb
      · exact (own_type h2 b hb).mono (by simp)
      · exact (own_type h3 b hb).mono (by simp)
  | .node ks cs, x, fp, h => by
    obtain ⟨kv, cv, xs, fs, h1, h2, h3, h4, rfl⟩ := h
    intro b hb
    rcases List.mem_cons.1 hb with rfl | hb
    · exact ⟨_, _, h1, by simp⟩
    · rcases List.mem_append.1 hb with hb | hb
      · rcases List.mem_append.1 hb with hb | hb
        · exact (own_type h2 b hb).mono (by simp)
        · exact (own_type h3 b hb).mono (by simp)
      · exact NodesAt.types h4 b hb
theorem NodesAt.types {w : World} : ∀ {cs : List T} {xs fs : List Nat}, NodesAt w cs xs fs → ∀ b ∈ fs, TypeIn w b [62, 9, 3, 59]
  | [], xs, fs, h => by obtain ⟨rfl, rfl⟩ := h; intro b hb; cases hb
  | t :: ts, xs, fs, h => by
    obtain ⟨x, xs', f, fs', rfl, rfl, h1, h2⟩ := h
    intro b hb
    rcases List.mem_append.1 hb with hb | hb
    · exact NodeAt.types h1 b hb
    · exact NodesAt.types h2 b hb
end

/-- the cells of the frames -/
def frCells (st : List Fr) : List Value := st.flatMap fun f => [.pointer (some ⟨f.2.1, 0, none⟩), .int .i64 f.2.2]
theorem frCells_snoc (st : List Fr) (f : Fr) : frCells (st ++ [f]) = frCells st ++ [.pointer (some ⟨f.2.1, 0, none⟩), .int .i64 f.2.2] := by simp [frCells]
theorem frCells_length (st : List Fr) : (frCells st).length = st.length * 2 := by
  induction st with
  | nil => rfl
  | cons f st ih => simp only [frCells, List.flatMap_cons, List.length_append, List.length_cons, List.length_nil] at ih ⊢; omega

/-- A cursor at block cb, upon a tree within FP: where it stands; fc: its blocks. -/
def CurAt (w : World) (cb : Nat) (root : T) (FP : List Nat) (o : Option Nat) (fc : List Nat) : Prop :=
  ∃ st lv, w.heap[cb]? = some (.cells #[lv] 75 (0, 0)) ∧ w.ownsRow 0 77 2 lv st.length (frCells st) ∧ fc = cb :: blk lv ∧ (∀ f ∈ st, FrAt w FP f.1 f.2.1) ∧ Stands root st o

theorem CurAt.types {w : World} {cb : Nat} {root : T} {FP : List Nat} {o : Option Nat} {fc : List Nat} (h : CurAt w cb root FP o fc) : ∀ b ∈ fc, TypeIn w b [75, 77] := by
  obtain ⟨st, lv, h1, h2, rfl, _, _⟩ := h
  intro b hb
  rcases List.mem_cons.1 hb with rfl | hb
  · exact ⟨_, _, h1, by simp⟩
  · exact (own_type h2 b hb).mono (by simp)
theorem CurAt.lt {w : World} {cb : Nat} {root : T} {FP : List Nat} {o : Option Nat} {fc : List Nat} (h : CurAt w cb root FP o fc) : ∀ b ∈ fc, b < w.heap.size := fun b hb => by
  obtain ⟨_, _, h1, _⟩ := h.types b hb
  exact lt_of_heap h1
theorem CurAt.touch {w w' : World} {cb : Nat} {root : T} {FP : List Nat} {o : Option Nat} {fc : List Nat} {R : Nat → Prop} (h : CurAt w cb root FP o fc) (ht : Touch R w w') (h1 : ∀ b ∈ fc, ¬ R b) (h2 : ∀ b ∈ FP, ¬ R b) : CurAt w' cb root FP o fc := by
  obtain ⟨st, lv, a1, a2, rfl, a4, a5⟩ := h
  exact ⟨st, lv, ht.heap a1 (h1 cb (by simp)), own_blk a2 ht (fun b hb => h1 b (by simp [hb])), rfl, fun f hf => (a4 f hf).touch ht h2, a5⟩

theorem own_setn {w : World} {e : TypeId} {size g n c i : Nat} {xs : List Value} (h : w.ownsRow 0 e size (.slice (some ⟨g, 0, none⟩) n c) n xs) (u : Value) : (w.setCell ⟨g, i, none⟩ u).ownsRow 0 e size (.slice (some ⟨g, 0, none⟩) n c) n (xs.set i u) := by
  obtain ⟨h1, h2⟩ := h
  refine ⟨by simpa using h1, .inr ?_⟩
  rcases h2 with ⟨hv, _⟩ | ⟨g', cap, cur, hv, hb, hh, h3, h4, h5, h6⟩
  · cases hv
  · cases hv
    have := heap_setCell_same w g i cur e u hh
    refine ⟨g, c, _, rfl, hb, this, h3, h4, ?_, ?_⟩
    · simpa using h5
    · rw [← h6]
      simp [List.take_set]

/-- a row cut at its end -/
theorem own_taken {w : World} {e : TypeId} {size g c n i : Nat} {xs ys : List Value} (h : w.ownsRow 0 e size (.slice (some ⟨g, 0, none⟩) n c) n (xs ++ ys)) (hi : i ≤ n) (hl : xs.length = i * size) : w.ownsRow 0 e size (.slice (some ⟨g, 0, none⟩) i c) i xs := by
  obtain ⟨h1, h2⟩ := h
  refine ⟨hl, .inr ?_⟩
  rcases h2 with ⟨hv, _⟩ | ⟨g', cap, cur, hv, hb, hh, h3, h4, h5, h6⟩
  · cases hv
  · cases hv
    refine ⟨g, c, cur, rfl, hb, hh, by omega, h4, h5, ?_⟩
    have : cur.toList.take (i * size) = (cur.toList.take (n * size)).take (i * size) := by rw [List.take_take, Nat.min_eq_left (Nat.mul_le_mul_right _ hi)]
    rw [this, h6, ← hl, List.take_left]

/-! ### how deep a tree may be -/
theorem flats_pow {n : Nat} : ∀ {cs : List T}, (∀ c ∈ cs, n ≤ (flat c).length) → cs.length * n ≤ (flats cs).length
  | [], _ => by simp [flats]
  | c :: cs, h => by
    have h1 := h c (by simp)
    have h2 := flats_pow (cs := cs) fun c hc => h c (by simp [hc])
    simp only [flats, List.length_append, List.length_cons, Nat.add_mul, Nat.one_mul]
    omega
theorem good_pow {fan : Nat} (hf : 4 ≤ fan) : ∀ {d : Nat} {t : T}, Good fan d t → 1 ≤ t.size → (d = 0 ∨ 2 ≤ t.size) → 2 ^ d ≤ (flat t).length
  | 0, _, h, h1, _ => by obtain ⟨l, rfl⟩ := h; simpa [T.size, flat] using h1
  | d + 1, _, h, h1, h2 => by
    obtain ⟨ks, cs, rfl, e1, e2, e3⟩ := h
    have h2' : 2 ≤ cs.length := by rcases h2 with h | h; omega; exact h
    have := flats_pow (n := 2 ^ d) (cs := cs) fun c hc => by
      obtain ⟨g, z, _⟩ := e3 c hc
      exact good_pow hf g (by omega) (.inr (by omega))
    simp only [flat, Nat.pow_succ]
    have h3 : 2 * 2 ^ d ≤ cs.length * 2 ^ d := Nat.mul_le_mul_right _ h2'
    omega
theorem good_deep {fan d : Nat} {t : T} (hf : 4 ≤ fan) (h : Good fan d t) (hr : d = 0 ∨ 2 ≤ t.size) (hl : (flat t).length ≤ 1048576) : d ≤ 20 := by
  rcases hr with h0 | h2
  · omega
  · have := good_pow hf h (by omega) (.inr h2)
    rcases Nat.lt_or_ge d 21 with h' | h'
    · omega
    · have h3 : 2 ^ 21 ≤ 2 ^ d := Nat.pow_le_pow_right (by omega) h'
      have h4 : (2 : Nat) ^ 21 = 2097152 := by decide
      omega
theorem Stands.length {fan d q : Nat} {root : T} {st : List Fr} (h : Stands root st (some q)) (hf : 4 ≤ fan) (hg : Good fan d root) (hs : root.size ≤ fan) : st.length = d + 1 ∧ ∃ pre l x i, st = pre ++ [(.leaf l, x, i)] ∧ l.length ≤ fan := by
  obtain ⟨pre, l, x, i, a, b, rfl, hi, hc, rfl⟩ := h
  obtain ⟨d', g, e, _, hz⟩ := hc.good hf hg hs
  cases d' with
  | zero => exact ⟨by simp; omega, pre, l, x, i, rfl, hz⟩
  | succ d' => obtain ⟨_, _, e, _⟩ := g; cases e

/-! ### the next key, and the one ahead -/
/-- Frames, the topmost of which stands one place ahead of the one that it shall stand at: what the next key is. n: how many frames. -/
def Go1Rel (w0 : World) (cb : Nat) (root : T) (FP fc0 : List Nat) (q : Nat) (n : Nat) (w : World) : Prop :=
  ∃ lv xs, w.heap[cb]? = some (.cells #[lv] 75 (0, 0)) ∧ w.ownsRow 0 77 2 lv n xs ∧ (∀ b ∈ blk lv, b ∈ fc0 ∨ w0.heap.size ≤ b) ∧ Touch (fun b => b ∈ fc0) w0 w ∧
    ((n = 0 ∧ q = (flat root).length) ∨ ∃ pre t x i a b, n = pre.length + 1 ∧ xs = frCells pre ++ [.pointer (some ⟨x, 0, none⟩), .int .i64 ((i : Int) - 1)] ∧ (∀ f ∈ pre, FrAt w0 FP f.1 f.2.1) ∧ FrAt w0 FP t x ∧
      Ctx root pre t a b ∧ i ≤ t.size ∧ q = a.length + ahead t i)

/-- Frames down to a node t, standing at a place of it: the key q is the first one there. -/
def DownRel (fan : Nat) (w0 : World) (cb : Nat) (root : T) (FP fc0 : List Nat) (q : Nat) (g : Nat) (y : Nat) (w : World) : Prop :=
  ∃ pre t i lv a b, w.heap[cb]? = some (.cells #[lv] 75 (0, 0)) ∧ w.ownsRow 0 77 2 lv (pre.length + 1) (frCells (pre ++ [(t, y, i)])) ∧ (∀ b ∈ blk lv, b ∈ fc0 ∨ w0.heap.size ≤ b) ∧ Touch (fun b => b ∈ fc0) w0 w ∧
    (∀ f ∈ pre, FrAt w0 FP f.1 f.2.1) ∧ FrAt w0 FP t y ∧ Ctx root pre t a b ∧ i < t.size ∧ q = a.length + ahead t i ∧ Good fan g t

/-- what a cursor's step leaves: it stands at o -/
def CurLeft (w0 : World) (cb : Nat) (root : T) (FP fc0 : List Nat) (o : Option Nat) (w : World) : Prop :=
  ∃ fc, CurAt w cb root FP o fc ∧ (∀ b ∈ fc, b ∈ fc0 ∨ w0.heap.size ≤ b) ∧ Touch (fun b => b ∈ fc0) w0 w

theorem left_of_leaf {w0 w : World} {cb : Nat} {root : T} {FP fc0 : List Nat} {pre : List Fr} {l : List Ent} {y i : Nat} {lv : Value} {a b : List Ent} (hcb : cb ∈ fc0) (hd : ∀ b ∈ FP, b ∉ fc0) (h1 : w.heap[cb]? = some (.cells #[lv] 75 (0, 0)))
    (h2 : w.ownsRow 0 77 2 lv (pre.length + 1) (frCells (pre ++ [(.leaf l, y, i)]))) (h3 : ∀ b ∈ blk lv, b ∈ fc0 ∨ w0.heap.size ≤ b) (h4 : Touch (fun b => b ∈ fc0) w0 w) (h5 : ∀ f ∈ pre, FrAt w0 FP f.1 f.2.1) (h6 : FrAt w0 FP (.leaf l) y)
    (h7 : Ctx root pre (.leaf l) a b) (h8 : i < l.length) : CurLeft w0 cb root FP fc0 (some (a.length + i)) w := by
  refine ⟨_, ⟨pre ++ [(.leaf l, y, i)], lv, h1, by simpa using h2, rfl, ?_, pre, l, y, i, a, b, rfl, h8, h7, rfl⟩, ?_, h4⟩
  · intro f hf
    rcases List.mem_append.1 hf with hf | hf
    · exact (h5 f hf).touch h4 hd
    · simp at hf; subst hf; exact h6.touch h4 hd
  · intro b hb
    rcases List.mem_cons.1 hb with rfl | hb
    · exact .inl hcb
    · exact h3 b hb
theorem left_of_none {w0 w : World} {cb : Nat} {root : T} {FP fc0 : List Nat} {lv : Value} {xs : List Value} (hcb : cb ∈ fc0) (h1 : w.heap[cb]? = some (.cells #[lv] 75 (0, 0))) (h2 : w.ownsRow 0 77 2 lv 0 xs)
    (h3 : ∀ b ∈ blk lv, b ∈ fc0 ∨ w0.heap.size ≤ b) (h4 : Touch (fun b => b ∈ fc0) w0 w) : CurLeft w0 cb root FP fc0 none w := by
  have hx : xs = [] := List.eq_nil_of_length_eq_zero (by simpa using h2.1)
  subst hx
  refine ⟨_, ⟨[], lv, h1, h2, rfl, (by intro f hf; cases hf), rfl⟩, ?_, h4⟩
  intro b hb
  rcases List.mem_cons.1 hb with rfl | hb
  · exact .inl hcb
  · exact h3 b hb

/-- a place of a node that has something stands ahead of a key -/
theorem down_lt {fan g q i : Nat} {root t : T} {pre : List Fr} {a b : List Ent} (hf : 4 ≤ fan) (h : Ctx root pre t a b) (hi : i < t.size) (hg : Good fan g t) (hq : q = a.length + ahead t i) : q < (flat root).length := by
  rw [h.flat, hq]
  simp only [List.length_append]
  have : ahead t i < (flat t).length := by
    cases t with
    | leaf l => exact hi
    | node ks cs =>
      cases g with
      | zero => obtain ⟨l, e⟩ := hg; cases e
      | succ g =>
        obtain ⟨ks', cs', e, _, _, h3⟩ := hg
        cases e
        have hc : cs[i]? = some cs[i] := List.getElem?_eq_getElem hi
        obtain ⟨g', z, _⟩ := h3 _ (List.mem_of_getElem? hc)
        obtain ⟨p, hp⟩ := good_some hf g' (by omega)
        have := List.length_pos_of_mem hp
        simp only [flat]
        rw [flats_split hc]
        simp only [ahead, List.length_append]
        omega
  omega

/-- the topmost frame is done with: it is taken off -/
theorem go1_pop {w w1 W : World} {cb : Nat} {root t : T} {FP fc0 : List Nat} {q i x g gc : Nat} {pre : List Fr} {a b : List Ent} (h1 : ∀ f ∈ pre, FrAt w FP f.1 f.2.1) (h2 : Ctx root pre t a b) (h3 : q = a.length + ahead t i) (hi : i = t.size)
    (ho : w1.ownsRow 0 77 2 (.slice (some ⟨g, 0, none⟩) (pre.length + 1) gc) (pre.length + 1) (frCells (pre ++ [(t, x, i)]))) (hT : Touch (fun b => b ∈ fc0) w w1) (hW : Touch (fun b => b = cb) w1 W)
    (hc : W.heap[cb]? = some (.cells #[.slice (some ⟨g, 0, none⟩) pre.length gc] 75 (0, 0))) (hg : g ∈ fc0 ∨ w.heap.size ≤ g) (hne : cb ≠ g) (hcb : cb ∈ fc0) : Go1Rel w cb root FP fc0 q pre.length W := by
  rw [frCells_snoc] at ho
  have ho' := own_taken ho (Nat.le_succ _) (frCells_length pre)
  refine ⟨_, _, hc, own_touch ho' hW (fun b hb e => by cases hb; exact hne e.symm), ?_, hT.trans hW (fun b _ e => e ▸ hcb), ?_⟩
  · intro b hb
    simp [blk, Value.ownBlock] at hb
    subst hb
    exact hg
  · subst hi
    rcases pop_up h2 with ⟨rfl, e, _⟩ | ⟨pre', ks, cs, x', j, a', b', rfl, hc', hj, e, _⟩
    · exact .inl ⟨rfl, by rw [h3, e]⟩
    · refine .inr ⟨pre', .node ks cs, x', j + 1, a', b', by simp, ?_, fun f hf => h1 f (by simp [hf]), h1 (.node ks cs, x', j) (by simp), hc', hj, by rw [h3, e]⟩
      rw [frCells_snoc]
      simp

/-- one node further down, at its first place -/
theorem down_step {fan g q y z i : Nat} {w w1 W : World} {cb : Nat} {root : T} {FP fc0 : List Nat} {pre : List Fr} {ks : List ByteArray} {cs : List T} {c : T} {a b : List Ent} {lv lv' : Value} (hcb : cb ∈ fc0)
    (h1 : ∀ f ∈ pre, FrAt w FP f.1 f.2.1) (h2 : FrAt w FP (.node ks cs) y) (h3 : Ctx root pre (.node ks cs) a b) (hc : cs[i]? = some c) (hq : q = a.length + ahead (.node ks cs) i) (hg : Good fan (g + 1) (.node ks cs)) (hf : 4 ≤ fan)
    (hz : FrAt w FP c z) (ho : w1.ownsRow 0 77 2 lv' (pre.length + 1 + 1) (frCells (pre ++ [(.node ks cs, y, i)]) ++ [.pointer (some ⟨z, 0, none⟩), .int .i64 0]))
    (hT : Touch (fun b => b ∈ fc0) w w1) (hW : Touch (fun b => b = cb) w1 W) (hcW : W.heap[cb]? = some (.cells #[lv'] 75 (0, 0))) (hbk : ∀ b ∈ blk lv', (b ∈ fc0 ∨ w.heap.size ≤ b) ∧ b ≠ cb) :
    DownRel fan w cb root FP fc0 q g z W := by
  obtain ⟨ks', cs', e, _, _, hk⟩ := hg
  cases e
  obtain ⟨gc, zc, _⟩ := hk c (List.mem_of_getElem? hc)
  refine ⟨pre ++ [(.node ks cs, y, i)], c, 0, lv', _, _, hcW, ?_, fun b hb => (hbk b hb).1, hT.trans hW (fun b _ e => e ▸ hcb), ?_, hz, h3.snoc hc, by omega, ?_, gc⟩
  · rw [frCells_snoc]
    simp only [List.length_append, List.length_cons, List.length_nil]
    exact own_blk ho hW (fun b hb => (hbk b hb).2)
  · intro f hf
    rcases List.mem_append.1 hf with hf | hf
    · exact h1 f hf
    · simp at hf; subst hf; exact h2
  · rw [ahead_zero, hq, List.length_append]; rfl
end Go.Ux
