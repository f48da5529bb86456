import Derived.Test.YtdfgpminonpeaaaUxTreeAllZ
import Derived.Laws.BitsLemmas
import Derived.Lib.Builder
/- PART OF THE PROOF THAT THIS CLAIM HOLDS OF THE GIVEN PROGRAM, FOR EVERY INPUT THAT THE STATEMENT NAMES. No condition besides the statement's own. -/
/- Ways into a tree: where a cursor stands, and where it goes. -/
namespace Go.Ux
open Go Go.RowKit

/-- a node on the way, its block, the place in it -/
abbrev Fr := T × Nat × Nat

/-- how many keys stand ahead of a place of a node -/
def ahead : T → Nat → Nat
  | .leaf _, i => i
  | .node _ cs, i => (flats (cs.take i)).length

/-- The frames lead from the root to t; a, b: what is ahead of t, and behind it. -/
inductive Ctx (root : T) : List Fr → T → List Ent → List Ent → Prop
  | nil : Ctx root [] root [] []
  | snoc {pre : List Fr} {ks : List ByteArray} {cs : List T} {c : T} {x i : Nat} {a b : List Ent} : Ctx root pre (.node ks cs) a b → cs[i]? = some c → Ctx root (pre ++ [(.node ks cs, x, i)]) c (a ++ flats (cs.take i)) (flats (cs.drop (i + 1)) ++ b)

theorem flats_split {cs : List T} {i : Nat} {c : T} (h : cs[i]? = some c) : flats cs = flats (cs.take i) ++ (flat c ++ flats (cs.drop (i + 1))) := by
  have := congrArg flats (split_at h)
  rw [flats_at] at this
  exact this

theorem Ctx.flat {root t : T} {pre : List Fr} {a b : List Ent} (h : Ctx root pre t a b) : Ux.flat root = a ++ (Ux.flat t ++ b) := by
  induction h with
  | nil => simp
  | snoc h hc ih =>
    rw [ih]
    simp only [Ux.flat]
    rw [flats_split hc]
    simp only [List.append_assoc]

theorem Ctx.inv {root t : T} {st : List Fr} {a b : List Ent} (h : Ctx root st t a b) : (st = [] ∧ t = root ∧ a = [] ∧ b = []) ∨
    ∃ pre ks cs x i a' b', st = pre ++ [(.node ks cs, x, i)] ∧ Ctx root pre (.node ks cs) a' b' ∧ cs[i]? = some t ∧ a = a' ++ flats (cs.take i) ∧ b = flats (cs.drop (i + 1)) ++ b' := by
  cases h with
  | nil => exact .inl ⟨rfl, rfl, rfl, rfl⟩
  | snoc h hc => exact .inr ⟨_, _, _, _, _, _, _, rfl, h, hc, rfl, rfl⟩

theorem Ctx.good {fan d : Nat} {root t : T} {pre : List Fr} {a b : List Ent} (h : Ctx root pre t a b) (hf : 4 ≤ fan) (hg : Good fan d root) (hs : root.size ≤ fan) :
    ∃ d', Good fan d' t ∧ pre.length + d' = d ∧ (pre = [] ∨ 2 ≤ t.size) ∧ t.size ≤ fan := by
  induction h with
  | nil => exact ⟨d, hg, by simp, .inl rfl, hs⟩
  | @snoc pre ks cs c x i a b h hc ih =>
    obtain ⟨d', g, e, _, _⟩ := ih
    cases d' with
    | zero => obtain ⟨l, hl⟩ := g; cases hl
    | succ d' =>
      obtain ⟨ks', cs', e', _, _, h3⟩ := g
      cases e'
      obtain ⟨g', s1, s2⟩ := h3 c (List.mem_of_getElem? hc)
      exact ⟨d', g', by simp; omega, .inr (by omega), s2⟩

theorem ahead_zero (t : T) : ahead t 0 = 0 := by cases t <;> simp [ahead, flats]
theorem ahead_full (t : T) : ahead t t.size = (flat t).length := by cases t <;> simp [ahead, T.size, flat]
theorem ahead_succ {ks : List ByteArray} {cs : List T} {i : Nat} {c : T} (h : cs[i]? = some c) : ahead (.node ks cs) (i + 1) = ahead (.node ks cs) i + (flat c).length := by
  obtain ⟨hl, rfl⟩ := List.getElem?_eq_some_iff.1 h
  simp only [ahead]
  rw [List.take_succ_eq_append_getElem hl, flats_append, List.length_append]
  simp [flats]

/-- Where the frames stand: on a key, or on none. -/
def Stands (root : T) (st : List Fr) : Option Nat → Prop
  | none => st = []
  | some q => ∃ pre l x i a b, st = pre ++ [(.leaf l, x, i)] ∧ i < l.length ∧ Ctx root pre (.leaf l) a b ∧ q = a.length + i

theorem Stands.key {root : T} {st : List Fr} {q : Nat} (h : Stands root st (some q)) : ∃ pre l x i p, st = pre ++ [(.leaf l, x, i)] ∧ l[i]? = some p ∧ (flat root)[q]? = some p := by
  obtain ⟨pre, l, x, i, a, b, rfl, hi, hc, rfl⟩ := h
  have hp : l[i]? = some l[i] := List.getElem?_eq_getElem hi
  refine ⟨pre, l, x, i, l[i], rfl, hp, ?_⟩
  rw [hc.flat, List.getElem?_append_right (by omega), show a.length + i - a.length = i by omega]
  simp only [Ux.flat]
  rw [List.getElem?_append_left hi, hp]

theorem Stands.lt {root : T} {st : List Fr} {q : Nat} (h : Stands root st (some q)) : q < (flat root).length := by
  obtain ⟨_, _, _, _, p, _, _, h⟩ := h.key
  exact (List.getElem?_eq_some_iff.1 h).1

/-- the next place of a node is none of it: the same place, one node up -/
theorem pop_up {root t : T} {st : List Fr} {a b : List Ent} (h : Ctx root st t a b) :
    (st = [] ∧ a.length + ahead t t.size = (flat root).length ∧ a = []) ∨
    ∃ pre ks cs x j a' b', st = pre ++ [(.node ks cs, x, j)] ∧ Ctx root pre (.node ks cs) a' b' ∧ j < cs.length ∧ a.length + ahead t t.size = a'.length + ahead (.node ks cs) (j + 1) ∧ a.length = a'.length + ahead (.node ks cs) j := by
  rcases h.inv with ⟨rfl, rfl, rfl, rfl⟩ | ⟨pre, ks, cs, x, i, a', b', rfl, h', hc, rfl, rfl⟩
  · exact .inl ⟨rfl, by rw [ahead_full]; simp, rfl⟩
  · refine .inr ⟨pre, ks, cs, x, i, a', b', rfl, h', (List.getElem?_eq_some_iff.1 hc).1, ?_, ?_⟩
    · rw [ahead_full, ahead_succ hc, List.length_append]
      simp only [ahead]
      omega
    · rw [List.length_append]; rfl

/-! ### in memory -/
/-- the tree t lies at block x, within FP -/
def FrAt (w : World) (FP : List Nat) (t : T) (x : Nat) : Prop := ∃ f, NodeAt w t x f ∧ ∀ b ∈ f, b ∈ FP

theorem FrAt.touch {w w' : World} {R : Nat → Prop} {FP : List Nat} {t : T} {x : Nat} (h : FrAt w FP t x) (ht : Touch R w w') (hn : ∀ b ∈ FP, ¬ R b) : FrAt w' FP t x := by
  obtain ⟨f, h1, h2⟩ := h
  exact ⟨f, h1.touch ht (fun b hb => hn b (h2 b hb)), h2⟩

theorem FrAt.kid {w : World} {FP : List Nat} {ks : List ByteArray} {cs : List T} {x i : Nat} {c : T} (h : FrAt w FP (.node ks cs) x) (hc : cs[i]? = some c) :
    ∃ g cc y, w.cell? ⟨x, 2, none⟩ = some (.slice (some ⟨g, 0, none⟩) cs.length cc) ∧ w.cell? ⟨g, i, none⟩ = some (.pointer (some ⟨y, 0, none⟩)) ∧ FrAt w FP c y ∧ cs.length ≤ cc ∧ cc ≤ maxLen ∧ x ∈ FP ∧ g ∈ FP := by
  obtain ⟨f, ⟨kv, cv, xs, fs, h1, h2, h3, h4, rfl⟩, hs⟩ := h
  have hil := (List.getElem?_eq_some_iff.1 hc).1
  obtain ⟨g, cc, cur, rfl, hn1, hn2, hg, _, htk⟩ := own_pos h3 (by omega)
  rw [split_at hc] at h4
  obtain ⟨xa, y, xb, fa, f, fb, rfl, rfl, na, nc, nb⟩ := NodesAt.at h4
  have hla := na.length
  simp only [List.length_take] at hla
  refine ⟨g, cc, y, by rw [cell_of_row w x 2 _ 62 (0, 0) h1]; rfl, ?_, ⟨f, nc, fun b hb => hs b (by simp [hb])⟩, hn1, hn2, hs x (by simp), hs g (by simp [blk, Value.ownBlock])⟩
  refine row_cell hg htk i _ ?_
  rw [List.getElem?_map, List.getElem?_append_right (by omega), show i - xa.length = 0 by omega]
  rfl

theorem FrAt.leaf {w : World} {FP : List Nat} {l : List Ent} {x : Nat} (h : FrAt w FP (.leaf l) x) : w.cell? ⟨x, 2, none⟩ = some (.slice none 0 0) ∧
    ∀ i p, l[i]? = some p → ∃ g c g' c', w.cell? ⟨x, 0, none⟩ = some (.slice (some ⟨g, 0, none⟩) l.length c) ∧ w.cell? ⟨g, i, none⟩ = some (.string p.1) ∧ w.cell? ⟨x, 1, none⟩ = some (.slice (some ⟨g', 0, none⟩) l.length c') ∧ w.cell? ⟨g', i, none⟩ = some (.int .i64 p.2) := by
  obtain ⟨f, ⟨kv, rv, h1, h2, h3, rfl⟩, hs⟩ := h
  refine ⟨by rw [cell_of_row w x 2 _ 62 (0, 0) h1]; rfl, fun i p hp => ?_⟩
  have hil := (List.getElem?_eq_some_iff.1 hp).1
  obtain ⟨g, c, cur, rfl, _, _, hg, _, htk⟩ := own_pos h2 (by omega)
  obtain ⟨g', c', cur', rfl, _, _, hg', _, htk'⟩ := own_pos h3 (by omega)
  refine ⟨g, c, g', c', by rw [cell_of_row w x 0 _ 62 (0, 0) h1]; rfl, row_cell hg htk i _ (by rw [List.getElem?_map, hp]; rfl), by rw [cell_of_row w x 1 _ 62 (0, 0) h1]; rfl, row_cell hg' htk' i _ (by rw [List.getElem?_map, hp]; rfl)⟩

/-- the blocks of a tree, by their types -/
def TypeIn (w : World) (b : Nat) (ts : List Nat) : Prop := ∃ cs ty, w.heap[b]? = some (.cells cs ty (0, 0)) ∧ ty ∈ ts
theorem TypeIn.ne {w : World} {b c : Nat} {ts us : List Nat} (h : TypeIn w b ts) (k : TypeIn w c us) (hd : ∀ t ∈ ts, t ∉ us) : b ≠ c := by
  rintro rfl
  obtain ⟨cs, ty, h1, h2⟩ := h
  obtain ⟨cs', ty', k1, k2⟩ := k
  rw [h1] at k1
  cases k1
  exact hd _ h2 k2
theorem own_type {w : World} {e : TypeId} {size n : Nat} {v : Value} {xs : List Value} (h : w.ownsRow 0 e size v n xs) : ∀ b ∈ blk v, TypeIn w b [e] := by
  intro b hb
  have hb' : v.ownBlock = some b := by simpa [blk] using hb
  rcases h.2 with ⟨rfl, _⟩ | ⟨g, cap, cur, rfl, _, hh, _⟩
  · cases hb'
  · cases hb'
    exact ⟨_, _, hh, by simp⟩
theorem TypeIn.mono {w : World} {b : Nat} {ts us : List Nat} (h : TypeIn w b ts) (hs : ∀ t ∈ ts, t ∈ us) : TypeIn w b us := by
  obtain ⟨cs, ty, h1, h2⟩ := h
  exact ⟨cs, ty, h1, hs _ h2⟩
mutual
theorem NodeAt.types {w : World} : ∀ {t : T} {x : Nat} {fp : List Nat}, NodeAt w t x fp → ∀ b ∈ fp, TypeIn w b [62, 9, 3, 59]
  | .leaf l, x, fp, h => by
    obtain ⟨kv, rv, h1, h2, h3, rfl⟩ := h
    intro b hb
    rcases List.mem_cons.1 hb with rfl | hb
    · exact ⟨_, _, h1, by simp⟩
    · rcases List.mem_append.1 hb with hb | hb
      · exact (own_type h2 b hb).mono (by simp)
      · exact (own_type h3 b hb).mono (by simp)
  | .node ks cs, x, fp, h => by
    obtain ⟨kv, cv, xs, fs, h1, h2, h3, h4, rfl⟩ := h
    intro b hb
    rcases List.mem_cons.1 hb with rfl | hb
    · exact ⟨_, _, h1, by simp⟩
    · rcases List.mem_append.1 hb with hb | hb
      · rcases List.mem_append.1 hb with hb | hb
        · exact (own_type h2 b hb).mono (by simp)
        · exact (own_type h3 b hb).mono (by simp)
      · exact NodesAt.types h4 b hb
theorem NodesAt.types {w : World} : ∀ {cs : List T} {xs fs : List Nat}, NodesAt w cs xs fs → ∀ b ∈ fs, TypeIn w b [62, 9, 3, 59]
  | [], xs, fs, h => by obtain ⟨rfl, rfl⟩ := h; intro b hb; cases hb
  | t :: ts, xs, fs, h => by
    obtain ⟨x, xs', f, fs', rfl, rfl, h1, h2⟩ := h
    intro b hb
    rcases List.mem_append.1 hb with hb | hb
    · exact NodeAt.types h1 b hb
    · exact NodesAt.types h2 b hb
end

/-- the cells of the frames -/
def frCells (st : List Fr) : List Value := st.flatMap fun f => [.pointer (some ⟨f.2.1, 0, none⟩), .int .i64 f.2.2]
theorem frCells_snoc (st : List Fr) (f : Fr) : frCells (st ++ [f]) = frCells st ++ [.pointer (some ⟨f.2.1, 0, none⟩), .int .i64 f.2.2] := by simp [frCells]
theorem frCells_length (st : List Fr) : (frCells st).length = st.length * 2 := by
  induction st with
  | nil => rfl
  | cons f st ih => simp only [frCells, List.flatMap_cons, List.length_append, List.length_cons, List.length_nil] at ih ⊢; omega

/-- A cursor at block cb, upon a tree within FP: where it stands; fc: its blocks. -/
def CurAt (w : World) (cb : Nat) (root : T) (FP : List Nat) (o : Option Nat) (fc : List Nat) : Prop :=
  ∃ st lv, w.heap[cb]? = some (.cells #[lv] 75 (0, 0)) ∧ w.ownsRow 0 77 2 lv st.length (frCells st) ∧ fc = cb :: blk lv ∧ (∀ f ∈ st, FrAt w FP f.1 f.2.1) ∧ Stands root st o

theorem CurAt.types {w : World} {cb : Nat} {root : T} {FP : List Nat} {o : Option Nat} {fc : List Nat} (h : CurAt w cb root FP o fc) : ∀ b ∈ fc, TypeIn w b [75, 77] := by
  obtain ⟨st, lv, h1, h2, rfl, _, _⟩ := h
  intro b hb
  rcases List.mem_cons.1 hb with rfl | hb
  · exact ⟨_, _, h1, by simp⟩
  · exact (own_type h2 b hb).mono (by simp)
theorem CurAt.lt {w : World} {cb : Nat} {root : T} {FP : List Nat} {o : Option Nat} {fc : List Nat} (h : CurAt w cb root FP o fc) : ∀ b ∈ fc, b < w.heap.size := fun b hb => by
  obtain ⟨_, _, h1, _⟩ := h.types b hb
  exact lt_of_heap h1
theorem CurAt.touch {w w' : World} {cb : Nat} {root : T} {FP : List Nat} {o : Option Nat} {fc : List Nat} {R : Nat → Prop} (h : CurAt w cb root FP o fc) (ht : Touch R w w') (h1 : ∀ b ∈ fc, ¬ R b) (h2 : ∀ b ∈ FP, ¬ R b) : CurAt w' cb root FP o fc := by
  obtain ⟨st, lv, a1, a2, rfl, a4, a5⟩ := h
  exact ⟨st, lv, ht.heap a1 (h1 cb (by simp)), own_blk a2 ht (fun b hb => h1 b (by simp [hb])), rfl, fun f hf => (a4 f hf).touch ht h2, a5⟩

theorem own_setn {w : World} {e : TypeId} {size g n c i : Nat} {xs : List Value} (h : w.ownsRow 0 e size (.slice (some ⟨g, 0, none⟩) n c) n xs) (u : Value) : (w.setCell ⟨g, i, none⟩ u).ownsRow 0 e size (.slice (some ⟨g, 0, none⟩) n c) n (xs.set i u) := by
  obtain ⟨h1, h2⟩ := h
  refine ⟨by simpa using h1, .inr ?_⟩
  rcases h2 with ⟨hv, _⟩ | ⟨g', cap, cur, hv, hb, hh, h3, h4, h5, h6⟩
  · cases hv
  · cases hv
    have := heap_setCell_same w g i cur e u hh
    refine ⟨g, c, _, rfl, hb, this, h3, h4, ?_, ?_⟩
    · simpa using h5
    · rw [← h6]
      simp [List.take_set]

/-- a row cut at its end -/
theorem own_taken {w : World} {e : TypeId} {size g c n i : Nat} {xs ys : List Value} (h : w.ownsRow 0 e size (.slice (some ⟨g, 0, none⟩) n c) n (xs ++ ys)) (hi : i ≤ n) (hl : xs.length = i * size) : w.ownsRow 0 e size (.slice (some ⟨g, 0, none⟩) i c) i xs := by
  obtain ⟨h1, h2⟩ := h
  refine ⟨hl, .inr ?_⟩
  rcases h2 with ⟨hv, _⟩ | ⟨g', cap, cur, hv, hb, hh, h3, h4, h5, h6⟩
  · cases hv
  · cases hv
    refine ⟨g, c, cur, rfl, hb, hh, by omega, h4, h5, ?_⟩
    have : cur.toList.take (i * size) = (cur.toList.take (n * size)).take (i * size) := by rw [List.take_take, Nat.min_eq_left (Nat.mul_le_mul_right _ hi)]
    rw [this, h6, ← hl, List.take_left]

/-! ### how deep a tree may be -/
theorem flats_pow {n : Nat} : ∀ {cs : List T}, (∀ c ∈ cs, n ≤ (flat c).length) → cs.length * n ≤ (flats cs).length
  | [], _ => by simp [flats]
  | c :: cs, h => by
    have h1 := h c (by simp)
    have h2 := flats_pow (cs := cs) fun c hc => h c (by simp [hc])
    simp only [flats, List.length_append, List.length_cons, Nat.add_mul, Nat.one_mul]
    omega
theorem good_pow {fan : Nat} (hf : 4 ≤ fan) : ∀ {d : Nat} {t : T}, Good fan d t → 1 ≤ t.size → (d = 0 ∨ 2 ≤ t.size) → 2 ^ d ≤ (flat t).length
  | 0, _, h, h1, _ => by obtain ⟨l, rfl⟩ := h; simpa [T.size, flat] using h1
  | d + 1, _, h, h1, h2 => by
    obtain ⟨ks, cs, rfl, e1, e2, e3⟩ := h
    have h2' : 2 ≤ cs.length := by rcases h2 with h | h; omega; exact h
    have := flats_pow (n := 2 ^ d) (cs := cs) fun c hc => by
      obtain ⟨g, z, _⟩ := e3 c hc
      exact good_pow hf g (by omega) (.inr (by omega))
    simp only [flat, Nat.pow_succ]
    have h3 : 2 * 2 ^ d ≤ cs.length * 2 ^ d := Nat.mul_le_mul_right _ h2'
    omega
theorem good_deep {fan d : Nat} {t : T} (hf : 4 ≤ fan) (h : Good fan d t) (hr : d = 0 ∨ 2 ≤ t.size) (hl : (flat t).length ≤ 1048576) : d ≤ 20 := by
  rcases hr with h0 | h2
  · omega
  · have := good_pow hf h (by omega) (.inr h2)
    rcases Nat.lt_or_ge d 21 with h' | h'
    · omega
    · have h3 : 2 ^ 21 ≤ 2 ^ d := Nat.pow_le_pow_right (by omega) h'
      have h4 : (2 : Nat) ^ 21 = 2097152 := by decide
      omega
theorem Stands.length {fan d q : Nat} {root : T} {st : List Fr} (h : Stands root st (some q)) (hf : 4 ≤ fan) (hg : Good fan d root) (hs : root.size ≤ fan) : st.length = d + 1 ∧ ∃ pre l x i, st = pre ++ [(.leaf l, x, i)] ∧ l.length ≤ fan := by
  obtain ⟨pre, l, x, i, a, b, rfl, hi, hc, rfl⟩ := h
  obtain ⟨d', g, e, _, hz⟩ := hc.good hf hg hs
  cases d' with
  | zero => exact ⟨by simp; omega, pre, l, x, i, rfl, hz⟩
  | succ d' => obtain ⟨_, _, e, _⟩ := g; cases e

/-! ### the next key, and the one ahead -/
/-- Frames, the topmost of which stands one place ahead of the one that it shall stand at: what the next key is. n: how many frames. -/
def Go1Rel (w0 : World) (cb : Nat) (root : T) (FP fc0 : List Nat) (q : Nat) (n : Nat) (w : World) : Prop :=
  ∃ lv xs, w.heap[cb]? = some (.cells #[lv] 75 (0, 0)) ∧ w.ownsRow 0 77 2 lv n xs ∧ (∀ b ∈ blk lv, b ∈ fc0 ∨ w0.heap.size ≤ b) ∧ Touch (fun b => b ∈ fc0) w0 w ∧
    ((n = 0 ∧ q = (flat root).length) ∨ ∃ pre t x i a b, n = pre.length + 1 ∧ xs = frCells pre ++ [.pointer (some ⟨x, 0, none⟩), .int .i64 ((i : Int) - 1)] ∧ (∀ f ∈ pre, FrAt w0 FP f.1 f.2.1) ∧ FrAt w0 FP t x ∧
      Ctx root pre t a b ∧ i ≤ t.size ∧ q = a.length + ahead t i)

/-- Frames down to a node t, standing at a place of it: the key q is the first one there. -/
def DownRel (fan : Nat) (w0 : World) (cb : Nat) (root : T) (FP fc0 : List Nat) (q : Nat) (g : Nat) (y : Nat) (w : World) : Prop :=
  ∃ pre t i lv a b, w.heap[cb]? = some (.cells #[lv] 75 (0, 0)) ∧ w.ownsRow 0 77 2 lv (pre.length + 1) (frCells (pre ++ [(t, y, i)])) ∧ (∀ b ∈ blk lv, b ∈ fc0 ∨ w0.heap.size ≤ b) ∧ Touch (fun b => b ∈ fc0) w0 w ∧
    (∀ f ∈ pre, FrAt w0 FP f.1 f.2.1) ∧ FrAt w0 FP t y ∧ Ctx root pre t a b ∧ i < t.size ∧ q = a.length + ahead t i ∧ Good fan g t

/-- what a cursor's step leaves: it stands at o -/
def CurLeft (w0 : World) (cb : Nat) (root : T) (FP fc0 : List Nat) (o : Option Nat) (w : World) : Prop :=
  ∃ fc, CurAt w cb root FP o fc ∧ (∀ b ∈ fc, b ∈ fc0 ∨ w0.heap.size ≤ b) ∧ Touch (fun b => b ∈ fc0) w0 w

theorem left_of_leaf {w0 w : World} {cb : Nat} {root : T} {FP fc0 : List Nat} {pre : List Fr} {l : List Ent} {y i : Nat} {lv : Value} {a b : List Ent} (hcb : cb ∈ fc0) (hd : ∀ b ∈ FP, b ∉ fc0) (h1 : w.heap[cb]? = some (.cells #[lv] 75 (0, 0)))
    (h2 : w.ownsRow 0 77 2 lv (pre.length + 1) (frCells (pre ++ [(.leaf l, y, i)]))) (h3 : ∀ b ∈ blk lv, b ∈ fc0 ∨ w0.heap.size ≤ b) (h4 : Touch (fun b => b ∈ fc0) w0 w) (h5 : ∀ f ∈ pre, FrAt w0 FP f.1 f.2.1) (h6 : FrAt w0 FP (.leaf l) y)
    (h7 : Ctx root pre (.leaf l) a b) (h8 : i < l.length) : CurLeft w0 cb root FP fc0 (some (a.length + i)) w := by
  refine ⟨_, ⟨pre ++ [(.leaf l, y, i)], lv, h1, by simpa using h2, rfl, ?_, pre, l, y, i, a, b, rfl, h8, h7, rfl⟩, ?_, h4⟩
  · intro f hf
    rcases List.mem_append.1 hf with hf | hf
    · exact (h5 f hf).touch h4 hd
    · simp at hf; subst hf; exact h6.touch h4 hd
  · intro b hb
    rcases List.mem_cons.1 hb with rfl | hb
    · exact .inl hcb
    · exact h3 b hb
theorem left_of_none {w0 w : World} {cb : Nat} {root : T} {FP fc0 : List Nat} {lv : Value} {xs : List Value} (hcb : cb ∈ fc0) (h1 : w.heap[cb]? = some (.cells #[lv] 75 (0, 0))) (h2 : w.ownsRow 0 77 2 lv 0 xs)
    (h3 : ∀ b ∈ blk lv, b ∈ fc0 ∨ w0.heap.size ≤ b) (h4 : Touch (fun b => b ∈ fc0) w0 w) : CurLeft w0 cb root FP fc0 none w := by
  have hx : xs = [] := List.eq_nil_of_length_eq_zero (by simpa using h2.1)
  subst hx
  refine ⟨_, ⟨[], lv, h1, h2, rfl, (by intro f hf; cases hf), rfl⟩, ?_, h4⟩
  intro b hb
  rcases List.mem_cons.1 hb with rfl | hb
  · exact .inl hcb
  · exact h3 b hb

/-- a place of a node that has something stands ahead of a key -/
theorem down_lt {fan g q i : Nat} {root t : T} {pre : List Fr} {a b : List Ent} (hf : 4 ≤ fan) (h : Ctx root pre t a b) (hi : i < t.size) (hg : Good fan g t) (hq : q = a.length + ahead t i) : q < (flat root).length := by
  rw [h.flat, hq]
  simp only [List.length_append]
  have : ahead t i < (flat t).length := by
    cases t with
    | leaf l => exact hi
    | node ks cs =>
      cases g with
      | zero => obtain ⟨l, e⟩ := hg; cases e
      | succ g =>
        obtain ⟨ks', cs', e, _, _, h3⟩ := hg
        cases e
        have hc : cs[i]? = some cs[i] := List.getElem?_eq_getElem hi
        obtain ⟨g', z, _⟩ := h3 _ (List.mem_of_getElem? hc)
        obtain ⟨p, hp⟩ := good_some hf g' (by omega)
        have := List.length_pos_of_mem hp
        simp only [flat]
        rw [flats_split hc]
        simp only [ahead, List.length_append]
        omega
  omega

/-- the topmost frame is done with: it is taken off -/
theorem go1_pop {w w1 W : World} {cb : Nat} {root t : T} {FP fc0 : List Nat} {q i x g gc : Nat} {pre : List Fr} {a b : List Ent} (h1 : ∀ f ∈ pre, FrAt w FP f.1 f.2.1) (h2 : Ctx root pre t a b) (h3 : q = a.length + ahead t i) (hi : i = t.size)
    (ho : w1.ownsRow 0 77 2 (.slice (some ⟨g, 0, none⟩) (pre.length + 1) gc) (pre.length + 1) (frCells (pre ++ [(t, x, i)]))) (hT : Touch (fun b => b ∈ fc0) w w1) (hW : Touch (fun b => b = cb) w1 W)
    (hc : W.heap[cb]? = some (.cells #[.slice (some ⟨g, 0, none⟩) pre.length gc] 75 (0, 0))) (hg : g ∈ fc0 ∨ w.heap.size ≤ g) (hne : cb ≠ g) (hcb : cb ∈ fc0) : Go1Rel w cb root FP fc0 q pre.length W := by
  rw [frCells_snoc] at ho
  have ho' := own_taken ho (Nat.le_succ _) (frCells_length pre)
  refine ⟨_, _, hc, own_touch ho' hW (fun b hb e => by cases hb; exact hne e.symm), ?_, hT.trans hW (fun b _ e => e ▸ hcb), ?_⟩
  · intro b hb
    simp [blk, Value.ownBlock] at hb
    subst hb
    exact hg
  · subst hi
    rcases pop_up h2 with ⟨rfl, e, _⟩ | ⟨pre', ks, cs, x', j, a', b', rfl, hc', hj, e, _⟩
    · exact .inl ⟨rfl, by rw [h3, e]⟩
    · refine .inr ⟨pre', .node ks cs, x', j + 1, a', b', by simp, ?_, fun f hf => h1 f (by simp [hf]), h1 (.node ks cs, x', j) (by simp), hc', hj, by rw [h3, e]⟩
      rw [frCells_snoc]
      simp

/-- one node further down, at its first place -/
theorem down_step {fan g q y z i : Nat} {w w1 W : World} {cb : Nat} {root : T} {FP fc0 : List Nat} {pre : List Fr} {ks : List ByteArray} {cs : List T} {c : T} {a b : List Ent} {lv lv' : Value} (hcb : cb ∈ fc0)
    (h1 : ∀ f ∈ pre, FrAt w FP f.1 f.2.1) (h2 : FrAt w FP (.node ks cs) y) (h3 : Ctx root pre (.node ks cs) a b) (hc : cs[i]? = some c) (hq : q = a.length + ahead (.node ks cs) i) (hg : Good fan (g + 1) (.node ks cs)) (hf : 4 ≤ fan)
    (hz : FrAt w FP c z) (ho : w1.ownsRow 0 77 2 lv' (pre.length + 1 + 1) (frCells (pre ++ [(.node ks cs, y, i)]) ++ [.pointer (some ⟨z, 0, none⟩), .int .i64 0]))
    (hT : Touch (fun b => b ∈ fc0) w w1) (hW : Touch (fun b => b = cb) w1 W) (hcW : W.heap[cb]? = some (.cells #[lv'] 75 (0, 0))) (hbk : ∀ b ∈ blk lv', (b ∈ fc0 ∨ w.heap.size ≤ b) ∧ b ≠ cb) :
    DownRel fan w cb root FP fc0 q g z W := by
  obtain ⟨ks', cs', e, _, _, hk⟩ := hg
  cases e
  obtain ⟨gc, zc, _⟩ := hk c (List.mem_of_getElem? hc)
  refine ⟨pre ++ [(.node ks cs, y, i)], c, 0, lv', _, _, hcW, ?_, fun b hb => (hbk b hb).1, hT.trans hW (fun b _ e => e ▸ hcb), ?_, hz, h3.snoc hc, by omega, ?_, gc⟩
  · rw [frCells_snoc]
    simp only [List.length_append, List.length_cons, List.length_nil]
    exact own_blk ho hW (fun b hb => (hbk b hb).2)
  · intro f hf
    rcases List.mem_append.1 hf with hf | hf
    · exact h1 f hf
    · simp at hf; subst hf; exact h2
  · rw [ahead_zero, hq, List.length_append]; rfl
end Go.Ux
/- The key ahead. -/
namespace Go.Ux
open Go Go.RowKit

/-- Frames down to a node t, standing at a place of it: p keys stand ahead of the place behind. -/
def LastRel (fan : Nat) (w0 : World) (cb : Nat) (root : T) (FP fc0 : List Nat) (p : Nat) (g : Nat) (y : Nat) (w : World) : Prop :=
  ∃ pre t i lv a b, w.heap[cb]? = some (.cells #[lv] 75 (0, 0)) ∧ w.ownsRow 0 77 2 lv (pre.length + 1) (frCells (pre ++ [(t, y, i)])) ∧ (∀ b ∈ blk lv, b ∈ fc0 ∨ w0.heap.size ≤ b) ∧ Touch (fun b => b ∈ fc0) w0 w ∧
    (∀ f ∈ pre, FrAt w0 FP f.1 f.2.1) ∧ FrAt w0 FP t y ∧ Ctx root pre t a b ∧ i < t.size ∧ p = a.length + ahead t (i + 1) ∧ Good fan g t

/-- one node further down, at its last place -/
theorem last_step {fan g q y z i : Nat} {w w1 W : World} {cb : Nat} {root : T} {FP fc0 : List Nat} {pre : List Fr} {ks : List ByteArray} {cs : List T} {c : T} {a b : List Ent} {lv lv' : Value} (hcb : cb ∈ fc0)
    (h1 : ∀ f ∈ pre, FrAt w FP f.1 f.2.1) (h2 : FrAt w FP (.node ks cs) y) (h3 : Ctx root pre (.node ks cs) a b) (hc : cs[i]? = some c) (hq : q = a.length + ahead (.node ks cs) (i + 1)) (hg : Good fan (g + 1) (.node ks cs)) (hf : 4 ≤ fan)
    (hz : FrAt w FP c z) (ho : w1.ownsRow 0 77 2 lv' (pre.length + 1 + 1) (frCells (pre ++ [(.node ks cs, y, i)]) ++ [.pointer (some ⟨z, 0, none⟩), .int .i64 ((c.size : Int) - 1)]))
    (hT : Touch (fun b => b ∈ fc0) w w1) (hW : Touch (fun b => b = cb) w1 W) (hcW : W.heap[cb]? = some (.cells #[lv'] 75 (0, 0))) (hbk : ∀ b ∈ blk lv', (b ∈ fc0 ∨ w.heap.size ≤ b) ∧ b ≠ cb) :
    LastRel fan w cb root FP fc0 q g z W := by
  obtain ⟨ks', cs', e, _, _, hk⟩ := hg
  cases e
  obtain ⟨gc, zc, _⟩ := hk c (List.mem_of_getElem? hc)
  have hs : 1 ≤ c.size := by omega
  refine ⟨pre ++ [(.node ks cs, y, i)], c, c.size - 1, lv', _, _, hcW, ?_, fun b hb => (hbk b hb).1, hT.trans hW (fun b _ e => e ▸ hcb), ?_, hz, h3.snoc hc, by omega, ?_, gc⟩
  · rw [frCells_snoc]
    simp only [List.length_append, List.length_cons, List.length_nil]
    have : ((c.size - 1 : Nat) : Int) = (c.size : Int) - 1 := by omega
    rw [this]
    exact own_blk ho hW (fun b hb => (hbk b hb).2)
  · intro f hf
    rcases List.mem_append.1 hf with hf | hf
    · exact h1 f hf
    · simp at hf; subst hf; exact h2
  · rw [show c.size - 1 + 1 = c.size by omega, ahead_full, hq, ahead_succ hc, List.length_append]
    simp only [ahead]
    omega

/-- Frames, the topmost of which stands at a place with p keys ahead of it: what the key ahead is. n: how many frames. -/
def PrevRel (w0 : World) (cb : Nat) (root : T) (FP fc0 : List Nat) (p : Nat) (n : Nat) (w : World) : Prop :=
  ∃ lv xs, w.heap[cb]? = some (.cells #[lv] 75 (0, 0)) ∧ w.ownsRow 0 77 2 lv n xs ∧ (∀ b ∈ blk lv, b ∈ fc0 ∨ w0.heap.size ≤ b) ∧ Touch (fun b => b ∈ fc0) w0 w ∧
    ((n = 0 ∧ p = 0) ∨ ∃ pre t x i a b, n = pre.length + 1 ∧ xs = frCells (pre ++ [(t, x, i)]) ∧ (∀ f ∈ pre, FrAt w0 FP f.1 f.2.1) ∧ FrAt w0 FP t x ∧
      Ctx root pre t a b ∧ i < t.size ∧ p = a.length + ahead t i)

theorem prev_pop {w w1 W : World} {cb : Nat} {root t : T} {FP fc0 : List Nat} {p g gc : Nat} {pre : List Fr} {a b : List Ent} {ys : List Value} (h1 : ∀ f ∈ pre, FrAt w FP f.1 f.2.1) (h2 : Ctx root pre t a b) (h3 : p = a.length + ahead t 0)
    (ho : w1.ownsRow 0 77 2 (.slice (some ⟨g, 0, none⟩) (pre.length + 1) gc) (pre.length + 1) (frCells pre ++ ys)) (hT : Touch (fun b => b ∈ fc0) w w1) (hW : Touch (fun b => b = cb) w1 W)
    (hc : W.heap[cb]? = some (.cells #[.slice (some ⟨g, 0, none⟩) pre.length gc] 75 (0, 0))) (hg : g ∈ fc0 ∨ w.heap.size ≤ g) (hne : cb ≠ g) (hcb : cb ∈ fc0) : PrevRel w cb root FP fc0 p pre.length W := by
  have ho' := own_taken ho (Nat.le_succ _) (frCells_length pre)
  refine ⟨_, _, hc, own_touch ho' hW (fun b hb e => by cases hb; exact hne e.symm), ?_, hT.trans hW (fun b _ e => e ▸ hcb), ?_⟩
  · intro b hb
    simp [blk, Value.ownBlock] at hb
    subst hb
    exact hg
  · rw [ahead_zero] at h3
    rcases pop_up h2 with ⟨rfl, _, e⟩ | ⟨pre', ks, cs, x', j, a', b', rfl, hc', hj, _, e⟩
    · exact .inl ⟨rfl, by rw [h3, e]; rfl⟩
    · exact .inr ⟨pre', .node ks cs, x', j, a', b', by simp, rfl, fun f hf => h1 f (by simp [hf]), h1 (.node ks cs, x', j) (by simp), hc', hj, by rw [h3]; exact e⟩
end Go.Ux
/- Where a key would stand. -/
namespace Go.Ux
open Go Go.RowKit

theorem FrAt.keysN {w : World} {FP : List Nat} {ks : List ByteArray} {cs : List T} {x : Nat} (h : FrAt w FP (.node ks cs) x) : ∃ kv, w.cell? ⟨x, 0, none⟩ = some kv ∧ w.ownsRow 0 9 1 kv ks.length (ks.map .string) := by
  obtain ⟨f, ⟨kv, cv, xs, fs, h1, h2, h3, h4, rfl⟩, hs⟩ := h
  exact ⟨kv, by rw [cell_of_row w x 0 _ 62 (0, 0) h1]; rfl, h2⟩
theorem FrAt.keysL {w : World} {FP : List Nat} {l : List Ent} {x : Nat} (h : FrAt w FP (.leaf l) x) : ∃ kv, w.cell? ⟨x, 0, none⟩ = some kv ∧ w.ownsRow 0 9 1 kv (keys l).length ((keys l).map .string) := by
  obtain ⟨f, ⟨kv, rv, h1, h2, h3, rfl⟩, hs⟩ := h
  refine ⟨kv, by rw [cell_of_row w x 0 _ 62 (0, 0) h1]; rfl, ?_⟩
  rw [keys_length]
  simp only [keys, List.map_map]
  exact h2
theorem FrAt.mem {w : World} {FP : List Nat} {t : T} {x : Nat} (h : FrAt w FP t x) : x ∈ FP := by
  obtain ⟨f, h1, h2⟩ := h
  exact h2 x h1.mem

/-- where a key is, or would be; behind it, if it is there and that is asked for -/
def seekN (l : List Ent) (k : ByteArray) (over : Bool) : Nat := lb (keys l) k + if (has (keys l) k && over) = true then 1 else 0

theorem seekN_mid {A C B : List Ent} {k : ByteArray} {over : Bool} (hA : AllLt A k) (hB : ∀ p ∈ B, slt k p.1 = true) : seekN (A ++ (C ++ B)) k over = A.length + seekN C k over := by
  have h1 : ∀ x ∈ keys A, slt x k = true := fun x hx => by obtain ⟨p, hp, rfl⟩ := mem_keys hx; exact hA p hp
  have h2 : ∀ x ∈ keys B, slt k x = true := fun x hx => by obtain ⟨p, hp, rfl⟩ := mem_keys hx; exact hB p hp
  unfold seekN
  rw [keys_append, keys_append, has_left h1, has_right h2, lb_append h1, lb_right (fun x hx => slt_asymm (h2 x hx)), keys_length, Nat.add_assoc]
theorem seekN_le (l : List Ent) (k : ByteArray) (over : Bool) : seekN l k over ≤ l.length := by
  unfold seekN
  have h1 := lb_le (keys l) k
  rw [keys_length] at h1
  split
  · rename_i h
    rw [Bool.and_eq_true] at h
    have h2 := h.1
    unfold has at h2
    rw [decide_eq_true_iff] at h2
    have := (List.getElem?_eq_some_iff.1 h2).1
    rw [keys_length] at this
    omega
  · omega

/-- On the way down to a key: the frames so far, the node y that they lead to. -/
def SeekRel (fan : Nat) (w0 : World) (cb : Nat) (root : T) (FP : List Nat) (k : ByteArray) (g : Nat) (y : Nat) (w : World) : Prop :=
  ∃ pre t lv a b, w.heap[cb]? = some (.cells #[lv] 75 (0, 0)) ∧ w.ownsRow 0 77 2 lv pre.length (frCells pre) ∧ (∀ b ∈ blk lv, w0.heap.size ≤ b) ∧ Touch (fun _ => False) w0 w ∧
    (∀ f ∈ pre, FrAt w0 FP f.1 f.2.1) ∧ FrAt w0 FP t y ∧ Ctx root pre t a b ∧ Good fan g t ∧ AllLt a k ∧ ∀ p ∈ b, slt k p.1 = true

theorem seek_step {fan g y z : Nat} {w w1 W : World} {cb : Nat} {root : T} {FP : List Nat} {k : ByteArray} {pre : List Fr} {ks : List ByteArray} {cs : List T} {c : T} {a b : List Ent} {lv' : Value} (hcb : w.heap.size ≤ cb) (hf : 4 ≤ fan)
    (h1 : ∀ f ∈ pre, FrAt w FP f.1 f.2.1) (h2 : FrAt w FP (.node ks cs) y) (h3 : Ctx root pre (.node ks cs) a b) (hc : cs[wayN ks k]? = some c) (hg : Good fan (g + 1) (.node ks cs))
    (ha : AllLt a k) (hb : ∀ p ∈ b, slt k p.1 = true)
    (hz : FrAt w FP c z) (ho : w1.ownsRow 0 77 2 lv' (pre.length + 1) (frCells pre ++ [.pointer (some ⟨y, 0, none⟩), .int .i64 (wayN ks k)]))
    (hT : Touch (fun _ => False) w w1) (hW : Touch (fun b => b = cb) w1 W) (hcW : W.heap[cb]? = some (.cells #[lv'] 75 (0, 0))) (hbk : ∀ b ∈ blk lv', w.heap.size ≤ b ∧ b ≠ cb) :
    SeekRel fan w cb root FP k g z W := by
  have hg0 := hg
  obtain ⟨ks', cs', e, hl, hsep, hk⟩ := hg
  cases e
  have hr := Good.rises hf hg0
  obtain ⟨gc, zc, _⟩ := hk c (List.mem_of_getElem? hc)
  have hil := (List.getElem?_eq_some_iff.1 hc).1
  have hA : (cs.take (wayN ks k)).length = wayN ks k := by simp; omega
  have hsp := split_at hc
  have hsep' := hsep
  have hl' := hl
  rw [hsp] at hsep' hl'
  have l1 := way_ahead hsep' hl' hA
  have l2 := way_behind hr hsep' hl' hA
  refine ⟨pre ++ [(.node ks cs, y, wayN ks k)], c, lv', _, _, hcW, ?_, fun b hb => (hbk b hb).1, hT.trans hW (fun b hb e => by omega), ?_, hz, h3.snoc hc, gc, ?_, ?_⟩
  · rw [frCells_snoc]
    simp only [List.length_append, List.length_cons, List.length_nil]
    exact own_blk ho hW (fun b hb => (hbk b hb).2)
  · intro f hf
    rcases List.mem_append.1 hf with hf | hf
    · exact h1 f hf
    · simp at hf; subst hf; exact h2
  · intro p hp
    rcases List.mem_append.1 hp with hp | hp
    · exact ha p hp
    · exact l1 p hp
  · intro p hp
    rcases List.mem_append.1 hp with hp | hp
    · exact l2 p hp
    · exact hb p hp
end Go.Ux
/- Keys put one behind the other; what a number leaves below 65536. -/
namespace Go.Ux
open Go Go.RowKit

theorem i64_and65535 (n : Int) : bits .and .i64 n 65535 = n % 65536 := by
  have h127 : (BitVec.ofInt 64 65535).toNat = 2 ^ 16 - 1 := by decide
  have key : (BitVec.ofInt 64 n &&& BitVec.ofInt 64 65535).toNat = (n % ((2 ^ 64 : Nat) : Int)).toNat % 2 ^ 16 := by
    rw [BitVec.toNat_and, BitVec.toNat_ofInt, h127, Nat.and_two_pow_sub_one_eq_mod]
  show IntKind.i64.wrap ((BitVec.ofInt 64 n &&& BitVec.ofInt 64 65535).toNat : Nat) = n % 65536
  rw [key, IntKind.wrap_i64]
  omega

/-- a fan out of any number -/
theorem fan_of (n : Int) : ∃ (m : Int) (F : Nat), bits .and .i64 n 65535 = m ∧ 0 ≤ m ∧ m ≤ 65535 ∧ m % 61 + 4 = F ∧ 4 ≤ F ∧ F ≤ 64 :=
  ⟨n % 65536, (n % 65536 % 61 + 4).toNat, i64_and65535 n, by omega, by omega, by omega, by omega, by omega⟩

/-- the first i keys put, each with its place as its row -/
def putAll (ss : List ByteArray) : Nat → List Ent
  | 0 => []
  | i + 1 => ins (ss.getD i ⟨#[]⟩) i (putAll ss i)

theorem putAll_rows {ss : List ByteArray} : ∀ {i : Nat} {p : Ent}, p ∈ putAll ss i → ∃ j, j < i ∧ p.2 = (j : Int) ∧ ss.getD j ⟨#[]⟩ = p.1
  | i + 1, p, h => by
    rcases mem_ins h with h | rfl
    · obtain ⟨j, h1, h2, h3⟩ := putAll_rows h
      exact ⟨j, by omega, h2, h3⟩
    · exact ⟨i, by omega, rfl, rfl⟩
theorem putAll_length (ss : List ByteArray) : ∀ i, (putAll ss i).length ≤ i
  | 0 => Nat.le_refl _
  | i + 1 => by
    have := putAll_length ss i
    have h := (ins_length (k := ss.getD i ⟨#[]⟩) (v := (i : Int)) (l := putAll ss i)).2
    simp only [putAll]
    omega

theorem lb_self {ks : List ByteArray} (hs : Rises ks) {i : Nat} {x : ByteArray} (h : ks[i]? = some x) : lb ks x = i := by
  have hi := (List.getElem?_eq_some_iff.1 h).1
  refine lb_unique (by omega) (fun j y hy hj => ?_) (fun y hy => ?_)
  · have := List.pairwise_iff_getElem.1 hs j i (List.getElem?_eq_some_iff.1 hy).1 hi hj
    rw [(List.getElem?_eq_some_iff.1 hy).2, (List.getElem?_eq_some_iff.1 h).2] at this
    exact this
  · rw [h] at hy
    cases hy
    exact slt_irrefl _
theorem has_self {ks : List ByteArray} (hs : Rises ks) {i : Nat} {x : ByteArray} (h : ks[i]? = some x) : has ks x = true := by
  unfold has
  rw [lb_self hs h, h]
  simp
theorem slt_empty (x : ByteArray) : slt x ⟨#[]⟩ = false := by
  cases h : slt x ⟨#[]⟩ with
  | false => rfl
  | true =>
    rw [slt_iff] at h
    have e : (⟨#[]⟩ : ByteArray).toList = [] := by rw [Lib.toList_data]
    rw [e] at h
    exact absurd h (List.not_lt_nil _)
theorem lb_empty (ks : List ByteArray) : lb ks ⟨#[]⟩ = 0 := by
  cases ks with
  | nil => rfl
  | cons a l => unfold lb; rw [List.takeWhile_cons, slt_empty]; rfl
theorem up_at {l : List Ent} (hu : Up l) {i j : Nat} {p q : Ent} (hp : l[i]? = some p) (hq : l[j]? = some q) (h : i < j) : slt p.1 q.1 = true := by
  have := List.pairwise_iff_getElem.1 hu i j (List.getElem?_eq_some_iff.1 hp).1 (List.getElem?_eq_some_iff.1 hq).1 h
  rwa [(List.getElem?_eq_some_iff.1 hp).2, (List.getElem?_eq_some_iff.1 hq).2] at this
end Go.Ux
/- Which keys a list has behind a put, behind a del. -/
namespace Go.Ux
open Go Go.RowKit

theorem keys_ins_set {k : ByteArray} {v : Int} {l : List Ent} (hu : Up l) (k' : ByteArray) : k' ∈ keys (ins k v l) ↔ k' = k ∨ k' ∈ keys l := by
  cases h : has (keys l) k with
  | true =>
    have h1 := (has_iff hu.rises k).1 h
    have h2 : keys (ins k v l) = keys l := by
      have := ins_keys (v := v) h
      have e : (keys (ins k v l)).map Value.string = (keys l).map Value.string := by
        unfold keys
        rw [List.map_map, List.map_map]
        exact this
      exact (List.map_inj_right (fun a b h => by cases h; rfl)).1 e
    rw [h2]
    constructor
    · exact .inr
    · rintro (rfl | h')
      · exact h1
      · exact h'
  | false =>
    have hsp : l = l.take (lb (keys l) k) ++ l.drop (lb (keys l) k) := (List.take_append_drop _ _).symm
    have : keys (ins k v l) = keys (l.take (lb (keys l) k)) ++ k :: keys (l.drop (lb (keys l) k)) := by
      rw [ins_not h]
      simp [keys]
    have h3 : ∀ p, k' ∈ keys l ↔ k' ∈ keys (l.take p) ∨ k' ∈ keys (l.drop p) := fun p => by
      rw [← List.mem_append, ← keys_append, List.take_append_drop]
    rw [this, h3 (lb (keys l) k)]
    simp only [List.mem_append, List.mem_cons]
    constructor
    · rintro (h | h | h)
      · exact .inr (.inl h)
      · exact .inl h
      · exact .inr (.inr h)
    · rintro (h | h | h)
      · exact .inr (.inl h)
      · exact .inl h
      · exact .inr (.inr h)

theorem del_has {k : ByteArray} {l : List Ent} (h : has (keys l) k = true) : ∃ p, l[lb (keys l) k]? = some p ∧ p.1 = k ∧ del k l = l.take (lb (keys l) k) ++ l.drop (lb (keys l) k + 1) := by
  have h' := h
  unfold has at h'
  rw [decide_eq_true_iff, getElem?_keys] at h'
  cases e : l[lb (keys l) k]? with
  | none => rw [e] at h'; cases h'
  | some p =>
    rw [e] at h'
    simp at h'
    refine ⟨p, rfl, h', ?_⟩
    unfold del
    rw [if_pos h]
theorem del_not {k : ByteArray} {l : List Ent} (h : has (keys l) k = false) : del k l = l := by
  unfold del
  rw [if_neg (by rw [h]; exact Bool.false_ne_true)]

theorem keys_del_set {k : ByteArray} {l : List Ent} (hu : Up l) (k' : ByteArray) : k' ∈ keys (del k l) ↔ k' ≠ k ∧ k' ∈ keys l := by
  cases h : has (keys l) k with
  | false =>
    rw [del_not h]
    have h1 : ¬ k ∈ keys l := fun hm => by rw [(has_iff hu.rises k).2 hm] at h; cases h
    exact ⟨fun hm => ⟨fun e => h1 (e ▸ hm), hm⟩, fun hm => hm.2⟩
  | true =>
    obtain ⟨p, hp, hpk, hd⟩ := del_has h
    obtain ⟨A, B, hA, rfl⟩ : ∃ A B, A.length = lb (keys l) k ∧ l = A ++ p :: B := ⟨l.take (lb (keys l) k), l.drop (lb (keys l) k + 1), by simp; have := (List.getElem?_eq_some_iff.1 hp).1; omega, split_at hp⟩
    have e : del k (A ++ p :: B) = A ++ B := by
      rw [hd, ← hA, List.take_left]
      congr 1
      rw [List.drop_append, List.drop_eq_nil_of_le (by omega), show A.length + 1 - A.length = 1 by omega]
      rfl
    rw [e]
    have hr := hu.rises
    unfold Rises at hr
    rw [keys_append, List.pairwise_append] at hr
    have hr2 := List.pairwise_cons.1 (show (p.1 :: keys B).Pairwise _ from hr.2.1)
    have hnA : k ∉ keys A := fun hm => by
      have := hr.2.2 k hm p.1 (by simp [keys])
      rw [hpk, slt_irrefl] at this
      cases this
    have hnB : k ∉ keys B := fun hm => by
      have := hr2.1 k hm
      rw [hpk, slt_irrefl] at this
      cases this
    rw [keys_append, keys_append, List.mem_append, List.mem_append]
    constructor
    · rintro (h | h)
      · exact ⟨fun e => hnA (e ▸ h), .inl h⟩
      · exact ⟨fun e => hnB (e ▸ h), .inr (List.mem_map.2 (by obtain ⟨q, hq, rfl⟩ := List.mem_map.1 h; exact ⟨q, by simp [hq], rfl⟩))⟩
    · rintro ⟨hne, h | h⟩
      · exact .inl h
      · obtain ⟨q, hq, rfl⟩ := List.mem_map.1 h
        rcases List.mem_cons.1 hq with rfl | hq
        · exact absurd hpk hne
        · exact .inr (List.mem_map.2 ⟨q, hq, rfl⟩)

theorem has_ins {k : ByteArray} {v : Int} {l : List Ent} (hu : Up l) (k' : ByteArray) : has (keys (ins k v l)) k' = (decide (k' = k) || has (keys l) k') := by
  rw [Bool.eq_iff_iff, has_iff (up_ins hu).rises, keys_ins_set hu, Bool.or_eq_true, decide_eq_true_iff, has_iff hu.rises]
theorem has_del {k : ByteArray} {l : List Ent} (hu : Up l) (k' : ByteArray) : has (keys (del k l)) k' = (!decide (k' = k) && has (keys l) k') := by
  rw [Bool.eq_iff_iff, has_iff (up_del hu).rises, keys_del_set hu, Bool.and_eq_true, has_iff hu.rises]
  simp
theorem del_len_has {k : ByteArray} {l : List Ent} (h : has (keys l) k = true) : (del k l).length + 1 = l.length := by
  obtain ⟨p, hp, _, hd⟩ := del_has h
  have := (List.getElem?_eq_some_iff.1 hp).1
  rw [hd]
  simp only [List.length_append, List.length_take, List.length_drop]
  omega

/-- of marks that are not all set one stands somewhere behind any place, going round -/
theorem round_some {n : Nat} {m : Nat → Bool} (b : Bool) (h : ∃ j, j < n ∧ m j = b) (at_ : Nat) : ∃ s, s < n ∧ m ((at_ + s) % n) = b := by
  obtain ⟨j, hj, hm⟩ := h
  refine ⟨(j + n - at_ % n) % n, Nat.mod_lt _ (by omega), ?_⟩
  have h1 : at_ % n < n := Nat.mod_lt _ (by omega)
  have : (at_ + (j + n - at_ % n) % n) % n = j := by
    rw [Nat.add_mod, Nat.mod_mod, ← Nat.add_mod]
    have e : at_ + (j + n - at_ % n) = n * (at_ / n) + (j + n) := by have := Nat.div_add_mod at_ n; omega
    rw [e, Nat.mul_add_mod, Nat.add_mod_right, Nat.mod_eq_of_lt hj]
  rw [this, hm]
end Go.Ux
/- A script, played upon a list in order. -/
namespace Go.Ux
open Go

/-- one call of a script: its kind, its row, its key -/
abbrev Act3 := Int × Int × ByteArray
def play1 (l : List Ent) (o : Act3) : List Ent := if o.1 = 1 then del o.2.2 l else if o.1 = 2 then l else ins o.2.2 o.2.1 l
def playN (ops : List Act3) : Nat → List Ent
  | 0 => []
  | i + 1 => play1 (playN ops i) (ops.getD i (0, 0, ⟨#[]⟩))

theorem del_length_le {k : ByteArray} {l : List Ent} : (del k l).length ≤ l.length := by
  cases h : has (keys l) k with
  | true => have := del_len_has h; omega
  | false => rw [del_not h]; exact Nat.le_refl _
theorem play1_length (l : List Ent) (o : Act3) : (play1 l o).length ≤ l.length + 1 := by
  unfold play1
  split
  · have := del_length_le (k := o.2.2) (l := l); omega
  · split
    · omega
    · exact (ins_length (k := o.2.2) (v := o.2.1) (l := l)).2
theorem playN_length (ops : List Act3) : ∀ i, (playN ops i).length ≤ i
  | 0 => Nat.le_refl _
  | i + 1 => by
    have h1 := playN_length ops i
    have h2 := play1_length (playN ops i) (ops.getD i (0, 0, ⟨#[]⟩))
    simp only [playN]
    omega
theorem playN_up (ops : List Act3) : ∀ i, Up (playN ops i)
  | 0 => List.Pairwise.nil
  | i + 1 => by
    have h := playN_up ops i
    simp only [playN, play1]
    split
    · exact up_del h
    · split
      · exact h
      · exact up_ins h
/-- what the list's own steps make -/
theorem del_is {k : ByteArray} {l : List Ent} (h : has (keys l) k = true) : del k l = l.take (lb (keys l) k) ++ l.drop (lb (keys l) k + 1) := by unfold del; rw [if_pos h]
theorem ins_is {k : ByteArray} {v : Int} {l : List Ent} (h : has (keys l) k = true) : ins k v l = (l.take (lb (keys l) k) ++ [(k, v)]) ++ l.drop (lb (keys l) k + 1) := by unfold ins; rw [if_pos h]; simp
theorem ins_isnt {k : ByteArray} {v : Int} {l : List Ent} (h : has (keys l) k = false) : ins k v l = (l.take (lb (keys l) k) ++ [(k, v)]) ++ l.drop (lb (keys l) k) := by unfold ins; rw [if_neg (by rw [h]; exact Bool.false_ne_true)]; simp
theorem has_lt {k : ByteArray} {l : List Ent} (h : has (keys l) k = true) : lb (keys l) k < l.length := by
  have h' := h
  unfold has at h'
  rw [decide_eq_true_iff, getElem?_keys] at h'
  rcases Nat.lt_or_ge (lb (keys l) k) l.length with h1 | h1
  · exact h1
  · rw [List.getElem?_eq_none h1] at h'; cases h'
end Go.Ux
/- What Check keeps on its way: whether a key was met, and the last one. -/
namespace Go.Ux
open Go Go.RowKit

/-- the state behind the keys of L -/
def after (st : Bool × ByteArray) (L : List Ent) : Bool × ByteArray := match L.getLast? with
  | none => st
  | some p => (true, p.1)

theorem after_nil (st : Bool × ByteArray) : after st [] = st := rfl
theorem after_snoc (st : Bool × ByteArray) (A : List Ent) (p : Ent) : after st (A ++ [p]) = (true, p.1) := by simp [after]
theorem after_append (st : Bool × ByteArray) (A B : List Ent) : after (after st A) B = after st (A ++ B) := by
  unfold after
  rw [List.getLast?_append]
  cases hB : B.getLast? with
  | none => simp
  | some p => simp

/-- all keys of L stand above the last one -/
def Pre (st : Bool × ByteArray) (L : List Ent) : Prop := st.1 = true → ∀ p ∈ L, slt st.2 p.1 = true

theorem pre_after {st : Bool × ByteArray} {A B : List Ent} (h : Pre st (A ++ B)) (hu : Up (A ++ B)) : Pre (after st A) B := by
  unfold Up at hu
  rw [List.pairwise_append] at hu
  intro h1 q hq
  unfold after at h1 ⊢
  cases hA : A.getLast? with
  | none =>
    rw [hA] at h1
    exact h h1 q (by simp [hq])
  | some p => exact hu.2.2 p (List.mem_of_getLast? hA) q hq
theorem pre_left {st : Bool × ByteArray} {A B : List Ent} (h : Pre st (A ++ B)) : Pre st A := fun h1 p hp => h h1 p (by simp [hp])

theorem neq_ptr_other {P : Program} (w : World) {tp te : TypeId} {j : TypeInfo} {a b : Addr} {ca cb : Array Value} {ta tb : TypeId} (hp : P.underlying tp = some (.pointer te)) (hte : P.info? te = some j) (hsz : j.size ≠ 0)
    (hne : a ≠ b) (ha : w.heap[a.block]? = some (.cells ca ta (0, 0))) (hb : w.heap[b.block]? = some (.cells cb tb (0, 0))) :
    (binOp .neq tp (.pointer (some a)) (.pointer (some b))).run P w = .ok (.bool true) w := by
  have h : ∀ d : Nat, (Op.equalIn (d + 1) tp (.pointer (some a)) (.pointer (some b))).run P w = .ok false w := fun d => by
    simp [Op.equalIn, run_underlying hp, sizeOf, typeInfo, hte, hsz, run_sameAddr_other w hne ha hb]
  simp only [binOp]
  simp [Op.equal, Op.maxDepth, h 9999]
end Go.Ux
/- Marks: which of the keys are in a list. -/
namespace Go.Ux
open Go Go.RowKit

/-- the i-th key -/
def ky (i : Nat) : ByteArray := ⟨#[UInt8.ofNat (i * 7 / 16), UInt8.ofNat i, 107]⟩

theorem ky_inj {i j : Nat} (hi : i < 256) (hj : j < 256) (h : ky i = ky j) : i = j := by
  have h2 : (ky i).data[1]? = (ky j).data[1]? := by rw [h]
  simp only [ky, List.getElem?_toArray, List.getElem?_cons_succ, List.getElem?_cons_zero, Option.some.injEq] at h2
  have h3 := congrArg UInt8.toNat h2
  simp at h3
  omega

/-- which keys are in l -/
def Marks (l : List Ent) (xs : List Bool) : Prop := l.length = xs.count true ∧ ∀ j b, xs[j]? = some b → has (keys l) (ky j) = b

theorem Marks.none (n : Nat) : Marks [] (List.replicate n false) := by
  refine ⟨by simp [List.count_replicate], fun j b h => ?_⟩
  rw [List.getElem?_replicate] at h
  split at h
  · cases h; rfl
  · cases h

theorem Marks.put {l : List Ent} {xs : List Bool} {j : Nat} (h : Marks l xs) (hu : Up l) (hj : xs[j]? = some false) (hn : xs.length ≤ 256) (v : Int) : Marks (ins (ky j) v l) (xs.set j true) := by
  obtain ⟨h1, h2⟩ := h
  have hjl := (List.getElem?_eq_some_iff.1 hj).1
  have hj0 := (List.getElem?_eq_some_iff.1 hj).2
  refine ⟨?_, fun i b hi => ?_⟩
  · rw [ins_len_not (h2 j false hj), h1, List.count_set hjl, hj0]
    simp
  · have hil : i < xs.length := by have := (List.getElem?_eq_some_iff.1 hi).1; simpa using this
    rw [has_ins hu]
    rw [List.getElem?_set] at hi
    split at hi
    · rename_i e
      subst e
      cases hi
      simp
    · rename_i e
      rw [h2 i b hi]
      have : ky i ≠ ky j := fun e' => e (ky_inj (by omega) (by omega) e').symm
      simp [this]

theorem Marks.del {l : List Ent} {xs : List Bool} {j : Nat} (h : Marks l xs) (hu : Up l) (hj : xs[j]? = some true) (hn : xs.length ≤ 256) : Marks (del (ky j) l) (xs.set j false) := by
  obtain ⟨h1, h2⟩ := h
  have hjl := (List.getElem?_eq_some_iff.1 hj).1
  have hj0 := (List.getElem?_eq_some_iff.1 hj).2
  refine ⟨?_, fun i b hi => ?_⟩
  · have := del_len_has (h2 j true hj)
    rw [List.count_set hjl, hj0, ← h1]
    simp
    omega
  · have hil : i < xs.length := by have := (List.getElem?_eq_some_iff.1 hi).1; simpa using this
    rw [has_del hu]
    rw [List.getElem?_set] at hi
    split at hi
    · rename_i e
      subst e
      cases hi
      simp
    · rename_i e
      rw [h2 i b hi]
      have : ky i ≠ ky j := fun e' => e (ky_inj (by omega) (by omega) e').symm
      simp [this]

/-- of marks of which not all are b one that is not b stands somewhere behind any place, going round -/
theorem marks_round {xs : List Bool} {b : Bool} (h : xs.count b < xs.length) (at_ : Nat) : ∃ s, s < xs.length ∧ xs[(at_ + s) % xs.length]? = some (!b) := by
  have h1 : ∃ j, j < xs.length ∧ xs[j]? = some (!b) := by
    by_cases hx : ∃ j, j < xs.length ∧ xs[j]? = some (!b)
    · exact hx
    · exfalso
      have : xs.count b = xs.length := by
        rw [List.count_eq_length]
        intro c hc
        obtain ⟨j, hj, rfl⟩ := List.getElem_of_mem hc
        cases hb : (b == xs[j]) with
        | true => exact eq_of_beq hb
        | false =>
          exfalso
          apply hx
          refine ⟨j, hj, ?_⟩
          rw [List.getElem?_eq_getElem hj]
          congr 1
          revert hb
          cases xs[j] <;> cases b <;> simp
      omega
  obtain ⟨j, hj, hm⟩ := h1
  have := round_some (n := xs.length) (m := fun j => xs[j]? == some (!b)) true ⟨j, hj, by simp [hm]⟩ at_
  obtain ⟨s, hs, hs2⟩ := this
  exact ⟨s, hs, by simpa using hs2⟩

theorem count_split (xs : List Bool) : xs.count true + xs.count false = xs.length := by
  induction xs with
  | nil => rfl
  | cons x xs ih => cases x <;> simp <;> omega
end Go.Ux
namespace Go.Ux
open Go Go.RowKit
theorem i64_and7 (n : Int) : bits .and .i64 n 7 = n % 8 := by
  have h127 : (BitVec.ofInt 64 7).toNat = 2 ^ 3 - 1 := by decide
  have key : (BitVec.ofInt 64 n &&& BitVec.ofInt 64 7).toNat = (n % ((2 ^ 64 : Nat) : Int)).toNat % 2 ^ 3 := by
    rw [BitVec.toNat_and, BitVec.toNat_ofInt, h127, Nat.and_two_pow_sub_one_eq_mod]
  show IntKind.i64.wrap ((BitVec.ofInt 64 n &&& BitVec.ofInt 64 7).toNat : Nat) = n % 8
  rw [key, IntKind.wrap_i64]
  omega
theorem many_of (n : Int) : ∃ (m : Int) (Z : Nat), bits .and .i64 n 65535 = m ∧ 0 ≤ m ∧ m ≤ 65535 ∧ m % 200 + 1 = Z ∧ 1 ≤ Z ∧ Z ≤ 200 :=
  ⟨n % 65536, (n % 65536 % 200 + 1).toNat, i64_and65535 n, by omega, by omega, by omega, by omega, by omega⟩
def stepsL : List Nat := [1, 3, 7, 11, 13, 17, 19, 23]
theorem step_of (n : Int) : ∃ (i p : Nat), bits .and .i64 n 7 = (i : Int) ∧ i < 8 ∧ stepsL[i]? = some p ∧ 1 ≤ p ∧ p ≤ 23 := by
  have h : ∀ i, i < 8 → ∃ p, stepsL[i]? = some p ∧ 1 ≤ p ∧ p ≤ 23 := by decide
  obtain ⟨p, h1, h2, h3⟩ := h (n % 8).toNat (by omega)
  exact ⟨(n % 8).toNat, p, by rw [i64_and7]; omega, by omega, h1, h2, h3⟩
theorem made_false (n : Nat) : madeCells #[Value.bool false] (n * 1) = ((List.replicate n false).map Value.bool).toArray := by
  rw [Nat.mul_one, List.map_replicate]
  apply Array.ext
  · simp [size_madeCells]
  · intro i h1 h2
    simp [madeCells, Nat.mod_one]
end Go.Ux
/- Del at a node, in memory. -/
namespace Go.Ux
open Go Go.RowKit

theorem delT_node {fan d : Nat} {k : ByteArray} {ks : List ByteArray} {A B : List T} {c : T} (hw : A.length = wayN ks k) : delT fan k (d + 1) (.node ks (A ++ c :: B)) =
    if (delT fan k d c).size < fan / 2 then joinT fan ks (A ++ delT fan k d c :: B) (min A.length ((A ++ c :: B).length - 2)) else .node ks (A ++ delT fan k d c :: B) := by
  have e0 : (A ++ c :: B)[wayN ks k]? = some c := by rw [← hw]; exact at_mid
  have eT : (A ++ c :: B).take A.length = A := List.take_left
  have eD : (A ++ c :: B).drop (A.length + 1) = B := by rw [List.drop_append, List.drop_eq_nil_of_le (by omega), show A.length + 1 - A.length = 1 by omega]; rfl
  simp only [delT, e0]
  rw [← hw, eT, eD]

/-- one child in another's place -/
theorem kid_swap {w w1 : World} {ks : List ByteArray} {A B : List T} {c c' : T} {x xc bg : Nat} {kv cv : Value} {xa xb fa fc fb fc' fp : List Nat}
    (h1 : w.heap[x]? = some (.cells #[kv, .slice none 0 0, cv] 62 (0, 0))) (h2 : w.ownsRow 0 9 1 kv ks.length (ks.map .string)) (h3 : w.ownsRow 0 59 1 cv (A ++ c :: B).length ((xa ++ xc :: xb).map ptr))
    (na : NodesAt w A xa fa) (nb : NodesAt w B xb fb) (hfp : fp = x :: (blk kv ++ blk cv ++ (fa ++ (fc ++ fb)))) (hnd : fp.Nodup) (hlt : ∀ b ∈ fp, b < w.heap.size) (hbg : bg ∉ fp)
    (hn : NodeAt w1 c' xc fc') (hnd' : fc'.Nodup) (hs : ∀ b ∈ fc', b ∈ fc ∨ w.heap.size ≤ b) (T1 : Touch (fun b => b ∈ fc ∨ b = bg) w w1) :
    NodeAt w1 (.node ks (A ++ c' :: B)) x (x :: (blk kv ++ blk cv ++ (fa ++ (fc' ++ fb)))) ∧ (x :: (blk kv ++ blk cv ++ (fa ++ (fc' ++ fb)))).Nodup ∧
    (∀ b ∈ x :: (blk kv ++ blk cv ++ (fa ++ (fc' ++ fb))), b ∈ fp ∨ w.heap.size ≤ b) ∧ Touch (fun b => b ∈ fp ∨ b = bg) w w1 := by
  have e : fp = (x :: (blk kv ++ blk cv ++ fa)) ++ (fc ++ fb) := by rw [hfp]; simp
  have hnd0 := hnd
  have hlt0 := hlt
  rw [e] at hnd hlt
  have L := fp_swap hnd hlt hnd' hs
  have hno : ∀ b, b ∈ x :: (blk kv ++ blk cv ++ fa) ∨ b ∈ fb → ¬ (b ∈ fc ∨ b = bg) := fun b hb h => by
    have n1 := List.nodup_append.1 hnd
    have n2 := List.nodup_append.1 n1.2.1
    rcases h with h | h
    · rcases hb with hb | hb
      · exact n1.2.2 b hb b (by simp [h]) rfl
      · exact n2.2.2 b h b hb rfl
    · subst h
      apply hbg
      rw [e]
      rcases hb with hb | hb
      · exact List.mem_append_left _ hb
      · exact List.mem_append_right _ (by simp [hb])
  have hl : (A ++ c' :: B).length = (A ++ c :: B).length := by simp
  refine ⟨⟨kv, cv, xa ++ xc :: xb, fa ++ (fc' ++ fb), T1.heap h1 (hno x (.inl (by simp))), own_blk h2 T1 (fun b hb => hno b (.inl (by simp [hb]))), ?_, NodesAt.mk (na.touch T1 (fun b hb => hno b (.inl (by simp [hb])))) hn (nb.touch T1 (fun b hb => hno b (.inr hb))), rfl⟩, ?_, ?_, ?_⟩
  · rw [hl]
    exact own_blk h3 T1 (fun b hb => hno b (.inl (by simp [hb])))
  · simpa using L
  · intro b hb
    rw [e]
    simp only [List.mem_cons, List.mem_append] at hb ⊢
    rcases hb with hb | (hb | hb) | hb | hb | hb
    · exact .inl (.inl (.inl hb))
    · exact .inl (.inl (.inr (.inl (.inl hb))))
    · exact .inl (.inl (.inr (.inl (.inr hb))))
    · exact .inl (.inl (.inr (.inr hb)))
    · rcases hs b hb with h | h
      · exact .inl (.inr (.inl h))
      · exact .inr h
    · exact .inl (.inr (.inr hb))
  · refine T1.mono fun b _ h => h.imp (fun h => ?_) id
    rw [e]
    simp [h]

/-- where join is to work: the two trees -/
theorem join_split {ks : List ByteArray} {A B : List T} {c : T} (hl : (A ++ c :: B).length = ks.length + 1) (h2 : 2 ≤ (A ++ c :: B).length) : ∃ Ka Kb s A' B' a b, ks = Ka ++ s :: Kb ∧ A ++ c :: B = A' ++ a :: b :: B' ∧ Ka.length = A'.length ∧
    A'.length = min A.length ((A ++ c :: B).length - 2) ∧ ((a = c ∧ b ∈ B) ∨ (b = c ∧ a ∈ A)) := by
  simp only [List.length_append, List.length_cons] at hl h2
  have key : ∀ j, j < ks.length → ∃ Ka Kb s, ks = Ka ++ s :: Kb ∧ Ka.length = j := fun j hj =>
    ⟨ks.take j, ks.drop (j + 1), ks[j], split_at (List.getElem?_eq_getElem hj), by simp; omega⟩
  cases B with
  | cons b B =>
    obtain ⟨Ka, Kb, s, e, hK⟩ := key A.length (by simp only [List.length_cons] at hl; omega)
    exact ⟨Ka, Kb, s, A, B, c, b, e, rfl, hK, by simp only [List.length_append, List.length_cons]; omega, .inl ⟨rfl, by simp⟩⟩
  | nil =>
    obtain ⟨A', a, rfl⟩ : ∃ A' a, A = A' ++ [a] := ⟨A.dropLast, A.getLast (by intro e; subst e; simp at h2), (List.dropLast_concat_getLast _).symm⟩
    obtain ⟨Ka, Kb, s, e, hK⟩ := key A'.length (by simp at hl; omega)
    exact ⟨Ka, Kb, s, A', [], a, c, e, by simp, hK, by simp, .inr ⟨rfl, by simp⟩⟩
end Go.Ux
