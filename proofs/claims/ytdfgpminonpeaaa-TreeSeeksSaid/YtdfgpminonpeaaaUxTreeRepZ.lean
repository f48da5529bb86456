/- PART OF THE PROOF THAT TreeSeeksSaid HOLDS OF THE GIVEN PROGRAM, FOR EVERY INPUT THAT THE STATEMENT NAMES. No condition besides the statement's own. -/
import Derived.Test.YtdfgpminonpeaaaUxHeapZ
import Derived.Test.YtdfgpminonpeaaaUxOrdZ
/- Trees of keys, and how they lie in memory: each node and each of its rows in a block of its own. -/
namespace Go.Ux
open Go Go.RowKit

/-- a tree: keys and rows, or keys and the trees between them -/
inductive T where
  | leaf (l : List (ByteArray × Int))
  | node (ks : List ByteArray) (cs : List T)

def T.size : T → Nat
  | .leaf l => l.length
  | .node _ cs => cs.length

/-- the block of a slice, if it has one -/
def blk (v : Value) : List Nat := v.ownBlock.toList

def ptr (x : Nat) : Value := .pointer (some ⟨x, 0, none⟩)

mutual
/-- The tree t lies at block x; fp: all of its blocks. -/
def NodeAt (w : World) : T → Nat → List Nat → Prop
  | .leaf l, x, fp => ∃ kv rv, w.heap[x]? = some (.cells #[kv, rv, .slice none 0 0] 62 (0, 0)) ∧ w.ownsRow 0 9 1 kv l.length (l.map fun p => .string p.1) ∧
      w.ownsRow 0 3 1 rv l.length (l.map fun p => .int .i64 p.2) ∧ fp = x :: (blk kv ++ blk rv)
  | .node ks cs, x, fp => ∃ kv cv xs fs, w.heap[x]? = some (.cells #[kv, .slice none 0 0, cv] 62 (0, 0)) ∧ w.ownsRow 0 9 1 kv ks.length (ks.map .string) ∧
      w.ownsRow 0 59 1 cv cs.length (xs.map ptr) ∧ NodesAt w cs xs fs ∧ fp = x :: (blk kv ++ blk cv ++ fs)
/-- The trees lie at the blocks xs. -/
def NodesAt (w : World) : List T → List Nat → List Nat → Prop
  | [], xs, fs => xs = [] ∧ fs = []
  | t :: ts, xs, fs => ∃ x xs' f fs', xs = x :: xs' ∧ fs = f ++ fs' ∧ NodeAt w t x f ∧ NodesAt w ts xs' fs'
end

theorem own_blk {w : World} {e : TypeId} {size : Nat} {v : Value} {n : Nat} {xs : List Value} {R : Nat → Prop} {w' : World} (h : w.ownsRow 0 e size v n xs) (ht : Touch R w w') (hn : ∀ b ∈ blk v, ¬ R b) : w'.ownsRow 0 e size v n xs :=
  own_touch h ht fun b hb => hn b (by simp [blk, hb])

theorem blk_lt {w : World} {e : TypeId} {size : Nat} {v : Value} {n : Nat} {xs : List Value} (h : w.ownsRow 0 e size v n xs) : ∀ b ∈ blk v, b < w.heap.size := fun b hb =>
  own_lt h b (by simpa [blk] using hb)

mutual
theorem NodeAt.lt {w : World} : ∀ {t : T} {x : Nat} {fp : List Nat}, NodeAt w t x fp → ∀ b ∈ fp, b < w.heap.size
  | .leaf l, x, fp, h => by
    obtain ⟨kv, rv, h1, h2, h3, rfl⟩ := h
    intro b hb
    rcases List.mem_cons.1 hb with rfl | hb
    · exact lt_of_heap h1
    · rcases List.mem_append.1 hb with hb | hb
      · exact blk_lt h2 b hb
      · exact blk_lt h3 b hb
  | .node ks cs, x, fp, h => by
    obtain ⟨kv, cv, xs, fs, h1, h2, h3, h4, rfl⟩ := h
    intro b hb
    rcases List.mem_cons.1 hb with rfl | hb
    · exact lt_of_heap h1
    · rcases List.mem_append.1 hb with hb | hb
      · rcases List.mem_append.1 hb with hb | hb
        · exact blk_lt h2 b hb
        · exact blk_lt h3 b hb
      · exact NodesAt.lt h4 b hb
theorem NodesAt.lt {w : World} : ∀ {cs : List T} {xs fs : List Nat}, NodesAt w cs xs fs → ∀ b ∈ fs, b < w.heap.size
  | [], xs, fs, h => by obtain ⟨rfl, rfl⟩ := h; intro b hb; cases hb
  | t :: ts, xs, fs, h => by
    obtain ⟨x, xs', f, fs', rfl, rfl, h1, h2⟩ := h
    intro b hb
    rcases List.mem_append.1 hb with hb | hb
    · exact NodeAt.lt h1 b hb
    · exact NodesAt.lt h2 b hb
end

mutual
theorem NodeAt.touch {w w' : World} {R : Nat → Prop} (ht : Touch R w w') : ∀ {t : T} {x : Nat} {fp : List Nat}, NodeAt w t x fp → (∀ b ∈ fp, ¬ R b) → NodeAt w' t x fp
  | .leaf l, x, fp, h, hn => by
    obtain ⟨kv, rv, h1, h2, h3, rfl⟩ := h
    exact ⟨kv, rv, ht.heap h1 (hn x (by simp)), own_blk h2 ht (fun b hb => hn b (by simp [hb])), own_blk h3 ht (fun b hb => hn b (by simp [hb])), rfl⟩
  | .node ks cs, x, fp, h, hn => by
    obtain ⟨kv, cv, xs, fs, h1, h2, h3, h4, rfl⟩ := h
    exact ⟨kv, cv, xs, fs, ht.heap h1 (hn x (by simp)), own_blk h2 ht (fun b hb => hn b (by simp [hb])), own_blk h3 ht (fun b hb => hn b (by simp [hb])), NodesAt.touch ht h4 (fun b hb => hn b (by simp [hb])), rfl⟩
theorem NodesAt.touch {w w' : World} {R : Nat → Prop} (ht : Touch R w w') : ∀ {cs : List T} {xs fs : List Nat}, NodesAt w cs xs fs → (∀ b ∈ fs, ¬ R b) → NodesAt w' cs xs fs
  | [], xs, fs, h, _ => h
  | t :: ts, xs, fs, h, hn => by
    obtain ⟨x, xs', f, fs', rfl, rfl, h1, h2⟩ := h
    exact ⟨x, xs', f, fs', rfl, rfl, NodeAt.touch ht h1 (fun b hb => hn b (by simp [hb])), NodesAt.touch ht h2 (fun b hb => hn b (by simp [hb]))⟩
end

theorem NodesAt.length {w : World} : ∀ {cs : List T} {xs fs : List Nat}, NodesAt w cs xs fs → xs.length = cs.length
  | [], xs, fs, h => by obtain ⟨rfl, rfl⟩ := h; rfl
  | t :: ts, xs, fs, h => by obtain ⟨x, xs', f, fs', rfl, rfl, h1, h2⟩ := h; simp [NodesAt.length h2]

theorem NodesAt.append {w : World} : ∀ {A B : List T} {xa xb fa fb : List Nat}, NodesAt w A xa fa → NodesAt w B xb fb → NodesAt w (A ++ B) (xa ++ xb) (fa ++ fb)
  | [], B, xa, xb, fa, fb, h, k => by obtain ⟨rfl, rfl⟩ := h; exact k
  | t :: ts, B, xa, xb, fa, fb, h, k => by
    obtain ⟨x, xs', f, fs', rfl, rfl, h1, h2⟩ := h
    exact ⟨x, xs' ++ xb, f, fs' ++ fb, rfl, by rw [List.append_assoc], h1, NodesAt.append h2 k⟩

theorem NodesAt.split {w : World} : ∀ {A B : List T} {xs fs : List Nat}, NodesAt w (A ++ B) xs fs → ∃ xa xb fa fb, xs = xa ++ xb ∧ fs = fa ++ fb ∧ NodesAt w A xa fa ∧ NodesAt w B xb fb
  | [], B, xs, fs, h => ⟨[], xs, [], fs, rfl, rfl, ⟨rfl, rfl⟩, h⟩
  | t :: ts, B, xs, fs, h => by
    obtain ⟨x, xs', f, fs', rfl, rfl, h1, h2⟩ := h
    obtain ⟨xa, xb, fa, fb, rfl, rfl, h3, h4⟩ := NodesAt.split h2
    exact ⟨x :: xa, xb, f ++ fa, fb, rfl, by rw [List.append_assoc], ⟨x, xa, f, fa, rfl, rfl, h1, h3⟩, h4⟩

/-- the trees ahead of one, it, and those behind it -/
theorem NodesAt.at {w : World} {A B : List T} {c : T} {xs fs : List Nat} (h : NodesAt w (A ++ c :: B) xs fs) :
    ∃ xa x xb fa f fb, xs = xa ++ x :: xb ∧ fs = fa ++ (f ++ fb) ∧ NodesAt w A xa fa ∧ NodeAt w c x f ∧ NodesAt w B xb fb := by
  obtain ⟨xa, xb, fa, fb, rfl, rfl, h1, x, xb', f, fb', rfl, rfl, h2, h3⟩ := NodesAt.split h
  exact ⟨xa, x, xb', fa, f, fb', rfl, rfl, h1, h2, h3⟩

theorem NodesAt.mk {w : World} {A B : List T} {c : T} {xa xb fa f fb : List Nat} {x : Nat} (h1 : NodesAt w A xa fa) (h2 : NodeAt w c x f) (h3 : NodesAt w B xb fb) : NodesAt w (A ++ c :: B) (xa ++ x :: xb) (fa ++ (f ++ fb)) :=
  NodesAt.append h1 ⟨x, xb, f, fb, rfl, rfl, h2, h3⟩

theorem NodeAt.mem {w : World} {t : T} {x : Nat} {fp : List Nat} (h : NodeAt w t x fp) : x ∈ fp := by
  cases t with
  | leaf l => obtain ⟨_, _, _, _, _, rfl⟩ := h; simp
  | node ks cs => obtain ⟨_, _, _, _, _, _, _, _, rfl⟩ := h; simp

/-- the first half, the key between, the second half -/
def half1 : T → T
  | .leaf l => .leaf (l.take (l.length / 2))
  | .node ks cs => .node (ks.take (cs.length / 2 - 1)) (cs.take (cs.length / 2))
def half2 : T → T
  | .leaf l => .leaf (l.drop (l.length / 2))
  | .node ks cs => .node (ks.drop (cs.length / 2)) (cs.drop (cs.length / 2))
def halfK : T → ByteArray
  | .leaf l => ((l[l.length / 2]?).map (·.1)).getD ⟨#[]⟩
  | .node ks cs => (ks[cs.length / 2 - 1]?).getD ⟨#[]⟩

mutual
/-- one more tree than keys between them, at each node -/
def Shp : T → Prop
  | .leaf _ => True
  | .node ks cs => cs.length = ks.length + 1 ∧ Shps cs
def Shps : List T → Prop
  | [] => True
  | t :: ts => Shp t ∧ Shps ts
end

theorem Shps.mem : ∀ {cs : List T}, Shps cs → ∀ t ∈ cs, Shp t
  | _ :: _, h, t, ht => by
    rcases List.mem_cons.1 ht with rfl | h'
    · exact h.1
    · exact Shps.mem h.2 t h'
theorem Shps.mk : ∀ {cs : List T}, (∀ t ∈ cs, Shp t) → Shps cs
  | [], _ => trivial
  | _ :: _, h => ⟨h _ (by simp), Shps.mk fun t ht => h t (by simp [ht])⟩

/-- the child that has a key -/
def wayN (ks : List ByteArray) (k : ByteArray) : Nat := lb ks k + if has ks k = true then 1 else 0
end Go.Ux
