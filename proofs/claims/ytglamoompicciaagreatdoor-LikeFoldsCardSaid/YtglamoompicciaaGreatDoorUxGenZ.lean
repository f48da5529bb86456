/- PART OF THE PROOF THAT THIS CLAIM HOLDS OF THE GIVEN PROGRAM, FOR EVERY INPUT THAT THE STATEMENT NAMES. No condition besides the statement's own. -/
import Derived.Test.YtglamoompicciaaGreatDoorUxTreeAllZ
import Derived.Test.YtglamoompicciaaGreatDoorUxPlanAllZ
import Derived.Deep.MidRow
import Derived.Deep.WholeRow
/- Over any program: append of values that were just built, rows of whole numbers and of bytes, a slice clipped. -/
namespace Go.Ux
open Go Go.RowKit

theorem cell_newg (w : World) (c : Array Value) (ty : TypeId) (j : Nat) : (w.alloc (.cells c ty)).cell? ⟨w.heap.size, j, none⟩ = c[j]? := cell_of_row _ _ j c ty (0, 0) (heap_alloc_last w _)

section
variable {P : Program}
/-- append of values that were just built -/
theorem app_new (t e : TypeId) (sz bytes : Nat) (z : Value) (ht : P.underlying t = some (.slice e)) (hi : (P.info? e).map (fun i => (i.zero, i.size, i.bytes)) = some (some z, sz, bytes)) (hzs : z.cells.size = sz) (hsz : 0 < sz)
    (v : Value) (n : Nat) (xs : List Value) (w : World) (h : w.ownsRow 0 e sz v n xs) (m : Nat) (ys : List Value) (hl : ys.length = m * sz) (h1 : ∀ u ∈ ys, u.oneCell' = true)
    (h63 : n + m ≤ maxLen) (hb : (n + m) * bytes ≤ 140737488355328) :
    ∃ r w', (∀ ty, (Builtin.append_ #[t, t] ty #[v, .slice (some ⟨w.heap.size, 0, none⟩) m m]).run P (w.alloc (.cells ys.toArray e)) = .ok r w') ∧ w'.ownsRow 0 e sz r (n + m) (xs ++ ys) ∧ Touch (fun b => v.ownBlock = some b) w w' ∧ (r.ownBlock = v.ownBlock ∨ ∃ g, r.ownBlock = some g ∧ w.heap.size ≤ g) := by
  obtain ⟨i0, hi0, hz0⟩ := Option.map_eq_some_iff.1 hi
  simp only [Prod.mk.injEq] at hz0
  obtain ⟨hz0, hz1, hz2⟩ := hz0
  have ta : Touch (fun b => v.ownBlock = some b) w (w.alloc (.cells ys.toArray e)) := (Touch.refl _ w).alloc _
  have ta0 : Touch (fun _ => False) w (w.alloc (.cells ys.toArray e)) := (Touch.refl _ w).alloc _
  have src : Src P sz t (.slice (some ⟨w.heap.size, 0, none⟩) m m) m ys (w.alloc (.cells ys.toArray e)) := Src.ofSlice _ ht ⟨w.heap.size, 0, none⟩ m m ys hl (fun j u hj => by
      have e1 : (⟨w.heap.size, 0, none⟩ : Addr).add j = ⟨w.heap.size, j, none⟩ := by rw [Addr.add_mid]; simp
      rw [e1, cell_newg]
      simpa using hj) h1
  have key := fun ty => run_app (P := P) (w.alloc (.cells ys.toArray e)) t ty e i0 z sz bytes ht hi0 hz0 hz1 hz2 hzs hsz v n xs (own_touch h ta0 (fun _ _ h => h)) _ m ys src h63 hb
  obtain ⟨r, w', hr, ho, htt, hbk, _⟩ := key t
  exact ⟨r, w', fun ty => hr, ho, ta.trans htt (fun _ _ h => h), hbk.imp id fun ⟨g, h1, h2⟩ => ⟨g, h1, by have := ta.size; omega⟩⟩

/-- whole numbers as cells -/
def iv (l : List Int) : List Value := l.map fun x => .int .i64 x
theorem iv_length (l : List Int) : (iv l).length = l.length := by simp [iv]
theorem iv_append (a b : List Int) : iv (a ++ b) = iv a ++ iv b := by simp [iv]
theorem iv_one (l : List Int) : ∀ u ∈ iv l, u.oneCell' = true := fun u hu => by obtain ⟨b, _, rfl⟩ := List.mem_map.1 hu; rfl
theorem iv_get {l : List Int} {i : Nat} {x : Int} (h : l[i]? = some x) : (iv l)[i]? = some (.int .i64 x) := by unfold iv; rw [List.getElem?_map, h]; rfl

/-- signs as whole numbers -/
def sv (l : List Nat) : List Int := l.map fun (c : Nat) => (c : Int)
theorem sv_length (l : List Nat) : (sv l).length = l.length := by simp [sv]
theorem sv_append (a b : List Nat) : sv (a ++ b) = sv a ++ sv b := by simp [sv]
theorem sv_get {l : List Nat} {i : Nat} {x : Nat} (h : l[i]? = some x) : (sv l)[i]? = some (x : Int) := by unfold sv; rw [List.getElem?_map, h]; rfl

/-- bytes as cells -/
def bv (l : List UInt8) : List Value := l.map fun b => Value.int .u8 (b.toNat : Int)
theorem bv_length (l : List UInt8) : (bv l).length = l.length := by simp [bv]
theorem bv_append (a b : List UInt8) : bv (a ++ b) = bv a ++ bv b := by simp [bv]
theorem bv_one (l : List UInt8) : ∀ u ∈ bv l, u.oneCell' = true := fun u hu => by obtain ⟨b, _, rfl⟩ := List.mem_map.1 hu; rfl

/-- a slice of values (one cell each) in a block from lo on -/
def Row (w : World) (lo : Nat) (t : TypeId) (v : Value) (xs : List Value) : Prop := (v = .slice none 0 0 ∧ xs = []) ∨
  ∃ g c cur, v = .slice (some ⟨g, 0, none⟩) xs.length c ∧ lo ≤ g ∧ w.heap[g]? = some (.cells cur t (0, 0)) ∧ xs.length ≤ c ∧ c ≤ cur.size ∧ cur.toList.take xs.length = xs
theorem Row.nil (w : World) (lo : Nat) (t : TypeId) : Row w lo t (.slice none 0 0) [] := .inl ⟨rfl, rfl⟩
theorem Row.is {w : World} {lo : Nat} {t : TypeId} {v : Value} {xs : List Value} (h : Row w lo t v xs) : ∃ a c, v = .slice a xs.length c ∧ ∀ j u, xs[j]? = some u → ∃ g, a = some ⟨g, 0, none⟩ ∧ lo ≤ g ∧ w.cell? ⟨g, j, none⟩ = some u := by
  rcases h with ⟨rfl, rfl⟩ | ⟨g, c, cur, rfl, hg, hh, _, _, ht⟩
  · exact ⟨none, 0, rfl, fun j u h => by simp at h⟩
  · exact ⟨_, _, rfl, fun j u h => ⟨g, rfl, hg, row_cell hh ht j u h⟩⟩
theorem Row.touch {R : Nat → Prop} {w w' : World} {lo : Nat} {t : TypeId} {v : Value} {xs : List Value} (h : Row w lo t v xs) (ht : Touch R w w') (hR : ∀ b, lo ≤ b → v.ownBlock = some b → ¬ R b) : Row w' lo t v xs := by
  refine h.imp id fun ⟨g, c, cur, e, hg, hh, r⟩ => ⟨g, c, cur, e, hg, ht.heap hh (hR g hg (by rw [e]; rfl)), r⟩
theorem Row.touch0 {w w' : World} {lo : Nat} {t : TypeId} {v : Value} {xs : List Value} (h : Row w lo t v xs) (ht : Touch (fun _ => False) w w') : Row w' lo t v xs := h.touch ht fun _ _ _ f => f
theorem Row.mono {w : World} {lo lo' : Nat} {t : TypeId} {v : Value} {xs : List Value} (h : Row w lo t v xs) (hl : lo' ≤ lo) : Row w lo' t v xs :=
  h.imp id fun ⟨g, c, cur, e, hg, r⟩ => ⟨g, c, cur, e, Nat.le_trans hl hg, r⟩
theorem Row.own {w : World} {lo : Nat} {t : TypeId} {v : Value} {xs : List Value} {n : Nat} (h : w.ownsRow 0 t 1 v n xs) (hlo : ∀ b, v.ownBlock = some b → lo ≤ b) : Row w lo t v xs ∧ n = xs.length := by
  have hn : n = xs.length := by have := h.1; omega
  refine ⟨?_, hn⟩
  rcases h.2 with ⟨rfl, h0⟩ | ⟨g, cap, cur, rfl, _, hh, h1, h2, h3, h4⟩
  · subst h0
    exact .inl ⟨rfl, List.eq_nil_of_length_eq_zero hn.symm⟩
  · subst hn
    rw [Nat.mul_one] at h4 h3
    exact .inr ⟨g, cap, cur, rfl, hlo g rfl, hh, h1, by omega, h4⟩
/-- a row (one cell each) that the call appends to: its block is from lo on -/
def Grow (w : World) (lo : Nat) (t : TypeId) (v : Value) (xs : List Value) : Prop := w.ownsRow 0 t 1 v xs.length xs ∧ ∀ b, v.ownBlock = some b → lo ≤ b
theorem Grow.nil (w : World) (lo : Nat) (t : TypeId) : Grow w lo t (.slice none 0 0) [] := ⟨World.ownsRow_nil _ _ _ _, by simp [Value.ownBlock]⟩
theorem Grow.is {w : World} {lo : Nat} {t : TypeId} {v : Value} {xs : List Value} (h : Grow w lo t v xs) : ∃ a n c, v = .slice a n c ∧ xs.length = n := by
  rcases h.1.2 with ⟨hv, h0⟩ | ⟨g, cap, cur, hv, _⟩
  · exact ⟨none, 0, 0, hv, h0⟩
  · exact ⟨_, _, _, hv, rfl⟩
theorem Grow.touch {R : Nat → Prop} {w w' : World} {lo : Nat} {t : TypeId} {v : Value} {xs : List Value} (h : Grow w lo t v xs) (ht : Touch R w w') (hR : ∀ b, lo ≤ b → ¬ R b) : Grow w' lo t v xs :=
  ⟨own_touch h.1 ht fun b hb => hR b (h.2 b hb), h.2⟩
theorem Grow.touch0 {w w' : World} {lo : Nat} {t : TypeId} {v : Value} {xs : List Value} (h : Grow w lo t v xs) (ht : Touch (fun _ => False) w w') : Grow w' lo t v xs := h.touch ht fun _ _ f => f
theorem Grow.row {w : World} {lo : Nat} {t : TypeId} {v : Value} {xs : List Value} (h : Grow w lo t v xs) : Row w lo t v xs := (Row.own h.1 h.2).1
/-- append of values that were just built -/
theorem Grow.app {w : World} {lo : Nat} {e : TypeId} {v : Value} {xs : List Value} (h : Grow w lo e v xs) (t : TypeId) (bytes : Nat) (z : Value) (ht : P.underlying t = some (.slice e))
    (hi : (P.info? e).map (fun i => (i.zero, i.size, i.bytes)) = some (some z, 1, bytes)) (hzs : z.cells.size = 1) (m : Nat) (ys : List Value) (hl : ys.length = m) (h1 : ∀ u ∈ ys, u.oneCell' = true) (hlo : lo ≤ w.heap.size)
    (h63 : xs.length + m ≤ maxLen) (hb : (xs.length + m) * bytes ≤ 140737488355328) :
    ∃ r w', (∀ ty, (Builtin.append_ #[t, t] ty #[v, .slice (some ⟨w.heap.size, 0, none⟩) m m]).run P (w.alloc (.cells ys.toArray e)) = .ok r w') ∧ Grow w' lo e r (xs ++ ys) ∧ Touch (fun b => lo ≤ b ∧ v.ownBlock = some b) w w' := by
  obtain ⟨r, w', h2, h3, h4, h5⟩ := app_new t e 1 bytes z ht hi hzs (by omega) v xs.length xs w h.1 m ys (by omega) h1 h63 hb
  refine ⟨r, w', h2, ⟨by rw [List.length_append, hl]; exact h3, fun b hb => ?_⟩, h4.mono fun b _ hb => ⟨h.2 b hb, hb⟩⟩
  rcases h5 with e | ⟨g, e, hg⟩
  · exact h.2 b (by rw [← e]; exact hb)
  · rw [e] at hb
    cases hb
    omega
theorem Touch.own {W w w' : World} {lo : Nat} {v : Value} (h : Touch (fun _ => False) W w) (hlo : W.heap.size ≤ lo) (ht : Touch (fun b => lo ≤ b ∧ v.ownBlock = some b) w w') : Touch (fun _ => False) W w' :=
  h.trans ht fun b hb h => by have := h.1; omega
/-- a slice that is clipped -/
theorem Row.clip {w : World} {lo : Nat} {t : TypeId} {g c : Nat} {xs : List Value} (h : Row w lo t (.slice (some ⟨g, 0, none⟩) xs.length c) xs) : Row w lo t (.slice (some ⟨g, 0, none⟩) xs.length xs.length) xs := by
  rcases h with ⟨e, _⟩ | ⟨g', c', cur, e, hg, hh, h1, h2, h3⟩
  · cases e
  · cases e
    exact .inr ⟨g, _, cur, rfl, hg, hh, Nat.le_refl _, by omega, h3⟩
theorem Row.at {w : World} {lo n c : Nat} {t : TypeId} {a : Option Addr} {xs : List Value} (h : Row w lo t (.slice a n c) xs) {j : Nat} {u : Value} (hj : xs[j]? = some u) : ∃ g, a = some ⟨g, 0, none⟩ ∧ lo ≤ g ∧ w.cell? ⟨g, j, none⟩ = some u := by
  obtain ⟨a', c', e, h⟩ := h.is
  injection e with e1 _ _
  subst e1
  exact h j u hj
/-- a row cut at its end -/
theorem Row.take {w : World} {lo n c : Nat} {t : TypeId} {a : Option Addr} {xs : List Value} (h : Row w lo t (.slice a n c) xs) (ha : a ≠ none) (i : Nat) (hi : i ≤ xs.length) : Row w lo t (.slice a i c) (xs.take i) := by
  rcases h with ⟨e, _⟩ | ⟨g, c', cur, e, hg, hh, h1, h2, h3⟩
  · cases e; exact absurd rfl ha
  · cases e
    refine .inr ⟨g, c, cur, by rw [List.length_take, Nat.min_eq_left hi], hg, hh, ?_, h2, ?_⟩
    · rw [List.length_take]; omega
    · rw [List.length_take, Nat.min_eq_left hi, ← h3, List.take_take, Nat.min_eq_left hi]
theorem drop_get {α : Type} {l : List α} {k : Nat} {x : α} (h : l[k]? = some x) : l.drop k = x :: l.drop (k + 1) := by
  obtain ⟨hk, e⟩ := List.getElem?_eq_some_iff.1 h
  rw [List.drop_eq_getElem_cons hk, e]
theorem setCell_row {w : World} {g : Nat} {cur : Array Value} {t : TypeId} (hh : w.heap[g]? = some (.cells cur t (0, 0))) (j : Nat) (v : Value) : (w.setCell ⟨g, j, none⟩ v).heap[g]? = some (.cells (cur.setIfInBounds j v) t (0, 0)) := by
  unfold World.setCell
  simp [Array.getElem?_modify, hh]
theorem frozen_row {w : World} {g : Nat} {cur : Array Value} {t : TypeId} (hh : w.heap[g]? = some (.cells cur t (0, 0))) (j : Nat) : w.frozen? ⟨g, j, none⟩ = false := by
  unfold World.frozen?
  simp [hh]
/-- one cell of a row written -/
theorem Row.set {w : World} {lo : Nat} {t : TypeId} {g n c : Nat} {xs : List Value} (h : Row w lo t (.slice (some ⟨g, 0, none⟩) n c) xs) (j : Nat) (u : Value) : Row (w.setCell ⟨g, j, none⟩ u) lo t (.slice (some ⟨g, 0, none⟩) n c) (xs.set j u) := by
  rcases h with ⟨e, _⟩ | ⟨g', c', cur, e, hg, hh, h1, h2, h3⟩
  · cases e
  · cases e
    refine .inr ⟨g, _, _, by rw [List.length_set], hg, setCell_row hh j u, by rw [List.length_set]; exact h1, by simpa using h2, ?_⟩
    rw [List.length_set]
    apply List.ext_getElem?
    intro i
    have hi := congrArg (·[i]?) h3
    simp only [List.getElem?_take] at hi
    rw [List.getElem?_take, List.getElem?_set]
    simp only [Array.toList_setIfInBounds, List.getElem?_set]
    by_cases hij : j = i
    · subst hij
      have hsz : xs.length ≤ cur.toList.length := by simp; omega
      by_cases hjl : j < xs.length
      · simp [hjl]; omega
      · simp [hjl]
    · simp only [if_neg hij]
      exact hi
theorem Row.frozen {w : World} {lo : Nat} {t : TypeId} {g n c : Nat} {xs : List Value} (h : Row w lo t (.slice (some ⟨g, 0, none⟩) n c) xs) (j : Nat) : w.frozen? ⟨g, j, none⟩ = false := by
  rcases h with ⟨e, _⟩ | ⟨g', c', cur, e, hg, hh, _⟩
  · cases e
  · cases e
    exact frozen_row hh j
end
/-- a text of bytes -/
theorem txt_of {t : ByteArray} {l : List UInt8} (h : t.data.toList = l) : t = ⟨l.toArray⟩ := ByteArray.ext (by rw [← Array.toList_inj]; simpa using h)
end Go.Ux
