/- PART OF THE PROOF THAT TreeSeeksSaid HOLDS OF THE GIVEN PROGRAM, FOR EVERY INPUT THAT THE STATEMENT NAMES. No condition besides the statement's own. -/
import Derived.Test.YtdfgpminonpeaaaUxCurZ
/- The key ahead. -/
namespace Go.Ux
open Go Go.RowKit

/-- Frames down to a node t, standing at a place of it: p keys stand ahead of the place behind. -/
def LastRel (fan : Nat) (w0 : World) (cb : Nat) (root : T) (FP fc0 : List Nat) (p : Nat) (g : Nat) (y : Nat) (w : World) : Prop :=
  ∃ pre t i lv a b, w.heap[cb]? = some (.cells #[lv] 75 (0, 0)) ∧ w.ownsRow 0 77 2 lv (pre.length + 1) (frCells (pre ++ [(t, y, i)])) ∧ (∀ b ∈ blk lv, b ∈ fc0 ∨ w0.heap.size ≤ b) ∧ Touch (fun b => b ∈ fc0) w0 w ∧
    (∀ f ∈ pre, FrAt w0 FP f.1 f.2.1) ∧ FrAt w0 FP t y ∧ Ctx root pre t a b ∧ i < t.size ∧ p = a.length + ahead t (i + 1) ∧ Good fan g t

/-- one node further down, at its last place -/
theorem last_step {fan g q y z i : Nat} {w w1 W : World} {cb : Nat} {root : T} {FP fc0 : List Nat} {pre : List Fr} {ks : List ByteArray} {cs : List T} {c : T} {a b : List Ent} {lv lv' : Value} (hcb : cb ∈ fc0)
    (h1 : ∀ f ∈ pre, FrAt w FP f.1 f.2.1) (h2 : FrAt w FP (.node ks cs) y) (h3 : Ctx root pre (.node ks cs) a b) (hc : cs[i]? = some c) (hq : q = a.length + ahead (.node ks cs) (i + 1)) (hg : Good fan (g + 1) (.node ks cs)) (hf : 4 ≤ fan)
    (hz : FrAt w FP c z) (ho : w1.ownsRow 0 77 2 lv' (pre.length + 1 + 1) (frCells (pre ++ [(.node ks cs, y, i)]) ++ [.pointer (some ⟨z, 0, none⟩), .int .i64 ((c.size : Int) - 1)]))
    (hT : Touch (fun b => b ∈ fc0) w w1) (hW : Touch (fun b => b = cb) w1 W) (hcW : W.heap[cb]? = some (.cells #[lv'] 75 (0, 0))) (hbk : ∀ b ∈ blk lv', (b ∈ fc0 ∨ w.heap.size ≤ b) ∧ b ≠ cb) :
    LastRel fan w cb root FP fc0 q g z W := by
  obtain ⟨ks', cs', e, _, _, hk⟩ := hg
  cases e
  obtain ⟨gc, zc, _⟩ := hk c (List.mem_of_getElem? hc)
  have hs : 1 ≤ c.size := by omega
  refine ⟨pre ++ [(.node ks cs, y, i)], c, c.size - 1, lv', _, _, hcW, ?_, fun b hb => (hbk b hb).1, hT.trans hW (fun b _ e => e ▸ hcb), ?_, hz, h3.snoc hc, by omega, ?_, gc⟩
  · rw [frCells_snoc]
    simp only [List.length_append, List.length_cons, List.length_nil]
    have : ((c.size - 1 : Nat) : Int) = (c.size : Int) - 1 := by omega
    rw [this]
    exact own_blk ho hW (fun b hb => (hbk b hb).2)
  · intro f hf
    rcases List.mem_append.1 hf with hf | hf
    · exact h1 f hf
    · simp at hf; subst hf; exact h2
  · rw [show c.size - 1 + 1 = c.size by omega, ahead_full, hq, ahead_succ hc, List.length_append]
    simp only [ahead]
    omega

/-- Frames, the topmost of which stands at a place with p keys ahead of it: what the key ahead is. n: how many frames. -/
def PrevRel (w0 : World) (cb : Nat) (root : T) (FP fc0 : List Nat) (p : Nat) (n : Nat) (w : World) : Prop :=
  ∃ lv xs, w.heap[cb]? = some (.cells #[lv] 75 (0, 0)) ∧ w.ownsRow 0 77 2 lv n xs ∧ (∀ b ∈ blk lv, b ∈ fc0 ∨ w0.heap.size ≤ b) ∧ Touch (fun b => b ∈ fc0) w0 w ∧
    ((n = 0 ∧ p = 0) ∨ ∃ pre t x i a b, n = pre.length + 1 ∧ xs = frCells (pre ++ [(t, x, i)]) ∧ (∀ f ∈ pre, FrAt w0 FP f.1 f.2.1) ∧ FrAt w0 FP t x ∧
      Ctx root pre t a b ∧ i < t.size ∧ p = a.length + ahead t i)

theorem prev_pop {w w1 W : World} {cb : Nat} {root t : T} {FP fc0 : List Nat} {p g gc : Nat} {pre : List Fr} {a b : List Ent} {ys : List Value} (h1 : ∀ f ∈ pre, FrAt w FP f.1 f.2.1) (h2 : Ctx root pre t a b) (h3 : p = a.length + ahead t 0)
    (ho : w1.ownsRow 0 77 2 (.slice (some ⟨g, 0, none⟩) (pre.length + 1) gc) (pre.length + 1) (frCells pre ++ ys)) (hT : Touch (fun b => b ∈ fc0) w w1) (hW : Touch (fun b => b = cb) w1 W)
    (hc : W.heap[cb]? = some (.cells #[.slice (some ⟨g, 0, none⟩) pre.length gc] 75 (0, 0))) (hg : g ∈ fc0 ∨ w.heap.size ≤ g) (hne : cb ≠ g) (hcb : cb ∈ fc0) : PrevRel w cb root FP fc0 p pre.length W := by
  have ho' := own_taken ho (Nat.le_succ _) (frCells_length pre)
  refine ⟨_, _, hc, own_touch ho' hW (fun b hb e => by cases hb; exact hne e.symm), ?_, hT.trans hW (fun b _ e => e ▸ hcb), ?_⟩
  · intro b hb
    simp [blk, Value.ownBlock] at hb
    subst hb
    exact hg
  · rw [ahead_zero] at h3
    rcases pop_up h2 with ⟨rfl, _, e⟩ | ⟨pre', ks, cs, x', j, a', b', rfl, hc', hj, _, e⟩
    · exact .inl ⟨rfl, by rw [h3, e]; rfl⟩
    · exact .inr ⟨pre', .node ks cs, x', j, a', b', by simp, rfl, fun f hf => h1 f (by simp [hf]), h1 (.node ks cs, x', j) (by simp), hc', hj, by rw [h3]; exact e⟩
end Go.Ux
