/- PART OF THE PROOF THAT THIS CLAIM HOLDS OF THE GIVEN PROGRAM, FOR EVERY INPUT THAT THE STATEMENT NAMES. No condition besides the statement's own. -/
import Derived.Test.YtdfgpminonpeaaaFindZ
import Derived.Test.YtdfgpminonpeaaaRows
import Derived.WalkKit
import Derived.Handy
import Derived.Laws.EntriesVeiled
import Derived.WalkSpells
import Derived.WalkLawsBesides
import Derived.BigQuiet
import Derived.Deep.QuietTactic
import Derived.Deep.Cut
import Derived.Lib.Overlaps
import Derived.Laws.Externs
import Derived.Lib.Hide
import Derived.Test.YtdfgpminonpeaaaUxPlanAllZ
import Derived.Test.YtdfgpminonpeaaaUxTreeAllZ
import Derived.Deep.LoopGhost
namespace Go.Proofs.Ytdfgpminonpeaaa
open Go.RowKit
-- imports: YtdfgpminonpeaaaFind
open Ux (slt lb has Rises keys ins del)

theorem prinfo : (Try.prog.info? 52).map (fun i => (i.zero, i.size, i.bytes)) = some (some (.agg #[.string ⟨#[]⟩, .int .i64 0]), 2, 24) := by kernel_rfl

theorem prCells_one (l : List (ByteArray × Int)) : ∀ u ∈ prCells l, u.oneCell' = true := by
  intro u hu
  obtain ⟨p, _, hp⟩ := List.mem_flatMap.1 hu
  simp at hp
  rcases hp with rfl | rfl <;> rfl
theorem prCells_take (l : List (ByteArray × Int)) (k : Nat) : prCells (l.take k) = (prCells l).take (k * 2) := by
  induction l generalizing k with
  | nil => simp [prCells]
  | cons p l ih =>
    cases k with
    | zero => simp [prCells]
    | succ k =>
      have e : prCells (p :: l) = .string p.1 :: .int .i64 p.2 :: prCells l := rfl
      have e' : prCells (p :: l.take k) = .string p.1 :: .int .i64 p.2 :: prCells (l.take k) := rfl
      rw [List.take_succ_cons, e', ih, e, show (k + 1) * 2 = k * 2 + 1 + 1 by omega]
      rfl
theorem prCells_drop (l : List (ByteArray × Int)) (k : Nat) : prCells (l.drop k) = (prCells l).drop (k * 2) := by
  induction l generalizing k with
  | nil => simp [prCells]
  | cons p l ih =>
    cases k with
    | zero => simp
    | succ k =>
      have e : prCells (p :: l) = .string p.1 :: .int .i64 p.2 :: prCells l := rfl
      rw [List.drop_succ_cons, ih, e, show (k + 1) * 2 = k * 2 + 1 + 1 by omega]
      rfl

theorem PairsAt.nil (w : World) : PairsAt w (.slice none 0 0) [] := World.ownsRow_nil w 0 52 2
theorem PairsAt.touch {w w' : World} {v : Value} {l : List (ByteArray × Int)} {R : Nat → Prop} (h : PairsAt w v l) (ht : Ux.Touch R w w') (hn : ∀ b, v.ownBlock = some b → ¬ R b) : PairsAt w' v l := Ux.own_touch h ht hn
theorem PairsAt.lt {w : World} {v : Value} {l : List (ByteArray × Int)} (h : PairsAt w v l) : ∀ b, v.ownBlock = some b → b < w.heap.size := Ux.own_lt h

/-- a list's first pairs -/
theorem pairs_take {a : Option Addr} {n c k : Nat} {l : List (ByteArray × Int)} (hk : k ≤ n) {w : World} (h : PairsAt w (.slice a n c) l) (hn : l.length = n) : Src Try.prog 2 46 (.slice a k c) k (prCells (l.take k)) w := by
  rcases h.2 with ⟨e, _⟩ | ⟨g, c', cur, e, _, hg, _, _, _, htk⟩
  · cases e
    obtain rfl : k = 0 := by omega
    exact Src.ofNil w Try.underlying46 0
  · cases e
    refine Src.ofSlice w Try.underlying46 _ k c _ (by rw [prCells_length]; simp; omega) (fun j u hj => ?_) (prCells_one _)
    rw [Addr.add_lit, Nat.zero_add]
    rw [prCells_take, List.getElem?_take] at hj
    split at hj
    · exact Ux.row_cell hg htk j u hj
    · cases hj

/-- those behind them -/
theorem pairs_drop {a : Option Addr} {n c k : Nat} {l : List (ByteArray × Int)} (hk : k ≤ n) {w0 : World} (h0 : PairsAt w0 (.slice a n c) l) (hn : l.length = n) :
    ∃ v2, (∀ w, (Instr.slice 46 (.slice a n c) (some (.int .i64 k)) none none).run Try.prog w = .ok v2 w) ∧ ∀ w, PairsAt w (.slice a n c) l → Src Try.prog 2 46 v2 (n - k) (prCells (l.drop k)) w := by
  have hi : ∀ w, (sizeOf (Try.prog.elem 46)).run Try.prog w = .ok 2 w := fun w => by kernel_rfl
  have hr : ∀ w, (Instr.slice 46 (.slice a n c) (some (.int .i64 k)) none none).run Try.prog w = .ok (sliced a k n c 2) w := fun w => by
    rw [run_slice_l (P := Try.prog) w 46 a n c Try.underlying46 .i64 k (by omega) (by omega), hi]
    simp [Result.andThen]
  refine ⟨_, hr, fun w h => ?_⟩
  rcases h.2 with ⟨e, _⟩ | ⟨g, c', cur, e, _, hg, hnc, _, _, htk⟩
  · cases e
    obtain rfl : k = 0 := by omega
    have : l = [] := List.eq_nil_of_length_eq_zero hn
    subst this
    exact Src.ofNil w Try.underlying46 0
  · cases e
    have key : ∀ b : Addr, (k < l.length → b = ⟨g, k * 2, none⟩) → Src Try.prog 2 46 (.slice (some b) (l.length - k) (c - k)) (l.length - k) (prCells (l.drop k)) w := fun b hb => by
      refine Src.ofSlice w Try.underlying46 _ (l.length - k) (c - k) _ (by rw [prCells_length]; simp) (fun j u hj => ?_) (prCells_one _)
      have hj' : j < (prCells (l.drop k)).length := (List.getElem?_eq_some_iff.1 hj).1
      rw [prCells_length, List.length_drop] at hj'
      rw [hb (by omega), Addr.add_lit]
      rw [prCells_drop, List.getElem?_drop] at hj
      exact Ux.row_cell hg htk _ u hj
    unfold sliced
    by_cases e : c = k
    · rw [if_pos e]
      exact key _ (fun h => by omega)
    · rw [if_neg e]
      exact key _ (fun _ => by show (⟨g, 0, none⟩ : Addr).add (k * 2) = _; rw [Addr.add_lit, Nat.zero_add])

/-- append of pairs -/
theorem pairs_app {w : World} {v1 x : Value} {l1 l2 : List (ByteArray × Int)} {m : Nat} (h : PairsAt w v1 l1) (hs : Src Try.prog 2 46 x m (prCells l2) w) (hl : l1.length + m ≤ 1048576) :
    ∃ v' w', (∀ ty, (Builtin.append_ #[46, 46] ty #[v1, x]).run Try.prog w = .ok v' w') ∧ PairsAt w' v' (l1 ++ l2) ∧ Ux.Touch (fun k => v1.ownBlock = some k) w w' ∧ (v'.ownBlock = v1.ownBlock ∨ ∃ g, v'.ownBlock = some g ∧ w.heap.size ≤ g) := by
  obtain ⟨i0, hi0, hz0, hz1, hz2⟩ := info_parts prinfo
  have hm : l2.length = m := by have := hs.newsLen; rw [prCells_length] at this; omega
  obtain ⟨v', w', hr, ho, ht, hb, _⟩ := Ux.run_app (P := Try.prog) w 46 46 52 i0 _ 2 24 Try.underlying46 hi0 hz0 hz1 hz2 rfl (by omega) v1 l1.length (prCells l1) h x m (prCells l2) hs (le_maxLen (by omega)) (by omega)
  refine ⟨v', w', fun ty => ?_, ?_, ht, hb⟩
  · exact hr
  · unfold PairsAt
    rw [List.length_append, prCells_append, hm]
    exact ho
/-- one pair as a source -/
theorem pair_src {w : World} {b : Nat} {k : ByteArray} {r : Int} (h : w.heap[b]? = some (.cells #[.string k, .int .i64 r] 52 (0, 0))) : Src Try.prog 2 46 (.slice (some ⟨b, 0, none⟩) 1 1) 1 (prCells [(k, r)]) w :=
  Src.ofSlice w Try.underlying46 _ 1 1 _ rfl (fun j u hj => by
    rw [Addr.add_lit, Nat.zero_add, cell_of_row w b _ _ 52 (0, 0) h]
    have e : prCells [(k, r)] = [.string k, .int .i64 r] := rfl
    rw [e] at hj
    simpa using hj) (prCells_one _)
/-- no pair yet -/
theorem pairs_empty {w : World} {b : Nat} (h : w.heap[b]? = some (.cells #[] 52 (0, 0))) : PairsAt w (.slice (some ⟨b, 0, none⟩) 0 0) [] :=
  ⟨rfl, .inr ⟨b, 0, #[], rfl, Nat.zero_le _, h, Nat.le_refl _, Nat.zero_le _, rfl, rfl⟩⟩

/-- append to a list that is new since W0 -/
theorem pairs_fresh {W0 w : World} {v1 x : Value} {l1 l2 : List (ByteArray × Int)} {m : Nat} (h : PairsAt w v1 l1) (hf : ∀ b, v1.ownBlock = some b → W0.heap.size ≤ b) (hT : Ux.Touch (fun _ => False) W0 w) (hs : Src Try.prog 2 46 x m (prCells l2) w) (hl : l1.length + m ≤ 1048576) :
    ∃ v' w', (∀ ty, (Builtin.append_ #[46, 46] ty #[v1, x]).run Try.prog w = .ok v' w') ∧ PairsAt w' v' (l1 ++ l2) ∧ (∀ b, v'.ownBlock = some b → W0.heap.size ≤ b) ∧ Ux.Touch (fun _ => False) W0 w' := by
  obtain ⟨v', w', h1, h2, h3, h4⟩ := pairs_app h hs hl
  refine ⟨v', w', h1, h2, fun b hb => ?_, hT.trans h3 (fun b hb hR => ?_)⟩
  · rcases h4 with h4 | ⟨g, h4, hg⟩
    · exact hf b (by rw [← h4]; exact hb)
    · rw [h4] at hb
      cases hb
      exact Nat.le_trans hT.size hg
  · have := hf b hR
    omega

section
variable {w : World} {a : Option Addr} {n c k : Nat} {L : List (ByteArray × Int)}

/-- the first pairs, anew -/
theorem chain1 (hP : PairsAt w (.slice a n c) L) (hn : L.length = n) (hk : k ≤ n) (hl : L.length ≤ 1000000) (W1 : World) (be : Nat) (hT : Ux.Touch (fun _ => False) w W1) (hbe : W1.heap[be]? = some (.cells #[] 52 (0, 0))) (hge : w.heap.size ≤ be) :
    ∃ v3 w3, (∀ ty, (Builtin.append_ #[46, 46] ty #[.slice (some ⟨be, 0, none⟩) 0 0, .slice a k c]).run Try.prog W1 = .ok v3 w3) ∧ PairsAt w3 v3 (L.take k) ∧ (∀ b, v3.ownBlock = some b → w.heap.size ≤ b) ∧ Ux.Touch (fun _ => False) w w3 ∧
      ∀ pb o, W1.heap[pb]? = some o → pb ≠ be → w3.heap[pb]? = some o ∧ v3.ownBlock ≠ some pb := by
  obtain ⟨v3, w3, h1, h2, h3, h4⟩ := pairs_app (pairs_empty hbe) (pairs_take hk (hP.touch hT (fun _ _ f => f)) hn) (by simp; omega)
  refine ⟨v3, w3, h1, h2, fun b hb => ?_, hT.trans h3 (fun b hb hR => ?_), fun pb o hp hne => ⟨h3.heap hp (fun e => hne (by cases e; rfl)), fun e => ?_⟩⟩
  · rcases h4 with h4 | ⟨g, h4, hg⟩
    · rw [h4] at hb; cases hb; exact hge
    · rw [h4] at hb; cases hb; exact Nat.le_trans hT.size hg
  · have e : be = b := by cases hR; rfl
    omega
  · rcases h4 with h4 | ⟨g, h4, hg⟩
    · rw [h4] at e; cases e; exact hne rfl
    · rw [h4] at e; cases e
      have := Ux.lt_of_heap hp
      omega
/-- one pair more -/
theorem chain2 (W4 : World) (v3 : Value) (l : List (ByteArray × Int)) (pb : Nat) (key : ByteArray) (row : Int) (hT : Ux.Touch (fun _ => False) w W4) (h : PairsAt W4 v3 l) (hf : ∀ b, v3.ownBlock = some b → w.heap.size ≤ b) (hl : l.length ≤ 1000000)
    (hp : W4.heap[pb]? = some (.cells #[.string key, .int .i64 row] 52 (0, 0))) :
    ∃ v5 w5, (∀ ty, (Builtin.append_ #[46, 46] ty #[v3, .slice (some ⟨pb, 0, none⟩) 1 1]).run Try.prog W4 = .ok v5 w5) ∧ PairsAt w5 v5 (l ++ [(key, row)]) ∧ (∀ b, v5.ownBlock = some b → w.heap.size ≤ b) ∧ Ux.Touch (fun _ => False) w w5 :=
  pairs_fresh h hf hT (pair_src hp) (by omega)
/-- those behind -/
theorem chain3 (hP : PairsAt w (.slice a n c) L) {j : Nat} {v2 : Value} (hs : ∀ w, PairsAt w (.slice a n c) L → Src Try.prog 2 46 v2 (n - j) (prCells (L.drop j)) w) (W5 : World) (v5 : Value) (l : List (ByteArray × Int)) (hT : Ux.Touch (fun _ => False) w W5) (h : PairsAt W5 v5 l) (hf : ∀ b, v5.ownBlock = some b → w.heap.size ≤ b) (hl : l.length + n ≤ 1000000) :
    ∃ v6 w6, (∀ ty, (Builtin.append_ #[46, 46] ty #[v5, v2]).run Try.prog W5 = .ok v6 w6) ∧ PairsAt w6 v6 (l ++ L.drop j) ∧ (∀ b, v6.ownBlock = some b → w.heap.size ≤ b) ∧ Ux.Touch (fun _ => False) w w6 :=
  pairs_fresh h hf hT (hs W5 (hP.touch hT (fun _ _ f => f))) (by omega)
end

end Go.Proofs.Ytdfgpminonpeaaa
