/- PART OF THE PROOF THAT THIS CLAIM HOLDS OF THE GIVEN PROGRAM, FOR EVERY INPUT THAT THE STATEMENT NAMES. No condition besides the statement's own. -/
import Derived.Test.YtdfgpminonpeaaaUxCurAllZ
import Derived.Test.YtdfgpminonpeaaaDelfZ
import Derived.Test.YtdfgpminonpeaaaRows
import Derived.WalkKit
import Derived.Handy
import Derived.Laws.EntriesVeiled
import Derived.WalkSpells
import Derived.WalkLawsBesides
import Derived.BigQuiet
import Derived.Deep.QuietTactic
import Derived.Deep.Cut
import Derived.Lib.Overlaps
import Derived.Laws.Externs
import Derived.Lib.Hide
import Derived.Test.YtdfgpminonpeaaaUxPlanAllZ
import Derived.Test.YtdfgpminonpeaaaUxTreeAllZ
import Derived.Deep.LoopGhost
namespace Go.Proofs.Ytdfgpminonpeaaa
open Go.RowKit
-- imports: UxEmp UxThr YtdfgpminonpeaaaDelf
open Ux (slt lb has Rises keys ins del Up ky Marks TypeIn)

/-- a tree's blocks, by their kinds -/
def TR (N : Nat) (w : World) (b : Nat) : Prop := N ≤ b ∧ Ux.TypeIn w b [62, 9, 3, 59, 64]

theorem putR {w : World} {tb fan : Nat} {l : List (ByteArray × Int)} {N : Nat} (h : HasTree w tb fan l N) (hN : N ≤ w.heap.size) (hl : l.length ≤ 1048576) (k : ByteArray) (v : Int) :
    Calls Try.prog 10 #[.pointer (some ⟨tb, 0, none⟩), .string k, .int .i64 v] w fun e w' => e = .returned (.bool (!has (keys l) k)) ∧ HasTree w' tb fan (ins k v l) N ∧ Ux.Touch (TR N w) w w' := by
  obtain ⟨h1, t, d, x, fp, h2, h3⟩ := h
  refine (put10 w tb fan l t d x fp k v h2 hl).mono fun e w' ⟨he, ⟨t', d', x', fp', h4, h5⟩, ht⟩ => ⟨he, ⟨h1, t', d', x', fp', h4, fun b hb => (h5 b hb).elim (h3 b) (fun h => Nat.le_trans hN h)⟩, ht.mono (fun b _ h => ?_)⟩
  rcases h with h | rfl
  · exact ⟨h3 b h, (h2.node.types b h).mono (by simp)⟩
  · exact ⟨h1, _, _, h2.cell, by simp⟩
theorem delR {w : World} {tb fan : Nat} {l : List (ByteArray × Int)} {N : Nat} (h : HasTree w tb fan l N) (hN : N ≤ w.heap.size) (hl : l.length ≤ 1048576) (k : ByteArray) :
    Calls Try.prog 23 #[.pointer (some ⟨tb, 0, none⟩), .string k] w fun e w' => e = .returned (.bool (has (keys l) k)) ∧ HasTree w' tb fan (del k l) N ∧ Ux.Touch (TR N w) w w' := by
  obtain ⟨h1, t, d, x, fp, h2, h3⟩ := h
  refine (del23 w tb fan l t d x fp k h2 hl).mono fun e w' ⟨he, ⟨t', d', x', fp', h4, h5⟩, ht⟩ => ⟨he, ⟨h1, t', d', x', fp', h4, fun b hb => (h5 b hb).elim (h3 b) (fun h => Nat.le_trans hN h)⟩, ht.mono (fun b _ h => ?_)⟩
  rcases h with h | rfl
  · exact ⟨h3 b h, (h2.node.types b h).mono (by simp)⟩
  · exact ⟨h1, _, _, h2.cell, by simp⟩
theorem depthL {w : World} {tb fan : Nat} {l : List (ByteArray × Int)} {N : Nat} (h : HasTree w tb fan l N) (hl : l.length ≤ 1048576) : Calls Try.prog 24 #[.pointer (some ⟨tb, 0, none⟩)] w fun e w' => (∃ d : Nat, e = .returned (.int .i64 d) ∧ (l = [] → d = 0) ∧ (l ≠ [] → 1 ≤ d ∧ 2 ^ (d - 1) ≤ l.length)) ∧ w = w' := by
  obtain ⟨h1, t, d, x, fp, h2, h3⟩ := h
  refine (depthT h2 hl).mono fun e w' ⟨he, hw⟩ => ⟨⟨_, he, fun e => by rw [if_pos e], fun e => ?_⟩, hw⟩
  rw [if_neg e]
  rcases h2.some with ⟨e', _⟩ | ⟨_, hs⟩
  · exact absurd e' e
  · refine ⟨by omega, ?_⟩
    have := Ux.good_pow h2.fan4 h2.good hs h2.root
    rw [h2.is] at this
    simpa using this

theorem uinfo : (Try.prog.info? 5).map (fun i => (i.zero, i.size, i.bytes)) = some (some (.int .u8 0), 1, 1) := by kernel_rfl

set_option maxHeartbeats 1000000 in
set_option maxRecDepth 100000 in
theorem key21 (i : Nat) (w : World) (hi : i < 256) : Calls Try.prog 21 #[.int .i64 i] w fun e w' => e = .returned (.string (ky i)) ∧ Ux.Touch (fun _ => False) w w' := by
  have j0 : (0 : Int) ≤ i := by omega
  have j1 : (i : Int) < 256 := by omega
  have hconv : (convert 38 9 (.slice (some ⟨w.heap.size, 0, none⟩) 3 3)).run Try.prog (w.alloc (.cells #[.int .u8 ((i : Int) * 7 / 16), .int .u8 i, .int .u8 107] 5)) =
      .ok (.string (ky i)) (w.alloc (.cells #[.int .u8 ((i : Int) * 7 / 16), .int .u8 i, .int .u8 107] 5)) := by
    refine run_convert_bytes_back (P := Try.prog) _ 38 9 5 ⟨w.heap.size, 0, none⟩ 3 [UInt8.ofNat (i * 7 / 16), UInt8.ofNat i, 107] Try.underlying38 Try.underlying5 Try.underlying9 (fun j hj => ?_)
    rw [Addr.add_lit, Nat.zero_add, World.cell?_alloc_mark]
    have e1 : ((UInt8.ofNat (i * 7 / 16)).toNat : Int) = (i : Int) * 7 / 16 := by
      rw [UInt8.toNat_ofNat_of_lt' (by show _ < 256; omega)]
      omega
    have e2 : ((UInt8.ofNat i).toNat : Int) = i := by
      rw [UInt8.toNat_ofNat_of_lt' (by show _ < 256; omega)]
    match j, hj with
    | 0, _ => exact congrArg (fun z => some (Value.int .u8 z)) e1.symm
    | 1, _ => exact congrArg (fun z => some (Value.int .u8 z)) e2.symm
    | 2, _ => rfl
  go_enter Try.func21, Try.ntmps21
  go_wp2
  go_ret
  exact ⟨rfl, (Ux.Touch.refl _ w).alloc _⟩

theorem HasTree.touchT {w w' : World} {tb fan : Nat} {l : List (ByteArray × Int)} {N : Nat} {R : Nat → Prop} (h : HasTree w tb fan l N) (ht : Ux.Touch R w w') (hn : ∀ b, TR N w b → ¬ R b) : HasTree w' tb fan l N := by
  obtain ⟨h1, t, d, x, fp, h2, h3⟩ := h
  exact ⟨h1, t, d, x, fp, h2.touch ht (hn tb ⟨h1, _, _, h2.cell, by simp⟩) (fun b hb => hn b ⟨h3 b hb, (h2.node.types b hb).mono (by simp)⟩), h3⟩

/-- marks in memory, and the tree beside them -/
structure EmpMid (W : World) (tb F Z N bi : Nat) (l : List (ByteArray × Int)) (xs : List Bool) (wr : World) : Prop where
  low : N ≤ bi
  tree : HasTree wr tb F l N
  len : xs.length = Z
  heap : wr.heap[bi]? = some (.cells (xs.map Value.bool).toArray 4 (0, 0))
  touch : Ux.Touch (fun b => N ≤ b) W wr

theorem EmpMid.size {W wr : World} {tb F Z N bi : Nat} {l : List (ByteArray × Int)} {xs : List Bool} (h : EmpMid W tb F Z N bi l xs wr) : N ≤ wr.heap.size := by
  have := Ux.lt_of_heap h.heap
  have := h.low
  omega
theorem EmpMid.cell {W wr : World} {tb F Z N bi : Nat} {l : List (ByteArray × Int)} {xs : List Bool} (h : EmpMid W tb F Z N bi l xs wr) {r : Nat} {b : Bool} (hr : xs[r]? = some b) : wr.cell? ⟨bi, r, none⟩ = some (.bool b) := by
  rw [cell_of_row wr bi r _ 4 (0, 0) h.heap]
  simp [hr]
theorem EmpMid.free {W wr : World} {tb F Z N bi : Nat} {l : List (ByteArray × Int)} {xs : List Bool} (h : EmpMid W tb F Z N bi l xs wr) (r : Nat) : wr.frozen? ⟨bi, r, none⟩ = false := frozen_of_row wr bi r _ 4 h.heap

theorem no_mark {w : World} {N bi : Nat} {cs : Array Value} (h : w.heap[bi]? = some (.cells cs 4 (0, 0))) : ¬ TR N w bi := fun ⟨_, hh⟩ =>
  (Ux.TypeIn.ne (ts := [4]) ⟨_, _, h, by simp⟩ hh (by decide)) rfl

theorem EmpMid.set {W wr : World} {tb F Z N bi : Nat} {l : List (ByteArray × Int)} {xs : List Bool} (h : EmpMid W tb F Z N bi l xs wr) (r : Nat) (b : Bool) : EmpMid W tb F Z N bi l (xs.set r b) (wr.setCell ⟨bi, r, none⟩ (.bool b)) := by
  have T : Ux.Touch (fun k => k = bi) wr (wr.setCell ⟨bi, r, none⟩ (.bool b)) := (Ux.Touch.refl (fun k => k = bi) wr).setCell (p := ⟨bi, r, none⟩) (fun _ => rfl) _
  refine ⟨h.low, h.tree.touchT T (fun k hk e => no_mark h.heap (e ▸ hk)), by rw [List.length_set]; exact h.len, ?_, h.touch.trans T (fun k _ e => e ▸ h.low)⟩
  have := heap_setCell_same wr bi r _ 4 (.bool b) h.heap
  simpa [List.map_set] using this
theorem EmpMid.still {W wr w' : World} {tb F Z N bi : Nat} {l : List (ByteArray × Int)} {xs : List Bool} (h : EmpMid W tb F Z N bi l xs wr) (T : Ux.Touch (fun _ => False) wr w') : EmpMid W tb F Z N bi l xs w' :=
  ⟨h.low, h.tree.still T, h.len, T.heap h.heap (fun f => f), h.touch.trans T (fun _ _ f => f.elim)⟩
theorem EmpMid.turn {W wr w' : World} {tb F Z N bi : Nat} {l l' : List (ByteArray × Int)} {xs : List Bool} (h : EmpMid W tb F Z N bi l xs wr) (t : HasTree w' tb F l' N) (T : Ux.Touch (TR N wr) wr w') : EmpMid W tb F Z N bi l' xs w' :=
  ⟨h.low, t, h.len, T.heap h.heap (no_mark h.heap), h.touch.trans T (fun _ _ f => f.1)⟩

theorem HasTree.rising {w : World} {tb fan : Nat} {l : List (ByteArray × Int)} {N : Nat} (h : HasTree w tb fan l N) : Up l := by
  obtain ⟨_, t, d, x, fp, h2, _⟩ := h
  exact h2.up

end Go.Proofs.Ytdfgpminonpeaaa
