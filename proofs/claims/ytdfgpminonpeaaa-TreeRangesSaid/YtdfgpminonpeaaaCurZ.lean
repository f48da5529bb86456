/- PART OF THE PROOF THAT THIS CLAIM HOLDS OF THE GIVEN PROGRAM, FOR EVERY INPUT THAT THE STATEMENT NAMES. No condition besides the statement's own. -/
import Derived.Test.YtdfgpminonpeaaaUxCurAllZ
import Derived.Test.YtdfgpminonpeaaaPutfZ
import Derived.Test.YtdfgpminonpeaaaRows
import Derived.WalkKit
import Derived.Handy
import Derived.Laws.EntriesVeiled
import Derived.WalkSpells
import Derived.WalkLawsBesides
import Derived.BigQuiet
import Derived.Deep.QuietTactic
import Derived.Deep.Cut
import Derived.Lib.Overlaps
import Derived.Laws.Externs
import Derived.Lib.Hide
import Derived.Test.YtdfgpminonpeaaaUxPlanAllZ
import Derived.Test.YtdfgpminonpeaaaUxTreeAllZ
import Derived.Deep.LoopGhost
namespace Go.Proofs.Ytdfgpminonpeaaa
open Go.RowKit
-- imports: UxCur YtdfgpminonpeaaaPutf
open Ux (slt lb has Rises T NodeAt NodesAt Shp wayN blk ptr flat flats keys ins Up CurAt FrAt Fr frCells Stands Ctx ahead TypeIn)

set_option maxHeartbeats 400000 in
theorem len15 (tb : Nat) (n : Int) (w : World) (c1 : w.cell? ⟨tb, 1, none⟩ = some (.int .i64 n)) : Calls Try.prog 15 #[.pointer (some ⟨tb, 0, none⟩)] w fun e w' => e = .returned (.int .i64 n) ∧ w = w' := by
  go_enter Try.func15, Try.ntmps15
  go_wp2
  go_ret
  exact ⟨rfl, rfl⟩

set_option maxHeartbeats 400000 in
theorem ok12_row (cb : Nat) (a : Option Addr) (n c : Nat) (w : World) (hn : n ≤ maxLen) (c0 : w.cell? ⟨cb, 0, none⟩ = some (.slice a n c)) : Calls Try.prog 12 #[.pointer (some ⟨cb, 0, none⟩)] w fun e w' => e = .returned (.bool (decide (0 < n))) ∧ w = w' := by
  unfold maxLen at hn
  go_enter Try.func12, Try.ntmps12
  go_wp2
  go_ret
  exact ⟨by simp, rfl⟩

set_option maxHeartbeats 400000 in
theorem new9_bad (fan : Int) (w : World) (h : fan < 4 ∨ 64 < fan) : Calls Try.prog 9 #[.int .i64 fan] w fun e w' => e = .returned (.tuple #[.pointer none, .int .i64 1]) ∧ w = w' := by
  rcases h with h | h
  · go_enter Try.func9, Try.ntmps9
    go_wp2
    go_ret2
    exact ⟨rfl, rfl⟩
  · have h' : ¬ fan < 4 := by omega
    go_enter Try.func9, Try.ntmps9
    go_wp2
    go_ret2
    exact ⟨rfl, rfl⟩

/-- a new tree -/
def NewPost (w : World) (fan : Nat) (e : Ending) (w' : World) : Prop := ∃ tb, e = .returned (.tuple #[.pointer (some ⟨tb, 0, none⟩), .int .i64 0]) ∧ w.heap.size ≤ tb ∧ (∃ x fp, TreeAt w' tb fan [] (.leaf []) 0 x fp ∧ ∀ b ∈ fp, w.heap.size ≤ b) ∧ Ux.Touch (fun _ => False) w w'

set_option maxHeartbeats 400000 in
theorem new9 (fan : Nat) (w : World) (h : 4 ≤ fan) (h' : fan ≤ 64) : Calls Try.prog 9 #[.int .i64 fan] w (NewPost w fan) := by
  have j1 : ¬ (fan : Int) < 4 := by omega
  have j2 : ¬ (64 : Int) < fan := by omega
  go_enter Try.func9, Try.ntmps9
  go_wp2
  go_ret2
  have s1 : (w.alloc (.cells #[.slice none 0 0, .slice none 0 0, .slice none 0 0] 62)).heap.size = w.heap.size + 1 := World.size_alloc ..
  refine ⟨w.heap.size + 1, rfl, by omega, ⟨w.heap.size, [w.heap.size], ⟨?_, ?_, by simp, by simp, ⟨[], rfl⟩, by simp [Up, Ux.Up], rfl, by simp [T.size], .inl rfl, h, h'⟩, by simp⟩, ?_⟩
  · rw [← s1]; exact heap_alloc_new _ _
  · refine ⟨.slice none 0 0, .slice none 0 0, ?_, World.ownsRow_nil _ 0 9 1, World.ownsRow_nil _ 0 3 1, rfl⟩
    exact ((Ux.Touch.refl (fun _ => False) _).alloc _).heap (heap_alloc_new w _) (fun f => f)
  · exact ((Ux.Touch.refl (fun _ => False) w).alloc _).alloc _

end Go.Proofs.Ytdfgpminonpeaaa
