/- PART OF THE PROOF THAT THIS CLAIM HOLDS OF THE GIVEN PROGRAM, FOR EVERY INPUT THAT THE STATEMENT NAMES. No condition besides the statement's own. -/
import Derived.Test.YtlibbngcdeblmaaDoorTurnZ
import Derived.Test.YtlibbngcdeblmaaDoorUxBytesZ
import Derived.Test.YtlibbngcdeblmaaDoorRows
import Derived.WalkKit
import Derived.Handy
import Derived.Laws.EntriesVeiled
import Derived.WalkSpells
import Derived.WalkLawsBesides
import Derived.BigQuiet
import Derived.Deep.QuietTactic
import Derived.Deep.Cut
import Derived.Deep.DeepCutAuto
import Derived.Lib.Overlaps
import Derived.Laws.Externs
import Derived.Lib.Hide
import Derived.Test.YtlibbngcdeblmaaDoorUxPlanAllZ
import Derived.Test.YtlibbngcdeblmaaDoorUxTreeAllZ
import Derived.Deep.LoopGhost
namespace Go.Proofs.YtlibbngcdeblmaaDoor
open Go.RowKit
-- imports: YtlibbngcdeblmaaDoorTurn UxBytes
open Go.RowKit

def coll0 : Array Value := #[.int .i64 0, .int .i64 0, .bool false, .bool false, .pointer none]

set_option maxHeartbeats 4000000 in
theorem isNull (w : World) : Calls Tryd.prog 23 #[.agg #[.int .i64 0, .int .i64 0, .string ⟨#[]⟩]] w fun e w' => e = .returned (.agg #[.int .i64 0, .int .i64 0, .string ⟨#[]⟩]) ∧ w' = ((w.alloc (.cells #[.int .i64 0, .int .i64 0, .string ⟨#[]⟩] 36)).alloc (.cells #[.int .i64 0, .int .i64 0, .string ⟨#[]⟩] 36)).alloc (.cells #[.int .i64 0, .int .i64 0, .string ⟨#[]⟩] 36) := by
  go_enter Tryd.func23, Tryd.ntmps23
  go_wp2
  go_returns
  exact ⟨rfl, rfl⟩
set_option maxHeartbeats 4000000 in
theorem isTrue (w : World) : Calls Tryd.prog 23 #[.agg #[.int .i64 1, .int .i64 1, .string ⟨#[]⟩]] w fun e w' => e = .returned (.agg #[.int .i64 1, .int .i64 1, .string ⟨#[]⟩]) ∧ w' = ((w.alloc (.cells #[.int .i64 1, .int .i64 1, .string ⟨#[]⟩] 36)).alloc (.cells #[.int .i64 1, .int .i64 1, .string ⟨#[]⟩] 36)).alloc (.cells #[.int .i64 1, .int .i64 1, .string ⟨#[]⟩] 36) := by
  go_enter Tryd.func23, Tryd.ntmps23
  go_wp2
  go_returns
  exact ⟨rfl, rfl⟩

set_option maxHeartbeats 4000000 in
set_option maxRecDepth 100000 in
theorem valueNull (w : World) : Calls Tryd.prog 15 #[.agg #[.int .i64 0, .int .i64 0, .string ⟨#[]⟩], .agg #[.int .i64 0, .int .i64 0, .bool false, .bool false, .pointer none, .bool false]] w fun e w' => e = .returned (.string ⟨#[1]⟩) ∧ Ux.Touch (fun _ => False) w w' := by
  have c23 := Lib.hid isNull
  go_enter Tryd.func15, Tryd.ntmps15
  go_wp2_with (first
    | (go_at_call 23; refine (c23.out _).mono ?_; rintro e w2 ⟨rfl, rfl⟩)
    | (refine Ux.is_convert 52 9 rfl ?_; refine Ux.wpList_bytes [1] rfl 52 9 5 _ rfl _ _ rfl Tryd.underlying52 Tryd.underlying5 Tryd.underlying9 ?_ ?_))
  · intro j hj
    have hj0 : j = 0 := by simp at hj; omega
    subst hj0
    simp [Addr.add_lit, go_sem]
  · go_returns
    exact ⟨rfl, ((((((Ux.Touch.refl _ w).alloc _).alloc _).alloc _).alloc _).alloc _).alloc _⟩

theorem turn_two : Ux.turn [2, 1] = [253, 254] := by decide
set_option maxHeartbeats 4000000 in
set_option maxRecDepth 100000 in
theorem valueTrue (w : World) : Calls Tryd.prog 15 #[.agg #[.int .i64 1, .int .i64 1, .string ⟨#[]⟩], .agg #[.int .i64 0, .int .i64 0, .bool false, .bool false, .pointer none, .bool true]] w fun e w' => e = .returned (.string ⟨#[253, 254]⟩) ∧ Ux.Touch (fun _ => False) w w' := by
  have c23 := Lib.hid isTrue
  have c21 : ∀ w, Calls Tryd.prog 21 #[.string ⟨#[2, 1]⟩] w fun e w' => e = .returned (.string ⟨#[253, 254]⟩) ∧ Ux.Touch (fun _ => False) w w' := fun w => by
    have := turn21 ⟨#[2, 1]⟩ w (by decide)
    rw [show (⟨#[2, 1]⟩ : ByteArray).data.toList = [2, 1] from rfl, turn_two] at this
    exact this
  have C21 := Lib.hid c21
  clear c21
  go_enter Tryd.func15, Tryd.ntmps15
  go_wp2_with (first
    | (go_at_call 23; refine (c23.out _).mono ?_; rintro e w2 ⟨rfl, rfl⟩)
    | (go_at_call 21; refine (C21.out _).mono ?_; rintro e w3 ⟨rfl, ht⟩; have HT := Lib.hid ht; clear ht)
    | (refine Ux.is_convert 52 9 rfl ?_; refine Ux.wpList_bytes [2, 1] rfl 52 9 5 _ rfl _ _ rfl Tryd.underlying52 Tryd.underlying5 Tryd.underlying9 ?_ ?_))
  · intro j hj
    have hj0 : j = 0 ∨ j = 1 := by simp at hj; omega
    rcases hj0 with rfl | rfl <;> simp [Addr.add_lit, go_sem]
  · go_returns
    exact ⟨rfl, (((((((Ux.Touch.refl _ w).alloc _).alloc _).alloc _).alloc _).alloc _).alloc _).trans HT.out (fun _ _ h => h)⟩

end Go.Proofs.YtlibbngcdeblmaaDoor
