/- PART OF THE PROOF THAT THIS CLAIM HOLDS OF THE GIVEN PROGRAM, FOR EVERY INPUT THAT THE STATEMENT NAMES. No condition besides the statement's own. -/
import Derived.Test.YtlibbngcdeblmaaDoorEscZ
import Derived.Test.YtlibbngcdeblmaaDoorRows
import Derived.WalkKit
import Derived.Handy
import Derived.Laws.EntriesVeiled
import Derived.WalkSpells
import Derived.WalkLawsBesides
import Derived.BigQuiet
import Derived.Deep.QuietTactic
import Derived.Deep.Cut
import Derived.Deep.DeepCutAuto
import Derived.Lib.Overlaps
import Derived.Laws.Externs
import Derived.Lib.Hide
import Derived.Test.YtlibbngcdeblmaaDoorUxPlanAllZ
import Derived.Test.YtlibbngcdeblmaaDoorUxTreeAllZ
import Derived.Deep.LoopGhost
namespace Go.Proofs.YtlibbngcdeblmaaDoor
open Go.RowKit
-- imports: YtlibbngcdeblmaaDoorEsc
open Go.RowKit

set_option maxHeartbeats 4000000 in
theorem boolTrue (w : World) : Calls Tryd.prog 17 #[.bool true] w fun e w' => e = .returned (.agg #[.int .i64 1, .int .i64 1, .string ⟨#[]⟩]) ∧ Ux.Touch (fun _ => False) w w' := by
  go_enter Tryd.func17, Tryd.ntmps17
  go_wp2
  go_returns
  refine ⟨rfl, ?_⟩
  exact (Ux.Touch.refl _ w).alloc _

set_option maxHeartbeats 4000000 in
set_option maxRecDepth 100000 in
theorem awake8 (w : World) : Calls Tryd.prog 8 #[] w fun e w' => e = .returned (.bool true) ∧ Ux.Touch (fun _ => False) w w' := by
  have cN := Lib.hid valueNull
  have cT := Lib.hid valueTrue
  have cB := Lib.hid boolTrue
  have cE := Lib.hid escapeA
  go_enter Tryd.func8, Tryd.ntmps8
  go_wp2_with (go_at_call 15; fail)
  refine (cN.out _).mono ?_
  rintro e w1 ⟨rfl, ht1⟩
  have HT1 := Lib.hid ht1
  clear ht1
  go_wp2_with (go_at_call 17; refine (cB.out _).mono ?_; rintro e w2 ⟨rfl, ht⟩; have HT2 := Lib.hid ht; clear ht)
  go_goals
  refine (cT.out _).mono ?_
  rintro e w3 ⟨rfl, ht3⟩
  have HT3 := Lib.hid ht3
  clear ht3
  go_wp2_with (go_at_call 9; refine (cE.out _).mono ?_; rintro e w4 ⟨rfl, ht⟩; have HT4 := Lib.hid ht; clear ht)
  go_goals
  go_ret
  exact ⟨rfl, ((HT1.out.trans HT2.out (fun _ _ h => h)).trans HT3.out (fun _ _ h => h)).trans HT4.out (fun _ _ h => h)⟩

end Go.Proofs.YtlibbngcdeblmaaDoor
