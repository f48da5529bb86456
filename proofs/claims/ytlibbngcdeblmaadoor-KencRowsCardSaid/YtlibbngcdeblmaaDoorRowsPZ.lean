/- PART OF THE PROOF THAT THIS CLAIM HOLDS OF THE GIVEN PROGRAM, FOR EVERY INPUT THAT THE STATEMENT NAMES. No condition besides the statement's own. -/
import Derived.Test.YtlibbngcdeblmaaDoorAwakeZ
import Derived.Test.YtlibbngcdeblmaaDoorRows
import Derived.WalkKit
import Derived.Handy
import Derived.Laws.EntriesVeiled
import Derived.WalkSpells
import Derived.WalkLawsBesides
import Derived.BigQuiet
import Derived.Deep.QuietTactic
import Derived.Deep.Cut
import Derived.Deep.DeepCutAuto
import Derived.Lib.Overlaps
import Derived.Laws.Externs
import Derived.Lib.Hide
import Derived.Test.YtlibbngcdeblmaaDoorUxPlanAllZ
import Derived.Test.YtlibbngcdeblmaaDoorUxTreeAllZ
import Derived.Deep.LoopGhost
namespace Go.Proofs.YtlibbngcdeblmaaDoor
open Go.RowKit
-- imports: YtlibbngcdeblmaaDoorAwake
open Go.RowKit

set_option maxHeartbeats 4000000 in
theorem rows3 (s : ByteArray) (w : World) (hs : s.size ≤ 9223372036854775807) : Calls Tryd.prog 3 #[.string s] w fun e w' => e = .returned (.bool true) ∧ Ux.Touch (fun _ => False) w w' := by
  obtain ⟨a, ha⟩ : ∃ a, (rowIs s.data.toList).1 = a := ⟨_, rfl⟩
  obtain ⟨b, hb⟩ : ∃ b, (rowIs s.data.toList).2 = b := ⟨_, rfl⟩
  have c6 := fun w => row6 s w hs
  have c7 := fun w => row7 s w hs
  simp only [ha, hb] at c6 c7
  have C6 := Lib.hid c6
  have C7 := Lib.hid c7
  have AW := Lib.hid awake8
  clear c6 c7 ha hb hs
  go_enter Tryd.func3, Tryd.ntmps3
  go_wp2_with (first
    | (go_at_call 6; refine (C6.out _).mono ?_; rintro e w' ⟨rfl, rfl⟩)
    | (go_at_call 7; refine (C7.out _).mono ?_; rintro e w' ⟨rfl, rfl⟩)
    | (go_at_call 8; refine (AW.out _).mono ?_; rintro e w' ⟨rfl, ht⟩))
  go_ret
  exact ⟨rfl, ht⟩

end Go.Proofs.YtlibbngcdeblmaaDoor
