/- PART OF THE PROOF THAT THIS CLAIM HOLDS OF THE GIVEN PROGRAM, FOR EVERY INPUT THAT THE STATEMENT NAMES. No condition besides the statement's own. -/
import Derived.Test.YtlibbngcdeblmaaDoorValueZ
import Derived.Lib.Bytealg
import Derived.Test.YtlibbngcdeblmaaDoorRows
import Derived.WalkKit
import Derived.Handy
import Derived.Laws.EntriesVeiled
import Derived.WalkSpells
import Derived.WalkLawsBesides
import Derived.BigQuiet
import Derived.Deep.QuietTactic
import Derived.Deep.Cut
import Derived.Deep.DeepCutAuto
import Derived.Lib.Overlaps
import Derived.Laws.Externs
import Derived.Lib.Hide
import Derived.Test.YtlibbngcdeblmaaDoorUxPlanAllZ
import Derived.Test.YtlibbngcdeblmaaDoorUxTreeAllZ
import Derived.Deep.LoopGhost
namespace Go.Proofs.YtlibbngcdeblmaaDoor
open Go.RowKit
-- imports: YtlibbngcdeblmaaDoorValue Derived.Lib.Bytealg
open Go.RowKit

set_option maxHeartbeats 4000000 in
set_option maxRecDepth 100000 in
theorem escapeA (w : World) : Calls Tryd.prog 9 #[.string ⟨#[97]⟩] w fun e w' => e = .returned (.string ⟨#[97, 0, 1]⟩) ∧ Ux.Touch (fun _ => False) w w' := by
  go_enter Tryd.func9, Tryd.ntmps9
  go_wp2
  rw [run_callFunc_extern Tryd.func44 (by kernel_rfl) (by kernel_rfl) (by kernel_rfl) (e := Extern.BytealgCount.count) (by kernel_rfl), Lib.run_countString]
  rw [show ((((⟨#[0]⟩ : ByteArray)[0]'(by decide)).toNat : Nat) : Int) = 0 from rfl]
  rw [show (((Lib.countByte (⟨#[97]⟩ : ByteArray).data.toList (Int.toNat 0).toUInt8) : Nat) : Int) = 0 from by decide]
  simp only [Result.andThen]
  rw [Oper.upon_value]
  go_wp2
  go_ret
  exact ⟨rfl, Ux.Touch.refl _ _⟩

end Go.Proofs.YtlibbngcdeblmaaDoor
