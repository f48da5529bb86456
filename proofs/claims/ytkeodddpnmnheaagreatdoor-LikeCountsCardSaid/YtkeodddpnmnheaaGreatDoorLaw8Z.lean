/- PART OF THE PROOF THAT THIS CLAIM HOLDS OF THE GIVEN PROGRAM, FOR EVERY INPUT THAT THE STATEMENT NAMES. No condition besides the statement's own. -/
import Derived.Test.YtkeodddpnmnheaaGreatDoorAlikeZ
import Derived.Test.YtkeodddpnmnheaaGreatDoorRows
import Derived.WalkKit
import Derived.Handy
import Derived.Laws.EntriesVeiled
import Derived.WalkSpells
import Derived.WalkLawsBesides
import Derived.BigQuiet
import Derived.Deep.QuietTactic
import Derived.Deep.Cut
import Derived.Deep.DeepCutAuto
import Derived.Lib.Overlaps
import Derived.Laws.Externs
import Derived.Lib.Hide
import Derived.Test.YtkeodddpnmnheaaGreatDoorUxPlanAllZ
import Derived.Test.YtkeodddpnmnheaaGreatDoorUxMemAZ
import Derived.Test.YtkeodddpnmnheaaGreatDoorUxCollAZ
import Derived.Deep.LoopGhost
namespace Go.Proofs.YtkeodddpnmnheaaGreatDoor
open Go.RowKit
open Go.RowKit

/-- a collation of the document's, of bytes or of small signs, as a value -/
def rcollV (k : Int) : Value := .agg #[.int .i64 k, .int .i64 0, .bool false, .bool false, .slice none 0 0]

set_option maxHeartbeats 2000000 in
set_option maxRecDepth 100000 in
theorem lawMake_ (k lv : Int) (hk : k = 1 ∨ k = 2) (sh bk : Bool) (t : ByteArray) (w : World) :
    Calls Tryz.prog 18 #[.int .i64 k, .int .i64 lv, .bool sh, .bool bk, .string t] w fun e w' => e = .returned (.tuple #[collV k, rcollV k, .bool true]) ∧ Ux.Touch (fun _ => False) w w' := by
  unfold collV rcollV
  rcases hk with rfl | rfl
  all_goals
    go_enter Tryz.func18, Tryz.ntmps18
    go_wp2
    go_returns
    exact ⟨rfl, ((Ux.Touch.refl _ w).alloc _).alloc _⟩

end Go.Proofs.YtkeodddpnmnheaaGreatDoor
