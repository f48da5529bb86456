/- PART OF THE PROOF THAT THIS CLAIM HOLDS OF THE GIVEN PROGRAM, FOR EVERY INPUT THAT THE STATEMENT NAMES. No condition besides the statement's own. -/
import Derived.Test.YtgpcpolcolgkdaaGreatDoorShiftsZ
import Derived.Test.YtgpcpolcolgkdaaGreatDoorRows
import Derived.WalkKit
import Derived.Handy
import Derived.Laws.EntriesVeiled
import Derived.WalkSpells
import Derived.WalkLawsBesides
import Derived.BigQuiet
import Derived.Deep.QuietTactic
import Derived.Deep.Cut
import Derived.Deep.DeepCutAuto
import Derived.Lib.Overlaps
import Derived.Laws.Externs
import Derived.Lib.Hide
import Derived.Test.YtgpcpolcolgkdaaGreatDoorUxPlanAllZ
import Derived.Test.YtgpcpolcolgkdaaGreatDoorUxMemAZ
import Derived.Test.YtgpcpolcolgkdaaGreatDoorUxCollAZ
import Derived.Deep.LoopGhost
namespace Go.Proofs.YtgpcpolcolgkdaaGreatDoor
open Go.RowKit
open Go.RowKit
theorem shiftsLawE_ (s : ByteArray) (at' k lv : Int) (w : World) (hT : Tabs w) (hs : s.size ≤ 140737488355328) (ha : -9223372036854775808 ≤ at' ∧ at' ≤ 9223372036854775807) (_ : -9223372036854775808 ≤ k ∧ k ≤ 9223372036854775807) (_ : -9223372036854775808 ≤ lv ∧ lv ≤ 9223372036854775807) :
    Calls Tryz.prog 3 #[.string s, .int .i64 at', .int .i64 k, .int .i64 lv] w fun e w' => e = .returned (.bool true) ∧ Ux.Touch (fun _ => False) w w' := shiftsLaw_ s at' k lv w hT hs ha

end Go.Proofs.YtgpcpolcolgkdaaGreatDoor
