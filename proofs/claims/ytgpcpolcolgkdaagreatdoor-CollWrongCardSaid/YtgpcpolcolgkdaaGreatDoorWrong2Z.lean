/- PART OF THE PROOF THAT THIS CLAIM HOLDS OF THE GIVEN PROGRAM, FOR EVERY INPUT THAT THE STATEMENT NAMES. No condition besides the statement's own. -/
import Derived.Test.YtgpcpolcolgkdaaGreatDoorWrongZ
import Derived.Test.YtgpcpolcolgkdaaGreatDoorRows
import Derived.WalkKit
import Derived.Handy
import Derived.Laws.EntriesVeiled
import Derived.WalkSpells
import Derived.WalkLawsBesides
import Derived.BigQuiet
import Derived.Deep.QuietTactic
import Derived.Deep.Cut
import Derived.Deep.DeepCutAuto
import Derived.Lib.Overlaps
import Derived.Laws.Externs
import Derived.Lib.Hide
import Derived.Test.YtgpcpolcolgkdaaGreatDoorUxPlanAllZ
import Derived.Test.YtgpcpolcolgkdaaGreatDoorUxMemAZ
import Derived.Test.YtgpcpolcolgkdaaGreatDoorUxCollAZ
import Derived.Deep.LoopGhost
namespace Go.Proofs.YtgpcpolcolgkdaaGreatDoor
open Go.RowKit
open Go.RowKit
theorem wrongLawE_ (k lv : Int) (sm : Bool) (a b : ByteArray) (w : World) (hT : Tabs w) (ha : a.size ≤ 140737488355328) (hb : b.size ≤ 140737488355328) (_ : -9223372036854775808 ≤ k ∧ k ≤ 9223372036854775807) (_ : -9223372036854775808 ≤ lv ∧ lv ≤ 9223372036854775807) :
    Calls Tryz.prog 9 #[.int .i64 k, .int .i64 lv, .bool sm, .string a, .string b] w fun e w' => e = .returned (.bool true) ∧ Ux.Touch (fun _ => False) w w' := wrongLaw_ k lv sm a b w hT ha hb

end Go.Proofs.YtgpcpolcolgkdaaGreatDoor
