/- PART OF THE PROOF THAT THIS CLAIM HOLDS OF THE GIVEN PROGRAM, FOR EVERY INPUT THAT THE STATEMENT NAMES. No condition besides the statement's own. -/
import Derived.Test.YtgpcpolcolgkdaaGreatDoorCasesZ
import Derived.Test.YtgpcpolcolgkdaaGreatDoorRows
import Derived.WalkKit
import Derived.Handy
import Derived.Laws.EntriesVeiled
import Derived.WalkSpells
import Derived.WalkLawsBesides
import Derived.BigQuiet
import Derived.Deep.QuietTactic
import Derived.Deep.Cut
import Derived.Deep.DeepCutAuto
import Derived.Lib.Overlaps
import Derived.Laws.Externs
import Derived.Lib.Hide
import Derived.Test.YtgpcpolcolgkdaaGreatDoorUxPlanAllZ
import Derived.Test.YtgpcpolcolgkdaaGreatDoorUxMemAZ
import Derived.Test.YtgpcpolcolgkdaaGreatDoorUxCollAZ
import Derived.Deep.LoopGhost
namespace Go.Proofs.YtgpcpolcolgkdaaGreatDoor
open Go.RowKit
open Go.RowKit
theorem casesLawE_ (s : ByteArray) (great more : Int) (w : World) (hT : Tabs w) (hs : s.size ≤ 140737488355328) (_ : -9223372036854775808 ≤ great ∧ great ≤ 9223372036854775807) (hm : 0 ≤ more ∧ more ≤ 255) :
    Calls Tryz.prog 5 #[.string s, .int .i64 great, .int .u8 more] w fun e w' => e = .returned (.bool true) ∧ Ux.Touch (fun _ => False) w w' := casesLaw_ s great more w hT hs hm

end Go.Proofs.YtgpcpolcolgkdaaGreatDoor
