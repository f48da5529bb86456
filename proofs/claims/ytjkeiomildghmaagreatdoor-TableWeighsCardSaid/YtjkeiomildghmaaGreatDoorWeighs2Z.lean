/- PART OF THE PROOF THAT THIS CLAIM HOLDS OF THE GIVEN PROGRAM, FOR EVERY INPUT THAT THE STATEMENT NAMES. No condition besides the statement's own. -/
import Derived.Test.YtjkeiomildghmaaGreatDoorWeighsZ
import Derived.Test.YtjkeiomildghmaaGreatDoorRroot2Z
import Derived.Test.YtjkeiomildghmaaGreatDoorRows
import Derived.WalkKit
import Derived.Handy
import Derived.Laws.EntriesVeiled
import Derived.WalkSpells
import Derived.WalkLawsBesides
import Derived.BigQuiet
import Derived.Deep.QuietTactic
import Derived.Deep.Cut
import Derived.Deep.DeepCutAuto
import Derived.Lib.Overlaps
import Derived.Laws.Externs
import Derived.Lib.Hide
import Derived.Test.YtjkeiomildghmaaGreatDoorUxPlanAllZ
import Derived.Test.YtjkeiomildghmaaGreatDoorUxMemAZ
import Derived.Test.YtjkeiomildghmaaGreatDoorUxOrdZ
import Derived.Deep.LoopGhost
namespace Go.Proofs.YtjkeiomildghmaaGreatDoor
open Go.RowKit
open Go.RowKit
open Ux (OpsView)
theorem weighsLaw_ (b : ByteArray) (v : Value) (l : List (List Int × List Int)) (at' : Int) (w : World) (hv : OpsView w v l) (hT : Tabs w) (hD : TabD w) : Calls Tryz.prog 5 #[.string b, v, .int .i64 at'] w fun e w' => e = .returned (.bool true) ∧ Ux.Touch (fun _ => False) w w' :=
  weighsLaw0_ rroot_ b v l at' w hv hT hD

end Go.Proofs.YtjkeiomildghmaaGreatDoor
