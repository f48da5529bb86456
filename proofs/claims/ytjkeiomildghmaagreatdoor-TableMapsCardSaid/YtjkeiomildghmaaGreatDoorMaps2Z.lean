/- PART OF THE PROOF THAT THIS CLAIM HOLDS OF THE GIVEN PROGRAM, FOR EVERY INPUT THAT THE STATEMENT NAMES. No condition besides the statement's own. -/
import Derived.Test.YtjkeiomildghmaaGreatDoorMapslawZ
import Derived.Test.YtjkeiomildghmaaGreatDoorRroot2Z
import Derived.Test.YtjkeiomildghmaaGreatDoorRows
import Derived.WalkKit
import Derived.Handy
import Derived.Laws.EntriesVeiled
import Derived.WalkSpells
import Derived.WalkLawsBesides
import Derived.BigQuiet
import Derived.Deep.QuietTactic
import Derived.Deep.Cut
import Derived.Deep.DeepCutAuto
import Derived.Lib.Overlaps
import Derived.Laws.Externs
import Derived.Lib.Hide
import Derived.Test.YtjkeiomildghmaaGreatDoorUxPlanAllZ
import Derived.Test.YtjkeiomildghmaaGreatDoorUxMemAZ
import Derived.Test.YtjkeiomildghmaaGreatDoorUxOrdZ
import Derived.Deep.LoopGhost
namespace Go.Proofs.YtjkeiomildghmaaGreatDoor
open Go.RowKit
open Go.RowKit
theorem mapsLaw_ (m : Int) (w : World) (hT : Tabs w) (hD : TabD w) (hm : 0 ≤ m ∧ m ≤ 4294967295) : Calls Tryz.prog 7 #[.int .u32 m] w fun e w' => e = .returned (.bool true) ∧ Ux.Touch (fun _ => False) w w' := by
  obtain ⟨n, rfl⟩ : ∃ n : Nat, m = n := ⟨m.toNat, by omega⟩
  exact mapsLaw0_ rroot_ n (by omega) w hT hD

end Go.Proofs.YtjkeiomildghmaaGreatDoor
