/- PART OF THE PROOF THAT THIS CLAIM HOLDS OF THE GIVEN PROGRAM, FOR EVERY INPUT THAT THE STATEMENT NAMES. No condition besides the statement's own. -/
import Derived.Test.YtjkeiomildghmaaGreatDoorEntsAZ
import Derived.Test.YtjkeiomildghmaaGreatDoorRroot2Z
import Derived.Test.YtjkeiomildghmaaGreatDoorTableAZ
import Derived.Test.YtjkeiomildghmaaGreatDoorRows
import Derived.WalkKit
import Derived.Handy
import Derived.Laws.EntriesVeiled
import Derived.WalkSpells
import Derived.WalkLawsBesides
import Derived.BigQuiet
import Derived.Deep.QuietTactic
import Derived.Deep.Cut
import Derived.Deep.DeepCutAuto
import Derived.Lib.Overlaps
import Derived.Laws.Externs
import Derived.Lib.Hide
import Derived.Test.YtjkeiomildghmaaGreatDoorUxPlanAllZ
import Derived.Test.YtjkeiomildghmaaGreatDoorUxMemAZ
import Derived.Test.YtjkeiomildghmaaGreatDoorUxOrdZ
import Derived.Deep.LoopGhost
namespace Go.Proofs.YtjkeiomildghmaaGreatDoor
open Go.RowKit
open Go.RowKit
open Ux (Ent rootE rootT)

set_option maxHeartbeats 4000000 in
set_option maxRecDepth 100000 in
theorem rootLaw_ (w : World) (hT : Tabs w) (hD : TabD w) : Calls Tryz.prog 6 #[] w fun e w' => e = .returned (.bool true) ∧ Ux.Touch (fun _ => False) w w' := by
  have HT := Lib.hid (And.intro hT hD)
  clear hT hD
  go_enter Tryz.func6, Tryz.ntmps6
  go_wp2_with (go_at_call 15; fail)
  refine (rootT_ w).mono ?_
  rintro e w1 ⟨B, mb, rfl, h1, _, T1⟩
  have H1 := Lib.hid (And.intro h1 T1)
  clear h1 T1
  go_wp2_with (go_at_call 21; fail)
  refine (rroot_ w1).mono ?_
  rintro e w2 ⟨u, rfl, hR, T2⟩
  have HL := Lib.hid (like_ B mb rootE (rootT 132) u _ w2 (H1.out.1.touch0 T2) (by rw [Ux.rootE_len]; decide) Ux.same_root hR)
  have H2 := Lib.hid (And.intro T2 (H1.out.2.trans T2 fun _ _ f => f))
  clear hR T2
  go_wp2_with (go_at_call 28; fail)
  refine HL.out.mono ?_
  rintro e w3 ⟨rfl, T3⟩
  have H3 := Lib.hid (And.intro (H2.out.1.trans T3 fun _ _ f => f) (H2.out.2.trans T3 fun _ _ f => f))
  clear T3
  have hck := check_ B mb rootE w3 (H1.out.1.touch0 H3.out.1) rootE_sig
  rw [rootE_check] at hck
  have HCK := Lib.hid hck
  clear hck
  go_wp2_with (go_at_call 20; fail)
  refine HCK.out.mono ?_
  rintro e w4 ⟨rfl, T4⟩
  have H4 := Lib.hid (H3.out.2.trans T4 fun _ _ f => f)
  clear T4
  go_wp2_with (go_at_call 13; fail)
  refine (awake5_ w4 (HT.out.1.touch H4.out) (HT.out.2.touch H4.out)).mono ?_
  rintro e w5 ⟨rfl, T5⟩
  go_wp2
  go_ret
  exact ⟨rfl, H4.out.trans T5 fun _ _ f => f⟩

end Go.Proofs.YtjkeiomildghmaaGreatDoor
