/- A part of the proof that the statement holds for every input that it names. No other condition. -/
import Derived.Test.YtmnkinaaoifpeaaGreatDoorUxEndsZ
import Derived.Test.YtmnkinaaoifpeaaGreatDoorCards
import Derived.Test.YtmnkinaaoifpeaaGreatDoorShelfZ
import Derived.Lay
import Derived.LaidOnce
import Derived.SevenTiedAt
import Derived.Deep.DeepHandedRow
import Derived.Lib.SmallJoins
import Derived.Lib.LaidU8T
import Derived.PinnedBridge
import Derived.Handy
import Derived.Laws.EntriesVeiled
import Derived.WalkSpells
import Derived.WalkLawsBesides
import Derived.Deep.DeepCutAuto
import Derived.Lib.Overlaps
import Derived.Lib.Hide
import Derived.Test.YtmnkinaaoifpeaaGreatDoorUxPlanAllZ
import Derived.Test.YtmnkinaaoifpeaaGreatDoorUxMemAZ
import Derived.Test.YtmnkinaaoifpeaaGreatDoorUxCollAZ
set_option linter.unusedVariables false
set_option linter.unusedSimpArgs false
namespace Go.Proofs.YtmnkinaaoifpeaaGreatDoor
open Go.RowKit
open Go.ChangeShapes Go.WideShapes Go.ChangeAt Go.Lib
theorem own:ownKnob Tryz.prog.godebug=none:=by kernel_rfl
theorem laidOut:laidOutB Tryz.prog=true:=by kernel_rfl
theorem jmr:mapsRowed Tryz.prog=true:=by kernel_rfl
theorem jpk:Tryz.prog.plainKeys=false:=by kernel_rfl
theorem jsh:Tryz.prog.stopsHeard=true:=by kernel_rfl
theorem jme:Tryz.prog.mayEnter=true:=by kernel_rfl
theorem jlf:Tryz.prog.liftsFinal=false:=by kernel_rfl
theorem u8x:U8Extra Tryz.prog Tryz.lays260_ren:=⟨by kernel_rfl,by kernel_rfl,by kernel_rfl,by kernel_rfl,by kernel_rfl,by kernel_rfl,by kernel_rfl⟩
theorem acc_eq:Rows.laid_unicode_utf8_acceptRanges (H:=Unit)=acceptData:=by kernel_rfl
theorem first_eq:Rows.laid_unicode_utf8_first=firstData:=Pinned.utf8First_eq
end Go.Proofs.YtmnkinaaoifpeaaGreatDoor
