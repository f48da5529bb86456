/- A part of the proof that the statement holds for every input that it names. No other condition. -/
import Derived.Test.YtclffhpdekepkaaDoorUxEndsZ
import Derived.Test.YtclffhpdekepkaaDoorCards
import Derived.Test.YtclffhpdekepkaaDoorShelfZ
import Derived.Lay
import Derived.LaidOnce
import Derived.SevenTiedAt
import Derived.Deep.DeepHandedRow
import Derived.Lib.SmallJoins
import Derived.Lib.LaidU8T
import Derived.PinnedBridge
import Derived.Handy
import Derived.Laws.EntriesVeiled
import Derived.WalkSpells
import Derived.WalkLawsBesides
import Derived.Lib.Overlaps
import Derived.Test.YtclffhpdekepkaaDoorUxPlanAllZ
import Derived.Test.YtclffhpdekepkaaDoorUxMemAZ
import Derived.Test.YtclffhpdekepkaaDoorUxCollAZ
set_option linter.unusedVariables false
set_option linter.unusedSimpArgs false
namespace Go.Proofs.YtclffhpdekepkaaDoor
open Go.RowKit
open Go.ChangeShapes Go.WideShapes Go.ChangeAt Go.Lib
theorem own:ownKnob Tryd.prog.godebug=none:=by kernel_rfl
theorem laidOut:laidOutB Tryd.prog=true:=by kernel_rfl
theorem jmr:mapsRowed Tryd.prog=true:=by kernel_rfl
theorem jpk:Tryd.prog.plainKeys=false:=by kernel_rfl
theorem jsh:Tryd.prog.stopsHeard=true:=by kernel_rfl
theorem jme:Tryd.prog.mayEnter=true:=by kernel_rfl
theorem jlf:Tryd.prog.liftsFinal=false:=by kernel_rfl
theorem u8x:U8Extra Tryd.prog Tryd.lays260_ren:=⟨by kernel_rfl,by kernel_rfl,by kernel_rfl,by kernel_rfl,by kernel_rfl,by kernel_rfl,by kernel_rfl⟩
theorem acc_eq:Rows.laid_unicode_utf8_acceptRanges (H:=Unit)=acceptData:=by kernel_rfl
theorem first_eq:Rows.laid_unicode_utf8_first=firstData:=Pinned.utf8First_eq
end Go.Proofs.YtclffhpdekepkaaDoor
