/- A part of the proof that the statement holds for every input that it names. No other condition. -/
import Derived.Test.YtfccjaboicpohaaGreatDoorSortsZ
import Derived.Test.YtfccjaboicpohaaGreatDoorSortBZ
set_option linter.unusedVariables false
set_option linter.unusedSimpArgs false
namespace Go.Proofs.YtfccjaboicpohaaGreatDoor
open Go.RowKit
open Ux (Row StEq Srt TView SCap)
theorem sortsEnd_ (k0 lv:Int) (sh0:Bool) (v:Value) (l:List ByteArray) (w:World) (h:SCap v∧TView w v l) (hT:Tabs w):
 Calls Tryz.prog 6 #[.int .i64 k0,.int .i64 lv,.bool sh0,v] w fun e w'=>e= .returned (.bool true)∧Ux.Touch (fun _=>False) w w':=
 sortsLaw_ k0 lv sh0 v l w h.2 h.1 hT fun g N cs K w0 hN hC hg D=>sym_ g N N cs K w0 hN hC hg D
end Go.Proofs.YtfccjaboicpohaaGreatDoor
