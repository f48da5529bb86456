/- A part of the proof that the statement holds for every input that it names. No other condition. -/
import Derived.Test.YtmnkinaaoifpeaaGreatDoorUxCollAZ
import Derived.Test.YtmnkinaaoifpeaaGreatDoorElemAZ
import Derived.Test.YtmnkinaaoifpeaaGreatDoorTableAZ
set_option linter.unusedVariables false
set_option linter.unusedSimpArgs false
namespace Go.Proofs.YtmnkinaaoifpeaaGreatDoor
open Go.RowKit
open Go.RowKit Go.Lib
open Ux (Row iv sv ev Grow eV)
def cV (kd lv:Int) (sh bk:Bool) (tb:Option Addr):Value:= .agg #[.int .i64 kd,.int .i64 lv,.bool sh,.bool bk,.pointer tb]
end Go.Proofs.YtmnkinaaoifpeaaGreatDoor
