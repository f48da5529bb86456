/- A part of the proof that the statement holds for every input that it names. No other condition. -/
import Derived.Test.YtikmdhhbamggfaaGreatDoorMadeAX1Z
set_option linter.unusedVariables false
set_option linter.unusedSimpArgs false
namespace Go.Proofs.YtikmdhhbamggfaaGreatDoor
open Go.RowKit
theorem neq_nil (c:Array Value) (w:World):(binOp .eql 42 (.func (.func 68) #[] c) .nilFunc).run Tryz.prog w= .ok (.bool false) w:=by kernel_rfl
end Go.Proofs.YtikmdhhbamggfaaGreatDoor
