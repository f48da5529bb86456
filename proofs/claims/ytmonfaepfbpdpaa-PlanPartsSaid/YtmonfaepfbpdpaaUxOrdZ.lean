/- A part of the proof that the statement holds for every input that it names. No other condition. -/
import Derived.WalkKit
import Derived.Lib.Strings
set_option linter.unusedVariables false
set_option linter.unusedSimpArgs false
namespace Go.Ux
open Go
def slt (a b:ByteArray):Bool:=Op.bytesLess a.toList b.toList
def lb (ks:List ByteArray) (k:ByteArray):Nat:=(ks.takeWhile (slt · k)).length
def has (ks:List ByteArray) (k:ByteArray):Bool:=decide (ks[lb ks k]? =some k)
end Go.Ux
