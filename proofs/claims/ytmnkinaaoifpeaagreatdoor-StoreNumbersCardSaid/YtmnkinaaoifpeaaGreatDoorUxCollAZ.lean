/- A part of the proof that the statement holds for every input that it names. No other condition. -/
import Derived.WalkKit
import Derived.Lib.Strings
import Derived.Test.YtmnkinaaoifpeaaGreatDoorUxMemAZ
import Derived.Test.YtmnkinaaoifpeaaGreatDoorUxNumAZ
import Derived.Test.YtmnkinaaoifpeaaGreatDoorUxTabAZ
set_option linter.unusedVariables false
set_option linter.unusedSimpArgs false
namespace Go.Ux
open Go
def slt (a b:ByteArray):Bool:=Op.bytesLess a.toList b.toList
def lb (ks:List ByteArray) (k:ByteArray):Nat:=(ks.takeWhile (slt · k)).length
def has (ks:List ByteArray) (k:ByteArray):Bool:=decide (ks[lb ks k]? =some k)
end Go.Ux
namespace Go.Ux
open Go Go.RowKit
variable {w w':World} {lo:Nat} {t:TypeId}
theorem Touch.setCells {R:Nat→Prop} {a:World} {b:Nat} (hb:b<a.heap.size→R b): ∀(vs:List Value) (o:Nat) (w:World),Touch R a w→Touch R a (w.setCells b o vs)
 | [],_,_,h=>h
 |v::vs,o,w,h=>by
  rw [World.setCells]
  exact Touch.setCells hb vs (o+1) _ (h.setCell (p:=⟨b,o,none⟩) hb v)
end Go.Ux
