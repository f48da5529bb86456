/- A part of the proof that the statement holds for every input that it names. No other condition. -/
import Derived.IntWalk
set_option linter.unusedVariables false
set_option linter.unusedSimpArgs false
namespace Go.Ux.Trie
open Go
abbrev Pr:=Int×Int
def blk (f:Int→Int) (i:Int):List Int:=(List.range 64).map fun (j:Nat)=>f (64*i+(j:Int))
def apart (l:List Pr):Prop:=l.Pairwise fun p q=>p.1≠q.1
end Go.Ux.Trie
