/- A part of the proof that the statement holds for every input that it names. No other condition. -/
import Derived.Test.YtfccjaboicpohaaGreatDoorUxRulAY
import Derived.Test.YtfccjaboicpohaaGreatDoorPrsAY
set_option linter.unusedVariables false
set_option linter.unusedSimpArgs false
namespace Go.Proofs.YtfccjaboicpohaaGreatDoor
open Go.RowKit
open Ux (Row iv sv)
open Ux.Sign (signs sg)
open Ux.Rules (isBl isSp blankS relS ltN)
structure RRd (w:World) (q:Nat) (s:ByteArray) (i:Nat) (r:List Nat):Prop where
 blk:w.heap[q]? =some (.cells #[.string s,.int .i64 (i:Int)] 259 (0,0))
 left:Ux.Rules.Left s.data.toList i r
 big:s.size≤1000000
theorem RRd.touch {R:Nat→Prop} {w w':World} {q:Nat} {s:ByteArray} {i:Nat} {r:List Nat} (h:RRd w q s i r) (T:Ux.Touch R w w') (hq: ¬R q):RRd w' q s i r:=⟨T.heap h.blk hq,h.left,h.big⟩
theorem RRd.set {w:World} {q:Nat} {s:ByteArray} {i:Nat} {r:List Nat} (h:RRd w q s i r) {j:Nat} {r':List Nat} (hj:Ux.Rules.Left s.data.toList j r'):RRd (w.setCell ⟨q,1,none⟩ (.int .i64 (j:Int))) q s j r'∧Ux.Touch (fun b=>b=q) w (w.setCell ⟨q,1,none⟩ (.int .i64 (j:Int))):=
 ⟨⟨Ux.setCell_row h.blk 1 _,hj,h.big⟩,(Ux.Touch.refl (fun b=>b=q) w).setCell (p:=⟨q,1,none⟩) (fun _=>rfl) _⟩
theorem RRd.cells {w:World} {q:Nat} {s:ByteArray} {i:Nat} {r:List Nat} (h:RRd w q s i r):w.cell? ⟨q,0,none⟩=some (.string s)∧w.cell? ⟨q,1,none⟩=some (.int .i64 (i:Int))∧w.frozen? ⟨q,1,none⟩=false:=by
 refine ⟨?_,?_,Ux.frozen_row h.blk 1⟩
 ·rw [cell_of_row w q 0 _ _ (0,0) h.blk];rfl
 ·rw [cell_of_row w q 1 _ _ (0,0) h.blk];rfl
theorem RRd.le {w:World} {q:Nat} {s:ByteArray} {i:Nat} {r:List Nat} (h:RRd w q s i r):i≤s.size:=h.left.1
end Go.Proofs.YtfccjaboicpohaaGreatDoor
namespace Go.Proofs.YtfccjaboicpohaaGreatDoor
open Go.RowKit
open Ux (Row iv sv Grow KGrow Tri)
open Ux.Sign (signs sg)
open Ux.Rules (isBl isSp blankS relS ltN seqG seqS ruleS Rul parseG parseS posB)
theorem rrd_kind {w:World} {q:Nat} {s:ByteArray} {i:Nat} {r:List Nat} (h:RRd w q s i r): ∀g cs,w.heap[g]? =some (.cells cs 3 (0,0))→¬(g=q):=fun g cs hk e=>by
 rw [e,h.blk] at hk
 cases hk
def Bun (W0 w:World) (q:Nat) (v:Value) (k:Nat) (xs:List Value) (out:List Rul):Prop:=KGrow w (q+1) 25 3 v k xs∧TriQ w (q+1) xs out∧Ux.Touch (fun b=>b=q) W0 w
theorem Bun.touch {W0 w w':World} {q:Nat} {v:Value} {k:Nat} {xs:List Value} {out:List Rul} (h:Bun W0 w q v k xs out) {s:ByteArray} {i:Nat} {r:List Nat} (hr:RRd w q s i r) {R:Nat→Prop} (T:Ux.Touch R w w') (hR: ∀b,R b→b=q∨w.heap.size≤b):Bun W0 w' q v k xs out:=by
 refine ⟨⟨Ux.own_touch h.1.1 T fun b hb hh=> ?_,h.1.2⟩,h.2.1.touch T fun g cs hk hh=> ?_,h.2.2.trans T fun b hb hh=> ?_⟩
 ·have h1:=h.1.2 b hb
  obtain ⟨cs,hk⟩:=KGrow.kind h.1 hb
  have h2:=Ux.lt_of_heap hk
  rcases hR b hh with e|e<;>omega
 ·have h2:=Ux.lt_of_heap hk
  rcases hR g hh with e|e
  ·exact rrd_kind hr g cs hk e
  ·omega
 ·have h2:=h.2.2.size
  rcases hR b hh with e|e
  ·exact e
  ·omega
end Go.Proofs.YtfccjaboicpohaaGreatDoor
