/- A part of the proof that the statement holds for every input that it names. No other condition. -/
import Derived.Test.YtfccjaboicpohaaGreatDoorRefAZ
set_option linter.unusedVariables false
set_option linter.unusedSimpArgs false
namespace Go.Proofs.YtfccjaboicpohaaGreatDoor
open Go.RowKit
open Ux (Ent sv iv findE implE longE atE)
open Ux.Sign (cp raw)
theorem SView.sub {w:World} {g o n c:Nat} {s:List Nat} (h:SView w (.slice (some ⟨g,o,none⟩) n c) s) (i m:Nat) (hm:i+m≤s.length) (c':Nat):SView w (.slice (some ⟨g,o+i,none⟩) m c') ((s.drop i).take m):=by
 obtain ⟨a,k,e,hc⟩:=h
 cases e
 refine ⟨_,c',by rw [List.length_take,List.length_drop,Nat.min_eq_left (by omega)],fun j x hj=>⟨g,o+i,rfl,?_⟩⟩
 have:s[i+j]? =some x:=by
  rw [List.getElem?_take] at hj
  split at hj
  ·rw [List.getElem?_drop] at hj
   exact hj
  ·cases hj
 obtain ⟨g',o',e,h1⟩:=hc _ _ this
 cases e
 rw [Nat.add_assoc]
 exact h1
end Go.Proofs.YtfccjaboicpohaaGreatDoor
