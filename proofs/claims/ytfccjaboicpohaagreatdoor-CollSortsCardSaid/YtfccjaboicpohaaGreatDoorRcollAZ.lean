/- A part of the proof that the statement holds for every input that it names. No other condition. -/
import Derived.Test.YtfccjaboicpohaaGreatDoorUxCollAZ
import Derived.Test.YtfccjaboicpohaaGreatDoorRefBZ
import Derived.Test.YtfccjaboicpohaaGreatDoorReadBZ
set_option linter.unusedVariables false
set_option linter.unusedSimpArgs false
namespace Go.Proofs.YtfccjaboicpohaaGreatDoor
open Go.RowKit
open Ux (iv sv Ent wts wghC slt cmpI cmpL okT)
open Ux.Sign (cp raw signs)
theorem cmpL_drop {la lb:List Int} {i:Nat} {x y:Int} (hx:la[i]? =some x) (hy:lb[i]? =some y):cmpL (la.drop i) (lb.drop i)=if cmpI x y=0 then cmpL (la.drop (i+1)) (lb.drop (i+1)) else cmpI x y:=by
 rw [Ux.drop_get hx,Ux.drop_get hy]
 rfl
theorem cmpL_end {la lb:List Int} {i:Nat} (h:la.length≤i∨lb.length≤i) (h1:i≤la.length) (h2:i≤lb.length):cmpL (la.drop i) (lb.drop i)=cmpI la.length lb.length:=by
 have e1:(la.drop i).length=la.length-i:=List.length_drop
 have e2:(lb.drop i).length=lb.length-i:=List.length_drop
 have key: ∀(p q:List Int),(p.length=0∨q.length=0)→cmpL p q=cmpI p.length q.length:=by
  intro p q hpq
  cases p with
  |nil=>
   cases q with
   |nil=>rfl
   |cons y q=>
    show (-1:Int)=_
    unfold cmpI
    rw [if_pos (by simp<;>omega)]
  |cons x p=>
   cases q with
   |nil=>
    show (1:Int)=_
    unfold cmpI
    rw [if_neg (by simp<;>omega),if_pos (by simp<;>omega)]
   |cons y q=>simp at hpq
 rw [key _ _ (by omega),e1,e2]
 unfold cmpI
 by_cases c1:(la.length:Int)<lb.length
 ·rw [if_pos c1,if_pos (by omega)]
 ·rw [if_neg c1,if_neg (by omega)]
  by_cases c2:(lb.length:Int)<la.length
  ·rw [if_pos c2,if_pos (by omega)]
  ·rw [if_neg c2,if_neg (by omega)]
end Go.Proofs.YtfccjaboicpohaaGreatDoor
