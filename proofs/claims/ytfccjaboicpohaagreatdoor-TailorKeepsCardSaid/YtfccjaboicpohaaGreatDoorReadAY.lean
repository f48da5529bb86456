/- A part of the proof that the statement holds for every input that it names. No other condition. -/
import Derived.Test.YtfccjaboicpohaaGreatDoorUxTabAY
import Derived.Test.YtfccjaboicpohaaGreatDoorSignAY
import Derived.Test.YtfccjaboicpohaaGreatDoorTableAY
import Derived.Test.YtfccjaboicpohaaGreatDoorRroot2Y
import Derived.Test.YtfccjaboicpohaaGreatDoorMapsAY
set_option linter.unusedVariables false
set_option linter.unusedSimpArgs false
namespace Go.Proofs.YtfccjaboicpohaaGreatDoor
open Go.RowKit
open Ux (Row iv sv Ent rootE rootT)
open Ux.Sign (cp raw signs)
theorem clipR_none (w:World):Calls Tryz.prog 141 #[.slice none 0 0] w fun e w'=>e= .returned (.slice none 0 0)∧w'=w:=by
 go_enter Tryz.func141,Tryz.ntmps141
 go_wp2
 go_ret
 exact ⟨rfl,rfl⟩
end Go.Proofs.YtfccjaboicpohaaGreatDoor
namespace Go.Proofs.YtfccjaboicpohaaGreatDoor
open Go.RowKit
open Ux (Ent)
theorem cellIn {w:World} {b j:Nat} {cs:Array Value} {t:TypeId} {u:Value} (h:w.heap[b]? =some (.cells cs t (0,0))) (hc:w.cell? ⟨b,j,none⟩=some u):u∈cs.toList:=by
 rw [cell_of_row w b j _ _ (0,0) h] at hc
 exact List.mem_of_getElem? (by rw [Array.getElem?_toList];exact hc)
theorem TableAt.touchK {R:Nat→Prop} {w w':World} {B mb:Nat} {E:List Ent} (h:TableAt w B mb E) (ht:Ux.Touch R w w')
 (hR: ∀b,R b→∃cs t,w.heap[b]? =some (.cells cs t (0,0))∧t≠56∧t≠141∧∀u∈cs.toList,(∀m,u≠.map m)∧∀z,u≠.int .i32 z):TableAt w' B mb E:=by
 obtain ⟨h1,t,ks,f,h2,⟨bb,c,am,G,g1,g2,g3,g4,g5⟩,h4⟩:=h
 have nm: ∀(b:Nat) (n:Nat) (F:Lit→Option Value) (k:TypeId),Ux.MapIs Tryz.prog k w b n F→¬R b:=fun b n F k hm hb=>by
  obtain ⟨cs,t,e,_,_⟩:=hR b hb
  obtain ⟨D,⟨es,clock,h1,_⟩,_⟩:=hm
  rw [h1] at e
  cases e
 have nB: ¬R B:=fun hb=>by
  obtain ⟨cs,t,e,_,h3,_⟩:=hR B hb
  rw [h2] at e
  cases e
  exact h3 rfl
 have nt: ¬R t:=fun hb=>by
  obtain ⟨cs,t',e,_,_,hs⟩:=hR t hb
  exact (hs _ (cellIn e g2)).1 _ rfl
 refine ⟨h1.touch ht ?_ ?_,t,ks,f,ht.heap h2 nB,⟨bb,c,am,G,ht.cell g1 nt,ht.cell g2 nt,fun j v hv=>ht.cell (g3 j v hv) ?_,g4.touch ht (nm _ _ _ _ g4),g5⟩,h4⟩
 ·obtain ⟨_,F,hm,_⟩:=h1
  exact nm _ _ _ _ hm
 ·intro g cs hg hb
  obtain ⟨cs',t',e,hne,_⟩:=hR g hb
  rw [hg] at e
  cases e
  exact hne rfl
 ·intro hb
  obtain ⟨cs,t',e,_,_,hs⟩:=hR bb hb
  have hm:=List.mem_of_getElem? hv
  unfold blCells at hm
  obtain ⟨x,_,hx⟩:=List.mem_flatMap.1 hm
  obtain ⟨z,_,rfl⟩:=List.mem_map.1 hx
  exact (hs _ (cellIn e (g3 j _ hv))).2 z rfl
end Go.Proofs.YtfccjaboicpohaaGreatDoor
