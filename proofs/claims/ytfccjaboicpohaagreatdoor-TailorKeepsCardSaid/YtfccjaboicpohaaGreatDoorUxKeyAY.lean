/- A part of the proof that the statement holds for every input that it names. No other condition. -/
import Derived.Test.YtfccjaboicpohaaGreatDoorUxCollAY
set_option linter.unusedVariables false
set_option linter.unusedSimpArgs false
namespace Go.Ux
open Go Go.RowKit
variable {P:Program}
theorem Row.app {w:World} {lo:Nat} {e:TypeId} {v:Value} {xs:List Value} (h:Row w lo e v xs) (t:TypeId) (bytes:Nat) (z:Value) (ht:P.underlying t=some (.slice e))
 (hi:(P.info? e).map (fun i=>(i.zero,i.size,i.bytes))=some (some z,1,bytes)) (hzs:z.cells.size=1) (x:Value) (m:Nat) (ys:List Value) (hs:Src P 1 t x m ys w) (hl:ys.length=m) (hlo:lo≤w.heap.size)
 (h63:xs.length+m≤maxLen) (hb:(xs.length+m)*bytes≤140737488355328):
 ∃r w',(∀ty,(Builtin.append_ #[t,t] ty #[v,x]).run P w= .ok r w')∧Row w' lo e r (xs++ys)∧Touch (fun b=>lo≤b∧v.ownBlock=some b) w w':=by
 rcases h with ⟨rfl,rfl⟩|⟨g,c,cur,rfl,hg,hh,h1,h2,h3⟩
 ·obtain ⟨r,w',a1,a2,a3⟩:=(KGrow.nil w lo e 1).app t bytes z ht hi hzs (by omega) x m ys hs hlo (by simpa using h63) (by simpa using hb)
  exact ⟨r,w',a1,(Row.own a2.1 a2.2).1,a3⟩
 ·obtain ⟨i0,hi0,hz0⟩:=Option.map_eq_some_iff.1 hi
  simp only [Prod.mk.injEq] at hz0
  obtain ⟨hz0,hz1,hz2⟩:=hz0
  by_cases hr:xs.length+m≤c
  ·have hcell: ∀j,j<ys.length→w.cell? ⟨g,0+xs.length*i0.size+j,none⟩=cur[xs.length+j]? :=fun j hj=>by
    rw [hz1,Nat.mul_one,Nat.zero_add]
    exact cell_of_row w g (xs.length+j) _ _ (0,0) hh
   refine ⟨_,_,fun ty=>run_append_room_src (P:=P) (w:=w) t t ty e i0 ht hi0 g 0 xs.length c x m ys (by rw [hz1];exact hs) hr (fun j hj=> ?_) (fun j hj=> ?_),?_,?_⟩
   ·rw [hcell j hj,Array.getElem?_eq_getElem (by omega)]
    rfl
   ·exact frozen_row hh _
   ·have hrow:Row w lo e (.slice (some ⟨g,0,none⟩) (xs.length+m) c) (cur.toList.take (xs.length+m)):=by
     have hlen:(cur.toList.take (xs.length+m)).length=xs.length+m:=by (have hcl:cur.toList.length=cur.size:=(by simp);rw [List.length_take];omega)
     exact .inr ⟨g,c,cur,by rw [hlen],hg,hh,by rw [hlen];exact hr,h2,by rw [hlen]⟩
    have h5:=Row.setAll ys xs.length w _ hrow
    rw [setL_eq _ _ _ (by have hcl:cur.toList.length=cur.size:=(by simp);rw [List.length_take];omega),List.take_take,Nat.min_eq_left (by omega),h3] at h5
    rw [hz1,Nat.mul_one,Nat.zero_add]
    exact h5
   ·rw [hz1,Nat.mul_one,Nat.zero_add]
    exact Touch.setCells (fun _=>⟨hg,rfl⟩) _ _ _ (Touch.refl _ _)
  ·have hold: ∀j u,xs[j]? =some u→w.drew.cell? ((⟨g,0,none⟩:Addr).add j)=some u:=fun j u hj=>by
    have e1:(⟨g,0,none⟩:Addr).add j=⟨g,j,none⟩:=by rw [Addr.add_mid];simp
    rw [e1]
    exact row_cell (w:=w.drew) hh h3 j u hj
   refine ⟨_,_,fun ty=>run_append_grow_src (P:=P) (w:=w) t t ty e i0 z ht hi0 hz0 (some ⟨g,0,none⟩) xs.length c xs (run_firstCells_some (P:=P) w.drew i0.size xs.length ⟨g,0,none⟩ xs.length c xs (by rw [hz1,Nat.mul_one]) hold) x m ys (by rw [hz1];exact hs) (by omega)
    (by have:=h63;simp only [maxLen] at this;omega) (growslice_fits (by omega) (by rw [hz2];exact hb)),?_,?_⟩
   ·have hge:=grownCap_ge w (xs.length+m) c e
    refine .inr ⟨w.heap.size,grownCap w (xs.length+m) c e,_,by rw [List.length_append,hl],hlo,by
     have:=heap_alloc_new w.drew (.cells ((xs++ys).toArray++Builtin.zeroCells z.cells (grownCap w (xs.length+m) c e-(xs.length+m))) e)
     exact this,by rw [List.length_append,hl];exact hge,?_,?_⟩
    ·rw [Array.size_append,size_zeroCells,hzs,Nat.mul_one,List.size_toArray,List.length_append,hl]
     omega
    ·rw [Array.toList_append,List.toList_toArray,List.take_left' rfl]
   ·exact ((Touch.refl _ w).drew).alloc _
theorem Row.kind {w:World} {lo:Nat} {t:TypeId} {v:Value} {xs:List Value} (h:Row w lo t v xs) {b:Nat} (hb:v.ownBlock=some b): ∃cs,w.heap[b]? =some (.cells cs t (0,0)):=by
 rcases h with ⟨rfl,_⟩|⟨g,c,cur,rfl,hg,hh,_⟩
 ·cases hb
 ·cases hb
  exact ⟨cur,hh⟩
end Go.Ux
namespace Go.Ux.Sign
open Go
theorem put_append (a b:List Nat):put (a++b)=put a++put b:=by
 unfold put
 rw [List.flatMap_append]
end Go.Ux.Sign
