/- A part of the proof that the statement holds for every input that it names. No other condition. -/
import Derived.Test.YtikmdhhbamggfaaGreatDoorUxCollAZ
set_option linter.unusedVariables false
set_option linter.unusedSimpArgs false
namespace Go.Ux
open Go Go.RowKit
def encW (L x:Nat):List UInt8:=if L=1 then [UInt8.ofNat (x/256),UInt8.ofNat x] else [UInt8.ofNat x]
def sepW (L:Nat):List UInt8:=if L=2 then [0,0] else if L=3 then [0] else []
def keyL (sh bk:Bool) (l:List Nat):Nat→List UInt8
 |0=> []
 |n+1=>keyL sh bk l n++sepW (n+1)++(wts sh bk (n+1) l).flatMap (encW (n+1))
theorem encW_len (L x:Nat):(encW L x).length≤2:=by unfold encW;split<;>simp
theorem flat_len (L:Nat): ∀l:List Nat,(l.flatMap (encW L)).length≤2*l.length
 | []=>by simp
 |x::l=>by
  have h1:=encW_len L x
  have h2:=flat_len L l
  rw [List.flatMap_cons,List.length_append,List.length_cons]
  omega
theorem sepW_len (L:Nat):(sepW L).length≤2:=by unfold sepW;split<;>(try split)<;>simp
theorem keyL_len (sh bk:Bool) (l:List Nat): ∀n,(keyL sh bk l n).length≤n*(2+2*l.length)
 |0=>by simp [keyL]
 |n+1=>by
  have h1:=keyL_len sh bk l n
  have h2:=sepW_len (n+1)
  have h3:=flat_len (n+1) (wts sh bk (n+1) l)
  have h4:=wts_len sh bk (n+1) l
  unfold keyL
  rw [List.length_append,List.length_append,Nat.add_mul]
  omega
theorem flat_take {L:Nat} {ws:List Nat} {i x:Nat} (h:ws[i]? =some x):(ws.take (i+1)).flatMap (encW L)=(ws.take i).flatMap (encW L)++encW L x:=by
 rw [List.take_add_one,h]
 simp
end Go.Ux
namespace Go.Ux
open Go Go.RowKit
variable {P:Program}
theorem Row.app {w:World} {lo:Nat} {e:TypeId} {v:Value} {xs:List Value} (h:Row w lo e v xs) (t:TypeId) (bytes:Nat) (z:Value) (ht:P.underlying t=some (.slice e))
 (hi:(P.info? e).map (fun i=>(i.zero,i.size,i.bytes))=some (some z,1,bytes)) (hzs:z.cells.size=1) (x:Value) (m:Nat) (ys:List Value) (hs:Src P 1 t x m ys w) (hl:ys.length=m) (hlo:lo≤w.heap.size)
 (h63:xs.length+m≤maxLen) (hb:(xs.length+m)*bytes≤140737488355328):
 ∃r w',(∀ty,(Builtin.append_ #[t,t] ty #[v,x]).run P w= .ok r w')∧Row w' lo e r (xs++ys)∧Touch (fun b=>lo≤b∧v.ownBlock=some b) w w':=by
 rcases h with ⟨rfl,rfl⟩|⟨g,c,cur,rfl,hg,hh,h1,h2,h3⟩
 ·obtain ⟨r,w',a1,a2,a3⟩:=(KGrow.nil w lo e 1).app t bytes z ht hi hzs (by omega) x m ys hs hlo (by simpa using h63) (by simpa using hb)
  exact ⟨r,w',a1,(Row.own a2.1 a2.2).1,a3⟩
 ·obtain ⟨i0,hi0,hz0⟩:=Option.map_eq_some_iff.1 hi
  simp only [Prod.mk.injEq] at hz0
  obtain ⟨hz0,hz1,hz2⟩:=hz0
  by_cases hr:xs.length+m≤c
  ·have hcell: ∀j,j<ys.length→w.cell? ⟨g,0+xs.length*i0.size+j,none⟩=cur[xs.length+j]? :=fun j hj=>by
    rw [hz1,Nat.mul_one,Nat.zero_add]
    exact cell_of_row w g (xs.length+j) _ _ (0,0) hh
   refine ⟨_,_,fun ty=>run_append_room_src (P:=P) (w:=w) t t ty e i0 ht hi0 g 0 xs.length c x m ys (by rw [hz1];exact hs) hr (fun j hj=> ?_) (fun j hj=> ?_),?_,?_⟩
   ·rw [hcell j hj,Array.getElem?_eq_getElem (by omega)]
    rfl
   ·exact frozen_row hh _
   ·have hrow:Row w lo e (.slice (some ⟨g,0,none⟩) (xs.length+m) c) (cur.toList.take (xs.length+m)):=by
     have hlen:(cur.toList.take (xs.length+m)).length=xs.length+m:=by (have hcl:cur.toList.length=cur.size:=(by simp);rw [List.length_take];omega)
     exact .inr ⟨g,c,cur,by rw [hlen],hg,hh,by rw [hlen];exact hr,h2,by rw [hlen]⟩
    have h5:=Row.setAll ys xs.length w _ hrow
    rw [setL_eq _ _ _ (by have hcl:cur.toList.length=cur.size:=(by simp);rw [List.length_take];omega),List.take_take,Nat.min_eq_left (by omega),h3] at h5
    rw [hz1,Nat.mul_one,Nat.zero_add]
    exact h5
   ·rw [hz1,Nat.mul_one,Nat.zero_add]
    exact Touch.setCells (fun _=>⟨hg,rfl⟩) _ _ _ (Touch.refl _ _)
  ·have hold: ∀j u,xs[j]? =some u→w.drew.cell? ((⟨g,0,none⟩:Addr).add j)=some u:=fun j u hj=>by
    have e1:(⟨g,0,none⟩:Addr).add j=⟨g,j,none⟩:=by rw [Addr.add_mid];simp
    rw [e1]
    exact row_cell (w:=w.drew) hh h3 j u hj
   refine ⟨_,_,fun ty=>run_append_grow_src (P:=P) (w:=w) t t ty e i0 z ht hi0 hz0 (some ⟨g,0,none⟩) xs.length c xs (run_firstCells_some (P:=P) w.drew i0.size xs.length ⟨g,0,none⟩ xs.length c xs (by rw [hz1,Nat.mul_one]) hold) x m ys (by rw [hz1];exact hs) (by omega)
    (by have:=h63;simp only [maxLen] at this;omega) (growslice_fits (by omega) (by rw [hz2];exact hb)),?_,?_⟩
   ·have hge:=grownCap_ge w (xs.length+m) c e
    refine .inr ⟨w.heap.size,grownCap w (xs.length+m) c e,_,by rw [List.length_append,hl],hlo,by
     have:=heap_alloc_new w.drew (.cells ((xs++ys).toArray++Builtin.zeroCells z.cells (grownCap w (xs.length+m) c e-(xs.length+m))) e)
     exact this,by rw [List.length_append,hl];exact hge,?_,?_⟩
    ·rw [Array.size_append,size_zeroCells,hzs,Nat.mul_one,List.size_toArray,List.length_append,hl]
     omega
    ·rw [Array.toList_append,List.toList_toArray,List.take_left' rfl]
   ·exact ((Touch.refl _ w).drew).alloc _
theorem Row.kind {w:World} {lo:Nat} {t:TypeId} {v:Value} {xs:List Value} (h:Row w lo t v xs) {b:Nat} (hb:v.ownBlock=some b): ∃cs,w.heap[b]? =some (.cells cs t (0,0)):=by
 rcases h with ⟨rfl,_⟩|⟨g,c,cur,rfl,hg,hh,_⟩
 ·cases hb
 ·cases hb
  exact ⟨cur,hh⟩
theorem Row.ge {w:World} {lo:Nat} {t:TypeId} {v:Value} {xs:List Value} (h:Row w lo t v xs) {b:Nat} (hb:v.ownBlock=some b):lo≤b:=by
 rcases h with ⟨rfl,_⟩|⟨g,c,cur,rfl,hg,hh,_⟩
 ·cases hb
 ·cases hb
  exact hg
end Go.Ux
namespace Go.Ux
open Go Go.RowKit
def lvlW (sh bk:Bool) (l:List Nat) (LI k:Nat):List Nat:=wts sh bk k l++if k<LI then [0] else []
def strmL (sh bk:Bool) (l:List Nat) (LI:Nat):Nat→List UInt8
 |0=> []
 |n+1=>strmL sh bk l LI n++(lvlW sh bk l LI (n+1)).flatMap (encW (n+1))
theorem strm_key (sh bk:Bool) (l:List Nat) (LI:Nat) (hL:LI≤3): ∀n,n≤LI→strmL sh bk l LI n=keyL sh bk l n++if n<LI then sepW (n+1) else []
 |0,_=>by
  unfold strmL keyL
  split<;>rfl
 |n+1,h=>by
  have ih:=strm_key sh bk l LI hL n (by omega)
  unfold strmL keyL lvlW
  rw [ih,if_pos (show n<LI by omega),List.flatMap_append]
  by_cases h2:n+1<LI
  ·rw [if_pos h2,if_pos h2]
   have:([0]:List Nat).flatMap (encW (n+1))=sepW (n+1+1):=by
    have:n=0∨n=1:=by omega
    rcases this with rfl|rfl
    ·rfl
    ·rfl
   rw [this]
   simp only [List.append_assoc]
  ·rw [if_neg h2,if_neg h2]
   simp only [List.append_assoc,List.flatMap_nil]
theorem strm_all (sh bk:Bool) (l:List Nat) (LI:Nat) (hL:LI≤3):strmL sh bk l LI LI=keyL sh bk l LI:=by
 rw [strm_key sh bk l LI hL LI (Nat.le_refl _),if_neg (Nat.lt_irrefl _),List.append_nil]
theorem strm_prefix (sh bk:Bool) (l:List Nat) (LI:Nat): ∀n m,n≤m→strmL sh bk l LI n<+:strmL sh bk l LI m
 |n,0,h=>by obtain rfl:n=0:=by omega
            exact List.prefix_refl _
 |n,m+1,h=>by
  by_cases e:n=m+1
  ·subst e;exact List.prefix_refl _
  ·exact (strm_prefix sh bk l LI n m (by omega)).trans (List.prefix_append _ _)
theorem lvlW_len (sh bk:Bool) (l:List Nat) (LI k:Nat):(lvlW sh bk l LI k).length≤l.length+1:=by
 unfold lvlW
 have:=wts_len sh bk k l
 rw [List.length_append]
 split<;>simp<;>omega
theorem prefix_at {α:Type} {a b:List α} (h:a<+:b) (x:List α) (hx:a++x<+:b):b.take a.length=a∧b.take (a.length+x.length)=a++x:=by
 obtain ⟨t,rfl⟩:=hx
 constructor
 ·simp [List.take_append]
 ·rw [←List.length_append]
  exact List.take_left' rfl
end Go.Ux
namespace Go.Ux.Sign
open Go
theorem put_append (a b:List Nat):put (a++b)=put a++put b:=by
 unfold put
 rw [List.flatMap_append]
theorem foldText_twice (l:List UInt8):foldText (foldText l)=foldText l:=by
 show put ((signs (foldText l)).map foldN)=foldText l
 rw [signs_foldText,List.map_map]
 unfold foldText
 congr 1
 exact List.map_congr_left fun c _=>foldN_twice c
end Go.Ux.Sign
