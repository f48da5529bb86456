/- A part of the proof that the statement holds for every input that it names. No other condition. -/
import Derived.WalkKit
import Derived.Deep.AppendSrc
import Derived.Lib.SliceRun
import Derived.Lib.AppendZeros
import Derived.Test.YtmonfaepfbpdpaaUxPlanAllZ
import Derived.Deep.MidRow
import Derived.Deep.WholeRow
import Derived.Great.BuildSlice
set_option linter.unusedVariables false
set_option linter.unusedSimpArgs false
namespace Go.Ux
open Go Go.RowKit
structure Touch (R:Nat→Prop) (w w':World):Prop where
 os:w'.os=w.os
 tape:w'.tape=w.tape
 output:w'.output=w.output
 size:w.heap.size≤w'.heap.size
 block: ∀k,k<w.heap.size→¬R k→w'.heap[k]? =w.heap[k]?
theorem Touch.refl (R:Nat→Prop) (w:World):Touch R w w:=⟨rfl,rfl,rfl,Nat.le_refl _,fun _ _ _=>rfl⟩
theorem Touch.trans {R R':Nat→Prop} {a b c:World} (h:Touch R a b) (k:Touch R' b c) (hR: ∀i,i<a.heap.size→R' i→R i):Touch R a c:=
 ⟨k.os.trans h.os,k.tape.trans h.tape,k.output.trans h.output,Nat.le_trans h.size k.size,fun i hi hn=>
   (k.block i (Nat.lt_of_lt_of_le hi h.size) (fun h'=>hn (hR i hi h'))).trans (h.block i hi hn)⟩
theorem Touch.mono {R R':Nat→Prop} {a b:World} (h:Touch R a b) (hR: ∀i,i<a.heap.size→R i→R' i):Touch R' a b:=
 ⟨h.os,h.tape,h.output,h.size,fun i hi hn=>h.block i hi (fun h'=>hn (hR i hi h'))⟩
theorem Touch.drew {R:Nat→Prop} {a w:World} (h:Touch R a w):Touch R a w.drew:=⟨h.os,h.tape,h.output,h.size,h.block⟩
theorem Touch.of_drew {R:Nat→Prop} {a w:World} (h:Touch R a.drew w):Touch R a w:=⟨h.os,h.tape,h.output,h.size,h.block⟩
theorem Touch.alloc {R:Nat→Prop} {a w:World} (h:Touch R a w) (o:Obj):Touch R a (w.alloc o):=
 ⟨h.os,h.tape,h.output,by have:=h.size;simp;omega,fun i hi hn=>(Below.heap_alloc w o i (Nat.lt_of_lt_of_le hi h.size)).trans (h.block i hi hn)⟩
theorem Touch.setCell {R:Nat→Prop} {a w:World} (h:Touch R a w) {p:Addr} (hp:p.block<a.heap.size→R p.block) (u:Value):Touch R a (w.setCell p u):=
 ⟨h.os,h.tape,h.output,by have:=h.size;simpa [World.setCell] using this,fun i hi hn=>(heap_setCell_other w p i u (fun e=>hn (e▸hp (e▸hi)))).trans (h.block i hi hn)⟩
theorem Touch.setRow {R:Nat→Prop} {a w:World} (h:Touch R a w) {g:Nat} (hp:g<a.heap.size→R g) (cs:Array Value):Touch R a (w.setRow g cs):=
 ⟨h.os,h.tape,h.output,by have:=h.size;simpa using this,fun i hi hn=>(setRow_other w g i cs (fun e=>hn (e▸hp (e▸hi)))).trans (h.block i hi hn)⟩
theorem Touch.below {w w':World} (h:Touch (fun _=>False) w w'):Below w.heap.size w w':=⟨h.os,h.tape,h.output,h.size,fun k hk=>h.block k hk (fun f=>f)⟩
theorem lt_of_heap {w:World} {b:Nat} {o:Obj} (h:w.heap[b]? =some o):b<w.heap.size:=(Array.getElem?_eq_some_iff.1 h).1
theorem Touch.heap {R:Nat→Prop} {w w':World} (h:Touch R w w') {b:Nat} {o:Obj} (hb:w.heap[b]? =some o) (hn: ¬R b):w'.heap[b]? =some o:=
 (h.block b (lt_of_heap hb) hn).trans hb
theorem Touch.cell {R:Nat→Prop} {w w':World} (h:Touch R w w') {a:Addr} {v:Value} (hb:w.cell? a=some v) (hn: ¬R a.block):w'.cell? a=some v:=
 (World.cell?_of_block (h.block a.block (block_lt_of_cell hb) hn)).trans hb
section own
variable {w:World} {e:TypeId} {size:Nat} {v:Value} {n:Nat} {xs:List Value}
theorem own_touch {R:Nat→Prop} {w':World} (h:w.ownsRow 0 e size v n xs) (ht:Touch R w w') (hn: ∀b,v.ownBlock=some b→¬R b):w'.ownsRow 0 e size v n xs:=by
 obtain ⟨h1,h2⟩:=h
 refine ⟨h1,h2.imp id fun ⟨g,cap,cur,hv,hg,hh,r⟩=>⟨g,cap,cur,hv,hg,ht.heap hh (hn g (by rw [hv];rfl)),r⟩⟩
theorem own_lt (h:w.ownsRow 0 e size v n xs): ∀b,v.ownBlock=some b→b<w.heap.size:=fun b hb=>(h.lt b hb).2
theorem row_cell {g:Nat} {cur:Array Value} {k:Nat} {t:TypeId} (hh:w.heap[g]? =some (.cells cur t (0,0))) (ht:cur.toList.take k=xs) (j:Nat) (u:Value) (hj:xs[j]? =some u):w.cell? ⟨g,j,none⟩=some u:=by
 rw [cell_of_row w g j cur t (0,0) hh]
 have hlt:j<xs.length:=(List.getElem?_eq_some_iff.1 hj).1
 rw [←ht,List.getElem?_take] at hj
 split at hj
 ·simpa using hj
 ·cases hj
end own
section app
variable {P:Program} (w:World)
theorem run_app (t ty e:TypeId) (i:TypeInfo) (z:Value) (size bytes:Nat) (ht:P.underlying t=some (.slice e)) (hi:P.info? e=some i) (hz:i.zero=some z)
 (hsize:i.size=size) (hby:i.bytes=bytes) (hzs:z.cells.size=size) (hsz:0<size)
 (v:Value) (n:Nat) (xs:List Value) (hown:w.ownsRow 0 e size v n xs) (x:Value) (m:Nat) (news:List Value) (hs:Src P size t x m news w)
 (h63:n+m≤maxLen) (hbytes:(n+m)*bytes≤140737488355328):
 ∃v' w',(Builtin.append_ #[t,t] ty #[v,x]).run P w= .ok v' w'∧w'.ownsRow 0 e size v' (n+m) (xs++news)∧Touch (fun k=>v.ownBlock=some k) w w'∧
  (v'.ownBlock=v.ownBlock∨∃g,v'.ownBlock=some g∧w.heap.size≤g)∧(v'= .slice none 0 0→v= .slice none 0 0∧m=0):=by
 subst hsize
 subst hby
 have hsmall:n+m≤9223372036854775807:=by simp only [maxLen] at h63;omega
 have hlen:(xs++news).length=(n+m)*i.size:=by rw [List.length_append,hown.1,hs.newsLen,Nat.add_mul]
 have grown: ∀(old:Nat),old<n+m→∀(R:Nat→Prop),
  (w.drew.alloc (.cells ((xs++news).toArray++Builtin.zeroCells z.cells (grownCap w (n+m) old e-(n+m))) e)).ownsRow 0 e i.size
    (.slice (some ⟨w.heap.size,0,none⟩) (n+m) (grownCap w (n+m) old e)) (n+m) (xs++news)∧
  Touch R w (w.drew.alloc (.cells ((xs++news).toArray++Builtin.zeroCells z.cells (grownCap w (n+m) old e-(n+m))) e)):=by
  intro old ho R
  have hge:=grownCap_ge w (n+m) old e
  have hcm:grownCap w (n+m) old e≤maxLen:=grownCap_le_maxLen w (n+m) old e h63
  refine ⟨⟨hlen,.inr ⟨w.heap.size,_,_,rfl,Nat.zero_le _,heap_alloc_new w.drew _,hge,hcm,?_,?_⟩⟩,((Touch.refl R w).drew).alloc _⟩
  ·simp only [Array.size_append,List.size_toArray,size_zeroCells,hzs,hlen,←Nat.add_mul]
   congr 1
   omega
  ·simp only [Array.toList_append]
   rw [←hlen]
   exact List.take_left
 rcases hown.2 with ⟨rfl,rfl⟩|⟨g,cap,cur,rfl,_,hg,hnc,hcm,hcs,htake⟩
 ·have hx:xs= []:=List.eq_nil_of_length_eq_zero (by simpa using hown.1)
  subst hx
  by_cases hm:m=0
  ·subst hm
   have hn:news= []:=List.eq_nil_of_length_eq_zero (by simpa using hs.newsLen)
   subst hn
   have h0:=hs.cells
   refine ⟨.slice none 0 0,w,?_,World.ownsRow_nil w 0 e i.size,Touch.refl _ _,.inl rfl,fun _=>⟨rfl,rfl⟩⟩
   rcases hs.kind with ⟨e',hk⟩|hk<;>simp [Builtin.append_,run_underlying ht,run_underlying hk,sizeOf,typeInfo,hi,hs.len,h0]
  ·have hr:=run_append_grow_src (P:=P) w t t ty e i z ht hi hz none 0 0 [] (run_firstCells_none w.drew i.size 0 0 0) x m news hs (by omega) (by omega) (growslice_fits (by omega) hbytes)
   have hgr:=grown 0 (by omega) (fun k=>Value.ownBlock (.slice none 0 0)=some k)
   simp only [Nat.zero_add,List.nil_append] at hgr hr⊢
   exact ⟨_,_,hr,hgr.1,hgr.2,.inr ⟨_,rfl,Nat.le_refl _⟩,fun h=>by cases h⟩
 ·by_cases hroom:n+m≤cap
  ·have hfit:n*i.size+news.length≤cur.size:=by rw [hs.newsLen,hcs,←Nat.add_mul];exact Nat.mul_le_mul_right _ hroom
   have hst:=run_storeCells_at P g (n*i.size) e news 0 cur w hg (by simpa using hfit) hs.one
   simp only [Nat.add_zero] at hst
   have hr:(Builtin.append_ #[t,t] ty #[.slice (some ⟨g,0,none⟩) n cap,x]).run P w= .ok (.slice (some ⟨g,0,none⟩) (n+m) cap) (w.setRow g (cur.toList.take (n*i.size)++news++cur.toList.drop (n*i.size+news.length)).toArray):=by
    rcases hs.kind with ⟨e',hk⟩|hk<;>simp [Builtin.append_,run_underlying ht,run_underlying hk,sizeOf,typeInfo,hi,hs.len,hroom,hs.cells,Addr.add_lit,hst]
   refine ⟨_,_,hr,⟨hlen,.inr ⟨g,cap,_,rfl,Nat.zero_le _,setRow_heap w g cur _ e _ hg,hroom,hcm,?_,?_⟩⟩,(Touch.refl (fun k=>Value.ownBlock (.slice (some ⟨g,0,none⟩) n cap)=some k) w).setRow (fun _=>rfl) _,.inl rfl,fun h=>by cases h⟩
   ·simp only [List.size_toArray,List.length_append,List.length_take,List.length_drop,Array.length_toList]
    omega
   ·rw [htake,←hlen]
    exact List.take_left
  ·have hold:(Builtin.firstCells i.size n (.slice (some ⟨g,0,none⟩) n cap)).run P w.drew= .ok xs.toArray w.drew:=
    run_firstCells_some w.drew i.size n ⟨g,0,none⟩ n cap xs hown.1 (by simpa using hown.cells (g:=g) rfl)
   have hr:=run_append_grow_src (P:=P) w t t ty e i z ht hi hz (some ⟨g,0,none⟩) n cap xs hold x m news hs (by omega) (by omega) (growslice_fits (by omega) hbytes)
   have hgr:=grown cap (by omega) (fun k=>Value.ownBlock (.slice (some ⟨g,0,none⟩) n cap)=some k)
   exact ⟨_,_,hr,hgr.1,hgr.2,.inr ⟨_,rfl,Nat.le_refl _⟩,fun h=>by cases h⟩
end app
@[go_sem] theorem eql_slice_nil {P:Program} (w:World) (t e:TypeId) (a:Option Addr) (n c:Nat) (h:P.underlying t=some (.slice e)):(binOp .eql t (.slice a n c) (.slice none 0 0)).run P w= .ok (.bool a.isNone) w:=
  Lib.run_eql_slice_nil w t e a n c 0 0 h
end Go.Ux
namespace Go.Ux
open Go Go.RowKit
theorem cell_newg (w:World) (c:Array Value) (ty:TypeId) (j:Nat):(w.alloc (.cells c ty)).cell? ⟨w.heap.size,j,none⟩=c[j]? :=cell_of_row _ _ j c ty (0,0) (heap_alloc_last w _)
section
variable {P:Program}
theorem app_new (t e:TypeId) (sz bytes:Nat) (z:Value) (ht:P.underlying t=some (.slice e)) (hi:(P.info? e).map (fun i=>(i.zero,i.size,i.bytes))=some (some z,sz,bytes)) (hzs:z.cells.size=sz) (hsz:0<sz)
 (v:Value) (n:Nat) (xs:List Value) (w:World) (h:w.ownsRow 0 e sz v n xs) (m:Nat) (ys:List Value) (hl:ys.length=m*sz) (h1: ∀u∈ys,u.oneCell'=true)
 (h63:n+m≤maxLen) (hb:(n+m)*bytes≤140737488355328):
 ∃r w',(∀ty,(Builtin.append_ #[t,t] ty #[v,.slice (some ⟨w.heap.size,0,none⟩) m m]).run P (w.alloc (.cells ys.toArray e))= .ok r w')∧w'.ownsRow 0 e sz r (n+m) (xs++ys)∧Touch (fun b=>v.ownBlock=some b) w w'∧(r.ownBlock=v.ownBlock∨∃g,r.ownBlock=some g∧w.heap.size≤g):=by
 obtain ⟨i0,hi0,hz0⟩:=Option.map_eq_some_iff.1 hi
 simp only [Prod.mk.injEq] at hz0
 obtain ⟨hz0,hz1,hz2⟩:=hz0
 have ta:Touch (fun b=>v.ownBlock=some b) w (w.alloc (.cells ys.toArray e)):=(Touch.refl _ w).alloc _
 have ta0:Touch (fun _=>False) w (w.alloc (.cells ys.toArray e)):=(Touch.refl _ w).alloc _
 have src:Src P sz t (.slice (some ⟨w.heap.size,0,none⟩) m m) m ys (w.alloc (.cells ys.toArray e)):=Src.ofSlice _ ht ⟨w.heap.size,0,none⟩ m m ys hl (fun j u hj=>by
  have e1:(⟨w.heap.size,0,none⟩:Addr).add j=⟨w.heap.size,j,none⟩:=by rw [Addr.add_mid];simp
  rw [e1,cell_newg]
  simpa using hj) h1
 have key:=fun ty=>run_app (P:=P) (w.alloc (.cells ys.toArray e)) t ty e i0 z sz bytes ht hi0 hz0 hz1 hz2 hzs hsz v n xs (own_touch h ta0 (fun _ _ h=>h)) _ m ys src h63 hb
 obtain ⟨r,w',hr,ho,htt,hbk,_⟩:=key t
 exact ⟨r,w',fun ty=>hr,ho,ta.trans htt (fun _ _ h=>h),hbk.imp id fun ⟨g,h1,h2⟩=>⟨g,h1,by have:=ta.size;omega⟩⟩
def Row (w:World) (lo:Nat) (t:TypeId) (v:Value) (xs:List Value):Prop:=(v= .slice none 0 0∧xs= [])∨
 ∃g c cur,v= .slice (some ⟨g,0,none⟩) xs.length c∧lo≤g∧w.heap[g]? =some (.cells cur t (0,0))∧xs.length≤c∧c≤cur.size∧cur.toList.take xs.length=xs
theorem Row.nil (w:World) (lo:Nat) (t:TypeId):Row w lo t (.slice none 0 0) []:= .inl ⟨rfl,rfl⟩
theorem Row.is {w:World} {lo:Nat} {t:TypeId} {v:Value} {xs:List Value} (h:Row w lo t v xs): ∃a c,v= .slice a xs.length c∧∀j u,xs[j]? =some u→∃g,a=some ⟨g,0,none⟩∧lo≤g∧w.cell? ⟨g,j,none⟩=some u:=by
 rcases h with ⟨rfl,rfl⟩|⟨g,c,cur,rfl,hg,hh,_,_,ht⟩
 ·exact ⟨none,0,rfl,fun j u h=>by simp at h⟩
 ·exact ⟨_,_,rfl,fun j u h=>⟨g,rfl,hg,row_cell hh ht j u h⟩⟩
theorem Row.touch {R:Nat→Prop} {w w':World} {lo:Nat} {t:TypeId} {v:Value} {xs:List Value} (h:Row w lo t v xs) (ht:Touch R w w') (hR: ∀b,lo≤b→v.ownBlock=some b→¬R b):Row w' lo t v xs:=by
 refine h.imp id fun ⟨g,c,cur,e,hg,hh,r⟩=>⟨g,c,cur,e,hg,ht.heap hh (hR g hg (by rw [e];rfl)),r⟩
theorem Row.touch0 {w w':World} {lo:Nat} {t:TypeId} {v:Value} {xs:List Value} (h:Row w lo t v xs) (ht:Touch (fun _=>False) w w'):Row w' lo t v xs:=h.touch ht fun _ _ _ f=>f
theorem Row.mono {w:World} {lo lo':Nat} {t:TypeId} {v:Value} {xs:List Value} (h:Row w lo t v xs) (hl:lo'≤lo):Row w lo' t v xs:=
 h.imp id fun ⟨g,c,cur,e,hg,r⟩=>⟨g,c,cur,e,Nat.le_trans hl hg,r⟩
theorem Row.own {w:World} {lo:Nat} {t:TypeId} {v:Value} {xs:List Value} {n:Nat} (h:w.ownsRow 0 t 1 v n xs) (hlo: ∀b,v.ownBlock=some b→lo≤b):Row w lo t v xs∧n=xs.length:=by
 have hn:n=xs.length:=by have:=h.1;omega
 refine ⟨?_,hn⟩
 rcases h.2 with ⟨rfl,h0⟩|⟨g,cap,cur,rfl,_,hh,h1,h2,h3,h4⟩
 ·subst h0
  exact .inl ⟨rfl,List.eq_nil_of_length_eq_zero hn.symm⟩
 ·subst hn
  rw [Nat.mul_one] at h4 h3
  exact .inr ⟨g,cap,cur,rfl,hlo g rfl,hh,h1,by omega,h4⟩
def Grow (w:World) (lo:Nat) (t:TypeId) (v:Value) (xs:List Value):Prop:=w.ownsRow 0 t 1 v xs.length xs∧∀b,v.ownBlock=some b→lo≤b
theorem Grow.nil (w:World) (lo:Nat) (t:TypeId):Grow w lo t (.slice none 0 0) []:=⟨World.ownsRow_nil _ _ _ _,by simp [Value.ownBlock]⟩
theorem Grow.is {w:World} {lo:Nat} {t:TypeId} {v:Value} {xs:List Value} (h:Grow w lo t v xs): ∃a n c,v= .slice a n c∧xs.length=n:=by
 rcases h.1.2 with ⟨hv,h0⟩|⟨g,cap,cur,hv,_⟩
 ·exact ⟨none,0,0,hv,h0⟩
 ·exact ⟨_,_,_,hv,rfl⟩
theorem Grow.touch {R:Nat→Prop} {w w':World} {lo:Nat} {t:TypeId} {v:Value} {xs:List Value} (h:Grow w lo t v xs) (ht:Touch R w w') (hR: ∀b,lo≤b→¬R b):Grow w' lo t v xs:=
 ⟨own_touch h.1 ht fun b hb=>hR b (h.2 b hb),h.2⟩
theorem Grow.touch0 {w w':World} {lo:Nat} {t:TypeId} {v:Value} {xs:List Value} (h:Grow w lo t v xs) (ht:Touch (fun _=>False) w w'):Grow w' lo t v xs:=h.touch ht fun _ _ f=>f
theorem Grow.row {w:World} {lo:Nat} {t:TypeId} {v:Value} {xs:List Value} (h:Grow w lo t v xs):Row w lo t v xs:=(Row.own h.1 h.2).1
theorem Grow.app {w:World} {lo:Nat} {e:TypeId} {v:Value} {xs:List Value} (h:Grow w lo e v xs) (t:TypeId) (bytes:Nat) (z:Value) (ht:P.underlying t=some (.slice e))
 (hi:(P.info? e).map (fun i=>(i.zero,i.size,i.bytes))=some (some z,1,bytes)) (hzs:z.cells.size=1) (m:Nat) (ys:List Value) (hl:ys.length=m) (h1: ∀u∈ys,u.oneCell'=true) (hlo:lo≤w.heap.size)
 (h63:xs.length+m≤maxLen) (hb:(xs.length+m)*bytes≤140737488355328):
 ∃r w',(∀ty,(Builtin.append_ #[t,t] ty #[v,.slice (some ⟨w.heap.size,0,none⟩) m m]).run P (w.alloc (.cells ys.toArray e))= .ok r w')∧Grow w' lo e r (xs++ys)∧Touch (fun b=>lo≤b∧v.ownBlock=some b) w w':=by
 obtain ⟨r,w',h2,h3,h4,h5⟩:=app_new t e 1 bytes z ht hi hzs (by omega) v xs.length xs w h.1 m ys (by omega) h1 h63 hb
 refine ⟨r,w',h2,⟨by rw [List.length_append,hl];exact h3,fun b hb=> ?_⟩,h4.mono fun b _ hb=>⟨h.2 b hb,hb⟩⟩
 rcases h5 with e|⟨g,e,hg⟩
 ·exact h.2 b (by rw [←e];exact hb)
 ·rw [e] at hb
  cases hb
  omega
theorem Touch.own {W w w':World} {lo:Nat} {v:Value} (h:Touch (fun _=>False) W w) (hlo:W.heap.size≤lo) (ht:Touch (fun b=>lo≤b∧v.ownBlock=some b) w w'):Touch (fun _=>False) W w':=
 h.trans ht fun b hb h=>by have:=h.1;omega
theorem Row.clip {w:World} {lo:Nat} {t:TypeId} {g c:Nat} {xs:List Value} (h:Row w lo t (.slice (some ⟨g,0,none⟩) xs.length c) xs):Row w lo t (.slice (some ⟨g,0,none⟩) xs.length xs.length) xs:=by
 rcases h with ⟨e,_⟩|⟨g',c',cur,e,hg,hh,h1,h2,h3⟩
 ·cases e
 ·cases e
  exact .inr ⟨g,_,cur,rfl,hg,hh,Nat.le_refl _,by omega,h3⟩
theorem Row.at {w:World} {lo n c:Nat} {t:TypeId} {a:Option Addr} {xs:List Value} (h:Row w lo t (.slice a n c) xs) {j:Nat} {u:Value} (hj:xs[j]? =some u): ∃g,a=some ⟨g,0,none⟩∧lo≤g∧w.cell? ⟨g,j,none⟩=some u:=by
 obtain ⟨a',c',e,h⟩:=h.is
 injection e with e1 _ _
 subst e1
 exact h j u hj
theorem Row.take {w:World} {lo n c:Nat} {t:TypeId} {a:Option Addr} {xs:List Value} (h:Row w lo t (.slice a n c) xs) (ha:a≠none) (i:Nat) (hi:i≤xs.length):Row w lo t (.slice a i c) (xs.take i):=by
 rcases h with ⟨e,_⟩|⟨g,c',cur,e,hg,hh,h1,h2,h3⟩
 ·cases e;exact absurd rfl ha
 ·cases e
  refine .inr ⟨g,c,cur,by rw [List.length_take,Nat.min_eq_left hi],hg,hh,?_,h2,?_⟩
  ·rw [List.length_take];omega
  ·rw [List.length_take,Nat.min_eq_left hi,←h3,List.take_take,Nat.min_eq_left hi]
theorem setCell_row {w:World} {g:Nat} {cur:Array Value} {t:TypeId} (hh:w.heap[g]? =some (.cells cur t (0,0))) (j:Nat) (v:Value):(w.setCell ⟨g,j,none⟩ v).heap[g]? =some (.cells (cur.setIfInBounds j v) t (0,0)):=by
 unfold World.setCell
 simp [Array.getElem?_modify,hh]
theorem frozen_row {w:World} {g:Nat} {cur:Array Value} {t:TypeId} (hh:w.heap[g]? =some (.cells cur t (0,0))) (j:Nat):w.frozen? ⟨g,j,none⟩=false:=by
 unfold World.frozen?
 simp [hh]
theorem Row.set {w:World} {lo:Nat} {t:TypeId} {g n c:Nat} {xs:List Value} (h:Row w lo t (.slice (some ⟨g,0,none⟩) n c) xs) (j:Nat) (u:Value):Row (w.setCell ⟨g,j,none⟩ u) lo t (.slice (some ⟨g,0,none⟩) n c) (xs.set j u):=by
 rcases h with ⟨e,_⟩|⟨g',c',cur,e,hg,hh,h1,h2,h3⟩
 ·cases e
 ·cases e
  refine .inr ⟨g,_,_,by rw [List.length_set],hg,setCell_row hh j u,by rw [List.length_set];exact h1,by simpa using h2,?_⟩
  rw [List.length_set]
  apply List.ext_getElem?
  intro i
  have hi:=congrArg (·[i]?) h3
  simp only [List.getElem?_take] at hi
  rw [List.getElem?_take,List.getElem?_set]
  simp only [Array.toList_setIfInBounds,List.getElem?_set]
  by_cases hij:j=i
  ·subst hij
   have hsz:xs.length≤cur.toList.length:=by simp;omega
   by_cases hjl:j<xs.length
   ·simp [hjl];omega
   ·simp [hjl]
  ·simp only [if_neg hij]
   exact hi
theorem Row.frozen {w:World} {lo:Nat} {t:TypeId} {g n c:Nat} {xs:List Value} (h:Row w lo t (.slice (some ⟨g,0,none⟩) n c) xs) (j:Nat):w.frozen? ⟨g,j,none⟩=false:=by
 rcases h with ⟨e,_⟩|⟨g',c',cur,e,hg,hh,_⟩
 ·cases e
 ·cases e
  exact frozen_row hh j
end
end Go.Ux
namespace Go.Ux
open Go Go.RowKit
variable {P:Program}
theorem is_store {ops:Array Oper} {rest:List Oper} {op:Oper} {a:Act} {w:World} {Q:Exit→Act→World→Prop} {x y:Operand} (ty:TypeId) (_:op.op= .store ty x y) (h:wpList P ops Q (op::rest) a w):wpList P ops Q (op::rest) a w:=h
end Go.Ux
namespace Go.Ux
open Go Go.RowKit
variable {P:Program}
end Go.Ux
