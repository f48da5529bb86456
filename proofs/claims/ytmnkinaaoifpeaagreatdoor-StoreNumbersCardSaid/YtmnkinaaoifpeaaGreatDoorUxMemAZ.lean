/- A part of the proof that the statement holds for every input that it names. No other condition. -/
import Derived.WalkKit
import Derived.Deep.AppendSrc
import Derived.Lib.SliceRun
import Derived.Lib.AppendZeros
import Derived.Test.YtmnkinaaoifpeaaGreatDoorUxPlanAllZ
import Derived.Deep.MidRow
import Derived.Deep.WholeRow
import Derived.Great.BuildSlice
set_option linter.unusedVariables false
set_option linter.unusedSimpArgs false
namespace Go.Ux
open Go Go.RowKit
structure Touch (R:Nat→Prop) (w w':World):Prop where
 os:w'.os=w.os
 tape:w'.tape=w.tape
 output:w'.output=w.output
 size:w.heap.size≤w'.heap.size
 block: ∀k,k<w.heap.size→¬R k→w'.heap[k]? =w.heap[k]?
theorem Touch.refl (R:Nat→Prop) (w:World):Touch R w w:=⟨rfl,rfl,rfl,Nat.le_refl _,fun _ _ _=>rfl⟩
theorem Touch.trans {R R':Nat→Prop} {a b c:World} (h:Touch R a b) (k:Touch R' b c) (hR: ∀i,i<a.heap.size→R' i→R i):Touch R a c:=
 ⟨k.os.trans h.os,k.tape.trans h.tape,k.output.trans h.output,Nat.le_trans h.size k.size,fun i hi hn=>
   (k.block i (Nat.lt_of_lt_of_le hi h.size) (fun h'=>hn (hR i hi h'))).trans (h.block i hi hn)⟩
theorem Touch.mono {R R':Nat→Prop} {a b:World} (h:Touch R a b) (hR: ∀i,i<a.heap.size→R i→R' i):Touch R' a b:=
 ⟨h.os,h.tape,h.output,h.size,fun i hi hn=>h.block i hi (fun h'=>hn (hR i hi h'))⟩
theorem Touch.drew {R:Nat→Prop} {a w:World} (h:Touch R a w):Touch R a w.drew:=⟨h.os,h.tape,h.output,h.size,h.block⟩
theorem Touch.of_drew {R:Nat→Prop} {a w:World} (h:Touch R a.drew w):Touch R a w:=⟨h.os,h.tape,h.output,h.size,h.block⟩
theorem Touch.alloc {R:Nat→Prop} {a w:World} (h:Touch R a w) (o:Obj):Touch R a (w.alloc o):=
 ⟨h.os,h.tape,h.output,by have:=h.size;simp;omega,fun i hi hn=>(Below.heap_alloc w o i (Nat.lt_of_lt_of_le hi h.size)).trans (h.block i hi hn)⟩
theorem Touch.setCell {R:Nat→Prop} {a w:World} (h:Touch R a w) {p:Addr} (hp:p.block<a.heap.size→R p.block) (u:Value):Touch R a (w.setCell p u):=
 ⟨h.os,h.tape,h.output,by have:=h.size;simpa [World.setCell] using this,fun i hi hn=>(heap_setCell_other w p i u (fun e=>hn (e▸hp (e▸hi)))).trans (h.block i hi hn)⟩
theorem Touch.setRow {R:Nat→Prop} {a w:World} (h:Touch R a w) {g:Nat} (hp:g<a.heap.size→R g) (cs:Array Value):Touch R a (w.setRow g cs):=
 ⟨h.os,h.tape,h.output,by have:=h.size;simpa using this,fun i hi hn=>(setRow_other w g i cs (fun e=>hn (e▸hp (e▸hi)))).trans (h.block i hi hn)⟩
theorem Touch.below {w w':World} (h:Touch (fun _=>False) w w'):Below w.heap.size w w':=⟨h.os,h.tape,h.output,h.size,fun k hk=>h.block k hk (fun f=>f)⟩
theorem Touch.of_below {R:Nat→Prop} {w w':World} (h:Below w.heap.size w w'):Touch R w w':=⟨h.os,h.tape,h.output,h.size,fun k hk _=>h.block k hk⟩
theorem lt_of_heap {w:World} {b:Nat} {o:Obj} (h:w.heap[b]? =some o):b<w.heap.size:=(Array.getElem?_eq_some_iff.1 h).1
theorem Touch.heap {R:Nat→Prop} {w w':World} (h:Touch R w w') {b:Nat} {o:Obj} (hb:w.heap[b]? =some o) (hn: ¬R b):w'.heap[b]? =some o:=
 (h.block b (lt_of_heap hb) hn).trans hb
theorem Touch.cell {R:Nat→Prop} {w w':World} (h:Touch R w w') {a:Addr} {v:Value} (hb:w.cell? a=some v) (hn: ¬R a.block):w'.cell? a=some v:=
 (World.cell?_of_block (h.block a.block (block_lt_of_cell hb) hn)).trans hb
section own
variable {w:World} {e:TypeId} {size:Nat} {v:Value} {n:Nat} {xs:List Value}
theorem own_touch {R:Nat→Prop} {w':World} (h:w.ownsRow 0 e size v n xs) (ht:Touch R w w') (hn: ∀b,v.ownBlock=some b→¬R b):w'.ownsRow 0 e size v n xs:=by
 obtain ⟨h1,h2⟩:=h
 refine ⟨h1,h2.imp id fun ⟨g,cap,cur,hv,hg,hh,r⟩=>⟨g,cap,cur,hv,hg,ht.heap hh (hn g (by rw [hv];rfl)),r⟩⟩
theorem own_pos (h:w.ownsRow 0 e size v n xs) (hn:0<n): ∃g cap cur,v= .slice (some ⟨g,0,none⟩) n cap∧n≤cap∧cap≤maxLen∧w.heap[g]? =some (.cells cur e (0,0))∧cur.size=cap*size∧cur.toList.take (n*size)=xs:=by
 rcases h.2 with ⟨_,h0⟩|⟨g,cap,cur,hv,_,hh,h1,h2,h3,h4⟩
 ·omega
 ·exact ⟨g,cap,cur,hv,h1,h2,hh,h3,h4⟩
theorem own_lt (h:w.ownsRow 0 e size v n xs): ∀b,v.ownBlock=some b→b<w.heap.size:=fun b hb=>(h.lt b hb).2
theorem own_take {g c i:Nat} (h:w.ownsRow 0 e 1 (.slice (some ⟨g,0,none⟩) n c) n xs) (hi:i≤n):w.ownsRow 0 e 1 (.slice (some ⟨g,0,none⟩) i c) i (xs.take i):=by
 obtain ⟨h1,h2⟩:=h
 refine ⟨by simp;omega,.inr ?_⟩
 rcases h2 with ⟨hv,_⟩|⟨g',cap,cur,hv,hb,hh,h3,h4,h5,h6⟩
 ·cases hv
 ·cases hv
  exact ⟨g,c,cur,rfl,hb,hh,by omega,h4,h5,by rw [←h6,List.take_take,Nat.mul_one,Nat.mul_one,Nat.min_eq_left hi]⟩
theorem row_cell {g:Nat} {cur:Array Value} {k:Nat} {t:TypeId} (hh:w.heap[g]? =some (.cells cur t (0,0))) (ht:cur.toList.take k=xs) (j:Nat) (u:Value) (hj:xs[j]? =some u):w.cell? ⟨g,j,none⟩=some u:=by
 rw [cell_of_row w g j cur t (0,0) hh]
 have hlt:j<xs.length:=(List.getElem?_eq_some_iff.1 hj).1
 rw [←ht,List.getElem?_take] at hj
 split at hj
 ·simpa using hj
 ·cases hj
end own
section app
variable {P:Program} (w:World)
theorem run_app (t ty e:TypeId) (i:TypeInfo) (z:Value) (size bytes:Nat) (ht:P.underlying t=some (.slice e)) (hi:P.info? e=some i) (hz:i.zero=some z)
 (hsize:i.size=size) (hby:i.bytes=bytes) (hzs:z.cells.size=size) (hsz:0<size)
 (v:Value) (n:Nat) (xs:List Value) (hown:w.ownsRow 0 e size v n xs) (x:Value) (m:Nat) (news:List Value) (hs:Src P size t x m news w)
 (h63:n+m≤maxLen) (hbytes:(n+m)*bytes≤140737488355328):
 ∃v' w',(Builtin.append_ #[t,t] ty #[v,x]).run P w= .ok v' w'∧w'.ownsRow 0 e size v' (n+m) (xs++news)∧Touch (fun k=>v.ownBlock=some k) w w'∧
  (v'.ownBlock=v.ownBlock∨∃g,v'.ownBlock=some g∧w.heap.size≤g)∧(v'= .slice none 0 0→v= .slice none 0 0∧m=0):=by
 subst hsize
 subst hby
 have hsmall:n+m≤9223372036854775807:=by simp only [maxLen] at h63;omega
 have hlen:(xs++news).length=(n+m)*i.size:=by rw [List.length_append,hown.1,hs.newsLen,Nat.add_mul]
 have grown: ∀(old:Nat),old<n+m→∀(R:Nat→Prop),
  (w.drew.alloc (.cells ((xs++news).toArray++Builtin.zeroCells z.cells (grownCap w (n+m) old e-(n+m))) e)).ownsRow 0 e i.size
    (.slice (some ⟨w.heap.size,0,none⟩) (n+m) (grownCap w (n+m) old e)) (n+m) (xs++news)∧
  Touch R w (w.drew.alloc (.cells ((xs++news).toArray++Builtin.zeroCells z.cells (grownCap w (n+m) old e-(n+m))) e)):=by
  intro old ho R
  have hge:=grownCap_ge w (n+m) old e
  have hcm:grownCap w (n+m) old e≤maxLen:=grownCap_le_maxLen w (n+m) old e h63
  refine ⟨⟨hlen,.inr ⟨w.heap.size,_,_,rfl,Nat.zero_le _,heap_alloc_new w.drew _,hge,hcm,?_,?_⟩⟩,((Touch.refl R w).drew).alloc _⟩
  ·simp only [Array.size_append,List.size_toArray,size_zeroCells,hzs,hlen,←Nat.add_mul]
   congr 1
   omega
  ·simp only [Array.toList_append]
   rw [←hlen]
   exact List.take_left
 rcases hown.2 with ⟨rfl,rfl⟩|⟨g,cap,cur,rfl,_,hg,hnc,hcm,hcs,htake⟩
 ·have hx:xs= []:=List.eq_nil_of_length_eq_zero (by simpa using hown.1)
  subst hx
  by_cases hm:m=0
  ·subst hm
   have hn:news= []:=List.eq_nil_of_length_eq_zero (by simpa using hs.newsLen)
   subst hn
   have h0:=hs.cells
   refine ⟨.slice none 0 0,w,?_,World.ownsRow_nil w 0 e i.size,Touch.refl _ _,.inl rfl,fun _=>⟨rfl,rfl⟩⟩
   rcases hs.kind with ⟨e',hk⟩|hk<;>simp [Builtin.append_,run_underlying ht,run_underlying hk,sizeOf,typeInfo,hi,hs.len,h0]
  ·have hr:=run_append_grow_src (P:=P) w t t ty e i z ht hi hz none 0 0 [] (run_firstCells_none w.drew i.size 0 0 0) x m news hs (by omega) (by omega) (growslice_fits (by omega) hbytes)
   have hgr:=grown 0 (by omega) (fun k=>Value.ownBlock (.slice none 0 0)=some k)
   simp only [Nat.zero_add,List.nil_append] at hgr hr⊢
   exact ⟨_,_,hr,hgr.1,hgr.2,.inr ⟨_,rfl,Nat.le_refl _⟩,fun h=>by cases h⟩
 ·by_cases hroom:n+m≤cap
  ·have hfit:n*i.size+news.length≤cur.size:=by rw [hs.newsLen,hcs,←Nat.add_mul];exact Nat.mul_le_mul_right _ hroom
   have hst:=run_storeCells_at P g (n*i.size) e news 0 cur w hg (by simpa using hfit) hs.one
   simp only [Nat.add_zero] at hst
   have hr:(Builtin.append_ #[t,t] ty #[.slice (some ⟨g,0,none⟩) n cap,x]).run P w= .ok (.slice (some ⟨g,0,none⟩) (n+m) cap) (w.setRow g (cur.toList.take (n*i.size)++news++cur.toList.drop (n*i.size+news.length)).toArray):=by
    rcases hs.kind with ⟨e',hk⟩|hk<;>simp [Builtin.append_,run_underlying ht,run_underlying hk,sizeOf,typeInfo,hi,hs.len,hroom,hs.cells,Addr.add_lit,hst]
   refine ⟨_,_,hr,⟨hlen,.inr ⟨g,cap,_,rfl,Nat.zero_le _,setRow_heap w g cur _ e _ hg,hroom,hcm,?_,?_⟩⟩,(Touch.refl (fun k=>Value.ownBlock (.slice (some ⟨g,0,none⟩) n cap)=some k) w).setRow (fun _=>rfl) _,.inl rfl,fun h=>by cases h⟩
   ·simp only [List.size_toArray,List.length_append,List.length_take,List.length_drop,Array.length_toList]
    omega
   ·rw [htake,←hlen]
    exact List.take_left
  ·have hold:(Builtin.firstCells i.size n (.slice (some ⟨g,0,none⟩) n cap)).run P w.drew= .ok xs.toArray w.drew:=
    run_firstCells_some w.drew i.size n ⟨g,0,none⟩ n cap xs hown.1 (by simpa using hown.cells (g:=g) rfl)
   have hr:=run_append_grow_src (P:=P) w t t ty e i z ht hi hz (some ⟨g,0,none⟩) n cap xs hold x m news hs (by omega) (by omega) (growslice_fits (by omega) hbytes)
   have hgr:=grown cap (by omega) (fun k=>Value.ownBlock (.slice (some ⟨g,0,none⟩) n cap)=some k)
   exact ⟨_,_,hr,hgr.1,hgr.2,.inr ⟨_,rfl,Nat.le_refl _⟩,fun h=>by cases h⟩
end app
@[go_sem] theorem eql_slice_nil {P:Program} (w:World) (t e:TypeId) (a:Option Addr) (n c:Nat) (h:P.underlying t=some (.slice e)):(binOp .eql t (.slice a n c) (.slice none 0 0)).run P w= .ok (.bool a.isNone) w:=
  Lib.run_eql_slice_nil w t e a n c 0 0 h
end Go.Ux
namespace Go.Ux
open Go Go.RowKit
theorem cell_newg (w:World) (c:Array Value) (ty:TypeId) (j:Nat):(w.alloc (.cells c ty)).cell? ⟨w.heap.size,j,none⟩=c[j]? :=cell_of_row _ _ j c ty (0,0) (heap_alloc_last w _)
section
variable {P:Program}
theorem app_new (t e:TypeId) (sz bytes:Nat) (z:Value) (ht:P.underlying t=some (.slice e)) (hi:(P.info? e).map (fun i=>(i.zero,i.size,i.bytes))=some (some z,sz,bytes)) (hzs:z.cells.size=sz) (hsz:0<sz)
 (v:Value) (n:Nat) (xs:List Value) (w:World) (h:w.ownsRow 0 e sz v n xs) (m:Nat) (ys:List Value) (hl:ys.length=m*sz) (h1: ∀u∈ys,u.oneCell'=true)
 (h63:n+m≤maxLen) (hb:(n+m)*bytes≤140737488355328):
 ∃r w',(∀ty,(Builtin.append_ #[t,t] ty #[v,.slice (some ⟨w.heap.size,0,none⟩) m m]).run P (w.alloc (.cells ys.toArray e))= .ok r w')∧w'.ownsRow 0 e sz r (n+m) (xs++ys)∧Touch (fun b=>v.ownBlock=some b) w w'∧(r.ownBlock=v.ownBlock∨∃g,r.ownBlock=some g∧w.heap.size≤g):=by
 obtain ⟨i0,hi0,hz0⟩:=Option.map_eq_some_iff.1 hi
 simp only [Prod.mk.injEq] at hz0
 obtain ⟨hz0,hz1,hz2⟩:=hz0
 have ta:Touch (fun b=>v.ownBlock=some b) w (w.alloc (.cells ys.toArray e)):=(Touch.refl _ w).alloc _
 have ta0:Touch (fun _=>False) w (w.alloc (.cells ys.toArray e)):=(Touch.refl _ w).alloc _
 have src:Src P sz t (.slice (some ⟨w.heap.size,0,none⟩) m m) m ys (w.alloc (.cells ys.toArray e)):=Src.ofSlice _ ht ⟨w.heap.size,0,none⟩ m m ys hl (fun j u hj=>by
  have e1:(⟨w.heap.size,0,none⟩:Addr).add j=⟨w.heap.size,j,none⟩:=by rw [Addr.add_mid];simp
  rw [e1,cell_newg]
  simpa using hj) h1
 have key:=fun ty=>run_app (P:=P) (w.alloc (.cells ys.toArray e)) t ty e i0 z sz bytes ht hi0 hz0 hz1 hz2 hzs hsz v n xs (own_touch h ta0 (fun _ _ h=>h)) _ m ys src h63 hb
 obtain ⟨r,w',hr,ho,htt,hbk,_⟩:=key t
 exact ⟨r,w',fun ty=>hr,ho,ta.trans htt (fun _ _ h=>h),hbk.imp id fun ⟨g,h1,h2⟩=>⟨g,h1,by have:=ta.size;omega⟩⟩
def iv (l:List Int):List Value:=l.map fun x=> .int .i64 x
theorem iv_length (l:List Int):(iv l).length=l.length:=by simp [iv]
theorem iv_append (a b:List Int):iv (a++b)=iv a++iv b:=by simp [iv]
theorem iv_one (l:List Int): ∀u∈iv l,u.oneCell'=true:=fun u hu=>by obtain ⟨b,_,rfl⟩:=List.mem_map.1 hu;rfl
theorem iv_get {l:List Int} {i:Nat} {x:Int} (h:l[i]? =some x):(iv l)[i]? =some (.int .i64 x):=by unfold iv;rw [List.getElem?_map,h];rfl
def sv (l:List Nat):List Int:=l.map fun (c:Nat)=>(c:Int)
theorem sv_length (l:List Nat):(sv l).length=l.length:=by simp [sv]
theorem sv_append (a b:List Nat):sv (a++b)=sv a++sv b:=by simp [sv]
theorem sv_get {l:List Nat} {i:Nat} {x:Nat} (h:l[i]? =some x):(sv l)[i]? =some (x:Int):=by unfold sv;rw [List.getElem?_map,h];rfl
def Row (w:World) (lo:Nat) (t:TypeId) (v:Value) (xs:List Value):Prop:=(v= .slice none 0 0∧xs= [])∨
 ∃g c cur,v= .slice (some ⟨g,0,none⟩) xs.length c∧lo≤g∧w.heap[g]? =some (.cells cur t (0,0))∧xs.length≤c∧c≤cur.size∧cur.toList.take xs.length=xs
theorem Row.nil (w:World) (lo:Nat) (t:TypeId):Row w lo t (.slice none 0 0) []:= .inl ⟨rfl,rfl⟩
theorem Row.is {w:World} {lo:Nat} {t:TypeId} {v:Value} {xs:List Value} (h:Row w lo t v xs): ∃a c,v= .slice a xs.length c∧∀j u,xs[j]? =some u→∃g,a=some ⟨g,0,none⟩∧lo≤g∧w.cell? ⟨g,j,none⟩=some u:=by
 rcases h with ⟨rfl,rfl⟩|⟨g,c,cur,rfl,hg,hh,_,_,ht⟩
 ·exact ⟨none,0,rfl,fun j u h=>by simp at h⟩
 ·exact ⟨_,_,rfl,fun j u h=>⟨g,rfl,hg,row_cell hh ht j u h⟩⟩
theorem Row.touch {R:Nat→Prop} {w w':World} {lo:Nat} {t:TypeId} {v:Value} {xs:List Value} (h:Row w lo t v xs) (ht:Touch R w w') (hR: ∀b,lo≤b→v.ownBlock=some b→¬R b):Row w' lo t v xs:=by
 refine h.imp id fun ⟨g,c,cur,e,hg,hh,r⟩=>⟨g,c,cur,e,hg,ht.heap hh (hR g hg (by rw [e];rfl)),r⟩
theorem Row.touch0 {w w':World} {lo:Nat} {t:TypeId} {v:Value} {xs:List Value} (h:Row w lo t v xs) (ht:Touch (fun _=>False) w w'):Row w' lo t v xs:=h.touch ht fun _ _ _ f=>f
theorem Row.mono {w:World} {lo lo':Nat} {t:TypeId} {v:Value} {xs:List Value} (h:Row w lo t v xs) (hl:lo'≤lo):Row w lo' t v xs:=
 h.imp id fun ⟨g,c,cur,e,hg,r⟩=>⟨g,c,cur,e,Nat.le_trans hl hg,r⟩
theorem Row.own {w:World} {lo:Nat} {t:TypeId} {v:Value} {xs:List Value} {n:Nat} (h:w.ownsRow 0 t 1 v n xs) (hlo: ∀b,v.ownBlock=some b→lo≤b):Row w lo t v xs∧n=xs.length:=by
 have hn:n=xs.length:=by have:=h.1;omega
 refine ⟨?_,hn⟩
 rcases h.2 with ⟨rfl,h0⟩|⟨g,cap,cur,rfl,_,hh,h1,h2,h3,h4⟩
 ·subst h0
  exact .inl ⟨rfl,List.eq_nil_of_length_eq_zero hn.symm⟩
 ·subst hn
  rw [Nat.mul_one] at h4 h3
  exact .inr ⟨g,cap,cur,rfl,hlo g rfl,hh,h1,by omega,h4⟩
def Grow (w:World) (lo:Nat) (t:TypeId) (v:Value) (xs:List Value):Prop:=w.ownsRow 0 t 1 v xs.length xs∧∀b,v.ownBlock=some b→lo≤b
theorem Grow.nil (w:World) (lo:Nat) (t:TypeId):Grow w lo t (.slice none 0 0) []:=⟨World.ownsRow_nil _ _ _ _,by simp [Value.ownBlock]⟩
theorem Grow.is {w:World} {lo:Nat} {t:TypeId} {v:Value} {xs:List Value} (h:Grow w lo t v xs): ∃a n c,v= .slice a n c∧xs.length=n:=by
 rcases h.1.2 with ⟨hv,h0⟩|⟨g,cap,cur,hv,_⟩
 ·exact ⟨none,0,0,hv,h0⟩
 ·exact ⟨_,_,_,hv,rfl⟩
theorem Grow.touch {R:Nat→Prop} {w w':World} {lo:Nat} {t:TypeId} {v:Value} {xs:List Value} (h:Grow w lo t v xs) (ht:Touch R w w') (hR: ∀b,lo≤b→¬R b):Grow w' lo t v xs:=
 ⟨own_touch h.1 ht fun b hb=>hR b (h.2 b hb),h.2⟩
theorem Grow.touch0 {w w':World} {lo:Nat} {t:TypeId} {v:Value} {xs:List Value} (h:Grow w lo t v xs) (ht:Touch (fun _=>False) w w'):Grow w' lo t v xs:=h.touch ht fun _ _ f=>f
theorem Grow.row {w:World} {lo:Nat} {t:TypeId} {v:Value} {xs:List Value} (h:Grow w lo t v xs):Row w lo t v xs:=(Row.own h.1 h.2).1
theorem Grow.app {w:World} {lo:Nat} {e:TypeId} {v:Value} {xs:List Value} (h:Grow w lo e v xs) (t:TypeId) (bytes:Nat) (z:Value) (ht:P.underlying t=some (.slice e))
 (hi:(P.info? e).map (fun i=>(i.zero,i.size,i.bytes))=some (some z,1,bytes)) (hzs:z.cells.size=1) (m:Nat) (ys:List Value) (hl:ys.length=m) (h1: ∀u∈ys,u.oneCell'=true) (hlo:lo≤w.heap.size)
 (h63:xs.length+m≤maxLen) (hb:(xs.length+m)*bytes≤140737488355328):
 ∃r w',(∀ty,(Builtin.append_ #[t,t] ty #[v,.slice (some ⟨w.heap.size,0,none⟩) m m]).run P (w.alloc (.cells ys.toArray e))= .ok r w')∧Grow w' lo e r (xs++ys)∧Touch (fun b=>lo≤b∧v.ownBlock=some b) w w':=by
 obtain ⟨r,w',h2,h3,h4,h5⟩:=app_new t e 1 bytes z ht hi hzs (by omega) v xs.length xs w h.1 m ys (by omega) h1 h63 hb
 refine ⟨r,w',h2,⟨by rw [List.length_append,hl];exact h3,fun b hb=> ?_⟩,h4.mono fun b _ hb=>⟨h.2 b hb,hb⟩⟩
 rcases h5 with e|⟨g,e,hg⟩
 ·exact h.2 b (by rw [←e];exact hb)
 ·rw [e] at hb
  cases hb
  omega
theorem Touch.own {W w w':World} {lo:Nat} {v:Value} (h:Touch (fun _=>False) W w) (hlo:W.heap.size≤lo) (ht:Touch (fun b=>lo≤b∧v.ownBlock=some b) w w'):Touch (fun _=>False) W w':=
 h.trans ht fun b hb h=>by have:=h.1;omega
theorem Row.at {w:World} {lo n c:Nat} {t:TypeId} {a:Option Addr} {xs:List Value} (h:Row w lo t (.slice a n c) xs) {j:Nat} {u:Value} (hj:xs[j]? =some u): ∃g,a=some ⟨g,0,none⟩∧lo≤g∧w.cell? ⟨g,j,none⟩=some u:=by
 obtain ⟨a',c',e,h⟩:=h.is
 injection e with e1 _ _
 subst e1
 exact h j u hj
theorem Row.take {w:World} {lo n c:Nat} {t:TypeId} {a:Option Addr} {xs:List Value} (h:Row w lo t (.slice a n c) xs) (ha:a≠none) (i:Nat) (hi:i≤xs.length):Row w lo t (.slice a i c) (xs.take i):=by
 rcases h with ⟨e,_⟩|⟨g,c',cur,e,hg,hh,h1,h2,h3⟩
 ·cases e;exact absurd rfl ha
 ·cases e
  refine .inr ⟨g,c,cur,by rw [List.length_take,Nat.min_eq_left hi],hg,hh,?_,h2,?_⟩
  ·rw [List.length_take];omega
  ·rw [List.length_take,Nat.min_eq_left hi,←h3,List.take_take,Nat.min_eq_left hi]
theorem drop_get {α:Type} {l:List α} {k:Nat} {x:α} (h:l[k]? =some x):l.drop k=x::l.drop (k+1):=by
 obtain ⟨hk,e⟩:=List.getElem?_eq_some_iff.1 h
 rw [List.drop_eq_getElem_cons hk,e]
theorem setCell_row {w:World} {g:Nat} {cur:Array Value} {t:TypeId} (hh:w.heap[g]? =some (.cells cur t (0,0))) (j:Nat) (v:Value):(w.setCell ⟨g,j,none⟩ v).heap[g]? =some (.cells (cur.setIfInBounds j v) t (0,0)):=by
 unfold World.setCell
 simp [Array.getElem?_modify,hh]
theorem frozen_row {w:World} {g:Nat} {cur:Array Value} {t:TypeId} (hh:w.heap[g]? =some (.cells cur t (0,0))) (j:Nat):w.frozen? ⟨g,j,none⟩=false:=by
 unfold World.frozen?
 simp [hh]
theorem Row.set {w:World} {lo:Nat} {t:TypeId} {g n c:Nat} {xs:List Value} (h:Row w lo t (.slice (some ⟨g,0,none⟩) n c) xs) (j:Nat) (u:Value):Row (w.setCell ⟨g,j,none⟩ u) lo t (.slice (some ⟨g,0,none⟩) n c) (xs.set j u):=by
 rcases h with ⟨e,_⟩|⟨g',c',cur,e,hg,hh,h1,h2,h3⟩
 ·cases e
 ·cases e
  refine .inr ⟨g,_,_,by rw [List.length_set],hg,setCell_row hh j u,by rw [List.length_set];exact h1,by simpa using h2,?_⟩
  rw [List.length_set]
  apply List.ext_getElem?
  intro i
  have hi:=congrArg (·[i]?) h3
  simp only [List.getElem?_take] at hi
  rw [List.getElem?_take,List.getElem?_set]
  simp only [Array.toList_setIfInBounds,List.getElem?_set]
  by_cases hij:j=i
  ·subst hij
   have hsz:xs.length≤cur.toList.length:=by simp;omega
   by_cases hjl:j<xs.length
   ·simp [hjl];omega
   ·simp [hjl]
  ·simp only [if_neg hij]
   exact hi
theorem Row.frozen {w:World} {lo:Nat} {t:TypeId} {g n c:Nat} {xs:List Value} (h:Row w lo t (.slice (some ⟨g,0,none⟩) n c) xs) (j:Nat):w.frozen? ⟨g,j,none⟩=false:=by
 rcases h with ⟨e,_⟩|⟨g',c',cur,e,hg,hh,_⟩
 ·cases e
 ·cases e
  exact frozen_row hh j
end
end Go.Ux
namespace Go.Ux
open Go Go.RowKit
variable {P:Program}
theorem Row.src {w:World} {lo:Nat} {t e:TypeId} {v:Value} {xs:List Value} (h:Row w lo e v xs) (ht:P.underlying t=some (.slice e)) (h1: ∀u∈xs,u.oneCell'=true):Src P 1 t v xs.length xs w:=by
 rcases h with ⟨rfl,rfl⟩|⟨g,c,cur,rfl,hg,hh,_,_,htk⟩
 ·exact Src.ofNil w ht 0
 ·refine Src.ofSlice w ht ⟨g,0,none⟩ xs.length c xs (by omega) (fun j u hj=> ?_) h1
  have e1:(⟨g,0,none⟩:Addr).add j=⟨g,j,none⟩:=by rw [Addr.add_mid];simp
  rw [e1]
  exact row_cell hh htk j u hj
theorem Grow.appRow {w:World} {lo:Nat} {e:TypeId} {v:Value} {xs:List Value} (h:Grow w lo e v xs) (t:TypeId) (bytes:Nat) (z:Value) (ht:P.underlying t=some (.slice e))
 (hi:(P.info? e).map (fun i=>(i.zero,i.size,i.bytes))=some (some z,1,bytes)) (hzs:z.cells.size=1) (u:Value) (ys:List Value) (hu:Row w 0 e u ys) (h1: ∀u∈ys,u.oneCell'=true) (hlo:lo≤w.heap.size)
 (h63:xs.length+ys.length≤maxLen) (hb:(xs.length+ys.length)*bytes≤140737488355328):
 ∃r w',(∀ty,(Builtin.append_ #[t,t] ty #[v,u]).run P w= .ok r w')∧Grow w' lo e r (xs++ys)∧Touch (fun b=>lo≤b∧v.ownBlock=some b) w w':=by
 obtain ⟨i0,hi0,hz0⟩:=Option.map_eq_some_iff.1 hi
 simp only [Prod.mk.injEq] at hz0
 obtain ⟨hz0,hz1,hz2⟩:=hz0
 have key:=fun ty=>run_app (P:=P) w t ty e i0 z 1 bytes ht hi0 hz0 hz1 hz2 hzs (by omega) v xs.length xs h.1 _ ys.length ys (hu.src ht h1) h63 hb
 obtain ⟨r,w',hr,ho,htt,hbk,_⟩:=key t
 refine ⟨r,w',fun ty=>hr,⟨by rw [List.length_append];exact ho,fun b hb=> ?_⟩,htt.mono fun b _ hb=>⟨h.2 b hb,hb⟩⟩
 rcases hbk with e|⟨g,e,hg⟩
 ·exact h.2 b (by rw [←e];exact hb)
 ·rw [e] at hb
  cases hb
  omega
theorem Grow.empty (w:World) (lo:Nat) (t:TypeId) (hlo:lo≤w.heap.size):Grow (w.alloc (.cells #[] t)) lo t (.slice (some ⟨w.heap.size,0,none⟩) 0 0) []:=
 ⟨⟨rfl,.inr ⟨w.heap.size,0,#[],rfl,Nat.zero_le _,heap_alloc_new w _,Nat.le_refl _,Nat.zero_le _,rfl,rfl⟩⟩,fun b hb=>by cases hb;exact hlo⟩
theorem Row.cases {w:World} {lo:Nat} {t:TypeId} {v:Value} {xs:List Value} (h:Row w lo t v xs):(v= .slice none 0 0∧xs= [])∨∃g c,v= .slice (some ⟨g,0,none⟩) xs.length c∧xs.length≤c∧Row w lo t (.slice (some ⟨g,0,none⟩) xs.length xs.length) xs:=by
 rcases h with h|⟨g,c,cur,rfl,hg,hh,h1,h2,h3⟩
 ·exact .inl h
 ·exact .inr ⟨g,c,rfl,h1,.inr ⟨g,_,cur,rfl,hg,hh,Nat.le_refl _,by omega,h3⟩⟩
end Go.Ux
namespace Go.Ux
open Go Go.RowKit
variable {P:Program}
theorem wpList_store_new {ops:Array Oper} {rest:List Oper} {op:Oper} {a:Act} {w:World} {Q:Exit→Act→World→Prop} (hgd:op.guard=none) (ty:TypeId) (x y:Operand) (ho:op.op= .store ty x y)
 (c c':Array Value) (hx:a.eval x= .pointer (some ⟨w.heap.size,0,none⟩)) (hy:a.eval y= .agg c') (hi:(P.info? ty).map (·.size)=some c'.size) (hs:c.size=c'.size) (h1:c'.all (·.oneCell')=true)
 (h:wpList P ops Q rest (a.put op.dst undef) (w.alloc (.cells c' ty))):wpList P ops Q (op::rest) a (w.alloc (.cells c ty)):=
 wpList_plain hgd fun _ hK=>by
  unfold Oper.wp execOp
  simp only [ho,hx,hy,Sem.run_bind,Sem.run_pure,Result.andThen_ok,run_storeAt_new w ty c c' hi hs h1]
  exact hK _ _ h
theorem cell_new (w:World) (c:Array Value) (ty:TypeId) (j:Nat):(w.alloc (.cells c ty)).cell? ⟨w.heap.size,j,none⟩=c[j]? :=cell_of_row _ _ j c ty (0,0) (heap_alloc_last w _)
theorem wpList_load_new {ops:Array Oper} {rest:List Oper} {op:Oper} {a:Act} {w:World} {Q:Exit→Act→World→Prop} (hgd:op.guard=none) (ty:TypeId) (x:Operand) (ho:op.op= .load ty x)
 (c:Array Value) (n:Nat) (e:TypeId) (hu:P.underlying ty=some (.array n e)) (hx:a.eval x= .pointer (some ⟨w.heap.size,0,none⟩)) (hi:(P.info? ty).map (·.size)=some c.size)
 (h:wpList P ops Q rest (a.put op.dst (.agg c)) (w.alloc (.cells c ty))):wpList P ops Q (op::rest) a (w.alloc (.cells c ty)):=
 wpList_plain hgd fun _ hK=>by
  unfold Oper.wp execOp
  simp only [ho,hx,Sem.run_bind,Sem.run_pure,Result.andThen_ok,run_loadAt_new w ty c n e hu hi]
  exact hK _ _ h
theorem is_store {ops:Array Oper} {rest:List Oper} {op:Oper} {a:Act} {w:World} {Q:Exit→Act→World→Prop} {x y:Operand} (ty:TypeId) (_:op.op= .store ty x y) (h:wpList P ops Q (op::rest) a w):wpList P ops Q (op::rest) a w:=h
theorem is_load {ops:Array Oper} {rest:List Oper} {op:Oper} {a:Act} {w:World} {Q:Exit→Act→World→Prop} {x:Operand} (ty:TypeId) (_:op.op= .load ty x) (h:wpList P ops Q (op::rest) a w):wpList P ops Q (op::rest) a w:=h
theorem wpList_buildZero {ops:Array Oper} {rest:List Oper} {o:Oper} {a:Act} {w:World} {Q:Exit→Act→World→Prop} (hg:o.guard=none) (t e:TypeId) (n:Nat) (ho:o.op= .build t #[]) (Z:Array Value)
 (hu:P.underlying t=some (.array n e)) (hz:(zeroValue t).run P w= .ok (.agg Z) w) (ie:TypeInfo) (hie:P.info? e=some ie)
 (h:wpList P ops Q rest (a.put o.dst (.agg Z)) w):wpList P ops Q (o::rest) a w:=
 wpList_plain hg fun _ hK=>by
  have hr:(Instr.build t #[]).run P w= .ok (.agg Z) w:=by
   simp [Instr.build,hz,run_underlying hu,sizeOf,typeInfo,hie,Instr.fill,Value.cells]
  unfold Oper.wp execOp
  simp only [ho,List.map_toArray,List.map_nil,Sem.run_bind,Sem.run_pure,Result.andThen_ok,hr]
  exact hK _ _ h
theorem put_all: ∀(l:List Value) (k:Nat) (cs:Array Value),k+l.length=cs.size→(l.zipIdx k).foldl (fun cs (x:Value×Nat)=>cs.setIfInBounds (0+x.2) x.1) cs=(cs.toList.take k++l).toArray
 | [],k,cs,h=>by
   have:cs.toList.take k=cs.toList:=List.take_of_length_le (by simp at h⊢;omega)
   simp [this]
 |v::l,k,cs,h=>by
  rw [List.zipIdx_cons,List.foldl_cons,put_all l (k+1) _ (by simp at h⊢;omega)]
  congr 1
  have hk:k<cs.toList.length:=by simp at h⊢;omega
  simp only [Nat.zero_add,Array.toList_setIfInBounds]
  rw [List.take_add_one,List.take_set_of_le (Nat.le_refl _),List.getElem?_set_self hk]
  simp
theorem wpList_buildOne {ops:Array Oper} {rest:List Oper} {o:Oper} {a:Act} {w:World} {Q:Exit→Act→World→Prop} (hg:o.guard=none) (t e:TypeId) (x:Operand) (ho:o.op= .buildSlice t 1 #[(0,x)]) (A:Array Value)
 (hx:a.eval x= .agg A) (ie:TypeInfo) (z:Value) (hu:P.underlying t=some (.slice e)) (hie:P.info? e=some ie) (hz:ie.zero=some z) (hs:ie.size=A.size) (hp:0<A.size) (hm:A.size≤2^24)
 (h:wpList P ops Q rest (a.put o.dst (.slice (some ⟨w.heap.size,0,none⟩) 1 1)) (w.alloc (.cells A e))):wpList P ops Q (o::rest) a w:=by
 refine wpList_buildSlice hg t e 1 _ ho A ie z hu hie hz (by rw [hs];omega) (by rw [hs];omega) ?_ h
 generalize (fun j=>z.cells[j % z.cells.size]!)=gz
 simp only [List.map_toArray,List.map_cons,List.map_nil,hx,Instr.fill,Value.cells,hs]
 simp only [Nat.one_mul,Nat.zero_mul,Array.size_map,Array.size_range,Nat.zero_add]
 rw [if_neg (by simp)]
 congr 1
 have:=put_all A.toList 0 ((Array.range A.size).map gz) (by simp)
 simp only [List.take_zero,List.nil_append,Nat.zero_add] at this
 rw [←Array.foldl_toList,Array.toList_zipIdx]
 simpa using this
theorem is_build {ops:Array Oper} {rest:List Oper} {op:Oper} {a:Act} {w:World} {Q:Exit→Act→World→Prop} {p:Array (Nat×Operand)} (ty:TypeId) (_:op.op= .build ty p) (h:wpList P ops Q (op::rest) a w):wpList P ops Q (op::rest) a w:=h
theorem is_buildSlice {ops:Array Oper} {rest:List Oper} {op:Oper} {a:Act} {w:World} {Q:Exit→Act→World→Prop} {n:Nat} {p:Array (Nat×Operand)} (ty:TypeId) (_:op.op= .buildSlice ty n p) (h:wpList P ops Q (op::rest) a w):wpList P ops Q (op::rest) a w:=h
theorem wpList_index {ops:Array Oper} {rest:List Oper} {o:Oper} {a:Act} {w:World} {Q:Exit→Act→World→Prop} (hg:o.guard=none) (t e:TypeId) (n x:Nat) (y z:Operand) (ho:o.op= .index t y z) (A:Array Value) (v:Value)
 (hu:P.underlying t=some (.array n e)) (hs:(sizeOf e).run P w= .ok 1 w) (ha:(isAgg e).run P w= .ok false w) (hy:a.eval y= .agg A) (hz:a.eval z= .int .i64 (x:Int)) (hx:x<n) (hv:A[x]? =some v)
 (h:wpList P ops Q rest (a.put o.dst v) w):wpList P ops Q (o::rest) a w:=
 wpList_plain hg fun _ hK=>by
  have hr:(Instr.index t (.agg A) (.int .i64 (x:Int))).run P w= .ok v w:=by
   have hb:(0:Int)≤x∧(x:Int)<n:=by omega
   simp [Instr.index,asIntOf,run_underlying hu,hs,hb,part,ha,hv]
   omega
  unfold Oper.wp execOp
  simp only [ho,hy,hz,Sem.run_bind,Sem.run_pure,Result.andThen_ok,hr]
  exact hK _ _ h
theorem is_index {ops:Array Oper} {rest:List Oper} {op:Oper} {a:Act} {w:World} {Q:Exit→Act→World→Prop} {x y:Operand} (ty:TypeId) (_:op.op= .index ty x y) (h:wpList P ops Q (op::rest) a w):wpList P ops Q (op::rest) a w:=h
end Go.Ux
namespace Go.Ux
open Go Go.RowKit
variable {P:Program}
theorem wpList_indexAgg {ops:Array Oper} {rest:List Oper} {o:Oper} {a:Act} {w:World} {Q:Exit→Act→World→Prop} (hg:o.guard=none) (t e:TypeId) (n x k:Nat) (y z:Operand) (ho:o.op= .index t y z) (A:Array Value) (v:Value)
 (hu:P.underlying t=some (.array n e)) (hs:(sizeOf e).run P w= .ok k w) (ha:(isAgg e).run P w= .ok true w) (hy:a.eval y= .agg A) (hz:a.eval z= .int .i64 (x:Int)) (hx:x<n) (hv:Value.agg (A.extract (x*k) (x*k+k))=v)
 (h:wpList P ops Q rest (a.put o.dst v) w):wpList P ops Q (o::rest) a w:=
 wpList_plain hg fun _ hK=>by
  have hr:(Instr.index t (.agg A) (.int .i64 (x:Int))).run P w= .ok v w:=by
   have hb:(0:Int)≤x∧(x:Int)<n:=by omega
   subst hv
   simp [Instr.index,asIntOf,run_underlying hu,hs,hb,part,ha]
   omega
  unfold Oper.wp execOp
  simp only [ho,hy,hz,Sem.run_bind,Sem.run_pure,Result.andThen_ok,hr]
  exact hK _ _ h
theorem alloc_at (w:World) (o:Obj) (i:Nat):(w.alloc o).heap[i]? =if i=w.heap.size then some o else w.heap[i]? :=by
 show (w.heap.push o)[i]? =_
 rw [Array.getElem?_push]
end Go.Ux
namespace Go.Ux
open Go Go.RowKit
def pv (l:List (Int×Int)):List Value:=l.flatMap fun p=> [.int .i64 p.1,.int .i64 p.2]
theorem pv_append (a b:List (Int×Int)):pv (a++b)=pv a++pv b:=by simp [pv]
theorem pv_get: ∀{l:List (Int×Int)} {i:Nat} {p:Int×Int},l[i]? =some p→(pv l)[i*2]? =some (.int .i64 p.1)∧(pv l)[i*2+1]? =some (.int .i64 p.2)
 | [],i,p,h=>by simp at h
 |q::l,0,p,h=>by
  simp at h
  subst h
  exact ⟨rfl,rfl⟩
 |q::l,i+1,p,h=>by
  simp at h
  have:=pv_get h
  have e1:(i+1)*2=i*2+1+1:=by omega
  unfold pv at*
  rw [List.flatMap_cons,e1]
  exact this
def PGrow (w:World) (lo:Nat) (e:TypeId) (v:Value) (l:List (Int×Int)):Prop:=w.ownsRow 0 e 2 v l.length (pv l)∧∀b,v.ownBlock=some b→lo≤b
theorem PGrow.nil (w:World) (lo:Nat) (t:TypeId):PGrow w lo t (.slice none 0 0) []:=⟨World.ownsRow_nil _ _ _ _,by simp [Value.ownBlock]⟩
theorem PGrow.is {w:World} {lo:Nat} {t:TypeId} {v:Value} {l:List (Int×Int)} (h:PGrow w lo t v l): ∃a c,v= .slice a l.length c∧∀i p,l[i]? =some p→∃b f,a=some ⟨b,f,none⟩∧w.cell? ⟨b,f+i*2,none⟩=some (.int .i64 p.1)∧w.cell? ⟨b,f+i*2+1,none⟩=some (.int .i64 p.2):=by
 rcases h.1.2 with ⟨hv,h0⟩|⟨g,cap,cur,hv,_,hh,_,_,_,ht⟩
 ·refine ⟨none,0,by rw [h0];exact hv,fun i p hp=> ?_⟩
  rw [List.eq_nil_of_length_eq_zero h0] at hp
  simp at hp
 ·refine ⟨_,_,hv,fun i p hp=>⟨g,0,rfl,?_⟩⟩
  obtain ⟨h1,h2⟩:=pv_get hp
  rw [Nat.zero_add]
  exact ⟨row_cell hh ht _ _ h1,row_cell hh ht _ _ h2⟩
theorem PGrow.touch {R:Nat→Prop} {w w':World} {lo:Nat} {t:TypeId} {v:Value} {l:List (Int×Int)} (h:PGrow w lo t v l) (ht:Touch R w w') (hR: ∀b,lo≤b→¬R b):PGrow w' lo t v l:=
 ⟨own_touch h.1 ht fun b hb=>hR b (h.2 b hb),h.2⟩
theorem PGrow.app {P:Program} {w:World} {lo:Nat} {e:TypeId} {v:Value} {l:List (Int×Int)} (h:PGrow w lo e v l) (t:TypeId) (bytes:Nat) (z:Value) (ht:P.underlying t=some (.slice e))
 (hi:(P.info? e).map (fun i=>(i.zero,i.size,i.bytes))=some (some z,2,bytes)) (hzs:z.cells.size=2) (c x:Int) (hlo:lo≤w.heap.size)
 (h63:l.length+1≤maxLen) (hb:(l.length+1)*bytes≤140737488355328):
 ∃r w',(∀ty,(Builtin.append_ #[t,t] ty #[v,.slice (some ⟨w.heap.size,0,none⟩) 1 1]).run P (w.alloc (.cells #[.int .i64 c,.int .i64 x] e))= .ok r w')∧PGrow w' lo e r (l++ [(c,x)])∧Touch (fun b=>lo≤b∧v.ownBlock=some b) w w':=by
 obtain ⟨r,w',h2,h3,h4,h5⟩:=app_new t e 2 bytes z ht hi hzs (by omega) v l.length (pv l) w h.1 1 [.int .i64 c,.int .i64 x] rfl (fun u hu=>by
  rcases List.mem_cons.1 hu with rfl|hu
  ·rfl
  ·rw [List.mem_singleton.1 hu];rfl) h63 hb
 refine ⟨r,w',h2,⟨by rw [List.length_append,pv_append];exact h3,fun b hb=> ?_⟩,h4.mono fun b _ hb=>⟨h.2 b hb,hb⟩⟩
 rcases h5 with e|⟨g,e,hg⟩
 ·exact h.2 b (by rw [←e];exact hb)
 ·rw [e] at hb
  cases hb
  omega
end Go.Ux
namespace Go.Ux
open Go Go.RowKit
variable {P:Program}
theorem run_nextS (w:World) (s:ByteArray) (r pos:Nat) (ty:TypeId) (hr:w.heap[r]? =some (.stringIter s pos)) (h:pos<s.size) (ha:(s[pos]'h).toNat<128):
 (Instr.next (.pointer (some ⟨r,0,none⟩)) true ty).run P w= .ok (.tuple #[.bool true,.int .i64 pos,.int .i32 (s[pos]'h).toNat]) { w with heap:=w.heap.setIfInBounds r (.stringIter s (pos+1)) }:=by
 have hlt:r<w.heap.size:=lt_of_heap hr
 simp only [Instr.next,getObj,setObj,Sem.run_bind,Sem.run,hr,Result.andThen,h,if_true,decode_ascii s pos h ha]
 simp [goInt,Sem.run,hr]
theorem run_nextS_end (w:World) (s:ByteArray) (r pos:Nat) (ty:TypeId) (hr:w.heap[r]? =some (.stringIter s pos)) (h: ¬pos<s.size):
 (Instr.next (.pointer (some ⟨r,0,none⟩)) true ty).run P w= .ok (.tuple #[.bool false]) w:=by
 simp [Instr.next,getObj,Sem.run,hr,h]
section
variable {ops:Array Oper} {rest:List Oper} {o:Oper} {a:Act} {w:World} {Q:Exit→Act→World→Prop}
theorem wpList_nextS (hg:o.guard=none) (it:Operand) (hop:o.op=Op.next it true) (s:ByteArray) (r pos:Nat) (z:Int) (hit:a.eval it= .pointer (some ⟨r,0,none⟩)) (hr:w.heap[r]? =some (.stringIter s pos)) (h:pos<s.size) (ha:(s[pos]'h).toNat<128) (hz:((s[pos]'h).toNat:Int)=z)
 (hK: ∀w',w'.heap[r]? =some (.stringIter s (pos+1))→Touch (fun i=>i=r) w w'→wpList P ops Q rest (a.put o.dst (.tuple #[.bool true,.int .i64 pos,.int .i32 z])) w'):wpList P ops Q (o::rest) a w:=by
 refine wpList_plain hg fun K' hK'=> ?_
 have hrun:=run_nextS (P:=P) w s r pos o.type hr h ha
 have hlt:r<w.heap.size:=lt_of_heap hr
 unfold Oper.wp
 simp only [execOp,hop,hit,Sem.run_bind,Sem.run_pure,Result.andThen_ok,hrun]
 refine hK' _ _ ?_
 rw [hz]
 refine hK _ ?_ ⟨rfl,rfl,rfl,by simp,fun i hi hn=> ?_⟩
 ·simp [hlt]
 ·have: ¬r=i:=fun e=>hn e.symm
  simp [this]
theorem wpList_nextS_end (hg:o.guard=none) (it:Operand) (hop:o.op=Op.next it true) (s:ByteArray) (r pos:Nat) (hit:a.eval it= .pointer (some ⟨r,0,none⟩)) (hr:w.heap[r]? =some (.stringIter s pos)) (h: ¬pos<s.size)
 (hK:wpList P ops Q rest (a.put o.dst (.tuple #[.bool false])) w):wpList P ops Q (o::rest) a w:=by
 refine wpList_plain hg fun K' hK'=> ?_
 have hrun:=run_nextS_end (P:=P) w s r pos o.type hr h
 unfold Oper.wp
 simp only [execOp,hop,hit,Sem.run_bind,Sem.run_pure,Result.andThen_ok,hrun]
 exact hK' _ _ hK
end
end Go.Ux
namespace Go.Ux
open Go Go.RowKit
variable {P:Program}
def cutA (a:Option Addr) (l c s:Nat):Option Addr:=if c=l then a else a.map (·.add (l*s))
theorem cutA_some {g o l c s:Nat} (h:l<c):cutA (some ⟨g,o,none⟩) l c s=some ⟨g,o+l*s,none⟩:=by
 unfold cutA
 rw [if_neg (by omega)]
 simp [Addr.add_mid]
theorem elem_of {t e:TypeId} (h:P.underlying t=some (.slice e)):P.elem t=e:=by
 simp [Program.elem,h]
theorem run_sizeOf_info {e:TypeId} {sz:Nat} (hi:(P.info? e).map (·.size)=some sz) (w:World):(sizeOf e).run P w= .ok sz w:=by
 obtain ⟨i,h1,h2⟩:=Option.map_eq_some_iff.1 hi
 simp [sizeOf,typeInfo,h1,h2]
theorem wpList_cutl {w:World} {ops:Array Oper} {rest:List Oper} {o:Oper} {a:Act} {Q:Exit→Act→World→Prop} (hgd:o.guard=none) (t e:TypeId) (x lo:Operand) (ho:o.op= .slice t x (some lo) none none)
 (ht:P.underlying t=some (.slice e)) (sz:Nat) (hsz:(P.info? e).map (·.size)=some sz) (b:Option Addr) (n c l:Nat) (k:IntKind) (hx:a.eval x= .slice b n c) (hl:a.eval lo= .int k (l:Int)) (h1:l≤n)
 (h:wpList P ops Q rest (a.put o.dst (.slice (cutA b l c sz) (n-l) (c-l))) w):wpList P ops Q (o::rest) a w:=by
 refine wpList_plain hgd fun K' hK'=> ?_
 have ht':P.underlying t=some (.slice (P.elem t)):=by rw [elem_of ht];exact ht
 have hr:(Instr.slice t (.slice b n c) (some (.int k (l:Int))) none none).run P w= .ok (.slice (cutA b l c sz) (n-l) (c-l)) w:=by
  rw [run_slice_l w t b n c ht' k (l:Int) (by omega) (by omega),elem_of ht,run_sizeOf_info hsz]
  simp [Result.andThen,sliced,cutA]
 have hr2:(Instr.sliceAt t (.slice b n c) (some (.int k (l:Int))) none none).run P w= .ok (.slice (cutA b l c sz) (n-l) (c-l)) w:=by rw [run_sliceAt_slice w t _ _ _ _ ht'];exact hr
 unfold Oper.wp
 simp [execOp,ho,hx,hl,hr,hr2,Result.andThen]
 exact hK' _ _ h
theorem is_slice {ops:Array Oper} {rest:List Oper} {op:Oper} {a:Act} {w:World} {Q:Exit→Act→World→Prop} {x:Operand} {l h m:Option Operand} (ty:TypeId) (_:op.op= .slice ty x l h m) (h:wpList P ops Q (op::rest) a w):wpList P ops Q (op::rest) a w:=h
end Go.Ux
