/- A part of the proof that the statement holds for every input that it names. No other condition. -/
import Derived.Test.YtmonfaepfbpdpaaUxMemAZ
set_option linter.unusedVariables false
set_option linter.unusedSimpArgs false
namespace Go.Ux
open Go
inductive Nod where
 |mk (kind op:Int) (s t:ByteArray) (n:Int) (l:List Nod)
namespace Nod
def kind:Nod→Int| .mk k _ _ _ _ _=>k
def op:Nod→Int| .mk _ o _ _ _ _=>o
def s:Nod→ByteArray| .mk _ _ s _ _ _=>s
def t:Nod→ByteArray| .mk _ _ _ t _ _=>t
def n:Nod→Int| .mk _ _ _ _ n _=>n
def l:Nod→List Nod| .mk _ _ _ _ _ l=>l
theorem lt_of_mem {k o:Int} {s t:ByteArray} {n:Int} {l:List Nod} {x:Nod} (h:x∈l):SizeOf.sizeOf x<SizeOf.sizeOf (Nod.mk k o s t n l):=by
 have:=List.sizeOf_lt_of_mem h
 simp
 omega
theorem lt_l {y x:Nod} (h:x∈y.l):SizeOf.sizeOf x<SizeOf.sizeOf y:=by
 cases y with
 |mk k o s t n l=>exact lt_of_mem h
end Nod
def SixAt (w:World) (A:Nat→Prop) (a:Option Addr) (i:Nat) (y:Value):Prop:= ∃g off y0 y1 y2 y3 y4 y5,a=some ⟨g,off,none⟩∧A g∧g<w.heap.size∧y= .agg #[y0,y1,y2,y3,y4,y5]∧
 w.cell? ⟨g,off+i*6,none⟩=some y0∧w.cell? ⟨g,off+i*6+1,none⟩=some y1∧w.cell? ⟨g,off+i*6+2,none⟩=some y2∧w.cell? ⟨g,off+i*6+3,none⟩=some y3∧w.cell? ⟨g,off+i*6+4,none⟩=some y4∧w.cell? ⟨g,off+i*6+5,none⟩=some y5
theorem SixAt.touch {R:Nat→Prop} {w w':World} {A:Nat→Prop} {a:Option Addr} {i:Nat} {y:Value} (h:SixAt w A a i y) (T:Touch R w w') (hR: ∀g,g<w.heap.size→A g→¬R g):SixAt w' A a i y:=by
 obtain ⟨g,off,y0,y1,y2,y3,y4,y5,rfl,hA,hg,rfl,c0,c1,c2,c3,c4,c5⟩:=h
 have hn:=hR g hg hA
 exact ⟨g,off,y0,y1,y2,y3,y4,y5,rfl,hA,Nat.lt_of_lt_of_le hg T.size,rfl,T.cell c0 hn,T.cell c1 hn,T.cell c2 hn,T.cell c3 hn,T.cell c4 hn,T.cell c5 hn⟩
theorem SixAt.mono {w:World} {A A':Nat→Prop} {a:Option Addr} {i:Nat} {y:Value} (h:SixAt w A a i y) (hA: ∀g,g<w.heap.size→A g→A' g):SixAt w A' a i y:=by
 obtain ⟨g,off,y0,y1,y2,y3,y4,y5,e,h1,hg,h2⟩:=h
 exact ⟨g,off,y0,y1,y2,y3,y4,y5,e,hA g hg h1,hg,h2⟩
def nodV (x:Nod) (u:Value):Value:= .agg #[.int .i64 x.kind,.int .i64 x.op,.string x.s,.string x.t,.int .i64 x.n,u]
def i64B (k:Int):Prop:= -9223372036854775808≤k∧k≤9223372036854775807
def Nod.fine (x:Nod):Prop:=i64B x.kind∧i64B x.op∧i64B x.n∧x.s.size≤140737488355328∧x.t.size≤140737488355328∧x.l.length≤140737488355328
inductive ND (w:World) (A:Nat→Prop):Nod→Value→Prop
 |mk (x:Nod) (a:Option Addr) (c:Nat) (Y:Nat→Value) (hf:x.fine) (hl:x.l.length≤c) (hm: ∀i,i<x.l.length→SixAt w A a i (Y i)) (hr: ∀i y,x.l[i]? =some y→ND w A y (Y i)):ND w A x (nodV x (.slice a x.l.length c))
def NRows (w:World) (A:Nat→Prop) (l:List Nod) (v:Value):Prop:= ∃a c,v= .slice a l.length c∧l.length≤c∧∀i y,l[i]? =some y→∃u,SixAt w A a i u∧ND w A y u
theorem ND.open {w:World} {A:Nat→Prop} {x:Nod} {v:Value} (h:ND w A x v): ∃u,v=nodV x u∧x.fine∧NRows w A x.l u:=by
 cases h with
 |mk _ a c Y hf hl hm hr=>exact ⟨_,rfl,hf,a,c,rfl,hl,fun i y hy=>⟨Y i,hm i (List.getElem?_eq_some_iff.1 hy).1,hr i y hy⟩⟩
open Classical in
theorem ND.of_rows {w:World} {A:Nat→Prop} {x:Nod} {u:Value} (hf:x.fine) (h:NRows w A x.l u):ND w A x (nodV x u):=by
 obtain ⟨a,c,rfl,hl,hr⟩:=h
 have: ∀i,∃u,∀y,x.l[i]? =some y→SixAt w A a i u∧ND w A y u:=fun i=>by
  cases hi:x.l[i]? with
  |none=>exact ⟨.nilIface,fun y hy=>by cases hy⟩
  |some y=>
   obtain ⟨u,h1,h2⟩:=hr i y hi
   exact ⟨u,fun z hz=>by cases hz;exact ⟨h1,h2⟩⟩
 exact .mk x a c (fun i=>(this i).choose) hf hl (fun i hi=>((this i).choose_spec _ (List.getElem?_eq_getElem hi)).1) fun i y hy=>((this i).choose_spec y hy).2
theorem ND.touch {R:Nat→Prop} {w w':World} {A:Nat→Prop} (T:Touch R w w') (hR: ∀g,g<w.heap.size→A g→¬R g) {x:Nod} {v:Value} (h:ND w A x v):ND w' A x v:=by
 induction h with
 |mk x a c Y hf hl hm hr ih=>exact .mk x a c Y hf hl (fun i hi=>(hm i hi).touch T hR) ih
theorem ND.touch0 {w w':World} {A:Nat→Prop} (T:Touch (fun _=>False) w w') {x:Nod} {v:Value} (h:ND w A x v):ND w' A x v:=h.touch T fun _ _ _ f=>f
theorem ND.mono {w:World} {A A':Nat→Prop} (hA: ∀g,g<w.heap.size→A g→A' g) {x:Nod} {v:Value} (h:ND w A x v):ND w A' x v:=by
 induction h with
 |mk x a c Y hf hl hm hr ih=>exact .mk x a c Y hf hl (fun i hi=>(hm i hi).mono hA) ih
theorem NRows.touch {R:Nat→Prop} {w w':World} {A:Nat→Prop} (T:Touch R w w') (hR: ∀g,g<w.heap.size→A g→¬R g) {l:List Nod} {v:Value} (h:NRows w A l v):NRows w' A l v:=by
 obtain ⟨a,c,rfl,hl,hr⟩:=h
 refine ⟨a,c,rfl,hl,fun i y hy=> ?_⟩
 obtain ⟨u,h1,h2⟩:=hr i y hy
 exact ⟨u,h1.touch T hR,h2.touch T hR⟩
theorem NRows.touch0 {w w':World} {A:Nat→Prop} (T:Touch (fun _=>False) w w') {l:List Nod} {v:Value} (h:NRows w A l v):NRows w' A l v:=h.touch T fun _ _ _ f=>f
theorem NRows.mono {w:World} {A A':Nat→Prop} (hA: ∀g,g<w.heap.size→A g→A' g) {l:List Nod} {v:Value} (h:NRows w A l v):NRows w A' l v:=by
 obtain ⟨a,c,rfl,hl,hr⟩:=h
 refine ⟨a,c,rfl,hl,fun i y hy=> ?_⟩
 obtain ⟨u,h1,h2⟩:=hr i y hy
 exact ⟨u,h1.mono hA,h2.mono hA⟩
theorem NRows.nil (w:World) (A:Nat→Prop):NRows w A [] (.slice none 0 0):=⟨none,0,rfl,Nat.le_refl _,fun i y hy=>by simp at hy⟩
theorem NRows.is {w:World} {A:Nat→Prop} {l:List Nod} {v:Value} (h:NRows w A l v): ∃a c,v= .slice a l.length c∧l.length≤c:=by
 obtain ⟨a,c,e,hl,_⟩:=h
 exact ⟨a,c,e,hl⟩
theorem NRows.at {w:World} {A:Nat→Prop} {l:List Nod} {a:Option Addr} {n c:Nat} (h:NRows w A l (.slice a n c)) {i:Nat} {y:Nod} (hy:l[i]? =some y): ∃g off ua uc,a=some ⟨g,off,none⟩∧A g∧g<w.heap.size∧
 w.cell? ⟨g,off+i*6,none⟩=some (.int .i64 y.kind)∧w.cell? ⟨g,off+i*6+1,none⟩=some (.int .i64 y.op)∧w.cell? ⟨g,off+i*6+2,none⟩=some (.string y.s)∧w.cell? ⟨g,off+i*6+3,none⟩=some (.string y.t)∧w.cell? ⟨g,off+i*6+4,none⟩=some (.int .i64 y.n)∧w.cell? ⟨g,off+i*6+5,none⟩=some (.slice ua y.l.length uc)∧
 ND w A y (nodV y (.slice ua y.l.length uc)):=by
 obtain ⟨a',c',e,hl,hr⟩:=h
 cases e
 obtain ⟨u,⟨g,off,y0,y1,y2,y3,y4,y5,rfl,hA,hg,rfl,c0,c1,c2,c3,c4,c5⟩,h2⟩:=hr i y hy
 have h2':=h2
 obtain ⟨u,e,hf,h3⟩:=h2.open
 obtain ⟨ua,uc,rfl,_⟩:=h3.is
 unfold nodV at e
 cases e
 exact ⟨g,off,ua,uc,rfl,hA,hg,c0,c1,c2,c3,c4,c5,h2'⟩
end Go.Ux
namespace Go.Ux
open Go Go.RowKit
theorem store6 {P:Program} {ops:Array Oper} {rest:List Oper} {o:Oper} {a:Act} {w:World} {Q:Exit→Act→World→Prop} (hgd:o.guard=none) (ty:TypeId) (x y:Operand) (ho:o.op= .store ty x y)
 (g:Nat) (v0 v1 v2 v3 v4 v5:Value) (hx:a.eval x= .pointer (some ⟨g,0,none⟩)) (hy:a.eval y= .agg #[v0,v1,v2,v3,v4,v5])
 (t:TypeId) (u0 u1 u2 u3 u4 u5:Value) (hg:w.heap[g]? =some (.cells #[u0,u1,u2,u3,u4,u5] t (0,0))) (hi:(P.info? ty).map (·.size)=some 6)
 (h1:(#[v0,v1,v2,v3,v4,v5]:Array Value).all (·.oneCell')=true)
 (h: ∀W,W.heap[g]? =some (.cells #[v0,v1,v2,v3,v4,v5] t (0,0))→Touch (fun b=>b=g) w W→wpList P ops Q rest (a.put o.dst undef) W):wpList P ops Q (o::rest) a w:=
 wpList_store_row hgd ty x y ho g _ hx hy t _ hg hi rfl h1 (h _ (setRow_heap w g _ _ _ _ hg) ((Touch.refl (fun b=>b=g) w).setRow (fun _=>rfl) _))
theorem six_one (k o m:Int) (s t:ByteArray) (a:Option Addr) (n c:Nat):(#[.int .i64 k,.int .i64 o,.string s,.string t,.int .i64 m,.slice a n c]:Array Value).all (·.oneCell')=true:=by simp [Value.oneCell']
end Go.Ux
namespace Go.Ux
open Go Go.RowKit
def allocL (w:World):List Obj→World
 | []=>w
 |o::l=>allocL (w.alloc o) l
theorem allocL_touch (l:List Obj): ∀w:World,Touch (fun _=>False) w (allocL w l):=by
 induction l with
 |nil=>exact fun w=>Touch.refl _ _
 |cons o l ih=>exact fun w=>((Touch.refl _ w).alloc o).trans (ih _) fun _ _ f=>f
theorem allocL_at (l:List Obj): ∀(w:World) (k:Nat) (o:Obj),l[k]? =some o→(allocL w l).heap[w.heap.size+k]? =some o:=by
 induction l with
 |nil=>exact fun w k o h=>by simp at h
 |cons x l ih=>
  intro w k o h
  show (allocL (w.alloc x) l).heap[w.heap.size+k]? =some o
  cases k with
  |zero=>
   cases h
   have hlt:w.heap.size<(w.alloc x).heap.size:=by rw [World.size_alloc];omega
   rw [Nat.add_zero,(allocL_touch l (w.alloc x)).block _ hlt (fun f=>f)]
   exact heap_alloc_new w x
  |succ k=>
   have h2:=ih (w.alloc x) k o (by simpa using h)
   rw [World.size_alloc] at h2
   rw [show w.heap.size+(k+1)=w.heap.size+1+k by omega]
   exact h2
end Go.Ux
namespace Go.Ux
open Go Go.RowKit
theorem storeN {P:Program} {ops:Array Oper} {rest:List Oper} {o:Oper} {a:Act} {w:World} {Q:Exit→Act→World→Prop} (hgd:o.guard=none) (ty:TypeId) (x y:Operand) (ho:o.op= .store ty x y)
 (g:Nat) (vs:Array Value) (hx:a.eval x= .pointer (some ⟨g,0,none⟩)) (hy:a.eval y= .agg vs)
 (t:TypeId) (us:Array Value) (hg:w.heap[g]? =some (.cells us t (0,0))) (hi:(P.info? ty).map (·.size)=some vs.size) (hs:us.size=vs.size)
 (h1:vs.all (·.oneCell')=true)
 (h: ∀W,W.heap[g]? =some (.cells vs t (0,0))→Touch (fun b=>b=g) w W→wpList P ops Q rest (a.put o.dst undef) W):wpList P ops Q (o::rest) a w:=
 wpList_store_row hgd ty x y ho g _ hx hy t _ hg hi hs h1 (h _ (setRow_heap w g _ _ _ _ hg) ((Touch.refl (fun b=>b=g) w).setRow (fun _=>rfl) _))
end Go.Ux
