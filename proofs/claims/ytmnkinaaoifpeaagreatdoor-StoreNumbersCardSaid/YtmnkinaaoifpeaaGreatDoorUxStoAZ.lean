/- A part of the proof that the statement holds for every input that it names. No other condition. -/
import Derived.Test.YtmnkinaaoifpeaaGreatDoorUxMemAZ
import Derived.Test.YtmnkinaaoifpeaaGreatDoorUxMapAZ
import Derived.Test.YtmnkinaaoifpeaaGreatDoorUxTabAZ
set_option linter.unusedVariables false
set_option linter.unusedSimpArgs false
namespace Go.Ux
open Go
inductive Nod where
 |mk (kind op:Int) (s t:ByteArray) (n:Int) (l:List Nod)
namespace Nod
def kind:Nod→Int| .mk k _ _ _ _ _=>k
def op:Nod→Int| .mk _ o _ _ _ _=>o
def s:Nod→ByteArray| .mk _ _ s _ _ _=>s
def t:Nod→ByteArray| .mk _ _ _ t _ _=>t
def n:Nod→Int| .mk _ _ _ _ n _=>n
def l:Nod→List Nod| .mk _ _ _ _ _ l=>l
end Nod
def SixAt (w:World) (A:Nat→Prop) (a:Option Addr) (i:Nat) (y:Value):Prop:= ∃g off y0 y1 y2 y3 y4 y5,a=some ⟨g,off,none⟩∧A g∧g<w.heap.size∧y= .agg #[y0,y1,y2,y3,y4,y5]∧
 w.cell? ⟨g,off+i*6,none⟩=some y0∧w.cell? ⟨g,off+i*6+1,none⟩=some y1∧w.cell? ⟨g,off+i*6+2,none⟩=some y2∧w.cell? ⟨g,off+i*6+3,none⟩=some y3∧w.cell? ⟨g,off+i*6+4,none⟩=some y4∧w.cell? ⟨g,off+i*6+5,none⟩=some y5
theorem SixAt.touch {R:Nat→Prop} {w w':World} {A:Nat→Prop} {a:Option Addr} {i:Nat} {y:Value} (h:SixAt w A a i y) (T:Touch R w w') (hR: ∀g,g<w.heap.size→A g→¬R g):SixAt w' A a i y:=by
 obtain ⟨g,off,y0,y1,y2,y3,y4,y5,rfl,hA,hg,rfl,c0,c1,c2,c3,c4,c5⟩:=h
 have hn:=hR g hg hA
 exact ⟨g,off,y0,y1,y2,y3,y4,y5,rfl,hA,Nat.lt_of_lt_of_le hg T.size,rfl,T.cell c0 hn,T.cell c1 hn,T.cell c2 hn,T.cell c3 hn,T.cell c4 hn,T.cell c5 hn⟩
theorem SixAt.mono {w:World} {A A':Nat→Prop} {a:Option Addr} {i:Nat} {y:Value} (h:SixAt w A a i y) (hA: ∀g,g<w.heap.size→A g→A' g):SixAt w A' a i y:=by
 obtain ⟨g,off,y0,y1,y2,y3,y4,y5,e,h1,hg,h2⟩:=h
 exact ⟨g,off,y0,y1,y2,y3,y4,y5,e,hA g hg h1,hg,h2⟩
def nodV (x:Nod) (u:Value):Value:= .agg #[.int .i64 x.kind,.int .i64 x.op,.string x.s,.string x.t,.int .i64 x.n,u]
def i64B (k:Int):Prop:= -9223372036854775808≤k∧k≤9223372036854775807
def Nod.fine (x:Nod):Prop:=i64B x.kind∧i64B x.op∧i64B x.n∧x.s.size≤140737488355328∧x.t.size≤140737488355328∧x.l.length≤140737488355328
inductive ND (w:World) (A:Nat→Prop):Nod→Value→Prop
 |mk (x:Nod) (a:Option Addr) (c:Nat) (Y:Nat→Value) (hf:x.fine) (hl:x.l.length≤c) (hm: ∀i,i<x.l.length→SixAt w A a i (Y i)) (hr: ∀i y,x.l[i]? =some y→ND w A y (Y i)):ND w A x (nodV x (.slice a x.l.length c))
def NRows (w:World) (A:Nat→Prop) (l:List Nod) (v:Value):Prop:= ∃a c,v= .slice a l.length c∧l.length≤c∧∀i y,l[i]? =some y→∃u,SixAt w A a i u∧ND w A y u
theorem ND.open {w:World} {A:Nat→Prop} {x:Nod} {v:Value} (h:ND w A x v): ∃u,v=nodV x u∧x.fine∧NRows w A x.l u:=by
 cases h with
 |mk _ a c Y hf hl hm hr=>exact ⟨_,rfl,hf,a,c,rfl,hl,fun i y hy=>⟨Y i,hm i (List.getElem?_eq_some_iff.1 hy).1,hr i y hy⟩⟩
theorem ND.touch {R:Nat→Prop} {w w':World} {A:Nat→Prop} (T:Touch R w w') (hR: ∀g,g<w.heap.size→A g→¬R g) {x:Nod} {v:Value} (h:ND w A x v):ND w' A x v:=by
 induction h with
 |mk x a c Y hf hl hm hr ih=>exact .mk x a c Y hf hl (fun i hi=>(hm i hi).touch T hR) ih
theorem ND.touch0 {w w':World} {A:Nat→Prop} (T:Touch (fun _=>False) w w') {x:Nod} {v:Value} (h:ND w A x v):ND w' A x v:=h.touch T fun _ _ _ f=>f
theorem ND.mono {w:World} {A A':Nat→Prop} (hA: ∀g,g<w.heap.size→A g→A' g) {x:Nod} {v:Value} (h:ND w A x v):ND w A' x v:=by
 induction h with
 |mk x a c Y hf hl hm hr ih=>exact .mk x a c Y hf hl (fun i hi=>(hm i hi).mono hA) ih
theorem NRows.touch {R:Nat→Prop} {w w':World} {A:Nat→Prop} (T:Touch R w w') (hR: ∀g,g<w.heap.size→A g→¬R g) {l:List Nod} {v:Value} (h:NRows w A l v):NRows w' A l v:=by
 obtain ⟨a,c,rfl,hl,hr⟩:=h
 refine ⟨a,c,rfl,hl,fun i y hy=> ?_⟩
 obtain ⟨u,h1,h2⟩:=hr i y hy
 exact ⟨u,h1.touch T hR,h2.touch T hR⟩
theorem NRows.touch0 {w w':World} {A:Nat→Prop} (T:Touch (fun _=>False) w w') {l:List Nod} {v:Value} (h:NRows w A l v):NRows w' A l v:=h.touch T fun _ _ _ f=>f
theorem NRows.mono {w:World} {A A':Nat→Prop} (hA: ∀g,g<w.heap.size→A g→A' g) {l:List Nod} {v:Value} (h:NRows w A l v):NRows w A' l v:=by
 obtain ⟨a,c,rfl,hl,hr⟩:=h
 refine ⟨a,c,rfl,hl,fun i y hy=> ?_⟩
 obtain ⟨u,h1,h2⟩:=hr i y hy
 exact ⟨u,h1.mono hA,h2.mono hA⟩
theorem NRows.nil (w:World) (A:Nat→Prop):NRows w A [] (.slice none 0 0):=⟨none,0,rfl,Nat.le_refl _,fun i y hy=>by simp at hy⟩
theorem NRows.is {w:World} {A:Nat→Prop} {l:List Nod} {v:Value} (h:NRows w A l v): ∃a c,v= .slice a l.length c∧l.length≤c:=by
 obtain ⟨a,c,e,hl,_⟩:=h
 exact ⟨a,c,e,hl⟩
theorem NRows.at {w:World} {A:Nat→Prop} {l:List Nod} {a:Option Addr} {n c:Nat} (h:NRows w A l (.slice a n c)) {i:Nat} {y:Nod} (hy:l[i]? =some y): ∃g off ua uc,a=some ⟨g,off,none⟩∧A g∧g<w.heap.size∧
 w.cell? ⟨g,off+i*6,none⟩=some (.int .i64 y.kind)∧w.cell? ⟨g,off+i*6+1,none⟩=some (.int .i64 y.op)∧w.cell? ⟨g,off+i*6+2,none⟩=some (.string y.s)∧w.cell? ⟨g,off+i*6+3,none⟩=some (.string y.t)∧w.cell? ⟨g,off+i*6+4,none⟩=some (.int .i64 y.n)∧w.cell? ⟨g,off+i*6+5,none⟩=some (.slice ua y.l.length uc)∧
 ND w A y (nodV y (.slice ua y.l.length uc)):=by
 obtain ⟨a',c',e,hl,hr⟩:=h
 cases e
 obtain ⟨u,⟨g,off,y0,y1,y2,y3,y4,y5,rfl,hA,hg,rfl,c0,c1,c2,c3,c4,c5⟩,h2⟩:=hr i y hy
 have h2':=h2
 obtain ⟨u,e,hf,h3⟩:=h2.open
 obtain ⟨ua,uc,rfl,_⟩:=h3.is
 unfold nodV at e
 cases e
 exact ⟨g,off,ua,uc,rfl,hA,hg,c0,c1,c2,c3,c4,c5,h2'⟩
end Go.Ux
namespace Go.Ux
open Go Go.RowKit
theorem storeN {P:Program} {ops:Array Oper} {rest:List Oper} {o:Oper} {a:Act} {w:World} {Q:Exit→Act→World→Prop} (hgd:o.guard=none) (ty:TypeId) (x y:Operand) (ho:o.op= .store ty x y)
 (g:Nat) (vs:Array Value) (hx:a.eval x= .pointer (some ⟨g,0,none⟩)) (hy:a.eval y= .agg vs)
 (t:TypeId) (us:Array Value) (hg:w.heap[g]? =some (.cells us t (0,0))) (hi:(P.info? ty).map (·.size)=some vs.size) (hs:us.size=vs.size)
 (h1:vs.all (·.oneCell')=true)
 (h: ∀W,W.heap[g]? =some (.cells vs t (0,0))→Touch (fun b=>b=g) w W→wpList P ops Q rest (a.put o.dst undef) W):wpList P ops Q (o::rest) a w:=
 wpList_store_row hgd ty x y ho g _ hx hy t _ hg hi hs h1 (h _ (setRow_heap w g _ _ _ _ hg) ((Touch.refl (fun b=>b=g) w).setRow (fun _=>rfl) _))
end Go.Ux
namespace Go.Ux
open Go Go.Maps
variable {P:Program}
def less (f:Lit→Option Value) (kl:Lit):Lit→Option Value:=fun l=>if l.sameKey kl then none else f l
theorem wpList_del {w:World} {ops:Array Oper} {rest:List Oper} {o:Oper} {a:Act} {Q:Exit→Act→World→Prop} {k e:TypeId} {b n:Nat} {f:Lit→Option Value} {key:Value} {kl:Lit} (hg:o.guard=none) (m x:Operand) (t:TypeId) (hop:o.op=Op.call { callee:=Callee.builtin Builtin.delete,args:= #[m,x],argTypes:= #[t,k] })
 (hm:a.eval m= .map (some b)) (hx:a.eval x=key) (h:MapIs P k w b n f) (K:Keyed P k) (ht:P.underlying t=some (.map k e)) (hkey:keyOf P k key=some kl)
 (hK: ∀w',MapIs P k w' b n (less f kl)→Touch (fun i=>i=b) w w'→wpList P ops Q rest (a.put o.dst (.tuple #[])) w'):wpList P ops Q (o::rest) a w:=by
 have hk:=K.key hkey
 obtain ⟨D,h0,hT,h1,h2⟩:=h
 refine wpList_delete_own w hg m x t k hop e K ht rawE b n D hm h0 key kl hx hkey fun w' h3 h4=>hK w' ⟨D.del kl,h3,hT.del kl,fun l z=> ?_,fun l=> ?_⟩ ?_
 ·by_cases hl:l=kl
  ·subst hl
   rw [atKey_del_same]
   unfold less
   rw [if_pos (WideAt.sameKey_self hk)]
   rfl
  ·rw [atKey_del_other hl,h1]
   unfold less
   rw [if_neg (fun e=>hl (WideAt.sameKey_eq e))]
 ·by_cases hl:l=kl
  ·subst hl
   rw [has_del_same]
   unfold less
   rw [if_pos (WideAt.sameKey_self hk)]
   rfl
  ·rw [has_del_other hl,h2]
   unfold less
   rw [if_neg (fun e=>hl (WideAt.sameKey_eq e))]
 ·obtain ⟨es,clock,es',clock',h1,rfl⟩:=h4
  exact ⟨rfl,rfl,rfl,by simp [ChangeMaps.setBlock],fun i hi hn=>ChangeMaps.heap_setBlock_other h1 _ hn⟩
theorem less_intF (g:Int→Option Value) (c:Int) (kl:Lit):less (intF g) (.int .i64 c) kl=intF (fun x=>if x=c then none else g x) kl:=by
 unfold less
 cases h:kl.sameKey (.int .i64 c)
 ·rw [if_neg (by simp)]
  unfold intF
  split
  ·rename_i y
   have:y≠c:=fun e=>by
    subst e
    rw [WideAt.sameKey_self (a:= .int .i64 y) trivial] at h
    cases h
   exact (if_neg this).symm
  ·rfl
 ·rw [if_pos rfl]
  rw [WideAt.sameKey_eq h]
  simp [intF]
theorem MapIs.lessI {k:TypeId} {w:World} {b n:Nat} {g:Int→Option Value} {c:Int} (h:MapIs P k w b n (less (Ux.intF g) (.int .i64 c))):MapIs P k w b n (Ux.intF fun x=>if x=c then none else g x):=h.ext fun kl=>(less_intF g c kl).symm
end Go.Ux
namespace Go.Ux
open Go Go.RowKit
abbrev Val3:=Int×Int×ByteArray
def VRows (w:World) (v:Value) (l:List Val3):Prop:= ∃a c,v= .slice a l.length c∧l.length≤c∧∀(i:Nat) (x:Val3),l[i]? =some x→∃g off,a=some ⟨g,off,none⟩∧g<w.heap.size∧w.cell? ⟨g,off+i*3,none⟩=some (.int .i64 x.1)∧w.cell? ⟨g,off+i*3+1,none⟩=some (.int .i64 x.2.1)∧w.cell? ⟨g,off+i*3+2,none⟩=some (.string x.2.2)
theorem VRows.touch0 {w w':World} {v:Value} {l:List Val3} (h:VRows w v l) (T:Touch (fun _=>False) w w'):VRows w' v l:=by
 obtain ⟨a,c,rfl,hc,hr⟩:=h
 refine ⟨a,c,rfl,hc,fun i x hx=> ?_⟩
 obtain ⟨g,off,rfl,hg,c0,c1,c2⟩:=hr i x hx
 exact ⟨g,off,rfl,Nat.lt_of_lt_of_le hg T.size,T.cell c0 (fun f=>f),T.cell c1 (fun f=>f),T.cell c2 (fun f=>f)⟩
theorem VRows.is {w:World} {v:Value} {l:List Val3} (h:VRows w v l): ∃a c,v= .slice a l.length c∧l.length≤c:=by
 obtain ⟨a,c,e,hc,_⟩:=h
 exact ⟨a,c,e,hc⟩
theorem VRows.nil (w:World):VRows w (.slice none 0 0) []:=⟨none,0,rfl,Nat.le_refl _,fun i x hx=>by simp at hx⟩
theorem VRows.at {w:World} {a:Option Addr} {n c:Nat} {l:List Val3} (h:VRows w (.slice a n c) l) {i:Nat} {x:Val3} (hx:l[i]? =some x): ∃g off,a=some ⟨g,off,none⟩∧g<w.heap.size∧w.cell? ⟨g,off+i*3,none⟩=some (.int .i64 x.1)∧w.cell? ⟨g,off+i*3+1,none⟩=some (.int .i64 x.2.1)∧w.cell? ⟨g,off+i*3+2,none⟩=some (.string x.2.2):=by
 obtain ⟨a',c',e,hc,hr⟩:=h
 cases e
 exact hr i x hx
def valCells:List Val3→List Value
 | []=> []
 |x::l=> .int .i64 x.1:: .int .i64 x.2.1:: .string x.2.2::valCells l
theorem valCells_length (l:List Val3):(valCells l).length=l.length*3:=by
 induction l with
 |nil=>rfl
 |cons x l ih=>rw [valCells,List.length_cons,List.length_cons,List.length_cons,ih,List.length_cons];omega
theorem valCells_get {l:List Val3} {i:Nat} {x:Val3} (h:l[i]? =some x):(valCells l)[i*3]? =some (.int .i64 x.1)∧(valCells l)[i*3+1]? =some (.int .i64 x.2.1)∧(valCells l)[i*3+2]? =some (.string x.2.2):=by
 induction l generalizing i with
 |nil=>simp at h
 |cons y l ih=>
  cases i with
  |zero=>cases h;exact ⟨rfl,rfl,rfl⟩
  |succ i=>
   have h':l[i]? =some x:=by simpa using h
   obtain ⟨h0,h1,h2⟩:=ih h'
   rw [show (i+1)*3=i*3+3 by omega]
   exact ⟨by simpa [valCells] using h0,by simpa [valCells] using h1,by simpa [valCells] using h2⟩
theorem valCells_one (l:List Val3): ∀u∈valCells l,u.oneCell'=true:=by
 induction l with
 |nil=>simp [valCells]
 |cons x l ih=>
  intro u hu
  rw [valCells] at hu
  rcases List.mem_cons.1 hu with rfl|hu
  ·rfl
  rcases List.mem_cons.1 hu with rfl|hu
  ·rfl
  rcases List.mem_cons.1 hu with rfl|hu
  ·rfl
  exact ih u hu
theorem VRows.src {P:Program} {t e:TypeId} (ht:P.underlying t=some (.slice e)) {w:World} {a:Option Addr} {n c:Nat} {l:List Val3} (h:VRows w (.slice a n c) l):Src P 3 t (.slice a l.length c) l.length (valCells l) w:=by
 obtain ⟨a',c',e,hc,hr⟩:=h
 cases e
 refine src_at ht 3 l.length c a (valCells l) (valCells_length l) (valCells_one l) (fun j u hj=> ?_) (by decide)
 have hjl:j<l.length*3:=by have:=(List.getElem?_eq_some_iff.1 hj).1;rw [valCells_length] at this;exact this
 obtain ⟨q,hq⟩: ∃q,j/3=q:=⟨_,rfl⟩
 obtain ⟨x,hx⟩: ∃x,l[q]? =some x:=⟨_,List.getElem?_eq_getElem (by omega)⟩
 obtain ⟨g,off,rfl,_,c0,c1,c2⟩:=hr q x hx
 obtain ⟨e0,e1,e2⟩:=valCells_get hx
 refine ⟨g,off,rfl,?_⟩
 rcases (show j=q*3∨j=q*3+1∨j=q*3+2 by omega) with rfl|rfl|rfl
 ·rw [e0] at hj
  cases hj
  exact c0
 ·rw [e1] at hj
  cases hj
  exact c1
 ·rw [e2] at hj
  cases hj
  exact c2
end Go.Ux
