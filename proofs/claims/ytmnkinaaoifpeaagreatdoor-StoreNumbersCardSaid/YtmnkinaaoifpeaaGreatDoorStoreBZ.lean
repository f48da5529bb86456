/- A part of the proof that the statement holds for every input that it names. No other condition. -/
import Derived.Test.YtmnkinaaoifpeaaGreatDoorStoreAZ
import Derived.Test.YtmnkinaaoifpeaaGreatDoorShelf4Z
set_option linter.unusedVariables false
set_option linter.unusedSimpArgs false
namespace Go.Proofs.YtmnkinaaoifpeaaGreatDoor
open Go.RowKit
structure ColX where
 nm:ByteArray
 cn:ByteArray
 ty:Int
 kd:Int
 lv:Int
 sh:Bool
 bk:Bool
 tb:Option Addr
 nn:Bool
def ColX.cells (x:ColX):Array Value:=colS x.nm x.cn x.ty x.kd x.lv x.sh x.bk x.tb x.nn
def ColX.good (x:ColX):Prop:=1≤x.ty∧x.ty≤3∧okS x.kd x.lv x.tb=true
def ColXs (w:World) (v:Value) (l:List ColX):Prop:= ∃a c,v= .slice a l.length c∧l.length≤c∧∀(i:Nat) (x:ColX),l[i]? =some x→∃g off,a=some ⟨g,off,none⟩∧g<w.heap.size∧w.cell? ⟨g,off+i*9,none⟩=some (.string x.nm)∧w.cell? ⟨g,off+i*9+1,none⟩=some (.string x.cn)∧w.cell? ⟨g,off+i*9+2,none⟩=some (.int .i64 x.ty)∧w.cell? ⟨g,off+i*9+3,none⟩=some (.int .i64 x.kd)∧w.cell? ⟨g,off+i*9+4,none⟩=some (.int .i64 x.lv)∧w.cell? ⟨g,off+i*9+5,none⟩=some (.bool x.sh)∧w.cell? ⟨g,off+i*9+6,none⟩=some (.bool x.bk)∧w.cell? ⟨g,off+i*9+7,none⟩=some (.pointer x.tb)∧w.cell? ⟨g,off+i*9+8,none⟩=some (.bool x.nn)
theorem ColXs.touch0 {w w':World} {v:Value} {l:List ColX} (h:ColXs w v l) (T:Ux.Touch (fun _=>False) w w'):ColXs w' v l:=by
 obtain ⟨a,c,rfl,hc,hr⟩:=h
 refine ⟨a,c,rfl,hc,fun i x hx=> ?_⟩
 obtain ⟨g,off,rfl,hg,c0,c1,c2,c3,c4,c5,c6,c7,c8⟩:=hr i x hx
 exact ⟨g,off,rfl,Nat.lt_of_lt_of_le hg T.size,T.cell c0 (fun f=>f),T.cell c1 (fun f=>f),T.cell c2 (fun f=>f),T.cell c3 (fun f=>f),T.cell c4 (fun f=>f),T.cell c5 (fun f=>f),T.cell c6 (fun f=>f),T.cell c7 (fun f=>f),T.cell c8 (fun f=>f)⟩
theorem ColXs.is {w:World} {v:Value} {l:List ColX} (h:ColXs w v l): ∃a c,v= .slice a l.length c∧l.length≤c:=by
 obtain ⟨a,c,e,hc,_⟩:=h
 exact ⟨a,c,e,hc⟩
theorem ColXs.at {w:World} {a:Option Addr} {n c:Nat} {l:List ColX} (h:ColXs w (.slice a n c) l) {i:Nat} {x:ColX} (hx:l[i]? =some x): ∃g off,a=some ⟨g,off,none⟩∧g<w.heap.size∧w.cell? ⟨g,off+i*9,none⟩=some (.string x.nm)∧w.cell? ⟨g,off+i*9+1,none⟩=some (.string x.cn)∧w.cell? ⟨g,off+i*9+2,none⟩=some (.int .i64 x.ty)∧w.cell? ⟨g,off+i*9+3,none⟩=some (.int .i64 x.kd)∧w.cell? ⟨g,off+i*9+4,none⟩=some (.int .i64 x.lv)∧w.cell? ⟨g,off+i*9+5,none⟩=some (.bool x.sh)∧w.cell? ⟨g,off+i*9+6,none⟩=some (.bool x.bk)∧w.cell? ⟨g,off+i*9+7,none⟩=some (.pointer x.tb)∧w.cell? ⟨g,off+i*9+8,none⟩=some (.bool x.nn):=by
 obtain ⟨a',c',e,hc,hr⟩:=h
 cases e
 exact hr i x hx
theorem ColXs.rows {w:World} {v:Value} {l:List ColX} (h:ColXs w v l):ColRows w v (l.map fun x=>(x.ty,x.nn)):=by
 obtain ⟨a,c,rfl,hc,hr⟩:=h
 refine ⟨a,c,by rw [List.length_map],by rw [List.length_map];exact hc,fun i y hy=> ?_⟩
 rw [List.getElem?_map] at hy
 obtain ⟨x,hx,rfl⟩:=Option.map_eq_some_iff.1 hy
 obtain ⟨g,off,e,_,c0,c1,c2,c3,c4,c5,c6,c7,c8⟩:=hr i x hx
 exact ⟨g,off,e,c2,c8⟩
set_option maxHeartbeats 8000000 in
set_option maxRecDepth 100000 in
theorem idx_ (l:List ColX) (hg: ∀x∈l,x.good) (v:Value) (w:World) (h:ColXs w v l) (hl:l.length≤100):Calls Tryz.prog 87 #[v,.func (.func 44) #[] #[]] w fun e w'=>e= .returned (.int .i64 (-1))∧Ux.Touch (fun _=>False) w w':=by
 obtain ⟨a,c,rfl,hc⟩:=h.is
 obtain ⟨n,hn⟩: ∃n,l.length=n:=⟨_,rfl⟩
 have HH:=Lib.hid (And.intro h (And.intro hn hg))
 have n0:(n:Int)≤100:=by omega
 have n1:(n:Int)≤c:=by omega
 rw [hn]
 clear h hl hc hn hg
 go_enter Tryz.func87,Tryz.ntmps87
 go_wp2_with (fail)
 go_loopg [8] n (fun gk s8 wr=> ∃i:Nat,s8= .int .i64 i∧i+gk=n∧Hid (Ux.Touch (fun _=>False) w wr))
 case atStart=>exact ⟨0,rfl,by omega,Lib.hid (Ux.Touch.refl _ _)⟩
 case round=>
  obtain ⟨i,rfl,hig,HI⟩:=hrel
  have i0:(0:Int)≤i:=by omega
  by_cases hlt:i<n
  ·obtain ⟨g',rfl⟩: ∃g',gk=g'+1:=⟨gk-1,by omega⟩
   have i1:(i:Int)<n:=by omega
   obtain ⟨x,hx⟩: ∃x,l[i]? =some x:=⟨_,List.getElem?_eq_getElem (by have:=HH.out.2.1;omega)⟩
   obtain ⟨g,off,rfl,_,c0,c1,c2,c3,c4,c5,c6,c7,c8⟩:=(HH.out.1.touch0 HI.out).at hx
   obtain ⟨g1,g2,g3⟩:=HH.out.2.2 x (List.mem_of_getElem? hx)
   have HC:=Lib.hid (bad1_ x.nm x.cn x.ty x.kd x.lv x.sh x.bk x.tb x.nn wr g1 g2 g3)
   have HX:=Lib.hid (And.intro hlt hig)
   clear hx hlt hig g1 g2 g3
   go_wp2_with (go_at_call 44;fail)
   have hcw:=HC.out
   unfold colS at hcw
   refine hcw.mono ?_
   clear hcw
   rintro e wn ⟨rfl,Tn⟩
   have HN:=Lib.hid (HI.out.trans Tn fun _ _ f=>f.elim)
   clear Tn c0 c1 c2 c3 c4 c5 c6 c7 c8
   go_wp2_with (fail)
   go_roundg g'
   case measure=>omega
   case rel=>exact ⟨i+1,rfl,by have:=HX.out;omega,HN⟩
  ·have i1: ¬(i:Int)<n:=by omega
   clear hlt
   go_wp2_with (fail)
   go_returns
   exact ⟨rfl,HI.out⟩
set_option maxHeartbeats 8000000 in
set_option maxRecDepth 100000 in
theorem cont_ (l:List ColX) (hg: ∀x∈l,x.good) (v:Value) (w:World) (h:ColXs w v l) (hl:l.length≤100):Calls Tryz.prog 43 #[v,.func (.func 44) #[] #[]] w fun e w'=>e= .returned (.bool false)∧Ux.Touch (fun _=>False) w w':=by
 have HC:=Lib.hid (idx_ l hg v w h hl)
 clear h hl hg
 go_enter Tryz.func43,Tryz.ntmps43
 go_wp2_with (go_at_call 87;fail)
 refine HC.out.mono ?_
 rintro e w2 ⟨rfl,T2⟩
 have HT:=Lib.hid T2
 clear T2
 go_wp2_with (fail)
 go_returns
 exact ⟨rfl,HT.out⟩
end Go.Proofs.YtmnkinaaoifpeaaGreatDoor
namespace Go.Proofs.YtmnkinaaoifpeaaGreatDoor
open Go.RowKit
open Ux (KGrow)
theorem infoC:(Tryz.prog.info? 45).map (fun i=>(i.zero,i.size,i.bytes))=some (some (.agg #[.string ⟨#[]⟩,.string ⟨#[]⟩,.int .i64 0,.int .i64 0,.int .i64 0,.bool false,.bool false,.pointer none,.bool false]),9,80):=by kernel_rfl
def colCells:List ColX→List Value
 | []=> []
 |x::l=>x.cells.toList++colCells l
theorem colCells_length (l:List ColX):(colCells l).length=l.length*9:=by
 induction l with
 |nil=>rfl
 |cons x l ih=>rw [colCells,List.length_append,ih,List.length_cons];show 9+_=_;omega
theorem colCells_get {l:List ColX} {i:Nat} {x:ColX} (h:l[i]? =some x) (k:Nat) (hk:k<9):(colCells l)[i*9+k]? =x.cells.toList[k]? :=by
 induction l generalizing i with
 |nil=>simp at h
 |cons y l ih=>
  cases i with
  |zero=>
   cases h
   rw [colCells,Nat.zero_mul,Nat.zero_add,List.getElem?_append_left (by show k<9;exact hk)]
  |succ i=>
   have h':l[i]? =some x:=by simpa using h
   rw [colCells,List.getElem?_append_right (by show 9≤_;omega)]
   have e:(i+1)*9+k-y.cells.toList.length=i*9+k:=by show (i+1)*9+k-9=_;omega
   rw [e]
   exact ih h'
theorem colCells_one (l:List ColX): ∀u∈colCells l,u.oneCell'=true:=by
 induction l with
 |nil=>simp [colCells]
 |cons x l ih=>
  intro u hu
  rw [colCells] at hu
  rcases List.mem_append.1 hu with hu|hu
  ·simp [ColX.cells,colS] at hu
   rcases hu with rfl|rfl|rfl|rfl|rfl|rfl|rfl|rfl|rfl<;>rfl
  ·exact ih u hu
theorem ColXs.src {w:World} {a:Option Addr} {n c:Nat} {l:List ColX} (h:ColXs w (.slice a n c) l):Src Tryz.prog 9 57 (.slice a l.length c) l.length (colCells l) w:=by
 obtain ⟨a',c',e,hc,hr⟩:=h
 cases e
 refine Ux.src_at Tryz.underlying57 9 l.length c a (colCells l) (colCells_length l) (colCells_one l) (fun j u hj=> ?_) (by decide)
 have hjl:j<l.length*9:=by have:=(List.getElem?_eq_some_iff.1 hj).1;rw [colCells_length] at this;exact this
 obtain ⟨q,hq⟩: ∃q,j/9=q:=⟨_,rfl⟩
 obtain ⟨r,hrr⟩: ∃r,j % 9=r:=⟨_,rfl⟩
 obtain ⟨x,hx⟩: ∃x,l[q]? =some x:=⟨_,List.getElem?_eq_getElem (by omega)⟩
 obtain ⟨g,off,rfl,_,c0,c1,c2,c3,c4,c5,c6,c7,c8⟩:=hr q x hx
 obtain rfl:j=q*9+r:=by omega
 refine ⟨g,off,rfl,?_⟩
 rw [colCells_get hx r (by omega)] at hj
 have ho:off+(q*9+r)=off+q*9+r:=by omega
 rw [ho]
 rcases (show r=0∨r=1∨r=2∨r=3∨r=4∨r=5∨r=6∨r=7∨r=8 by omega) with rfl|rfl|rfl|rfl|rfl|rfl|rfl|rfl|rfl
 ·cases hj;exact c0
 ·cases hj;exact c1
 ·cases hj;exact c2
 ·cases hj;exact c3
 ·cases hj;exact c4
 ·cases hj;exact c5
 ·cases hj;exact c6
 ·cases hj;exact c7
 ·cases hj;exact c8
def COwn (w:World) (lo:Nat) (v:Value) (l:List ColX):Prop:=KGrow w lo 45 9 v l.length (colCells l)
theorem COwn.cols {w:World} {lo:Nat} {v:Value} {l:List ColX} (h:COwn w lo v l):ColXs w v l:=by
 obtain ⟨a,c,rfl,hc⟩:=h.is
 refine ⟨a,c,rfl,h.cap,fun i x hx=> ?_⟩
 have e0:=colCells_get hx 0 (by omega)
 obtain ⟨g,rfl,hg,_⟩:=hc _ _ (show (colCells l)[i*9+0]? =some (.string x.nm) from e0)
 have key: ∀k u,k<9→x.cells.toList[k]? =some u→w.cell? ⟨g,0+i*9+k,none⟩=some u:=fun k u hk hu=>by
  obtain ⟨g',e',_,c⟩:=hc _ _ ((colCells_get hx k hk).trans hu)
  cases e'
  rw [Nat.zero_add]
  exact c
 exact ⟨g,0,rfl,Ux.own_lt h.1 g rfl,key 0 _ (by omega) rfl,key 1 _ (by omega) rfl,key 2 _ (by omega) rfl,key 3 _ (by omega) rfl,key 4 _ (by omega) rfl,key 5 _ (by omega) rfl,key 6 _ (by omega) rfl,key 7 _ (by omega) rfl,key 8 _ (by omega) rfl⟩
def CloneCR (l:List ColX) (w w':World) (e:Ending):Prop:= ∃v,e= .returned v∧COwn w' w.heap.size v l∧Ux.Touch (fun _=>False) w w'
set_option maxHeartbeats 8000000 in
set_option maxRecDepth 100000 in
theorem cloneC_ (l:List ColX) (w:World) (v:Value) (h:ColXs w v l) (hl:l.length≤100) (hne:l≠[]):Calls Tryz.prog 46 #[v] w fun e w'=>CloneCR l w w' e:=by
 obtain ⟨a,c,rfl,hc⟩:=h.is
 obtain ⟨x,hx⟩: ∃x,l[0]? =some x:=⟨_,List.getElem?_eq_getElem (List.length_pos_iff.2 hne)⟩
 obtain ⟨g,off,rfl,_⟩:=h.at hx
 obtain ⟨n,hn⟩: ∃n,l.length=n:=⟨_,rfl⟩
 obtain ⟨b5,hb5⟩: ∃b,w.heap.size=b:=⟨_,rfl⟩
 obtain ⟨W1,hW1⟩: ∃W,w.alloc (.cells #[] 45)=W:=⟨_,rfl⟩
 have t1:Ux.Touch (fun _=>False) w W1:=by rw [←hW1];exact (Ux.Touch.refl _ _).alloc _
 have hg:KGrow W1 w.heap.size 45 9 (.slice (some ⟨w.heap.size,0,none⟩) 0 0) 0 []:=by rw [←hW1];exact KGrow.empty w w.heap.size 45 9 (Nat.le_refl _)
 have hs:=(h.touch0 t1).src
 obtain ⟨r,W2,hrun,hg2,t2⟩:=hg.app (P:=Tryz.prog) 57 80 _ Tryz.underlying57 infoC rfl (by omega) _ l.length _ hs t1.size (by simp only [maxLen];omega) (by omega)
 rw [Nat.zero_add,List.nil_append] at hg2
 obtain ⟨ra,rc,rfl,hrc⟩:=hg2.is
 have tt:Ux.Touch (fun _=>False) w W2:=t1.trans t2 fun b hb e=>by have:=e;omega
 rw [hb5] at hrun
 rw [hn] at hrun
 have HR:=Lib.hid (And.intro hrun (And.intro (show COwn W2 w.heap.size _ l from hg2) tt))
 rw [hn] at HR⊢
 have n0:(n:Int)≤100:=by omega
 have n1:(n:Int)≤c:=by omega
 clear h hc hx t1 hg hs hrun hg2 t2 hrc tt hn hl
 go_enter Tryz.func46,Tryz.ntmps46
 go_wp2_with (at_builtin;refine Ux.wpList_app (v1:= .slice (some ⟨b5,0,none⟩) 0 0) (x1:= .slice (some ⟨g,off,none⟩) n c) rfl _ _ _ _ rfl rfl rfl (HR.out.1 _) ?_)
 go_returns
 exact ⟨_,rfl,HR.out.2.1,HR.out.2.2⟩
end Go.Proofs.YtmnkinaaoifpeaaGreatDoor
namespace Go.Proofs.YtmnkinaaoifpeaaGreatDoor
open Go.RowKit
open Go.RowKit Go.Shelf
theorem MapIs.cloneI {P:Program} {k:TypeId} {w:World} {b n:Nat} {f:Lit→Option Value} (h:Ux.MapIs P k w b n f): ∃es clock,w.heap[b]? =some (.map es clock)∧Ux.MapIs P k (w.alloc (.map es clock)) w.heap.size n f:=by
 obtain ⟨D,⟨es,clock,hb,F,hs,hD⟩,r⟩:=h
 exact ⟨es,clock,hb,D,⟨es,clock,(MapKept.heap_alloc w _).1,F,hs,hD⟩,r⟩
theorem mcloneR_ (b n:Nat) (f:Lit→Option Value) (w:World) (h:Ux.MapIs Tryz.prog 3 w b n f):Calls Tryz.prog 56 #[.map (some b)] w fun e w'=>e= .returned (.map (some w.heap.size))∧Ux.MapIs Tryz.prog 3 w' w.heap.size n f∧Ux.Touch (fun _=>False) w w':=by
 obtain ⟨es,clock,hb,hm⟩:=MapIs.cloneI h
 have hcon:=AnyW.maps_Clone Tryz.cloneR b es clock w hb
 change Calls Tryz.prog 56 _ _ _ at hcon
 refine hcon.mono ?_
 rintro e w' ⟨rfl,rfl⟩
 exact ⟨rfl,hm,(Ux.Touch.refl _ w).alloc _⟩
end Go.Proofs.YtmnkinaaoifpeaaGreatDoor
namespace Go.Proofs.YtmnkinaaoifpeaaGreatDoor
open Go.RowKit
def nilS:Value→Bool
 | .slice none _ _=>true
 |_=>false
def merge (g h:Int→Option Value) (x:Int):Option Value:=match h x with
 |none=>g x
 |some v=>if nilS v then none else some v
def mergeL (g h:Int→Option Value) (left:Lit→Bool) (x:Int):Option Value:=if left (.int .i64 x) then g x else merge g h x
theorem intF_at {h:Int→Option Value} {kl:Lit} {v:Value} (hf:Ux.intF h kl=some v): ∃x,kl= .int .i64 x∧h x=some v:=by
 unfold Ux.intF at hf
 split at hf
 ·exact ⟨_,rfl,hf⟩
 ·cases hf
theorem mergeL_all (g h:Int→Option Value) (left:Lit→Bool) (hl: ∀kl,left kl=false):mergeL g h left=merge g h:=by
 funext x
 unfold mergeL
 rw [hl]
 rfl
theorem mergeL_start (g h:Int→Option Value):mergeL g h (fun kl=>(Ux.intF h kl).isSome)=g:=by
 funext x
 unfold mergeL merge
 show (if (h x).isSome then _ else _)=_
 cases h x with
 |none=>rfl
 |some v=>rfl
theorem mergeL_step (g h:Int→Option Value) (left:Lit→Bool) {x:Int} {v:Value} (hx:h x=some v):(fun y=>if y=x then (if nilS v then none else some v) else mergeL g h left y)=mergeL g h (fun z=>left z&& !z.sameKey (.int .i64 x)):=by
 funext y
 by_cases e:y=x
 ·subst e
  rw [if_pos rfl]
  unfold mergeL merge
  have hself:(Lit.int .i64 y).sameKey (.int .i64 y)=true:=WideAt.sameKey_self (a:= .int .i64 y) trivial
  simp [hself,hx]
 ·rw [if_neg e]
  unfold mergeL
  have hk:(Lit.int .i64 y).sameKey (.int .i64 x)=false:=by
   cases hb:(Lit.int .i64 y).sameKey (.int .i64 x) with
   |false=>rfl
   |true=>have:=WideAt.sameKey_eq hb;simp at this;exact absurd this e
  simp only [hk]
  simp
def RowsWR (M:Nat) (g h:Int→Option Value) (w w':World) (e:Ending):Prop:= ∃m N3,e= .returned (.map (some m))∧w.heap.size≤m∧N3≤M∧Ux.MapIs Tryz.prog 3 w' m N3 (Ux.intF (merge g h))∧Ux.Touch (fun _=>False) w w'
set_option maxHeartbeats 8000000 in
set_option maxRecDepth 100000 in
theorem rowsW_ (wb tb nx mb N N2:Nat) (la lt ids cols:Value) (g h:Int→Option Value) (w:World) (hw:w.heap[wb]? =some (.cells #[.pointer (some ⟨tb,0,none⟩),.map (some nx),la,ids] 81 (0,0))) (ht:w.heap[tb]? =some (.cells #[cols,.map (some mb),lt] 79 (0,0)))
 (hg:Ux.MapIs Tryz.prog 3 w mb N (Ux.intF g)) (hh:Ux.MapIs Tryz.prog 3 w nx N2 (Ux.intF h)) (hv: ∀x v,h x=some v→∃a n c,v= .slice a n c) (hN:N+N2≤100000) (hr: ∀x v,h x=some v→-9223372036854775808≤x∧x≤9223372036854775807):
 Calls Tryz.prog 24 #[.pointer (some ⟨wb,0,none⟩)] w fun e w'=>RowsWR (N+N2) g h w w' e:=by
 have c0:=cell_of_row w wb 0 _ _ (0,0) hw
 have c1:=cell_of_row w wb 1 _ _ (0,0) hw
 have d1:=cell_of_row w tb 1 _ _ (0,0) ht
 simp at c0 c1 d1
 have HC:=Lib.hid (mcloneR_ mb N (Ux.intF g) w hg)
 have HH:=Lib.hid (And.intro hh (And.intro hv (And.intro hN (And.intro hr c1))))
 clear hw ht hg hh hv hN hr
 go_enter Tryz.func24,Tryz.ntmps24
 go_wp2_with (go_at_call 56;fail)
 refine HC.out.mono ?_
 rintro e w2 ⟨rfl,hm,T2⟩
 obtain ⟨m,hm0⟩: ∃m,w.heap.size=m:=⟨_,rfl⟩
 rw [hm0] at hm⊢
 have c1:=T2.cell c1 (fun f=>f)
 obtain ⟨r,hr⟩: ∃r,w2.heap.size=r:=⟨_,rfl⟩
 have hnx:=HH.out.1.touch T2 (fun f=>f)
 have H2:=Lib.hid (And.intro hm (And.intro T2 (And.intro hnx (And.intro hm0 hm.lt))))
 have HRB:Hid (w.heap.size≤r):=Lib.hid (by have:=H2.out.2.1.size;omega)
 clear hm T2 hnx hm0 c0 d1
 go_wp2_with (at_range;refine Ux.wpList_rangeM rfl _ 77 rfl 3 29 keyedRI Tryz.underlying77 nx N2 (Ux.intF h) rfl H2.out.2.2.1 ?_;rw [hr];intro w3 cnt hr2 ht hs;have HR:=Lib.hid (And.intro hr2 (And.intro ht hs));clear hr2 ht hs)
 have hm3:Ux.MapIs Tryz.prog 3 w3 m N (Ux.intF g):=H2.out.1.touch HR.out.2.1 (fun f=>f)
 have HM:=Lib.hid hm3
 have hrm:r≠m:=by have:=H2.out.2.2.2.2;omega
 have HRM:=Lib.hid hrm
 clear hm3 hrm hr c1
 go_frame
 go_loopg [] cnt (fun gk wr=> ∃(left:Lit→Bool) (k N3:Nat),k≤gk∧Hid (Ux.RangeIs Tryz.prog 3 wr nx r N2 (Ux.intF h) left k∧N3+k≤N+N2∧Ux.MapIs Tryz.prog 3 wr m N3 (Ux.intF (mergeL g h left))∧Ux.Touch (fun _=>False) w wr))
 case atStart=>exact ⟨_,cnt,N,Nat.le_refl _,Lib.hid ⟨HR.out.1,by have:=HR.out.1.cnt_le;omega,by rw [mergeL_start];exact HM.out,H2.out.2.1.trans HR.out.2.1 fun _ _ f=>f.elim⟩⟩
 case round=>
  obtain ⟨left,k,N3,hk,HI⟩:=hrel
  have HK:=Lib.hid hk
  by_cases hc0:k=0
  ·subst hc0
   clear hk
   go_wp2_with (at_next;refine Ux.wpList_nextM rfl _ rfl 3 keyedRI nx r N2 (Ux.intF h) left 0 rfl HI.out.1 ?_ ?_;rotate_left;(intro _ _ _ _ c4 _ _ _ _ h4;exact absurd h4 (Nat.not_lt_zero _));intro _ hleft;have HL:=Lib.hid hleft;clear hleft)
   go_returns
   refine ⟨m,N3,rfl,by have:=H2.out.2.2.2.1;omega,by have:=HI.out.2.1;omega,?_,HI.out.2.2.2⟩
   have h1:=HI.out.2.2.1
   rwa [mergeL_all g h left HL.out] at h1
  ·obtain ⟨g',rfl⟩: ∃g',gk=g'+1:=⟨gk-1,by omega⟩
   clear hk
   go_upto_region 4 with (at_next;refine Ux.wpList_nextM rfl _ rfl 3 keyedRI nx r N2 (Ux.intF h) left k rfl HI.out.1 (fun h _=>absurd h hc0) ?_;intro key v kl w4 c3 hkey hlk hf hrg hlt ht hsz hen;obtain ⟨x,rfl,hx⟩:=intF_at hf;have hkv:=keyedRI.inj hkey (keyRI (c:=x) (HH.out.2.2.2.1 x v hx).1 (HH.out.2.2.2.1 x v hx).2);subst hkv;have HNX:=Lib.hid (And.intro hlk (And.intro hx (And.intro hrg (And.intro hlt ht))));clear hkey hlk hf hrg hlt ht hsz)
   obtain ⟨a,q,c,rfl⟩:=HH.out.2.1 x v HNX.out.2.1
   have hkx:=keyRI (c:=x) (HH.out.2.2.2.1 x _ HNX.out.2.1).1 (HH.out.2.2.2.1 x _ HNX.out.2.1).2
   have hm4:Ux.MapIs Tryz.prog 3 w4 m N3 (Ux.intF (mergeL g h left)):=HI.out.2.2.1.touch HNX.out.2.2.2.2 (fun e=>HRM.out e.symm)
   have hnm:nx≠m:=by have:=HH.out.1.lt;have:=H2.out.2.2.2.1;omega
   have HM4:=Lib.hid (And.intro hm4 (And.intro hkx hnm))
   have HC0:=Lib.hid hc0
   clear hm4 hkx hnm hc0
   cases a with
   |none=>
    have hstep:=mergeL_step g h left HNX.out.2.1
    have HST:=Lib.hid hstep
    clear hstep
    go_wp2_with (at_delete;refine Ux.wpList_del rfl _ _ 77 rfl rfl rfl HM4.out.1 keyedRI Tryz.underlying77 HM4.out.2.1 ?_;intro w5 hm5 ht5;have H5:=Lib.hid (And.intro hm5 ht5);clear hm5 ht5)
    go_roundg g'
    case measure=>omega
    case rel=>
     refine ⟨_,c3,N3,by have:=HNX.out.2.2.2.1;have:=HK.out;omega,Lib.hid ⟨HNX.out.2.2.1.touch H5.out.2 (fun e=>HM4.out.2.2 e) (fun e=>HRM.out e),by have:=HI.out.2.1;have:=HNX.out.2.2.2.1;omega,?_,?_⟩⟩
     ·have h1:=H5.out.1.lessI
      have h2:=HST.out
      rw [show nilS (.slice none q c)=true from rfl,if_pos rfl] at h2
      rwa [h2] at h1
     ·exact (HI.out.2.2.2.trans HNX.out.2.2.2.2 fun b hb e=>by have:=HRB.out;omega).trans H5.out.2 fun b hb e=>by have:=H2.out.2.2.2.1;omega
   |some p=>
    have hstep:=mergeL_step g h left HNX.out.2.1
    have HST:=Lib.hid hstep
    clear hstep
    go_wp2_with (at_mapUpdate;refine Ux.wpList_put (key:= .int .i64 x) (val:= .slice (some p) q c) rfl _ _ _ 77 rfl rfl rfl rfl HM4.out.1 keyedRI Tryz.underlying77 (by have:=HI.out.2.1;have:=HH.out.2.2.1;unfold maxLen;omega) HM4.out.2.1 ?_;intro w5 hm5 ht5;have H5:=Lib.hid (And.intro hm5 ht5);clear hm5 ht5)
    go_roundg g'
    case measure=>omega
    case rel=>
     refine ⟨_,c3,N3+1,by have:=HNX.out.2.2.2.1;have:=HK.out;omega,Lib.hid ⟨HNX.out.2.2.1.touch H5.out.2 (fun e=>HM4.out.2.2 e) (fun e=>HRM.out e),by have:=HI.out.2.1;have:=HNX.out.2.2.2.1;omega,?_,?_⟩⟩
     ·have h1:=H5.out.1.intF
      have h2:=HST.out
      rw [show nilS (.slice (some p) q c)=false from rfl,if_neg (by simp)] at h2
      rwa [h2] at h1
     ·exact (HI.out.2.2.2.trans HNX.out.2.2.2.2 fun b hb e=>by have:=HRB.out;omega).trans H5.out.2 fun b hb e=>by have:=H2.out.2.2.2.1;omega
end Go.Proofs.YtmnkinaaoifpeaaGreatDoor
