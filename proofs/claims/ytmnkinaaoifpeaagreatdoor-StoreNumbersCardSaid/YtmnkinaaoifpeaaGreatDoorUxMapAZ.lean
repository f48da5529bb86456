/- A part of the proof that the statement holds for every input that it names. No other condition. -/
import Derived.Maps.OwnSet
import Derived.Lib.SlKeysI
import Derived.Test.YtmnkinaaoifpeaaGreatDoorUxMemAZ
import Derived.Maps.RangeWalk
set_option linter.unusedVariables false
set_option linter.unusedSimpArgs false
namespace Go.Ux
open Go Go.Maps
def rawE (v:Value):Option (DataW Value×List MemPlace):=some (.held v,[])
def MapIs (P:Program) (k:TypeId) (w:World) (b n:Nat) (f:Lit→Option Value):Prop:=
 ∃D,w.ownsMap P k rawE b n D∧Tidy D∧(∀kl z,D.atKey kl (.held z)= .held ((f kl).getD z))∧∀kl,has D kl=(f kl).isSome
variable {P:Program} {k t e:TypeId} {w:World} {b n:Nat} {f:Lit→Option Value}
theorem MapIs.made (w:World) (P:Program) (k:TypeId):MapIs P k (w.alloc (.map #[] 0)) w.heap.size 0 fun _=>none:=
 ⟨_,World.ownsMap_made w P k rawE,tidy_empty,fun _ _=>rfl,fun _=>rfl⟩
theorem MapIs.lt (h:MapIs P k w b n f):b<w.heap.size:=let ⟨_,h,_⟩:=h;h.lt
theorem MapIs.mono (h:MapIs P k w b n f) {n':Nat} (hn:n≤n'):MapIs P k w b n' f:=let ⟨D,h,r⟩:=h;⟨D,h.mono hn,r⟩
theorem MapIs.same {w':World} (h:MapIs P k w b n f) (hb:w'.heap[b]? =w.heap[b]?):MapIs P k w' b n f:=by
 obtain ⟨D,⟨es,clock,h1,h2⟩,r⟩:=h
 exact ⟨D,⟨es,clock,hb.trans h1,h2⟩,r⟩
theorem MapIs.ext {f':Lit→Option Value} (h:MapIs P k w b n f) (he: ∀kl,f' kl=f kl):MapIs P k w b n f':=by
 have:f'=f:=funext he
 rw [this];exact h
theorem MapIs.look (h:MapIs P k w b n f) (K:Keyed P k) (ht:P.underlying t=some (.map k e)) {z:Value} (hz:(zeroValue e).run P w= .ok z w) {key:Value} {kl:Lit} (hkey:keyOf P k key=some kl):
 (Instr.lookup t (.map (some b)) key false).run P w= .ok ((f kl).getD z) w:=by
 obtain ⟨D,h,_,h1,_⟩:=h
 obtain ⟨v,ps,hr,hv⟩:=h.lookup K ht hz (zd:= .held z) (zp:= []) rfl hkey
 rw [h1] at hv
 unfold rawE at hv
 simp only [Option.some.injEq,Prod.mk.injEq,DataW.held.injEq] at hv
 rw [hr,hv.1]
theorem MapIs.lookOk (h:MapIs P k w b n f) (K:Keyed P k) (ht:P.underlying t=some (.map k e)) {z:Value} (hz:(zeroValue e).run P w= .ok z w) {key:Value} {kl:Lit} (hkey:keyOf P k key=some kl):
 (Instr.lookup t (.map (some b)) key true).run P w= .ok (.tuple #[(f kl).getD z,.bool (f kl).isSome]) w:=by
 obtain ⟨D,h,_,h1,h2⟩:=h
 obtain ⟨v,ps,hr,hv⟩:=h.look_ok K ht hz (zd:= .held z) (zp:= []) rfl hkey
 rw [h1] at hv
 unfold rawE at hv
 simp only [Option.some.injEq,Prod.mk.injEq,DataW.held.injEq] at hv
 rw [hr,hv.1,h2]
def upd (f:Lit→Option Value) (kl:Lit) (v:Value):Lit→Option Value:=fun l=>if l.sameKey kl then some v else f l
theorem MapIs.store (h:MapIs P k w b n f) (K:Keyed P k) (ht:P.underlying t=some (.map k e)) (hn:n<maxLen) {key val:Value} {kl:Lit} (hkey:keyOf P k key=some kl):
 ∃w',(Instr.mapUpdate t (.map (some b)) key val).run P w= .ok () w'∧MapIs P k w' b (n+1) (upd f kl val)∧w.mapTurned w' b:=by
 obtain ⟨D,h,hT,h1,h2⟩:=h
 obtain ⟨w',hr,h',ht'⟩:=h.store K ht hn (d:= .held val) (ps:= []) hkey rfl
 have hk:=K.key hkey
 refine ⟨w',hr,⟨_,h',hT.put hk _,fun l z=> ?_,fun l=> ?_⟩,ht'⟩
 ·by_cases hl:l=kl
  ·subst hl
   rw [atKey_put_same hT.isMap hk]
   unfold upd
   rw [if_pos (WideAt.sameKey_self hk)]
   rfl
  ·rw [atKey_put_other hl,h1]
   unfold upd
   rw [if_neg (fun e=>hl (WideAt.sameKey_eq e))]
 ·by_cases hl:l=kl
  ·subst hl
   rw [has_put_same hT.isMap hk]
   unfold upd
   rw [if_pos (WideAt.sameKey_self hk)]
   rfl
  ·rw [has_put_other hl,h2]
   unfold upd
   rw [if_neg (fun e=>hl (WideAt.sameKey_eq e))]
theorem MapIs.keys (h:MapIs P k w b n f) (K:Keyed P k) (hk:P.underlying k=some (.int .i64)) {ks:List Int} (hnd:ks.Nodup) (hm: ∀x,x∈ks↔(f (.int .i64 x)).isSome=true):
 ∃D,w.ownsMap P k rawE b n D∧ks.Perm (intKeys D)∧Maps.size D=ks.length∧Maps.size D≤n:=by
 obtain ⟨D,h,hT,h1,h2⟩:=h
 have hc:CollectedI D (fun _=>false) ks:=⟨hnd,fun x=>by rw [hm,h2];simp⟩
 have hp:=hc.perm h K hk fun _=>rfl
 refine ⟨D,h,hp,?_,h.size_le⟩
 obtain ⟨es,rfl,_⟩:=hT
 rw [hp.length_eq]
 simp [Maps.size,intKeys]
theorem MapIs.len (h:MapIs P k w b n f) (K:Keyed P k) (hk:P.underlying k=some (.int .i64)) {ks:List Int} (hnd:ks.Nodup) (hm: ∀x,x∈ks↔(f (.int .i64 x)).isSome=true) (ht:P.underlying t=some (.map k e)) (ty:TypeId):
 (Builtin.len_ #[t] ty #[.map (some b)]).run P w= .ok (.int .i64 ks.length) w:=by
 obtain ⟨D,hD,_,hs,_⟩:=h.keys K hk hnd hm
 rw [←hs]
 exact hD.len ht ty
theorem keyOf_ints {ar m:Nat} {q:IntKind} {e:TypeId} (hk:P.underlying k=some (.array ar e)) (he:P.underlying e=some (.int q)) (hce:P.cellsOf e=1) (hck:P.cellsOf k=ar) (hkt:P.keyType k=true) (hm:P.types.size=m+1)
 {zs:List Int} (hl:zs.length=ar) (hw: ∀z∈zs,(Lit.int q z).wf=true):keyOf P k (.agg (zs.map (Value.int q)).toArray)=some (.string (keyBytes (zs.map (Lit.int q)))):=by
 have hf:(Value.agg (zs.map (Value.int q)).toArray).formed P k=true:=by simp [Value.formed,hk,hck,hl]
 have hone: ∀i,(hi:i<zs.length)→P.keyLits (m+1) e (((zs.map (Value.int q)).drop i).take 1)=some [.int q zs[i]]:=fun i hi=>by
  rw [List.drop_eq_getElem_cons (by simpa using hi),List.take_succ_cons,List.take_zero,List.getElem_map]
  unfold Program.keyLits
  simp only [he]
  rw [if_pos ⟨trivial,hw _ (List.getElem_mem hi)⟩]
 have hall:P.keyLits (m+2) k (zs.map (Value.int q))=some (zs.map (Lit.int q)):=by
  unfold Program.keyLits
  simp only [hk]
  rw [if_pos (by rw [List.length_map,hl,hck]),hce]
  simp only [Nat.mul_one]
  have e1:(List.range ar).mapM (fun i=>P.keyLits (m+1) e (((zs.map (Value.int q)).drop i).take 1))=some (zs.map fun z=> [Lit.int q z]):=by
   have key: ∀n,n≤zs.length→(List.range n).mapM (fun i=>P.keyLits (m+1) e (((zs.map (Value.int q)).drop i).take 1))=some ((zs.take n).map fun z=> [Lit.int q z]):=by
    intro n
    induction n with
    |zero=>intro _;rfl
    |succ n ih=>
     intro hn
     have e2:zs.take (n+1)=zs.take n++ [zs[n]]:=by rw [List.take_add_one,List.getElem?_eq_getElem (by omega)];rfl
     rw [List.range_succ,List.mapM_append,ih (by omega),e2,List.map_append,List.mapM_cons,hone n (by omega)]
     rfl
   rw [←hl,key zs.length (Nat.le_refl _),List.take_length]
  have e3: ∀l:List Int,(l.map fun z=> [Lit.int q z]).flatten=l.map (Lit.int q):=fun l=>by
   induction l with
   |nil=>rfl
   |cons z l ih=>rw [List.map_cons,List.flatten_cons,ih];rfl
  rw [e1]
  show some ((zs.map fun z=> [Lit.int q z]).flatten)=_
  rw [e3]
 unfold keyOf
 simp only [hk]
 rw [if_pos (by rw [hkt,hf];rfl),hm]
 show ((P.keyLits (m+2) k (zs.map (Value.int q))).map fun ls=>Lit.string (keyBytes ls))=_
 rw [hall]
 rfl
def intF (g:Int→Option Value):Lit→Option Value
 | .int .i64 c=>g c
 |_=>none
theorem upd_intF (g:Int→Option Value) (c:Int) (v:Value) (kl:Lit):upd (intF g) (.int .i64 c) v kl=intF (fun x=>if x=c then some v else g x) kl:=by
 unfold upd
 cases h:kl.sameKey (.int .i64 c)
 ·rw [if_neg (by simp)]
  unfold intF
  split
  ·rename_i y
   have:y≠c:=fun e=>by
    subst e
    rw [WideAt.sameKey_self (a:= .int .i64 y) trivial] at h
    cases h
   exact (if_neg this).symm
  ·rfl
 ·have e:=WideAt.sameKey_eq h
  subst e
  show some v=intF _ (.int .i64 c)
  unfold intF
  simp
theorem MapIs.intF {g:Int→Option Value} {c:Int} {v:Value} (h:MapIs P k w b n (upd (Ux.intF g) (.int .i64 c) v)):MapIs P k w b n (Ux.intF fun x=>if x=c then some v else g x):=h.ext fun kl=>(upd_intF g c v kl).symm
end Go.Ux
namespace Go.Ux
open Go Go.Maps
variable {P:Program}
theorem wpList_look {w:World} {ops:Array Oper} {rest:List Oper} {o:Oper} {a:Act} {Q:Exit→Act→World→Prop} {m1 x1 v:Value} {c:Bool} (hg:o.guard=none) (m x:Operand) (t:TypeId) (hop:o.op=Op.lookup t m x c)
 (hm:a.eval m=m1) (hx:a.eval x=x1) (hr:(Instr.lookup t m1 x1 c).run P w= .ok v w) (hK:wpList P ops Q rest (a.put o.dst v) w):wpList P ops Q (o::rest) a w:=by
 refine wpList_plain hg fun K' hK'=> ?_
 unfold Oper.wp
 simp [execOp,hop,hm,hx,hr,Result.andThen]
 exact hK' _ _ hK
theorem wpList_put {w:World} {ops:Array Oper} {rest:List Oper} {o:Oper} {a:Act} {Q:Exit→Act→World→Prop} {k e:TypeId} {b n:Nat} {f:Lit→Option Value} {key val:Value} {kl:Lit} (hg:o.guard=none) (m x v:Operand) (t:TypeId) (hop:o.op=Op.mapUpdate t m x v)
 (hm:a.eval m= .map (some b)) (hx:a.eval x=key) (hv:a.eval v=val) (h:MapIs P k w b n f) (K:Keyed P k) (ht:P.underlying t=some (.map k e)) (hn:n<maxLen) (hkey:keyOf P k key=some kl)
 (hK: ∀w',MapIs P k w' b (n+1) (upd f kl val)→Touch (fun i=>i=b) w w'→wpList P ops Q rest (a.put o.dst undef) w'):wpList P ops Q (o::rest) a w:=by
 refine wpList_plain hg fun K' hK'=> ?_
 obtain ⟨w',hrun,r1,r2⟩:=h.store K ht hn (val:=val) hkey
 have hT:Touch (fun i=>i=b) w w':=by
  obtain ⟨es,clock,es',clock',h1,rfl⟩:=r2
  exact ⟨rfl,rfl,rfl,by simp [ChangeMaps.setBlock],fun i hi hn=>ChangeMaps.heap_setBlock_other h1 _ hn⟩
 unfold Oper.wp
 simp [execOp,hop,hm,hx,hv,hrun,Result.andThen]
 exact hK' _ _ (hK w' r1 hT)
theorem MapIs.touch {k:TypeId} {w w':World} {b n:Nat} {f:Lit→Option Value} {R:Nat→Prop} (h:MapIs P k w b n f) (ht:Touch R w w') (hn: ¬R b):MapIs P k w' b n f:=h.same (ht.block b h.lt hn)
end Go.Ux
namespace Go.Ux
open Go Go.Maps Go.RowKit
variable {P:Program} {k:TypeId} {w:World} {b r n:Nat} {f:Lit→Option Value} {left:Lit→Bool} {cnt:Nat}
def RangeIs (P:Program) (k:TypeId) (w:World) (b r n:Nat) (f:Lit→Option Value) (left:Lit→Bool) (cnt:Nat):Prop:=
 ∃D,w.ranges P k rawE b r n D left cnt∧Tidy D∧(∀kl z,D.atKey kl (.held z)= .held ((f kl).getD z))∧(∀kl,has D kl=(f kl).isSome)∧∀kl,left kl=true→(f kl).isSome=true
theorem RangeIs.map (h:RangeIs P k w b r n f left cnt):MapIs P k w b n f:=let ⟨D,h,r⟩:=h;⟨D,h.owns,r.1,r.2.1,r.2.2.1⟩
theorem RangeIs.ne (h:RangeIs P k w b r n f left cnt):r≠b:=let ⟨_,h,_⟩:=h;h.ne
theorem RangeIs.cnt_le (h:RangeIs P k w b r n f left cnt):cnt≤n:=by
 obtain ⟨D,⟨es,clock,since,seen,c0,_,_,h3,_,_,_,h7,_⟩,_⟩:=h
 rw [←h7]
 refine Nat.le_trans ?_ h3
 unfold leftOf
 exact Array.size_filter_le
theorem RangeIs.lt (h:RangeIs P k w b r n f left cnt):r<w.heap.size:=let ⟨_,h,_⟩:=h;h.lt
theorem RangeIs.ltb (h:RangeIs P k w b r n f left cnt):b<w.heap.size:=h.map.lt
theorem RangeIs.same {w':World} (h:RangeIs P k w b r n f left cnt) (hb:w'.heap[b]? =w.heap[b]?) (hr:w'.heap[r]? =w.heap[r]?):RangeIs P k w' b r n f left cnt:=by
 obtain ⟨D,⟨es,clock,since,seen,c0,h1,h2,h3,h4,h5,h6⟩,h7⟩:=h
 exact ⟨D,⟨es,clock,since,seen,c0,hb.trans h1,h2,h3,h4,hr.trans h5,h6⟩,h7⟩
theorem RangeIs.touch {R:Nat→Prop} {w':World} (h:RangeIs P k w b r n f left cnt) (ht:Touch R w w') (hb: ¬R b) (hr: ¬R r):RangeIs P k w' b r n f left cnt:=
 h.same (ht.block b h.ltb hb) (ht.block r h.lt hr)
section
variable {ops:Array Oper} {rest:List Oper} {o:Oper} {a:Act} {Q:Exit→Act→World→Prop}
theorem wpList_rangeM (hg:o.guard=none) (m:Operand) (t:TypeId) (hop:o.op=Op.range t m) (k e:TypeId) (K:Keyed P k) (ht:P.underlying t=some (.map k e)) (b n:Nat) (f:Lit→Option Value)
 (hm:a.eval m= .map (some b)) (hown:MapIs P k w b n f)
 (hK: ∀w' cnt,RangeIs P k w' b w.heap.size n f (fun kl=>(f kl).isSome) cnt→Touch (fun _=>False) w w'→w'.heap.size=w.heap.size+1→wpList P ops Q rest (a.put o.dst (.pointer (some ⟨w.heap.size,0,none⟩))) w'):
 wpList P ops Q (o::rest) a w:=by
 obtain ⟨D,h1,h2,h3,h4⟩:=hown
 refine wpList_range_own w hg m t hop k e K ht rawE b n D hm h1 fun w' hr hgr hs=>hK w' (Maps.size D) ⟨D,?_,h2,h3,h4,fun kl h=>h⟩ ⟨hgr.os,hgr.tape,hgr.output,hgr.size,fun i hi _=>hgr.block i hi (by simp)⟩ hs
 have e:(Maps.has D)=fun kl=>(f kl).isSome:=funext h4
 rw [←e]
 exact hr
theorem wpList_nextM (hg:o.guard=none) (it:Operand) (hop:o.op=Op.next it false) (k:TypeId) (K:Keyed P k) (b r n:Nat) (f:Lit→Option Value) (left:Lit→Bool) (cnt:Nat)
 (hit:a.eval it= .pointer (some ⟨r,0,none⟩)) (h:RangeIs P k w b r n f left cnt)
 (hDone:cnt=0→(∀kl,left kl=false)→wpList P ops Q rest (a.put o.dst (.tuple #[.bool false])) w)
 (hMore: ∀(key v:Value) (kl:Lit) (w':World) (cnt':Nat),keyOf P k key=some kl→left kl=true→f kl=some v→RangeIs P k w' b r n f (fun z=>left z&& !z.sameKey kl) cnt'→cnt'<cnt→
   Touch (fun i=>i=r) w w'→w'.heap.size=w.heap.size→(Instr.entry (.pointer (some ⟨r,0,none⟩))).run P w'= .ok (.tuple #[key,v]) w'→wpList P ops Q rest (a.put o.dst (.tuple #[.bool true,key,v])) w'):
 wpList P ops Q (o::rest) a w:=by
 obtain ⟨D,h1,h2,h3,h4,h5⟩:=h
 refine wpList_next_ranges (α:=Value) (β:=Value) w hg it hop k K rawE id id (fun key kl _=>⟨key,rfl⟩) (fun v y _=>⟨v,rfl⟩) b r n D left cnt hit h1 hDone fun key v kl y w' cnt' hkey hlk hv hat hrg hlt hgr hsz hen=> ?_
 have hv':y=(.held v,[]):=by unfold rawE at hv;exact (Option.some.inj hv).symm
 have hf:f kl=some v:=by
  have e:=hat (.held v)
  rw [h3,hv'] at e
  simp only [DataW.held.injEq] at e
  have hs:=h5 kl hlk
  cases hfk:f kl with
  |none=>rw [hfk] at hs;cases hs
  |some z=>rw [hfk] at e;simp at e;rw [e]
 exact hMore key v kl w' cnt' hkey hlk hf ⟨D,hrg,h2,h3,h4,fun z hz=>h5 z (by simp at hz;exact hz.1)⟩ hlt ⟨hgr.os,hgr.tape,hgr.output,hgr.size,fun i hi hn=>hgr.block i hi (by simp;exact hn)⟩ hsz hen
end
end Go.Ux
namespace Go.Ux
open Go Go.Maps Go.RowKit
abbrev Ent:=List Nat×List Nat
def k3 (s:List Nat):List Int:=s.map (fun (c:Nat)=>(c:Int)+1)++List.replicate (3-s.length) 0
def okS (s:List Nat):Prop:=1≤s.length∧s.length≤3∧∀c∈s,c<1114368
def okE (e:Ent):Prop:=okS e.1∧e.2.length≤8∧∀x∈e.2,x<4294967296
theorem k3_len {s:List Nat} (h:s.length≤3):(k3 s).length=3:=by unfold k3;simp;omega
theorem k3_inj: ∀{s t:List Nat},s.length≤3→t.length≤3→k3 s=k3 t→s=t
 | [],[],_,_,_=>rfl
 | [],d::t,_,_,h=>by
   unfold k3 at h
   simp [List.replicate_succ] at h
   omega
 |c::s,[],_,_,h=>by
  unfold k3 at h
  simp [List.replicate_succ] at h
  omega
 |c::s,d::t,hs,ht,h=>by
  unfold k3 at h
  simp only [List.map_cons,List.cons_append,List.cons.injEq,List.length_cons] at h hs ht
  obtain ⟨h1,h2⟩:=h
  have h3:s.map (fun (c:Nat)=>(c:Int)+1)++List.replicate (3-s.length) (0:Int)=t.map (fun (c:Nat)=>(c:Int)+1)++List.replicate (3-t.length) 0:=by
   have e1:3-s.length=(3-(s.length+1))+1:=by omega
   have e2:3-t.length=(3-(t.length+1))+1:=by omega
   rw [e1,e2,List.replicate_succ',List.replicate_succ',←List.append_assoc,←List.append_assoc,h2]
  rw [k3_inj (by omega) (by omega) h3]
  congr 1
  omega
def kl3 (s:List Nat):Lit:= .string (keyBytes ((k3 s).map (Lit.int .i64)))
theorem wf64 {z:Int} (h: -9223372036854775808≤z∧z≤9223372036854775807):(Lit.int .i64 z).wf=true:=by
 have e1:IntKind.i64.min= -9223372036854775808:=rfl
 have e2:IntKind.i64.max=9223372036854775807:=rfl
 simp [Lit.wf,e1,e2]
 omega
theorem k3_wf {s:List Nat} (h:okS s): ∀z∈k3 s,(Lit.int .i64 z).wf=true:=fun z hz=>by
 refine wf64 ?_
 unfold k3 at hz
 rcases List.mem_append.1 hz with hz|hz
 ·obtain ⟨c,hc,rfl⟩:=List.mem_map.1 hz
  have:=h.2.2 c hc
  omega
 ·rw [List.eq_of_mem_replicate hz]
  omega
theorem alike64: ∀(a b:List Int),a.length=b.length→Alike (a.map (Lit.int .i64)) (b.map (Lit.int .i64))
 | [],[],_=>trivial
 |_::a,_::b,h=>⟨rfl,alike64 a b (by simpa using h)⟩
 | [],_::_,h=>by simp at h
 |_::_,[],h=>by simp at h
theorem map64_inj: ∀{a b:List Int},a.map (Lit.int .i64)=b.map (Lit.int .i64)→a=b
 | [],[],_=>rfl
 |x::a,y::b,h=>by
  simp only [List.map_cons,List.cons.injEq,Lit.int.injEq,true_and] at h
  rw [h.1,map64_inj h.2]
 | [],_::_,h=>by simp at h
 |_::_,[],h=>by simp at h
theorem kl3_inj {s t:List Nat} (hs:okS s) (ht:okS t) (h:kl3 s=kl3 t):s=t:=by
 unfold kl3 at h
 have h:=keyBytes_inj (alike64 (k3 s) (k3 t) (by rw [k3_len hs.2.1,k3_len ht.2.1])) (fun x hx=>by
  obtain ⟨z,hz,rfl⟩:=List.mem_map.1 hx
  exact k3_wf hs z hz) (fun x hx=>by
  obtain ⟨z,hz,rfl⟩:=List.mem_map.1 hx
  exact k3_wf ht z hz) (Lit.string.inj h)
 exact k3_inj hs.2.1 ht.2.1 (map64_inj h)
theorem kl3_self (s:List Nat):(kl3 s).sameKey (kl3 s)=true:=WideAt.sameKey_self (by unfold kl3;trivial)
def ev (l:List Nat):List Value:=l.map fun (x:Nat)=> .int .u32 (x:Int)
theorem ev_length (l:List Nat):(ev l).length=l.length:=by simp [ev]
theorem ev_get {l:List Nat} {i x:Nat} (h:l[i]? =some x):(ev l)[i]? =some (.int .u32 (x:Int)):=by unfold ev;rw [List.getElem?_map,h];rfl
def findE (E:List Ent) (s:List Nat):Option (List Nat):=(E.find? fun e=>e.1==s).map (·.2)
theorem findE_some {E:List Ent} {s l:List Nat} (h:findE E s=some l):(s,l)∈E:=by
 unfold findE at h
 obtain ⟨e,he,rfl⟩:=Option.map_eq_some_iff.1 h
 have h1:=List.find?_some he
 have h2:=List.mem_of_find?_eq_some he
 have:e.1=s:=by simpa using h1
 rw [←this]
 exact h2
theorem findE_none {E:List Ent} {s:List Nat} (h:findE E s=none): ∀e∈E,e.1≠s:=fun e he=>by
 unfold findE at h
 rw [Option.map_eq_none_iff] at h
 have:=List.find?_eq_none.1 h e he
 simpa using this
theorem findE_mem {E:List Ent} {e:Ent} (hn:(E.map (·.1)).Nodup) (he:e∈E):findE E e.1=some e.2:=by
 unfold findE
 induction E with
 |nil=>cases he
 |cons d E ih=>
  rw [List.map_cons,List.nodup_cons] at hn
  rw [List.find?_cons]
  by_cases h:d.1=e.1
  ·have:(d.1==e.1)=true:=by simp [h]
   rw [this]
   rcases List.mem_cons.1 he with rfl|he
   ·rfl
   ·exact absurd (List.mem_map.2 ⟨e,he,h.symm⟩) hn.1
  ·have:(d.1==e.1)=false:=by simp [h]
   rw [this]
   rcases List.mem_cons.1 he with rfl|he
   ·exact absurd rfl h
   ·exact ih hn.2 he
def Tells (t:TypeId) (w:World) (f:Lit→Option Value) (E:List Ent):Prop:=
 (∀e∈E,∃v,f (kl3 e.1)=some v∧Row w 0 t v (ev e.2))∧∀kl v,f kl=some v→∃e∈E,kl=kl3 e.1
def okT (E:List Ent):Prop:=(E.map (·.1)).Nodup∧∀e∈E,okE e
def TabMap (P:Program) (k t:TypeId) (w:World) (b:Nat) (E:List Ent):Prop:=okT E∧∃f,MapIs P k w b E.length f∧Tells t w f E
variable {P:Program} {k t:TypeId} {w w':World} {b:Nat} {E:List Ent}
theorem Tells.touch {f:Lit→Option Value} {R:Nat→Prop} (h:Tells t w f E) (ht:Touch R w w') (hR: ∀g cs,w.heap[g]? =some (.cells cs t (0,0))→¬R g):Tells t w' f E:=by
 refine ⟨fun e he=> ?_,h.2⟩
 obtain ⟨v,h1,h2⟩:=h.1 e he
 refine ⟨v,h1,h2.imp id fun ⟨g,c,cur,e,hg,hh,r⟩=>⟨g,c,cur,e,hg,ht.heap hh (hR g _ hh),r⟩⟩
theorem TabMap.touch {R:Nat→Prop} (h:TabMap P k t w b E) (ht:Touch R w w') (hb: ¬R b) (hR: ∀g cs,w.heap[g]? =some (.cells cs t (0,0))→¬R g):TabMap P k t w' b E:=by
 obtain ⟨h0,f,h1,h2⟩:=h
 exact ⟨h0,f,h1.touch ht hb,h2.touch ht hR⟩
theorem TabMap.touch0 (h:TabMap P k t w b E) (ht:Touch (fun _=>False) w w'):TabMap P k t w' b E:=h.touch ht (fun f=>f) (fun _ _ _ f=>f)
theorem TabMap.lt (h:TabMap P k t w b E):b<w.heap.size:=let ⟨_,_,h,_⟩:=h;h.lt
theorem TabMap.made (w:World) (P:Program) (k t:TypeId):TabMap P k t (w.alloc (.map #[] 0)) w.heap.size []:=
 ⟨⟨List.nodup_nil,(fun _ h=>by cases h)⟩,_,MapIs.made w P k,⟨(fun _ h=>by cases h),(fun _ _ h=>by cases h)⟩⟩
theorem MapIs.notCells {n:Nat} {f:Lit→Option Value} (h:MapIs P k w b n f): ∀g cs,w.heap[g]? =some (.cells cs t (0,0))→¬(g=b):=fun g cs hh e=>by
 obtain ⟨D,⟨es,clock,h1,_⟩,_⟩:=h
 subst e
 rw [h1] at hh
 cases hh
theorem TabMap.put {f:Lit→Option Value} {v:Value} {s l:List Nat} (h0:okT E) (h1:MapIs P k w b E.length f) (h2:Tells t w f E) (hs:okE (s,l)) (hn:s∉E.map (·.1)) (hv:Row w 0 t v (ev l))
 (hm:MapIs P k w' b (E.length+1) (upd f (kl3 s) v)) (ht:Touch (fun i=>i=b) w w'):TabMap P k t w' b (E++ [(s,l)]):=by
 have hR:=h1.notCells (t:=t)
 refine ⟨⟨?_,?_⟩,_,by rw [List.length_append];exact hm,?_,?_⟩
 ·rw [List.map_append,List.nodup_append]
  refine ⟨h0.1,by simp,fun a ha b hb=> ?_⟩
  obtain rfl:b=s:=by simpa using hb
  exact fun e=>hn (e▸ha)
 ·intro e he
  rcases List.mem_append.1 he with he|he
  ·exact h0.2 e he
  ·obtain rfl:e=(s,l):=by simpa using he
   exact hs
 ·have h2':=h2.touch ht hR
  have hv':Row w' 0 t v (ev l):=hv.imp id fun ⟨g,c,cur,e,hg,hh,r⟩=>⟨g,c,cur,e,hg,ht.heap hh (hR g _ hh),r⟩
  intro e he
  rcases List.mem_append.1 he with he|he
  ·obtain ⟨u,hu,hr⟩:=h2'.1 e he
   refine ⟨u,?_,hr⟩
   unfold upd
   rw [if_neg]
   ·exact hu
   ·intro hk
    have:=kl3_inj (h0.2 e he).1 hs.1 (WideAt.sameKey_eq hk)
    exact hn (List.mem_map.2 ⟨e,he,this⟩)
  ·obtain rfl:e=(s,l):=by simpa using he
   exact ⟨v,by unfold upd;rw [if_pos (kl3_self s)],hv'⟩
 ·intro kl u hu
  unfold upd at hu
  split at hu
  ·rename_i hk
   exact ⟨(s,l),by simp,WideAt.sameKey_eq hk⟩
  ·obtain ⟨e,he,hk⟩:=h2.2 kl u hu
   exact ⟨e,List.mem_append_left _ he,hk⟩
theorem Tells.find {f:Lit→Option Value} (h0:okT E) (h:Tells t w f E) {s:List Nat} (hs:okS s):match findE E s with
 |some l=> ∃v,f (kl3 s)=some v∧Row w 0 t v (ev l)
 |none=>f (kl3 s)=none:=by
 cases hf:findE E s with
 |some l=>exact h.1 (s,l) (findE_some hf)
 |none=>
  cases hk:f (kl3 s) with
  |none=>rfl
  |some v=>
   obtain ⟨e,he,hke⟩:=h.2 _ v hk
   exact absurd (kl3_inj hs (h0.2 e he).1 hke).symm (findE_none hf e he)
end Go.Ux
