/- A part of the proof that the statement holds for every input that it names. No other condition. -/
import Derived.WalkKit
import Derived.Lib.Strings
import Derived.Test.YtfccjaboicpohaaGreatDoorUxMemAZ
import Derived.Test.YtfccjaboicpohaaGreatDoorUxNumAZ
import Derived.Test.YtfccjaboicpohaaGreatDoorUxTabAZ
set_option linter.unusedVariables false
set_option linter.unusedSimpArgs false
namespace Go.Ux
open Go
theorem bytesLess_dec: ∀(x y:List UInt8),Op.bytesLess x y=decide (x<y)
 | [],[]=>by simp [Op.bytesLess]
 |_::_,[]=>by simp [Op.bytesLess]
 | [],_::_=>by simp [Op.bytesLess]
 |a::x,b::y=>by
  have ih:=bytesLess_dec x y
  simp only [Op.bytesLess,List.cons_lt_cons_iff]
  rw [ih]
  by_cases h:a<b
  ·simp [h]
  ·by_cases e:a=b
   ·subst e;simp
   ·simp [h,e]
def slt (a b:ByteArray):Bool:=Op.bytesLess a.toList b.toList
theorem ba_ext {a b:ByteArray} (h:a.toList=b.toList):a=b:=by
 rw [Lib.toList_data,Lib.toList_data] at h
 cases a with
 |mk x=>cases b with
  |mk y=>exact congrArg ByteArray.mk (Array.toList_inj.1 h)
theorem slt_iff (a b:ByteArray):slt a b=true↔a.toList<b.toList:=by simp [slt,bytesLess_dec]
theorem slt_irrefl (a:ByteArray):slt a a=false:=by
 cases h:slt a a with
 |false=>rfl
 |true=>exact absurd ((slt_iff a a).1 h) (List.lt_irrefl _)
theorem slt_trans {a b c:ByteArray} (h:slt a b=true) (k:slt b c=true):slt a c=true:=
 (slt_iff a c).2 (List.lt_trans ((slt_iff a b).1 h) ((slt_iff b c).1 k))
theorem slt_asymm {a b:ByteArray} (h:slt a b=true):slt b a=false:=by
 cases k:slt b a with
 |false=>rfl
 |true=>have:=slt_trans h k;rw [slt_irrefl] at this;cases this
theorem slt_conn {a b:ByteArray} (h:slt a b=false) (k:slt b a=false):a=b:=by
 have h1: ¬a.toList<b.toList:=fun x=>by rw [(slt_iff a b).2 x] at h;cases h
 have h2: ¬b.toList<a.toList:=fun x=>by rw [(slt_iff b a).2 x] at k;cases k
 exact ba_ext (List.le_antisymm (List.not_lt.1 h2) (List.not_lt.1 h1))
theorem slt_of_le' {a b c:ByteArray} (h:slt a b=true) (k:slt c b=false):slt a c=true:=by
 cases hac:slt a c with
 |true=>rfl
 |false=>
  cases hca:slt c a with
  |true=>rw [slt_trans hca h] at k;cases k
  |false=>have:=slt_conn hac hca;subst this;rw [h] at k;cases k
def lb (ks:List ByteArray) (k:ByteArray):Nat:=(ks.takeWhile (slt · k)).length
def has (ks:List ByteArray) (k:ByteArray):Bool:=decide (ks[lb ks k]? =some k)
end Go.Ux
namespace Go.Ux
open Go Go.RowKit
def wt8 (lv x:Nat):Nat:=if lv=1 then eP x else if lv=2 then eS x else eT x
def keepW (sh:Bool) (lv x:Nat):Bool:=decide (0<wt8 lv x)&& !(sh&&eV x)
def wF (sh:Bool) (lv:Nat) (l:List Nat):List Nat:=(l.filter (keepW sh lv)).map (wt8 lv)
def wts (sh bk:Bool) (lv:Nat) (l:List Nat):List Nat:=if lv=2∧bk=true then (wF sh lv l).reverse else wF sh lv l
theorem wF_snoc (sh:Bool) (lv:Nat) (l:List Nat) (x:Nat):wF sh lv (l++ [x])=wF sh lv l++if keepW sh lv x then [wt8 lv x] else []:=by
 unfold wF
 rw [List.filter_append,List.map_append]
 cases h:keepW sh lv x<;>simp [List.filter,h]
theorem wF_len (sh:Bool) (lv:Nat) (l:List Nat):(wF sh lv l).length≤l.length:=by
 unfold wF
 rw [List.length_map]
 exact List.length_filter_le _ _
theorem wts_len (sh bk:Bool) (lv:Nat) (l:List Nat):(wts sh bk lv l).length≤l.length:=by
 unfold wts
 have:=wF_len sh lv l
 split
 ·rw [List.length_reverse];exact this
 ·exact this
def wghC (sh bk:Bool) (a b:List Nat) (lv:Nat):Nat→Int
 |0=>0
 |n+1=>if cmpL (sv (wts sh bk lv a)) (sv (wts sh bk lv b))≠0 then cmpL (sv (wts sh bk lv a)) (sv (wts sh bk lv b)) else wghC sh bk a b (lv+1) n
variable {w w':World} {lo:Nat} {t:TypeId}
theorem Touch.drewN {R:Nat→Prop} {a w:World} (h:Touch R a w) (n:Nat):Touch R a (w.drewN n):=⟨h.os,h.tape,h.output,h.size,h.block⟩
theorem Touch.setCells {R:Nat→Prop} {a:World} {b:Nat} (hb:b<a.heap.size→R b): ∀(vs:List Value) (o:Nat) (w:World),Touch R a w→Touch R a (w.setCells b o vs)
 | [],_,_,h=>h
 |v::vs,o,w,h=>by
  rw [World.setCells]
  exact Touch.setCells hb vs (o+1) _ (h.setCell (p:=⟨b,o,none⟩) hb v)
def setL (xs:List Value) (o:Nat):List Value→List Value
 | []=>xs
 |v::vs=>setL (xs.set o v) (o+1) vs
theorem setL_eq: ∀(vs xs:List Value) (o:Nat),o+vs.length=xs.length→setL xs o vs=xs.take o++vs
 | [],xs,o,h=>by
   simp only [List.length_nil,Nat.add_zero] at h
   rw [setL,List.append_nil,List.take_of_length_le (by omega)]
 |v::vs,xs,o,h=>by
  simp only [List.length_cons] at h
  rw [setL,setL_eq vs (xs.set o v) (o+1) (by rw [List.length_set];omega)]
  rw [List.take_add_one,List.take_set_of_le (Nat.le_refl _),List.getElem?_set_self (by omega)]
  simp
theorem Row.setAll {g n c:Nat}: ∀(vs:List Value) (o:Nat) (w:World) (xs:List Value),Row w lo t (.slice (some ⟨g,0,none⟩) n c) xs→Row (w.setCells g o vs) lo t (.slice (some ⟨g,0,none⟩) n c) (setL xs o vs)
 | [],_,_,_,h=>h
 |v::vs,o,w,xs,h=>by
  rw [World.setCells,setL]
  exact Row.setAll vs (o+1) _ _ (h.set o v)
theorem Row.drewN {v:Value} {xs:List Value} (h:Row w lo t v xs) (n:Nat):Row (w.drewN n) lo t v xs:=h.touch0 ((Touch.refl _ w).drewN n)
end Go.Ux
namespace Go.Ux
open Go
theorem ofE_ok {E:List Ent} (h:okT E) {s:List Nat} (hs: ∀c∈s,c<1114368): ∀k i,(ofE E s i k).length≤8*k∧∀x∈ofE E s i k,x<4294967296
 |0,i=>⟨Nat.zero_le _,fun x hx=>by cases hx⟩
 |k+1,i=>by
  unfold ofE
  split
  ·exact ⟨Nat.zero_le _,fun x hx=>by cases hx⟩
  ·have h1:=atE_ok h hs (s:=s) (i:=i) (by omega)
   have h2:=ofE_ok h hs k (i+(atE E s i).2)
   refine ⟨by rw [List.length_append];omega,fun x hx=> ?_⟩
   rcases List.mem_append.1 hx with hx|hx
   ·exact h1.2 x hx
   ·exact h2.2 x hx
theorem elems_ok {E:List Ent} (h:okT E) {s:List Nat} (hs: ∀c∈s,c<1114368):(elemsE E s).length≤8*s.length∧∀x∈elemsE E s,x<4294967296:=ofE_ok h hs _ _
end Go.Ux
