/- A part of the proof that the statement holds for every input that it names. No other condition. -/
import Derived.Test.YtfccjaboicpohaaGreatDoorUxMemAY
import Derived.Test.YtfccjaboicpohaaGreatDoorUxNumAY
import Derived.Test.YtfccjaboicpohaaGreatDoorUxTabAY
import Derived.Lib.Strings
set_option linter.unusedVariables false
set_option linter.unusedSimpArgs false
namespace Go.Ux
open Go Go.RowKit
def wt8 (lv x:Nat):Nat:=if lv=1 then eP x else if lv=2 then eS x else eT x
def keepW (sh:Bool) (lv x:Nat):Bool:=decide (0<wt8 lv x)&& !(sh&&eV x)
def wF (sh:Bool) (lv:Nat) (l:List Nat):List Nat:=(l.filter (keepW sh lv)).map (wt8 lv)
theorem wF_snoc (sh:Bool) (lv:Nat) (l:List Nat) (x:Nat):wF sh lv (l++ [x])=wF sh lv l++if keepW sh lv x then [wt8 lv x] else []:=by
 unfold wF
 rw [List.filter_append,List.map_append]
 cases h:keepW sh lv x<;>simp [List.filter,h]
theorem wF_len (sh:Bool) (lv:Nat) (l:List Nat):(wF sh lv l).length≤l.length:=by
 unfold wF
 rw [List.length_map]
 exact List.length_filter_le _ _
variable {w w':World} {lo:Nat} {t:TypeId}
theorem Touch.drewN {R:Nat→Prop} {a w:World} (h:Touch R a w) (n:Nat):Touch R a (w.drewN n):=⟨h.os,h.tape,h.output,h.size,h.block⟩
theorem Touch.setCells {R:Nat→Prop} {a:World} {b:Nat} (hb:b<a.heap.size→R b): ∀(vs:List Value) (o:Nat) (w:World),Touch R a w→Touch R a (w.setCells b o vs)
 | [],_,_,h=>h
 |v::vs,o,w,h=>by
  rw [World.setCells]
  exact Touch.setCells hb vs (o+1) _ (h.setCell (p:=⟨b,o,none⟩) hb v)
def setL (xs:List Value) (o:Nat):List Value→List Value
 | []=>xs
 |v::vs=>setL (xs.set o v) (o+1) vs
theorem setL_eq: ∀(vs xs:List Value) (o:Nat),o+vs.length=xs.length→setL xs o vs=xs.take o++vs
 | [],xs,o,h=>by
   simp only [List.length_nil,Nat.add_zero] at h
   rw [setL,List.append_nil,List.take_of_length_le (by omega)]
 |v::vs,xs,o,h=>by
  simp only [List.length_cons] at h
  rw [setL,setL_eq vs (xs.set o v) (o+1) (by rw [List.length_set];omega)]
  rw [List.take_add_one,List.take_set_of_le (Nat.le_refl _),List.getElem?_set_self (by omega)]
  simp
theorem Row.setAll {g n c:Nat}: ∀(vs:List Value) (o:Nat) (w:World) (xs:List Value),Row w lo t (.slice (some ⟨g,0,none⟩) n c) xs→Row (w.setCells g o vs) lo t (.slice (some ⟨g,0,none⟩) n c) (setL xs o vs)
 | [],_,_,_,h=>h
 |v::vs,o,w,xs,h=>by
  rw [World.setCells,setL]
  exact Row.setAll vs (o+1) _ _ (h.set o v)
theorem Row.drewN {v:Value} {xs:List Value} (h:Row w lo t v xs) (n:Nat):Row (w.drewN n) lo t v xs:=h.touch0 ((Touch.refl _ w).drewN n)
end Go.Ux
namespace Go.Ux
open Go
theorem ofE_ok {E:List Ent} (h:okT E) {s:List Nat} (hs: ∀c∈s,c<1114368): ∀k i,(ofE E s i k).length≤8*k∧∀x∈ofE E s i k,x<4294967296
 |0,i=>⟨Nat.zero_le _,fun x hx=>by cases hx⟩
 |k+1,i=>by
  unfold ofE
  split
  ·exact ⟨Nat.zero_le _,fun x hx=>by cases hx⟩
  ·have h1:=atE_ok h hs (s:=s) (i:=i) (by omega)
   have h2:=ofE_ok h hs k (i+(atE E s i).2)
   refine ⟨by rw [List.length_append];omega,fun x hx=> ?_⟩
   rcases List.mem_append.1 hx with hx|hx
   ·exact h1.2 x hx
   ·exact h2.2 x hx
theorem elems_ok {E:List Ent} (h:okT E) {s:List Nat} (hs: ∀c∈s,c<1114368):(elemsE E s).length≤8*s.length∧∀x∈elemsE E s,x<4294967296:=ofE_ok h hs _ _
end Go.Ux
namespace Go.Ux
open Go
def slt (a b:ByteArray):Bool:=Op.bytesLess a.toList b.toList
def lb (ks:List ByteArray) (k:ByteArray):Nat:=(ks.takeWhile (slt · k)).length
def has (ks:List ByteArray) (k:ByteArray):Bool:=decide (ks[lb ks k]? =some k)
end Go.Ux
namespace Go.Ux
open Go
theorem rootE_one: ∀e∈rootE,e.1.length=1:=by
 have h:(rootE.all fun e=>e.1.length==1)=true:=by decide+kernel
 intro e he
 simpa using List.all_eq_true.1 h e he
theorem wF_cons (sh:Bool) (lv x:Nat) (l:List Nat):wF sh lv (x::l)=(if keepW sh lv x then [wt8 lv x] else [])++wF sh lv l:=by
 unfold wF
 cases h:keepW sh lv x<;>simp [List.filter,h]
end Go.Ux
