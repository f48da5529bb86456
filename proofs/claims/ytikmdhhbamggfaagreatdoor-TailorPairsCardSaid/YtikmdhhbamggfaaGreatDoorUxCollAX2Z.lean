/- A part of the proof that the statement holds for every input that it names. No other condition. -/
import Derived.Test.YtikmdhhbamggfaaGreatDoorUxCollAZ
set_option linter.unusedVariables false
set_option linter.unusedSimpArgs false
namespace Go.Ux
open Go Go.RowKit
variable {w w':World} {lo:Nat} {t:TypeId}
end Go.Ux
namespace Go.Ux
open Go
theorem findE_len {E:List Ent} (h: ∀e∈E,e.1.length=1) {s:List Nat} (hs:s.length≠1):findE E s=none:=by
 cases hf:findE E s with
 |none=>rfl
 |some l=>exact absurd (h _ (findE_some hf)) hs
theorem longE_single {E:List Ent} (h: ∀e∈E,e.1.length=1) (s:List Nat) (i:Nat): ∀n,1≤n→i+n≤s.length→longE E s i n=longE E s i 1
 |0,h1,_=>by omega
 |1,_,_=>rfl
 |n+2,_,h2=>by
  rw [longE,findE_len h (by rw [List.length_take,List.length_drop];omega)]
  exact longE_single h s i (n+1) (by omega) (by omega)
theorem atE_single {E:List Ent} (h: ∀e∈E,e.1.length=1) {s:List Nat} {i c:Nat} (hc:s[i]? =some c):atE E s i=((findE E [c]).getD (implE c),1):=by
 have hi:i<s.length:=(List.getElem?_eq_some_iff.1 hc).1
 have ht:(s.drop i).take 1= [c]:=by rw [drop_get hc];rfl
 unfold atE
 rw [longE_single h s i (min 3 (s.length-i)) (by omega) (by omega)]
 unfold longE
 rw [ht,List.getD_eq_getElem?_getD,hc]
 cases findE E [c] with
 |some l=>rfl
 |none=>rfl
theorem elems_single {E:List Ent} (h: ∀e∈E,e.1.length=1) (s:List Nat):elemsE E s=s.flatMap fun c=>(findE E [c]).getD (implE c):=by
 have key: ∀k i,i+k=s.length→ofE E s i k=(s.drop i).flatMap fun c=>(findE E [c]).getD (implE c):=by
  intro k
  induction k with
  |zero=>intro i hi;rw [List.drop_eq_nil_of_le (by omega)];rfl
  |succ k ih=>
   intro i hi
   obtain ⟨c,hc⟩: ∃c,s[i]? =some c:=⟨_,List.getElem?_eq_getElem (by omega)⟩
   unfold ofE
   rw [if_neg (by omega),atE_single h hc,ih (i+1) (by omega),drop_get hc,List.flatMap_cons]
 unfold elemsE
 rw [key s.length 0 (by omega),List.drop_zero]
theorem rootE_one: ∀e∈rootE,e.1.length=1:=by
 have h:(rootE.all fun e=>e.1.length==1)=true:=by decide+kernel
 intro e he
 simpa using List.all_eq_true.1 h e he
theorem root_letter: ∀i,i<26→findE rootE [97+i]=some [eLetter i 2]:=by decide+kernel
theorem root_great: ∀i,i<26→findE rootE [65+i]=some [eLetter i 8]:=by decide+kernel
theorem cmpL_app: ∀(p a b:List Int),cmpL (p++a) (p++b)=cmpL a b
 | [],_,_=>rfl
 |x::p,a,b=>by
  show (if cmpI x x=0 then cmpL (p++a) (p++b) else cmpI x x)=_
  rw [if_pos (cmpI_self x)]
  exact cmpL_app p a b
theorem cmpL_lt {x y:Int} (h:x<y) (a b:List Int):cmpL (x::a) (y::b)= -1:=by
 have hc:cmpI x y= -1:=by unfold cmpI;rw [if_pos h]
 unfold cmpL
 rw [hc,if_neg (by decide)]
theorem wgh_first {sh bk:Bool} {a b:List Nat} {lv n:Nat} {r:Int} (h:cmpL (sv (wts sh bk lv a)) (sv (wts sh bk lv b))=r) (hr:r≠0):wghC sh bk a b lv (n+1)=r:=by
 unfold wghC
 rw [h,if_pos hr]
theorem wts1 (sh bk:Bool) (l:List Nat):wts sh bk 1 l=wF sh 1 l:=by
 unfold wts
 rw [if_neg (by omega)]
theorem wF_app (sh:Bool) (lv:Nat) (a b:List Nat):wF sh lv (a++b)=wF sh lv a++wF sh lv b:=by
 unfold wF
 rw [List.filter_append,List.map_append]
theorem wF_cons (sh:Bool) (lv x:Nat) (l:List Nat):wF sh lv (x::l)=(if keepW sh lv x then [wt8 lv x] else [])++wF sh lv l:=by
 unfold wF
 cases h:keepW sh lv x<;>simp [List.filter,h]
end Go.Ux
