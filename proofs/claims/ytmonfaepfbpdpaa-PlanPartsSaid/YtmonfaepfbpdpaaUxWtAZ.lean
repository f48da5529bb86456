/- A part of the proof that the statement holds for every input that it names. No other condition. -/
import Derived.Test.YtmonfaepfbpdpaaUxNodAZ
set_option linter.unusedVariables false
set_option linter.unusedSimpArgs false
namespace Go.Ux
open Go
mutual
def Nod.wt:Nod→Nat
 | .mk _ _ s t _ l=>2*s.size+t.size+60+Nod.wtL l
def Nod.wtL:List Nod→Nat
 | []=>0
 |y::l=>y.wt+20+Nod.wtL l
end
mutual
def Nod.cnt:Nod→Nat
 | .mk _ _ _ _ _ l=>1+Nod.cntL l
def Nod.cntL:List Nod→Nat
 | []=>0
 |y::l=>y.cnt+Nod.cntL l
end
mutual
def Nod.ok:Nod→Prop
 | .mk _ _ s t _ l=>s.size≤500∧t.size≤50∧l.length≤20∧Nod.okL l
def Nod.okL:List Nod→Prop
 | []=>True
 |y::l=>y.ok∧Nod.okL l
end
theorem Nod.wt_eq (x:Nod):x.wt=2*x.s.size+x.t.size+60+wtL x.l:=by cases x with|mk k o s t n l=>rw [Nod.wt];rfl
theorem Nod.cnt_eq (x:Nod):x.cnt=1+cntL x.l:=by cases x with|mk k o s t n l=>rw [Nod.cnt];rfl
theorem Nod.ok_iff (x:Nod):x.ok↔x.s.size≤500∧x.t.size≤50∧x.l.length≤20∧okL x.l:=by cases x with|mk k o s t n l=>rw [Nod.ok];rfl
theorem Nod.wtL_nil:wtL []=0:=by rw [wtL]
theorem Nod.wtL_cons (y:Nod) (l:List Nod):wtL (y::l)=y.wt+20+wtL l:=by rw [wtL]
theorem Nod.cntL_nil:cntL []=0:=by rw [cntL]
theorem Nod.cntL_cons (y:Nod) (l:List Nod):cntL (y::l)=y.cnt+cntL l:=by rw [cntL]
theorem Nod.okL_iff (l:List Nod):okL l↔∀y∈l,y.ok:=by
 induction l with
 |nil=>rw [okL];simp
 |cons y l ih=>rw [okL,ih];simp
theorem Nod.cntL_append (l m:List Nod):cntL (l++m)=cntL l+cntL m:=by
 induction l with
 |nil=>rw [List.nil_append,cntL_nil];omega
 |cons y l ih=>rw [List.cons_append,cntL_cons,cntL_cons,ih];omega
theorem Nod.cntL_take {l:List Nod} {i:Nat} {y:Nod} (h:l[i]? =some y):cntL (l.take (i+1))=cntL (l.take i)+y.cnt:=by
 rw [List.take_add_one,h]
 show cntL (l.take i++ [y])=_
 rw [cntL_append,cntL_cons,cntL_nil]
 omega
theorem Nod.cntL_le {l:List Nod} {i:Nat}:cntL (l.take i)≤cntL l:=by
 have:=cntL_append (l.take i) (l.drop i)
 rw [List.take_append_drop] at this
 omega
theorem Nod.wtL_append (l m:List Nod):wtL (l++m)=wtL l+wtL m:=by
 induction l with
 |nil=>rw [List.nil_append,wtL_nil];omega
 |cons y l ih=>rw [List.cons_append,wtL_cons,wtL_cons,ih];omega
theorem Nod.wtL_take {l:List Nod} {i:Nat} {y:Nod} (h:l[i]? =some y):wtL (l.take (i+1))=wtL (l.take i)+(y.wt+20):=by
 rw [List.take_add_one,h]
 show wtL (l.take i++ [y])=_
 rw [wtL_append,wtL_cons,wtL_nil]
theorem Nod.wtL_take_le {l:List Nod} {i:Nat}:wtL (l.take i)≤wtL l:=by
 have:=wtL_append (l.take i) (l.drop i)
 rw [List.take_append_drop] at this
 omega
theorem Nod.okL_take {l:List Nod} {i:Nat} {y:Nod} (h:l[i]? =some y) (h1:okL (l.take i)) (h2:y.ok):okL (l.take (i+1)):=by
 rw [okL_iff] at h1⊢
 intro z hz
 rw [List.take_add_one,h] at hz
 rcases List.mem_append.1 hz with hz|hz
 ·exact h1 z hz
 ·have:z=y:=by simpa using hz
  rw [this]
  exact h2
theorem Nod.wt_le (x:Nod) (h:x.ok):x.wt≤1600*x.cnt:=by
 obtain ⟨m,hm⟩: ∃m,SizeOf.sizeOf x=m:=⟨_,rfl⟩
 induction m using Nat.strongRecOn generalizing x with
 |_ m ih=>
  rw [wt_eq,cnt_eq]
  obtain ⟨h1,h2,h3,h4⟩:=(ok_iff x).1 h
  have key: ∀l:List Nod,(∀y∈l,y∈x.l)→okL l→wtL l≤1600*cntL l+20*l.length:=fun l=>by
   induction l with
   |nil=>intro _ _;rw [wtL_nil];omega
   |cons y l ihl=>
    intro hm' ho
    rw [okL] at ho
    have e1:=ihl (fun z hz=>hm' z (List.mem_cons_of_mem _ hz)) ho.2
    have e2:=ih (SizeOf.sizeOf y) (by have:=lt_l (hm' y (List.mem_cons_self ..));omega) y ho.1 rfl
    rw [wtL_cons,cntL_cons,List.length_cons]
    omega
  have:=key x.l (fun y hy=>hy) h4
  omega
theorem Nod.wt_mem {l:List Nod} {i:Nat} {y:Nod} (h:l[i]? =some y):y.wt+20≤wtL l:=by
 have h1:=wtL_take h
 have h2:= @wtL_take_le l (i+1)
 omega
end Go.Ux
namespace Go.Ux
open Go
mutual
def Nod.conj:Nod→List Nod
 | .mk k o s t n l=>if k=6∧o=18∧l.length=2 then Nod.conjL l else [.mk k o s t n l]
def Nod.conjL:List Nod→List Nod
 | []=> []
 |y::l=>y.conj++Nod.conjL l
end
def Nod.two (x:Nod):Prop:=x.kind=6∧x.op=18∧x.l.length=2
instance (x:Nod):Decidable x.two:=by unfold Nod.two;infer_instance
theorem Nod.conj_eq (x:Nod):x.conj=if x.two then conjL x.l else [x]:=by cases x with|mk k o s t n l=>rw [Nod.conj];rfl
theorem Nod.conjL_two {l:List Nod} {a b:Nod} (ha:l[0]? =some a) (hb:l[1]? =some b) (hl:l.length=2):conjL l=a.conj++b.conj:=by
 match l,hl with
 | [x,y],_=>
   cases ha
   cases hb
   rw [conjL,conjL,conjL,List.append_nil]
theorem Nod.conj_one {x:Nod} (h: ¬x.two):x.conj= [x]:=by rw [conj_eq,if_neg h]
theorem Nod.conj_two {x a b:Nod} (h:x.two) (ha:x.l[0]? =some a) (hb:x.l[1]? =some b):x.conj=a.conj++b.conj:=by rw [conj_eq,if_pos h,conjL_two ha hb h.2.2]
theorem Nod.conj_atom (x:Nod):(∀y∈x.conj,¬y.two)∧x.conj≠[]∧x.conj.length≤x.cnt:=by
 obtain ⟨m,hm⟩: ∃m,SizeOf.sizeOf x=m:=⟨_,rfl⟩
 induction m using Nat.strongRecOn generalizing x with
 |_ m ih=>
  by_cases h:x.two
  ·obtain ⟨a,ha⟩: ∃y,x.l[0]? =some y:=⟨_,List.getElem?_eq_getElem (by have:=h.2.2;omega)⟩
   obtain ⟨b,hb⟩: ∃y,x.l[1]? =some y:=⟨_,List.getElem?_eq_getElem (by have:=h.2.2;omega)⟩
   have la:=lt_l (List.mem_of_getElem? ha)
   have lb:=lt_l (List.mem_of_getElem? hb)
   obtain ⟨a1,a2,a3⟩:=ih _ (by omega) a rfl
   obtain ⟨b1,b2,b3⟩:=ih _ (by omega) b rfl
   rw [conj_two h ha hb]
   refine ⟨fun y hy=> ?_,by simp [a2],?_⟩
   ·rcases List.mem_append.1 hy with hy|hy
    ·exact a1 y hy
    ·exact b1 y hy
   ·rw [List.length_append,cnt_eq]
    have e1:=cntL_take ha
    have e2:=cntL_take hb
    have e3:= @cntL_le x.l 2
    rw [List.take_zero,cntL_nil] at e1
    have e4:cntL (x.l.take (0+1))=cntL (x.l.take 1):=rfl
    have e5:cntL (x.l.take (1+1))=cntL (x.l.take 2):=rfl
    omega
  ·rw [conj_one h]
   refine ⟨fun y hy=> ?_,by simp,?_⟩
   ·have:y=x:=by simpa using hy
    rw [this]
    exact h
   ·rw [cnt_eq]
    show 1≤_
    omega
def Nod.and2 (n x:Nod):Nod:= .mk 6 18 ⟨#[]⟩ ⟨#[]⟩ 0 [n,x]
def Nod.joinT (h:Nod) (t:List Nod):Nod:=t.foldl Nod.and2 h
theorem Nod.and2_two (n x:Nod):(and2 n x).two:=⟨rfl,rfl,rfl⟩
theorem Nod.joinT_snoc (h:Nod) (t:List Nod) (x:Nod):joinT h (t++ [x])=and2 (joinT h t) x:=by unfold joinT;rw [List.foldl_append];rfl
theorem Nod.joinT_take {h:Nod} {t:List Nod} {i:Nat} {x:Nod} (hx:t[i]? =some x):joinT h (t.take (i+1))=and2 (joinT h (t.take i)) x:=by
 rw [List.take_add_one,hx]
 exact joinT_snoc _ _ _
theorem Nod.conj_joinT (h:Nod) (t:List Nod) (hh: ¬h.two) (ht: ∀y∈t,¬y.two):(joinT h t).conj=h::t:=by
 have key: ∀k,(joinT h (t.take k)).conj=h::t.take k:=fun k=>by
  induction k with
  |zero=>rw [List.take_zero];exact conj_one hh
  |succ k ih=>
   by_cases hk:k<t.length
   ·have hx:=List.getElem?_eq_getElem hk
    rw [joinT_take hx,conj_two (and2_two _ _) (rfl:(and2 (joinT h (t.take k)) t[k]).l[0]? =some (joinT h (t.take k))) (rfl:(and2 (joinT h (t.take k)) t[k]).l[1]? =some t[k]),ih,conj_one (ht _ (List.mem_of_getElem? hx)),List.take_add_one,hx]
    rfl
   ·rw [List.take_of_length_le (by omega)] at ih⊢
    exact ih
 have:=key t.length
 rwa [List.take_length] at this
end Go.Ux
