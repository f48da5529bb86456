/- A part of the proof that the statement holds for every input that it names. No other condition. -/
import Derived.Test.YtfccjaboicpohaaGreatDoorUxCollAZ
import Derived.Test.YtfccjaboicpohaaGreatDoorUxEndsZ
set_option linter.unusedVariables false
set_option linter.unusedSimpArgs false
namespace Go.Ux
section
variable {α:Type} (K:α→ByteArray)
def kLt (x y:α):Bool:=slt (K x) (K y)
def StEq (l m:List α):Prop:= ∀k:ByteArray,l.filter (fun y=>decide (K y=k))=m.filter (fun y=>decide (K y=k))
def Srt (l:List α) (a b:Nat):Prop:= ∀(i j:Nat) (x y:α),a≤i→i<j→j<b→l[i]? =some x→l[j]? =some y→kLt K y x=false
def Out (l m:List α) (a b:Nat):Prop:=l.length=m.length∧∀i,(i<a∨b≤i)→m[i]? =l[i]?
end
section
variable {α:Type} {K:α→ByteArray}
theorem StEq.refl (l:List α):StEq K l l:=fun _=>rfl
theorem StEq.trans {l m n:List α} (h:StEq K l m) (g:StEq K m n):StEq K l n:=fun k=>(h k).trans (g k)
theorem Out.refl (l:List α) (a b:Nat):Out l l a b:=⟨rfl,fun _ _=>rfl⟩
theorem Out.trans {l m n:List α} {a b:Nat} (h:Out l m a b) (g:Out m n a b):Out l n a b:=⟨h.1.trans g.1,fun i hi=>(g.2 i hi).trans (h.2 i hi)⟩
theorem Out.mono {l m:List α} {a b a' b':Nat} (h:Out l m a b) (h1:a'≤a) (h2:b≤b'):Out l m a' b':=⟨h.1,fun i hi=>h.2 i (by omega)⟩
theorem kLt_trans {x y z:α} (h:kLt K y x=false) (g:kLt K z y=false):kLt K z x=false:=by
 unfold kLt at*
 cases hzx:slt (K z) (K x) with
 |false=>rfl
 |true=>
  have:=slt_of_le' hzx h
  rw [this] at g
  cases g
theorem kLt_le {x y:α} (h:kLt K x y=true):kLt K y x=false:=slt_asymm h
theorem Srt.mono {l:List α} {a b a' b':Nat} (h:Srt K l a b) (h1:a≤a') (h2:b'≤b):Srt K l a' b':=fun i j x y hi hij hj=>h i j x y (by omega) hij (by omega)
theorem Srt.le {l:List α} {a b i j:Nat} {x y:α} (h:Srt K l a b) (hi:a≤i) (hij:i≤j) (hj:j<b) (hx:l[i]? =some x) (hy:l[j]? =some y):kLt K y x=false:=by
 by_cases e:i=j
 ·subst e
  rw [hx] at hy
  cases hy
  exact slt_irrefl _
 ·exact h i j x y hi (by omega) hj hx hy
theorem Srt.out {l m:List α} {a b c d:Nat} (h:Srt K l a b) (o:Out l m c d) (hd:b≤c∨d≤a):Srt K m a b:=fun i j x y hi hij hj hx hy=>
 h i j x y hi hij hj (by rw [←o.2 i (by omega)];exact hx) (by rw [←o.2 j (by omega)];exact hy)
theorem Srt.one (l:List α) (a:Nat):Srt K l a (a+1):=fun i j x y hi hij hj=>absurd hij (by omega)
theorem Srt.empty (l:List α) {a b:Nat} (h:b≤a+1):Srt K l a b:=fun i j x y hi hij hj=>absurd hij (by omega)
theorem Srt.join {l:List α} {a m b:Nat} (h1:Srt K l a m) (h2:Srt K l m b) (h: ∀i j x y,a≤i→i<m→m≤j→j<b→l[i]? =some x→l[j]? =some y→kLt K y x=false):Srt K l a b:=fun i j x y hi hij hj hx hy=>by
 by_cases e:j<m
 ·exact h1 i j x y hi hij e hx hy
 ·by_cases e2:i<m
  ·exact h i j x y hi e2 (by omega) hj hx hy
  ·exact h2 i j x y (by omega) hij hj hx hy
theorem mem_part {l m:List α} {a b:Nat} (hs:StEq K l m) (ho:Out l m a b) {i:Nat} {x:α} (ha:a≤i) (hb:i<b) (hx:m[i]? =some x): ∃j,a≤j∧j<b∧l[j]? =some x:=by
 have hlb: ∀L:List α,L=L.take a++((L.drop a).take (b-a)++L.drop b):=fun L=>by
  have:L.drop b=(L.drop a).drop (b-a):=by rw [List.drop_drop];congr 1;omega
  rw [this,List.take_append_drop,List.take_append_drop]
 have h1:l.take a=m.take a:=by
  apply List.ext_getElem?
  intro n
  rw [List.getElem?_take,List.getElem?_take]
  split
  ·exact (ho.2 n (by omega)).symm
  ·rfl
 have h2:l.drop b=m.drop b:=by
  apply List.ext_getElem?
  intro n
  rw [List.getElem?_drop,List.getElem?_drop]
  exact (ho.2 (b+n) (by omega)).symm
 have hk:=hs (K x)
 rw [hlb l,hlb m] at hk
 simp only [List.filter_append] at hk
 rw [h1,h2] at hk
 have hk2:=List.append_cancel_left hk
 have hk3:=List.append_cancel_right hk2
 have hm:x∈(m.drop a).take (b-a):=by
  refine List.mem_of_getElem? (i:=i-a) ?_
  rw [List.getElem?_take,if_pos (by omega),List.getElem?_drop,show a+(i-a)=i by omega]
  exact hx
 have hf:x∈((m.drop a).take (b-a)).filter (fun y=>decide (K y=K x)):=List.mem_filter.2 ⟨hm,by simp⟩
 rw [←hk3] at hf
 obtain ⟨j,hj⟩:=List.getElem?_of_mem (List.mem_filter.1 hf).1
 rw [List.getElem?_take] at hj
 split at hj
 ·rename_i hlt
  rw [List.getElem?_drop] at hj
  exact ⟨a+j,by omega,by omega,hj⟩
 ·cases hj
theorem steq_turn (X U V Y:List α) (h: ∀u∈U,∀v∈V,kLt K v u=true):StEq K (X++(U++(V++Y))) (X++(V++(U++Y))):=fun k=>by
 simp only [List.filter_append]
 congr 1
 rw [←List.append_assoc,←List.append_assoc]
 congr 1
 by_cases hu:U.filter (fun y=>decide (K y=k))= []
 ·rw [hu,List.nil_append,List.append_nil]
 ·have hv:V.filter (fun y=>decide (K y=k))= []:=by
   rw [List.filter_eq_nil_iff]
   intro v hv
   obtain ⟨u,hu2⟩:=List.exists_mem_of_ne_nil _ hu
   have hu3:=List.mem_filter.1 hu2
   have e:K u=k:=by simpa using hu3.2
   have:=h u hu3.1 v hv
   unfold kLt at this
   simp only [decide_eq_true_eq]
   intro e2
   rw [e,e2,slt_irrefl] at this
   cases this
  rw [hv,List.append_nil,List.nil_append]
def swp (l:List α) (i j:Nat) (x y:α):List α:=(l.set i y).set j x
theorem swp_length (l:List α) (i j:Nat) (x y:α):(swp l i j x y).length=l.length:=by simp [swp]
theorem swp_get (l:List α) (i j:Nat) (x y:α) (hi:i<l.length) (hj:j<l.length) (n:Nat):(swp l i j x y)[n]? =if n=j then some x else if n=i then some y else l[n]? :=by
 unfold swp
 rw [List.getElem?_set,List.getElem?_set,List.length_set]
 by_cases e:j=n
 ·subst e
  rw [if_pos rfl,if_pos hj,if_pos rfl]
 ·rw [if_neg e,if_neg (show¬n=j from fun h=>e h.symm)]
  by_cases e2:i=n
  ·subst e2
   rw [if_pos rfl,if_pos hi,if_pos rfl]
  ·rw [if_neg e2,if_neg (show¬n=i from fun h=>e2 h.symm)]
theorem swp_out {l:List α} {i j a b:Nat} {x y:α} (hi:i<l.length) (hj:j<l.length) (h1:a≤i∧i<b) (h2:a≤j∧j<b):Out l (swp l i j x y) a b:=⟨(swp_length _ _ _ _ _).symm,fun n hn=>by
 rw [swp_get l i j x y hi hj,if_neg (by omega),if_neg (by omega)]⟩
theorem swp_steq {l:List α} {i:Nat} {x y:α} (hx:l[i]? =some x) (hy:l[i+1]? =some y) (h:kLt K y x=true):StEq K l (swp l i (i+1) x y):=by
 have hi:=(List.getElem?_eq_some_iff.1 hx).1
 have hj:=(List.getElem?_eq_some_iff.1 hy).1
 have e1:l=l.take i++([x]++([y]++l.drop (i+2))):=by
  have d1:l.drop i=x::l.drop (i+1):=by rw [List.drop_eq_getElem_cons hi,(List.getElem?_eq_some_iff.1 hx).2]
  have d2:l.drop (i+1)=y::l.drop (i+2):=by rw [List.drop_eq_getElem_cons hj,(List.getElem?_eq_some_iff.1 hy).2]
  show l=l.take i++(x::y::l.drop (i+2))
  rw [←d2,←d1,List.take_append_drop]
 have e2:swp l i (i+1) x y=l.take i++([y]++([x]++l.drop (i+2))):=by
  apply List.ext_getElem?
  intro n
  rw [swp_get l i (i+1) x y hi hj]
  have hlen:(l.take i).length=i:=by rw [List.length_take];omega
  by_cases a:n<i
  ·rw [if_neg (by omega),if_neg (by omega),List.getElem?_append_left (by omega),List.getElem?_take,if_pos a]
  ·rw [List.getElem?_append_right (by omega),hlen]
   by_cases b:n=i
   ·subst b
    rw [if_neg (by omega),if_pos rfl,Nat.sub_self]
    rfl
   ·by_cases c:n=i+1
    ·subst c
     rw [if_pos rfl,show i+1-i=1 by omega]
     rfl
    ·rw [if_neg c,if_neg b,show n-i=(n-(i+2))+2 by omega]
     show l[n]? =(l.drop (i+2))[n-(i+2)]?
     rw [List.getElem?_drop,show i+2+(n-(i+2))=n by omega]
 have:=steq_turn (K:=K) (l.take i) [x] [y] (l.drop (i+2)) (by simpa using h)
 rw [←e1,←e2] at this
 exact this
def SwR (l m:List α) (a b n:Nat):Prop:=m.length=l.length∧∀i,m[i]? =if a≤i∧i<a+n then l[i-a+b]? else if b≤i∧i<b+n then l[i-b+a]? else l[i]?
theorem SwR.zero (l:List α) (a b:Nat):SwR l l a b 0:=⟨rfl,fun i=>by rw [if_neg (by omega),if_neg (by omega)]⟩
theorem SwR.step {l m:List α} {a b n:Nat} (h:SwR l m a b n) (hab:a+(n+1)≤b) (hb:b+(n+1)≤l.length) {x y:α} (hx:m[a+n]? =some x) (hy:m[b+n]? =some y):SwR l (swp m (a+n) (b+n) x y) a b (n+1):=by
 have hx':l[a+n]? =some x:=by rw [h.2 (a+n),if_neg (by omega),if_neg (by omega)] at hx;exact hx
 have hy':l[b+n]? =some y:=by rw [h.2 (b+n),if_neg (by omega),if_neg (by omega)] at hy;exact hy
 refine ⟨by rw [swp_length];exact h.1,fun i=> ?_⟩
 rw [swp_get m (a+n) (b+n) x y (by rw [h.1];omega) (by rw [h.1];omega),h.2 i]
 by_cases c1:i=b+n
 ·subst c1
  rw [if_pos rfl,if_neg (by omega),if_pos (by omega),show b+n-b+a=a+n by omega,hx']
 ·rw [if_neg c1]
  by_cases c2:i=a+n
  ·subst c2
   rw [if_pos rfl,if_pos (by omega),show a+n-a+b=b+n by omega,hy']
  ·rw [if_neg c2]
   by_cases c3:a≤i∧i<a+n
   ·rw [if_pos c3,if_pos (by omega)]
   ·rw [if_neg c3,if_neg (show¬(a≤i∧i<a+(n+1)) by omega)]
    by_cases c4:b≤i∧i<b+n
    ·rw [if_pos c4,if_pos (by omega)]
    ·rw [if_neg c4,if_neg (show¬(b≤i∧i<b+(n+1)) by omega)]
theorem SwR.blocks {A P M Q B m:List α} (h:SwR (A++(P++(M++(Q++B)))) m A.length (A.length+P.length+M.length) P.length) (hq:Q.length=P.length):m=A++(Q++(M++(P++B))):=by
 apply List.ext_getElem?
 intro i
 rw [h.2 i]
 simp only [List.getElem?_append]
 by_cases c1:i<A.length
 ·simp [show¬(A.length≤i) by omega,show¬(A.length+P.length+M.length≤i) by omega,c1]
 ·by_cases c2:i<A.length+P.length
  ·have e1:i-A.length+(A.length+P.length+M.length)-A.length-P.length-M.length=i-A.length:=by omega
   simp [c1,show A.length≤i∧i<A.length+P.length by omega,show i-A.length<Q.length by omega,show¬(i-A.length+(A.length+P.length+M.length)<A.length) by omega,show¬(i-A.length+(A.length+P.length+M.length)-A.length<P.length) by omega,show¬(i-A.length+(A.length+P.length+M.length)-A.length-P.length<M.length) by omega,e1]
  ·by_cases c3:i<A.length+P.length+M.length
   ·simp [c1,show¬(A.length≤i∧i<A.length+P.length) by omega,show¬(A.length+P.length+M.length≤i∧i<A.length+P.length+M.length+P.length) by omega,show¬(i-A.length<P.length) by omega,show¬(i-A.length<Q.length) by omega,show i-A.length-P.length<M.length by omega,show i-A.length-Q.length<M.length by omega,hq]
   ·by_cases c4:i<A.length+P.length+M.length+P.length
    ·have e1:i-(A.length+P.length+M.length)+A.length-A.length=i-(A.length+P.length+M.length):=by omega
     have e2:i-A.length-P.length-M.length=i-(A.length+P.length+M.length):=by omega
     simp [c1,show¬(A.length≤i∧i<A.length+P.length) by omega,show (A.length+P.length+M.length≤i∧i<A.length+P.length+M.length+P.length) by omega,show¬(i-A.length<Q.length) by omega,show¬(i-A.length-P.length<M.length) by omega,hq,show i-(A.length+P.length+M.length)<P.length by omega,e1,e2,show¬(i-A.length<P.length) by omega,show¬(i-(A.length+P.length+M.length)+A.length<A.length) by omega]
    ·have e2:i-A.length-P.length-M.length-P.length=i-A.length-P.length-M.length-P.length:=rfl
     simp [c1,show¬(A.length≤i∧i<A.length+P.length) by omega,show¬(A.length+P.length+M.length≤i∧i<A.length+P.length+M.length+P.length) by omega,show¬(i-A.length<P.length) by omega,show¬(i-A.length-P.length<M.length) by omega,show¬(i-A.length-P.length-M.length<P.length) by omega,hq]
theorem parts3 (l:List α) (a m b:Nat) (h1:a≤m) (h2:m≤b) (h3:b≤l.length): ∃X U V Y,l=X++(U++(V++Y))∧X.length=a∧U.length=m-a∧V.length=b-m:=by
 refine ⟨l.take a,(l.drop a).take (m-a),(l.drop m).take (b-m),l.drop b,?_,by rw [List.length_take];omega,by rw [List.length_take,List.length_drop];omega,by rw [List.length_take,List.length_drop];omega⟩
 have e1:l.drop b=(l.drop m).drop (b-m):=by rw [List.drop_drop];congr 1;omega
 have e2:l.drop m=(l.drop a).drop (m-a):=by rw [List.drop_drop];congr 1;omega
 rw [e1,List.take_append_drop,e2,List.take_append_drop,List.take_append_drop]
theorem StEq.mem {l m:List α} (h:StEq K l m) {x:α} (hx:x∈m):x∈l:=by
 have hf:x∈m.filter (fun y=>decide (K y=K x)):=List.mem_filter.2 ⟨hx,by simp⟩
 rw [←h (K x)] at hf
 exact (List.mem_filter.1 hf).1
def Rot (l t:List α) (s m e:Nat):Prop:=t.length=l.length∧∀i,t[i]? =if s≤i∧i<s+(e-m) then l[i-s+m]? else if s+(e-m)≤i∧i<e then l[i-(e-m)]? else l[i]?
theorem Rot.self (l:List α) {s m e:Nat} (h:s≤m∧m≤e) (h2:s=m∨e=m):Rot l l s m e:=⟨rfl,fun i=>by
 by_cases c1:s≤i∧i<s+(e-m)
 ·rw [if_pos c1];congr 1;omega
 ·rw [if_neg c1]
  by_cases c2:s+(e-m)≤i∧i<e
  ·rw [if_pos c2];congr 1;omega
  ·rw [if_neg c2]⟩
theorem Rot.of (X U V Y:List α) {s m e:Nat} (h1:X.length=s) (h2:s+U.length=m) (h3:m+V.length=e):Rot (X++(U++(V++Y))) (X++(V++(U++Y))) s m e:=by
 subst h1 h2 h3
 refine ⟨by simp;omega,fun i=> ?_⟩
 rw [show X.length+U.length+V.length-(X.length+U.length)=V.length by omega]
 by_cases c1:i<X.length
 ·rw [if_neg (by omega),if_neg (by omega),List.getElem?_append_left c1,List.getElem?_append_left c1]
 ·rw [List.getElem?_append_right (by omega)]
  by_cases c2:i<X.length+V.length
  ·rw [if_pos (by omega),List.getElem?_append_left (by omega),List.getElem?_append_right (by omega),List.getElem?_append_right (by omega),List.getElem?_append_left (by omega)]
   congr 1
   omega
  ·rw [if_neg (by omega),List.getElem?_append_right (by omega)]
   by_cases c3:i<X.length+U.length+V.length
   ·rw [if_pos (by omega),List.getElem?_append_left (by omega),List.getElem?_append_right (by omega),List.getElem?_append_left (by omega)]
    congr 1
    omega
   ·rw [if_neg (by omega),List.getElem?_append_right (by omega),List.getElem?_append_right (by omega),List.getElem?_append_right (by omega),List.getElem?_append_right (by omega)]
    congr 1
    omega
structure RotGood (K:α→ByteArray) (l t:List α) (a s mid e b:Nat):Prop where
 out:Out l t a b
 s1:Srt K t a s
 s2:Srt K t s mid
 s3:Srt K t mid e
 s4:Srt K t e b
 cross: ∀i j x y,a≤i→i<mid→mid≤j→j<b→t[i]? =some x→t[j]? =some y→kLt K y x=false
theorem kLt_mid {u v x y:α} (h1:kLt K u x=false) (h2:kLt K y v=false) (h:kLt K y x=true):kLt K v u=true:=by
 cases hvu:kLt K v u with
 |true=>rfl
 |false=>
  have a:=kLt_trans (K:=K) h1 hvu
  have b:=kLt_trans (K:=K) a h2
  rw [b] at h
  cases h
theorem Rot.good {l t:List α} {a s m e b mid:Nat} (R:Rot l t s m e) (hl:b≤l.length) (h1:a≤s) (h2:s≤m) (h3:m≤e) (h4:e≤b) (hm:mid=s+(e-m)) (sl:Srt K l a m) (sr:Srt K l m b)
 (hi: ∀i j x y,s≤i→i<m→m≤j→j<e→l[i]? =some x→l[j]? =some y→kLt K y x=true)
 (hii: ∀i j x y,a≤i→i<s→e≤j→j<b→l[i]? =some x→l[j]? =some y→kLt K y x=false):RotGood K l t a s mid e b:=by
 have r1: ∀i x,i<s→t[i]? =some x→l[i]? =some x:=fun i x hx h=>by rw [R.2 i,if_neg (by omega),if_neg (by omega)] at h;exact h
 have r2: ∀i x,s≤i→i<mid→t[i]? =some x→l[i-s+m]? =some x:=fun i x h1 hx h=>by rw [R.2 i,if_pos (by omega)] at h;exact h
 have r3: ∀i x,mid≤i→i<e→t[i]? =some x→l[i-(e-m)]? =some x:=fun i x h1 hx h=>by rw [R.2 i,if_neg (by omega),if_pos (by omega)] at h;exact h
 have r4: ∀i x,e≤i→t[i]? =some x→l[i]? =some x:=fun i x hx h=>by rw [R.2 i,if_neg (by omega),if_neg (by omega)] at h;exact h
 refine ⟨⟨R.1.symm,fun i hi=>by rw [R.2 i,if_neg (by omega),if_neg (by omega)]⟩,?_,?_,?_,?_,?_⟩
 ·exact fun i j x y a1 a2 a3 hx hy=>sl i j x y a1 a2 (by omega) (r1 i x (by omega) hx) (r1 j y a3 hy)
 ·exact fun i j x y a1 a2 a3 hx hy=>sr _ _ x y (by omega) (by omega) (by omega) (r2 i x a1 (by omega) hx) (r2 j y (by omega) a3 hy)
 ·exact fun i j x y a1 a2 a3 hx hy=>sl _ _ x y (by omega) (by omega) (by omega) (r3 i x a1 (by omega) hx) (r3 j y (by omega) a3 hy)
 ·exact fun i j x y a1 a2 a3 hx hy=>sr _ _ x y (by omega) a2 a3 (r4 i x a1 hx) (r4 j y (by omega) hy)
 ·intro i j x y a1 a2 a3 a4 hx hy
  by_cases c1:i<s
  ·have hx:=r1 i x c1 hx
   by_cases c2:j<e
   ·exact sl.le a1 (by omega) (by omega) hx (r3 j y a3 c2 hy)
   ·exact hii i j x y a1 c1 (by omega) a4 hx (r4 j y (by omega) hy)
  ·have hx:=r2 i x (by omega) a2 hx
   by_cases c2:j<e
   ·exact kLt_le (hi _ _ y x (by omega) (by omega) (by omega) (by omega) (r3 j y a3 c2 hy) hx)
   ·exact sr.le (by omega) (by omega) a4 hx (r4 j y (by omega) hy)
theorem sym_done {l t t1 t2:List α} {a s mid e b:Nat} (hs:StEq K l t) (G:RotGood K l t a s mid e b) (hm:a≤mid∧mid≤b)
 (e1:StEq K t t1) (o1:Out t t1 a mid) (s1:Srt K t1 a mid) (e2:StEq K t1 t2) (o2:Out t1 t2 mid b) (s2:Srt K t2 mid b):StEq K l t2∧Out l t2 a b∧Srt K t2 a b:=by
 refine ⟨(hs.trans e1).trans e2,(G.out.trans (o1.mono (Nat.le_refl _) hm.2)).trans (o2.mono hm.1 (Nat.le_refl _)),?_⟩
 refine (s1.out o2 (.inl (Nat.le_refl _))).join s2 fun i j x y a1 a2 a3 a4 hx hy=> ?_
 have hx1:t1[i]? =some x:=by rw [←o2.2 i (.inl a2)];exact hx
 obtain ⟨i',b1,b2,b3⟩:=mem_part e1 o1 a1 a2 hx1
 obtain ⟨j',c1,c2,c3⟩:=mem_part e2 o2 a3 a4 hy
 have c4:t[j']? =some y:=by rw [←o1.2 j' (.inr c1)];exact c3
 exact G.cross i' j' x y b1 b2 c1 c2 b3 c4
theorem sym_found {l:List α} {a m b mid s0 r0 s e:Nat} (h1:a<m) (h2:m<b) (hmid:mid=(a+b)/2) (h0:(mid<m∧s0=mid+m-b∧r0=mid)∨(m≤mid∧s0=a∧r0=m)) (hs:s0≤s) (hr:s≤r0) (he:e=mid+m-s)
 (hb:b≤l.length) (sl:Srt K l a m) (sr:Srt K l m b)
 (f1:s<r0→∃x y,l[s]? =some x∧l[mid+m-1-s]? =some y∧kLt K y x=true) (f2:s0<s→∃x y,l[s-1]? =some x∧l[mid+m-1-(s-1)]? =some y∧kLt K y x=false):
 a≤s∧s≤m∧m≤e∧e≤b∧s≤mid∧mid≤e∧a≤mid∧mid<b∧mid=s+(e-m)∧(∀i j x y,s≤i→i<m→m≤j→j<e→l[i]? =some x→l[j]? =some y→kLt K y x=true)∧
 (∀i j x y,a≤i→i<s→e≤j→j<b→l[i]? =some x→l[j]? =some y→kLt K y x=false):=by
 refine ⟨by omega,by omega,by omega,by omega,by omega,by omega,by omega,by omega,by omega,?_,?_⟩
 ·intro i j x y a1 a2 a3 a4 hx hy
  obtain ⟨x0,y0,hx0,hy0,h⟩:=f1 (by omega)
  exact kLt_mid (sl.le (by omega) a1 a2 hx0 hx) (sr.le a3 (show j≤mid+m-1-s by omega) (by omega) hy hy0) h
 ·intro i j x y a1 a2 a3 a4 hx hy
  obtain ⟨x0,y0,hx0,hy0,h⟩:=f2 (by omega)
  exact kLt_trans (kLt_trans (sl.le a1 (show i≤s-1 by omega) (by omega) hx hx0) h) (sr.le (show m≤mid+m-1-(s-1) by omega) (by omega) a4 hy0 hy)
def InsI (K:α→ByteArray) (l:List α) (a j i:Nat):Prop:=(∀p q x y,a≤p→p<q→q≤i→p≠j→q≠j→l[p]? =some x→l[q]? =some y→kLt K y x=false)∧(∀q x y,j<q→q≤i→l[j]? =some x→l[q]? =some y→kLt K x y=true)
theorem InsI.start {l:List α} {a i:Nat} (h:Srt K l a i):InsI K l a i i:=⟨fun p q x y h1 h2 h3 _ h5 hx hy=>h p q x y h1 h2 (by omega) hx hy,fun q x y h1 h2=>absurd h1 (by omega)⟩
theorem InsI.step {l:List α} {a j i:Nat} {x y:α} (h:InsI K l a j i) (ha:a<j) (hj:j≤i) (hx:l[j-1]? =some x) (hy:l[j]? =some y) (hlt:kLt K y x=true):InsI K (swp l (j-1) j x y) a (j-1) i:=by
 have l1:=(List.getElem?_eq_some_iff.1 hx).1
 have l2:=(List.getElem?_eq_some_iff.1 hy).1
 have g:=swp_get l (j-1) j x y l1 l2
 constructor
 ·intro p q u v h1 h2 h3 h4 h5 hu hv
  rw [g p] at hu
  rw [g q] at hv
  rw [if_neg h4] at hu
  rw [if_neg h5] at hv
  by_cases e:p=j
  ·rw [if_pos e] at hu
   cases hu
   rw [if_neg (by omega)] at hv
   exact h.1 (j-1) q x v (by omega) (by omega) h3 (by omega) (by omega) hx hv
  ·rw [if_neg e] at hu
   by_cases e2:q=j
   ·rw [if_pos e2] at hv
    cases hv
    exact h.1 p (j-1) u x h1 (by omega) (by omega) e (by omega) hu hx
   ·rw [if_neg e2] at hv
    exact h.1 p q u v h1 h2 h3 e e2 hu hv
 ·intro q u v h1 h2 hu hv
  rw [g] at hu hv
  rw [if_neg (by omega),if_pos rfl] at hu
  cases hu
  by_cases e:q=j
  ·rw [if_pos e] at hv
   cases hv
   exact hlt
  ·rw [if_neg e,if_neg (by omega)] at hv
   exact h.2 q y v (by omega) h2 hy hv
theorem InsI.stop {l:List α} {a j i:Nat} (h:InsI K l a j i) (ha:a≤j) (hj:j≤i) (hs:j=a∨∃x y,l[j-1]? =some x∧l[j]? =some y∧kLt K y x=false):Srt K l a (i+1):=fun p q x y h1 h2 h3 hx hy=>by
 by_cases e:p=j
 ·subst e
  exact kLt_le (h.2 q x y h2 (by omega) hx hy)
 ·by_cases e2:q=j
  ·subst e2
   rcases hs with h0|⟨x0,y0,hx0,hy0,h0⟩
   ·omega
   ·rw [hy] at hy0
    cases hy0
    by_cases e3:p=q-1
    ·subst e3
     rw [hx] at hx0
     cases hx0
     exact h0
    ·exact kLt_trans (h.1 p (q-1) x x0 h1 (by omega) (by omega) e (by omega) hx hx0) h0
  ·exact h.1 p q x y h1 h2 (by omega) e e2 hx hy
theorem swp_comm (l:List α) (i j:Nat) (x y:α) (h:i≠j):swp l i j x y=swp l j i y x:=by
 unfold swp
 exact List.set_comm _ _ h
def Up (l m:List α) (a k:Nat):Prop:=m.length=l.length∧∀i,m[i]? =if a≤i∧i<k then l[i+1]? else if i=k then l[a]? else l[i]?
theorem Up.zero (l:List α) (a:Nat):Up l l a a:=⟨rfl,fun i=>by
 rw [if_neg (by omega)]
 by_cases e:i=a
 ·rw [if_pos e,e]
 ·rw [if_neg e]⟩
theorem Up.step {l m:List α} {a k:Nat} {x y:α} (h:Up l m a k) (ha:a≤k) (hk:k+1<l.length) (hx:l[a]? =some x) (hy:l[k+1]? =some y):m[k]? =some x∧m[k+1]? =some y∧Up l (swp m k (k+1) x y) a (k+1):=by
 refine ⟨by rw [h.2 k,if_neg (by omega),if_pos rfl,hx],by rw [h.2 (k+1),if_neg (by omega),if_neg (by omega),hy],by rw [swp_length];exact h.1,fun i=> ?_⟩
 rw [swp_get m k (k+1) x y (by rw [h.1];omega) (by rw [h.1];omega),h.2 i]
 by_cases e:i=k+1
 ·rw [if_pos e,if_neg (by omega),if_pos e,hx]
 ·rw [if_neg e]
  by_cases e2:i=k
  ·subst e2
   rw [if_pos rfl,if_pos (by omega),hy]
  ·rw [if_neg e2,if_neg e2,if_neg e]
   by_cases c:a≤i∧i<k
   ·rw [if_pos c,if_pos (by omega)]
   ·rw [if_neg c,if_neg (by omega)]
theorem Up.out {l m:List α} {a k b:Nat} (h:Up l m a k) (h1:a≤k) (h2:k<b):Out l m a b:=⟨h.1.symm,fun i hi=>by rw [h.2 i,if_neg (by omega),if_neg (by omega)]⟩
theorem Up.sorted {l m:List α} {a i b:Nat} {x:α} (h:Up l m a (i-1)) (hai:a<i) (hib:i≤b) (hx:l[a]? =some x) (sr:Srt K l (a+1) b) (f1: ∀t y,a+1≤t→t<i→l[t]? =some y→kLt K y x=true) (f2: ∀t y,i≤t→t<b→l[t]? =some y→kLt K y x=false):Srt K m a b:=by
 intro p q u v h1 h2 h3 hu hv
 rw [h.2] at hu hv
 by_cases c1:p<i-1
 ·rw [if_pos ⟨h1,c1⟩] at hu
  by_cases c2:q<i-1
  ·rw [if_pos ⟨by omega,c2⟩] at hv
   exact sr _ _ u v (by omega) (by omega) (by omega) hu hv
  ·rw [if_neg (by omega)] at hv
   by_cases c3:q=i-1
   ·rw [if_pos c3,hx] at hv
    cases hv
    exact kLt_le (f1 _ _ (by omega) (by omega) hu)
   ·rw [if_neg c3] at hv
    exact sr _ _ u v (by omega) (by omega) h3 hu hv
 ·rw [if_neg (by omega)] at hu
  by_cases c3:p=i-1
  ·rw [if_pos c3,hx] at hu
   cases hu
   rw [if_neg (by omega),if_neg (by omega)] at hv
   exact f2 q v (by omega) h3 hv
  ·rw [if_neg c3] at hu
   rw [if_neg (by omega),if_neg (by omega)] at hv
   exact sr p q u v (by omega) h2 h3 hu hv
def Dn (l n:List α) (k m:Nat):Prop:=n.length=l.length∧∀i,n[i]? =if k<i∧i≤m then l[i-1]? else if i=k then l[m]? else l[i]?
theorem Dn.zero (l:List α) (m:Nat):Dn l l m m:=⟨rfl,fun i=>by
 rw [if_neg (by omega)]
 by_cases e:i=m
 ·rw [if_pos e,e]
 ·rw [if_neg e]⟩
theorem Dn.step {l n:List α} {k m:Nat} {x y:α} (h:Dn l n (k+1) m) (hk:k+1≤m) (hm:m<l.length) (hy:l[m]? =some y) (hx:l[k]? =some x):n[k]? =some x∧n[k+1]? =some y∧Dn l (swp n k (k+1) x y) k m:=by
 refine ⟨by rw [h.2 k,if_neg (by omega),if_neg (by omega),hx],by rw [h.2 (k+1),if_neg (by omega),if_pos rfl,hy],by rw [swp_length];exact h.1,fun i=> ?_⟩
 rw [swp_get n k (k+1) x y (by rw [h.1];omega) (by rw [h.1];omega),h.2 i]
 by_cases e:i=k+1
 ·rw [if_pos e,if_pos (by omega),e]
  exact hx.symm
 ·rw [if_neg e]
  by_cases e2:i=k
  ·rw [if_pos e2,if_neg (by omega),if_pos e2,hy]
  ·rw [if_neg e2,if_neg e2,if_neg e]
   by_cases c:k<i∧i≤m
   ·rw [if_pos c,if_pos (by omega)]
   ·rw [if_neg c,if_neg (by omega)]
theorem Dn.out {l n:List α} {k m a b:Nat} (h:Dn l n k m) (h1:a≤k) (h2:k≤m) (h3:m<b):Out l n a b:=⟨h.1.symm,fun i hi=>by rw [h.2 i,if_neg (by omega),if_neg (by omega)]⟩
theorem Dn.sorted {l n:List α} {a i m:Nat} {x:α} (h:Dn l n i m) (hai:a≤i) (him:i≤m) (hx:l[m]? =some x) (sl:Srt K l a m) (f1: ∀t y,a≤t→t<i→l[t]? =some y→kLt K x y=false) (f2: ∀t y,i≤t→t<m→l[t]? =some y→kLt K x y=true):Srt K n a (m+1):=by
 intro p q u v h1 h2 h3 hu hv
 rw [h.2] at hu hv
 by_cases c1:p<i
 ·rw [if_neg (by omega),if_neg (by omega)] at hu
  by_cases c2:q<i
  ·rw [if_neg (by omega),if_neg (by omega)] at hv
   exact sl p q u v h1 h2 (by omega) hu hv
  ·by_cases c3:q=i
   ·rw [if_neg (by omega),if_pos c3,hx] at hv
    cases hv
    exact f1 p u h1 c1 hu
   ·rw [if_pos (by omega)] at hv
    exact sl p _ u v h1 (by omega) (by omega) hu hv
 ·by_cases c3:p=i
  ·rw [if_neg (by omega),if_pos c3,hx] at hu
   cases hu
   rw [if_pos (by omega)] at hv
   exact kLt_le (f2 _ v (by omega) (by omega) hv)
  ·rw [if_pos (by omega)] at hu
   rw [if_pos (by omega)] at hv
   exact sl _ _ u v (by omega) (by omega) (by omega) hu hv
end
end Go.Ux
namespace Go.Ux
open Go Go.RowKit Go.ChangeShapes Go.WideShapes Go.Deep
section
variable {H:Type} {enc:TypeId×Value→H} {P:Program} {W:World} {b0 base:Nat} {r:Reach} {spare:Nat→Bool} {held:Bool} {v:Value} {d:DataW H} {p:List MemPlace}
def TView (w:World) (v:Value) (ss:List ByteArray):Prop:= ∃a c,v= .slice a ss.length c∧ss.length≤maxLen∧∀(i:Nat) (s:ByteArray),ss[i]? =some s→s.size≤maxLen∧∃b f,a=some ⟨b,f,none⟩∧b<w.heap.size∧w.cell? ⟨b,f+i,none⟩=some (.string s)
theorem TView.touch {w w':World} {v:Value} {ss:List ByteArray} (h:TView w v ss) (t:Touch (fun _=>False) w w'):TView w' v ss:=by
 obtain ⟨a,c,e,h1,h2⟩:=h
 refine ⟨a,c,e,h1,fun i s hs=> ?_⟩
 obtain ⟨h3,b,f,e1,h4,h5⟩:=h2 i s hs
 exact ⟨h3,b,f,e1,block_lt_of_cell (t.cell h5 fun f=>f),t.cell h5 fun f=>f⟩
theorem open_texts {t e:TypeId} (ht:P.underlying t=some (.slice e)) (he:P.underlying e=some .string) (hc:P.cellsOf e=1) (hv:Value.okWide P W r b0 t v) (h:DataW.Trod enc P W base spare held t v d p): ∃ss,TView W v ss:=by
 obtain ⟨a,len,c,rfl,hl,hi⟩:=open_row ht hv h
 obtain ⟨B,hB⟩:=choose_lt (α:=ByteArray) (n:=len) (p:=fun i k=>k.size≤maxLen∧∃b f,a=some ⟨b,f,none⟩∧b<W.heap.size∧W.cell? ⟨b,f+i,none⟩=some (.string k)) (fun i h=>by
  obtain ⟨ad,cs,n,y,rfl,h1,h2⟩:=hi i h
  rw [hc] at h1
  obtain ⟨hl1,hcell⟩:=cells_at h1
  obtain ⟨k,rfl,_,hw⟩:=DataW.trod_string he h2
  have h0:=hcell 0 (by omega)
  rw [Go.Deep.add_add] at h0
  obtain ⟨b,f,rfl⟩: ∃b f,ad=⟨b,f,none⟩:=by
   obtain ⟨ad',cs',n',y',e',h1',_⟩:=hi 0 (by omega)
   cases e'
   rw [hc] at h1'
   exact plain_row h1'
  rw [add_plain] at h0
  simp only [Nat.mul_one,Nat.add_zero,List.getElem?_cons_zero] at h0
  exact ⟨k,hw,b,f,rfl,block_lt_of_cell h0,h0⟩)
 refine ⟨(List.range len).map B,a,c,by simp,by simpa using hl,fun i k hk=> ?_⟩
 rw [List.getElem?_map] at hk
 have hil:i<len:=by
  have:=(List.getElem?_eq_some_iff.1 (show ((List.range len).map B)[i]? =some k by rw [List.getElem?_map];exact hk)).1
  simpa using this
 rw [List.getElem?_range hil] at hk
 cases hk
 exact hB i hil
end
end Go.Ux
