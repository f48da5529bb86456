/- A part of the proof that the statement holds for every input that it names. No other condition. -/
import Derived.IntWalk
import Derived.Test.YtikmdhhbamggfaaGreatDoorUxNumAZ
import Derived.Lib.ValidLaws
set_option linter.unusedVariables false
set_option linter.unusedSimpArgs false
namespace Go.Ux.Like
open Go
def hit (eqv:Int→Int→Bool) (c x:Int):Bool:=decide (c= -2)||eqv c x
def tails (f:List Int→Bool):List Int→Bool
 | []=>f []
 |x::s=>f (x::s)||tails f s
def mat (eqv:Int→Int→Bool):List Int→List Int→Bool
 | [],s=>s.isEmpty
 |c::p,s=>if c= -1 then tails (mat eqv p) s else match s with
  | []=>false
  |x::s'=>hit eqv c x&&mat eqv p s'
theorem mat_cons (eqv:Int→Int→Bool) (c:Int) (p s:List Int):mat eqv (c::p) s=if c= -1 then tails (mat eqv p) s else match s with
 | []=>false
 |x::s'=>hit eqv c x&&mat eqv p s':=by cases s<;>rfl
theorem tails_iff {f:List Int→Bool}: ∀{s:List Int},tails f s=true↔∃j,j≤s.length∧f (s.drop j)=true
 | []=>⟨fun h=>⟨0,Nat.le_refl _,h⟩,fun ⟨j,_,h⟩=>by rw [List.drop_nil] at h;exact h⟩
 |x::s=>by
  unfold tails
  rw [Bool.or_eq_true,tails_iff (s:=s)]
  constructor
  ·rintro (h|⟨j,hj,h⟩)
   ·exact ⟨0,Nat.zero_le _,h⟩
   ·exact ⟨j+1,Nat.succ_le_succ hj,h⟩
  ·rintro ⟨j,hj,h⟩
   cases j with
   |zero=>exact .inl h
   |succ j=>exact .inr ⟨j,Nat.le_of_succ_le_succ hj,h⟩
variable {eqv:Int→Int→Bool}
theorem mat_star {p s:List Int}:mat eqv (-1::p) s=true↔∃j,j≤s.length∧mat eqv p (s.drop j)=true:=by
 rw [mat_cons,if_pos rfl,tails_iff]
theorem mat_sign {c:Int} (hc:c≠-1) {p s:List Int}:mat eqv (c::p) s=true↔∃x s',s=x::s'∧hit eqv c x=true∧mat eqv p s'=true:=by
 rw [mat_cons,if_neg hc]
 cases s with
 |nil=>simp
 |cons x s=>
  show (hit eqv c x&&mat eqv p s)=true↔_
  rw [Bool.and_eq_true]
  constructor
  ·exact fun h=>⟨x,s,rfl,h⟩
  ·rintro ⟨y,s',e,h⟩
   cases e
   exact h
def seg (eqv:Int→Int→Bool):List Int→List Int→Bool
 | [],_=>true
 |c::p,s=>decide (c≠-1)&&match s with
  | []=>false
  |x::s'=>hit eqv c x&&seg eqv p s'
theorem seg_snoc {c:Int}: ∀{p s:List Int} {x:Int},seg eqv p s=true→s[p.length]? =some x→c≠-1→hit eqv c x=true→seg eqv (p++ [c]) s=true
 | [],s,x,_,hx,hc,hh=>by
   cases s with
   |nil=>simp at hx
   |cons y s=>
    simp at hx
    subst hx
    simp [seg,hc,hh]
 |d::p,s,x,h,hx,hc,hh=>by
  cases s with
  |nil=>simp [seg] at h
  |cons y s=>
   simp only [seg,Bool.and_eq_true] at h
   simp only [List.cons_append,seg,Bool.and_eq_true]
   exact ⟨h.1,h.2.1,seg_snoc h.2.2 (by simpa using hx) hc hh⟩
theorem mat_seg {q:List Int}: ∀{p s:List Int},(∀c∈p,c≠-1)→(mat eqv (p++q) s=true↔seg eqv p s=true∧mat eqv q (s.drop p.length)=true)
 | [],s,_=>by simp [seg]
 |c::p,s,h=>by
  have hc:c≠-1:=h c List.mem_cons_self
  rw [List.cons_append,mat_sign hc]
  cases s with
  |nil=>simp [seg]
  |cons y s=>
   simp only [seg,Bool.and_eq_true,decide_eq_true_eq,List.length_cons,List.drop_succ_cons]
   have ih:=mat_seg (q:=q) (p:=p) (s:=s) fun c hc=>h c (List.mem_cons_of_mem _ hc)
   constructor
   ·rintro ⟨x,s',e,h1,h2⟩
    cases e
    exact ⟨⟨hc,h1,(ih.1 h2).1⟩,(ih.1 h2).2⟩
   ·rintro ⟨⟨_,h1,h2⟩,h3⟩
    exact ⟨y,s,rfl,h1,ih.2 ⟨h2,h3⟩⟩
theorem seg_length: ∀{p s:List Int},seg eqv p s=true→p.length≤s.length
 | [],_,_=>Nat.zero_le _
 |c::p,s,h=>by
  cases s with
  |nil=>simp [seg] at h
  |cons y s=>
   simp only [seg,Bool.and_eq_true] at h
   have:=seg_length h.2.2
   simp only [List.length_cons]
   omega
theorem seg_plain: ∀{p s:List Int},seg eqv p s=true→∀c∈p,c≠-1
 |c::p,s,h,d,hd=>by
  cases s with
  |nil=>simp [seg] at h
  |cons y s=>
   simp only [seg,Bool.and_eq_true,decide_eq_true_eq] at h
   rcases List.mem_cons.1 hd with rfl|hd
   ·exact h.1
   ·exact seg_plain h.2.2 d hd
theorem mat_star_later {p s:List Int} {m:Nat} (hm:m≤s.length) (h:mat eqv (-1::p) (s.drop m)=true):mat eqv (-1::p) s=true:=by
 rw [mat_star] at h⊢
 obtain ⟨j,hj,h⟩:=h
 rw [List.drop_drop] at h
 rw [List.length_drop] at hj
 exact ⟨m+j,by omega,h⟩
theorem star_seg {p q s:List Int} (hp: ∀c∈p,c≠-1) (hs:seg eqv p s=true):mat eqv (-1::(p++ -1::q)) s=mat eqv (-1::q) (s.drop p.length):=by
 rw [Bool.eq_iff_iff,mat_star]
 constructor
 ·rintro ⟨j,hj,h⟩
  obtain ⟨h1,h2⟩:=(mat_seg hp).1 h
  have h3:=seg_length h1
  have h4:=seg_length hs
  rw [List.length_drop] at h3
  rw [List.drop_drop] at h2
  have:(s.drop (j+p.length))=(s.drop p.length).drop j:=by rw [List.drop_drop,Nat.add_comm]
  rw [this] at h2
  exact mat_star_later (by rw [List.length_drop];omega) h2
 ·intro h
  exact ⟨0,Nat.zero_le _,(mat_seg hp).2 ⟨hs,h⟩⟩
theorem star_fail {p s:List Int} {x:Int} (h:mat eqv p (x::s)=false):mat eqv (-1::p) (x::s)=mat eqv (-1::p) s:=by
 rw [mat_cons,if_pos rfl]
 conv=>rhs;rw [mat_cons,if_pos rfl]
 show (mat eqv p (x::s)||tails (mat eqv p) s)=_
 rw [h,Bool.false_or]
def need (p:List Int):Nat:=(p.filter fun c=>decide (c≠-1)).length
theorem need_le: ∀{p s:List Int},mat eqv p s=true→need p≤s.length
 | [],_,_=>Nat.zero_le _
 |c::p,s,h=>by
  by_cases hc:c= -1
  ·subst hc
   obtain ⟨j,hj,h⟩:=mat_star.1 h
   have:=need_le h
   rw [List.length_drop] at this
   show (List.filter _ _).length≤_
   rw [List.filter_cons_of_neg (by simp)]
   have e:(p.filter fun c=>decide (c≠-1)).length=need p:=rfl
   rw [e]
   omega
  ·obtain ⟨x,s',rfl,_,h⟩:=(mat_sign hc).1 h
   have:=need_le h
   show (List.filter _ _).length≤_
   rw [List.filter_cons_of_pos (by simpa using hc)]
   have e:(p.filter fun c=>decide (c≠-1)).length=need p:=rfl
   simp only [List.length_cons]
   rw [e]
   omega
theorem mat_nil: ∀{p:List Int},mat eqv p []=p.all fun c=>decide (c= -1)
 | []=>rfl
 |c::p=>by
  by_cases hc:c= -1
  ·rw [mat_cons,if_pos hc]
   show mat eqv p []=_
   rw [mat_nil]
   simp [hc]
  ·rw [mat_cons,if_neg hc]
   simp [hc]
def At (eqv:Int→Int→Bool) (P L:List Int) (b:Int) (f i k:Nat):Prop:=
 i≤L.length∧k≤P.length∧f≤i∧
 (b<0∧f=0∧mat eqv P L=mat eqv (P.drop k) (L.drop i)∨
  ∃n:Nat,b=n∧P[n]? =some (-1)∧n+1+(i-f)=k∧mat eqv P L=mat eqv (P.drop n) (L.drop f)∧seg eqv ((P.drop (n+1)).take (i-f)) (L.drop f)=true)
theorem At.start (P L:List Int):At eqv P L (-1) 0 0 0:=⟨Nat.zero_le _,Nat.zero_le _,Nat.le_refl _,.inl ⟨by omega,rfl,rfl⟩⟩
theorem drop_cons {l:List Int} {k:Nat} {x:Int} (h:l[k]? =some x):l.drop k=x::l.drop (k+1):=by
 obtain ⟨hk,e⟩:=List.getElem?_eq_some_iff.1 h
 rw [List.drop_eq_getElem_cons hk,e]
theorem At.split {P L:List Int} {n f i k:Nat} (hk:n+1+(i-f)=k):P.drop (n+1)=(P.drop (n+1)).take (i-f)++P.drop k:=by
 conv=>lhs;rw [←List.take_append_drop (i-f) (P.drop (n+1))]
 rw [List.drop_drop,hk]
theorem At.star {P L:List Int} {b:Int} {f i k:Nat} (h:At eqv P L b f i k) (hk:P[k]? =some (-1)):At eqv P L k i i (k+1):=by
 obtain ⟨h1,h2,h3,h4⟩:=h
 have hk':=(List.getElem?_eq_some_iff.1 hk).1
 refine ⟨h1,hk',Nat.le_refl _,.inr ⟨k,rfl,hk,by omega,?_,by simp [seg]⟩⟩
 rcases h4 with ⟨_,_,h4⟩|⟨n,_,hn,e,h4,h5⟩
 ·exact h4
 ·rw [h4,drop_cons hn,At.split (P:=P) (L:=L) e,drop_cons hk,star_seg (seg_plain h5) h5,List.drop_drop,List.length_take,List.length_drop]
  congr 2
  omega
theorem At.sign {P L:List Int} {b:Int} {f i k:Nat} (h:At eqv P L b f i k) {c x:Int} (hk:P[k]? =some c) (hi:L[i]? =some x) (hc:c≠-1) (hh:hit eqv c x=true):At eqv P L b f (i+1) (k+1):=by
 obtain ⟨h1,h2,h3,h4⟩:=h
 have hk':=(List.getElem?_eq_some_iff.1 hk).1
 have hi':=(List.getElem?_eq_some_iff.1 hi).1
 refine ⟨hi',hk',by omega,?_⟩
 rcases h4 with ⟨hb,hf,h4⟩|⟨n,hb,hn,e,h4,h5⟩
 ·refine .inl ⟨hb,hf,?_⟩
  rw [h4,drop_cons hk,drop_cons hi,Bool.eq_iff_iff,mat_sign hc]
  constructor
  ·rintro ⟨y,s,e,_,h⟩
   cases e
   exact h
  ·exact fun h=>⟨_,_,rfl,hh,h⟩
 ·refine .inr ⟨n,hb,hn,by omega,h4,?_⟩
  have e1:i+1-f=(i-f)+1:=by omega
  have e2:(P.drop (n+1))[i-f]? =some c:=by rw [List.getElem?_drop,e];exact hk
  rw [e1,List.take_add_one,e2]
  refine seg_snoc h5 ?_ hc hh
  rw [List.length_take,List.length_drop,List.getElem?_drop,←hi]
  congr 1
  omega
theorem At.no {P L:List Int} {b:Int} {f i k:Nat} (h:At eqv P L b f i k) {x:Int} (hi:L[i]? =some x) (hk: ∀c,P[k]? =some c→c≠-1∧hit eqv c x=false) (hb:b<0):mat eqv P L=false:=by
 obtain ⟨h1,h2,h3,h4⟩:=h
 rcases h4 with ⟨_,_,h4⟩|⟨n,hb',_⟩
 ·rw [h4,drop_cons hi]
  cases hp:P[k]? with
  |none=>
   rw [List.drop_eq_nil_of_le (List.getElem?_eq_none_iff.1 hp)]
   rfl
  |some c=>
   obtain ⟨hc,hh⟩:=hk c hp
   rw [drop_cons hp,mat_cons,if_neg hc]
   show (hit eqv c x&&_)=false
   rw [hh]
   rfl
 ·omega
theorem At.again {P L:List Int} {b:Int} {f i k:Nat} (h:At eqv P L b f i k) {x:Int} (hi:L[i]? =some x) (hk: ∀c,P[k]? =some c→c≠-1∧hit eqv c x=false) (hb: ¬b<0):At eqv P L b (f+1) (f+1) ((b+1).toNat):=by
 obtain ⟨h1,h2,h3,h4⟩:=h
 have hi':=(List.getElem?_eq_some_iff.1 hi).1
 rcases h4 with ⟨hb',_⟩|⟨n,rfl,hn,e,h4,h5⟩
 ·exact absurd hb' hb
 ·have hn':=(List.getElem?_eq_some_iff.1 hn).1
  have e0:((n:Int)+1).toNat=n+1:=by omega
  rw [e0]
  refine ⟨by omega,hn',Nat.le_refl _,.inr ⟨n,rfl,hn,by omega,?_,by simp [seg]⟩⟩
  obtain ⟨y,hy⟩: ∃y,L[f]? =some y:=⟨L[f],List.getElem?_eq_getElem (by omega)⟩
  rw [h4,drop_cons hn,drop_cons hy,star_fail]
  rw [←drop_cons hy,Bool.eq_false_iff]
  intro hm
  rw [At.split (P:=P) (L:=L) e,mat_seg (seg_plain h5)] at hm
  have hm:=hm.2
  rw [List.drop_drop,List.length_take,List.length_drop] at hm
  have e2:f+min (i-f) (P.length-(n+1))=i:=by omega
  rw [e2,drop_cons hi] at hm
  cases hp:P[k]? with
  |none=>
   rw [List.drop_eq_nil_of_le (List.getElem?_eq_none_iff.1 hp)] at hm
   cases hm
  |some c=>
   obtain ⟨hc,hh⟩:=hk c hp
   rw [drop_cons hp,mat_cons,if_neg hc] at hm
   simp [hh] at hm
theorem At.done {P L:List Int} {b:Int} {f k:Nat} (h:At eqv P L b f L.length k):mat eqv P L=(P.drop k).all fun c=>decide (c= -1):=by
 obtain ⟨h1,h2,h3,h4⟩:=h
 rcases h4 with ⟨_,_,h4⟩|⟨n,rfl,hn,e,h4,h5⟩
 ·rw [h4,List.drop_length,mat_nil]
 ·rw [h4,drop_cons hn,At.split (P:=P) (L:=L) e,Bool.eq_iff_iff,mat_star]
  constructor
  ·rintro ⟨j,hj,hm⟩
   have hneed:=need_le hm
   rw [List.drop_drop,List.length_drop] at hneed
   rw [List.length_drop] at hj
   have e3:need ((P.drop (n+1)).take (L.length-f)++P.drop k)=(L.length-f)+need (P.drop k):=by
    unfold need
    rw [List.filter_append,List.length_append,List.filter_eq_self.2 (fun c hc=>by simpa using seg_plain h5 c hc),List.length_take,List.length_drop]
    omega
   rw [e3] at hneed
   have h0:need (P.drop k)=0:=by omega
   rw [List.all_eq_true]
   intro c hc
   unfold need at h0
   have:=List.length_eq_zero_iff.1 h0
   rw [List.filter_eq_nil_iff] at this
   simpa using this c hc
  ·intro h
   refine ⟨0,Nat.zero_le _,(mat_seg (seg_plain h5)).2 ⟨by simpa using h5,?_⟩⟩
   have e2:((L.drop f).drop 0).drop ((P.drop (n+1)).take (L.length-f)).length= []:=List.drop_eq_nil_of_le (by rw [List.length_take,List.length_drop,List.length_drop,List.length_drop];omega)
   rw [e2,mat_nil]
   exact h
end Go.Ux.Like
namespace Go.Ux.Like
open Go
def elt (c:Nat):Int:=if c=37 then-1 else if c=95 then-2 else (c:Int)
def pat (e:Option Nat):List Nat→Option (List Int)
 | []=>some []
 |c::l=>if e=some c then (match l with
   | []=>none
   |d::l'=>(pat e l').map (((d:Nat):Int):: ·))
  else (pat e l).map (elt c:: ·)
theorem pat_cons (e:Option Nat) (c:Nat) (l:List Nat):pat e (c::l)=if e=some c then (match l with
 | []=>none
 |d::l'=>(pat e l').map (((d:Nat):Int):: ·))
 else (pat e l).map (elt c:: ·):=by cases l<;>rfl
theorem pat_none: ∀l:List Nat,pat none l=some (l.map elt)
 | []=>rfl
 |c::l=>by rw [pat_cons,if_neg (by simp),pat_none l];rfl
def same (a b:Int):Bool:=a==b
end Go.Ux.Like
namespace Go.Ux.Like
open Go
variable {eqv:Int→Int→Bool}
def Closed (P:List Int) (on:Nat→Bool):Prop:= ∀k,P[k]? =some (-1)→on k=true→on (k+1)=true
def Goes (eqv:Int→Int→Bool) (P:List Int) (on:Nat→Bool) (s:List Int):Prop:= ∃k,k≤P.length∧on k=true∧mat eqv (P.drop k) s=true
def stepN (eqv:Int→Int→Bool) (P:List Int) (on:Nat→Bool) (x:Int) (k:Nat):Bool:=
 (on k&&decide (P[k]? =some (-1)))||match k with
   |0=>false
   |j+1=>on j&&match P[j]? with
    |some c=>decide (c≠-1)&&hit eqv c x
    |none=>false
def closeN (P:List Int) (on:Nat→Bool):Nat→Bool
 |0=>on 0
 |k+1=>on (k+1)||(closeN P on k&&decide (P[k]? =some (-1)))
theorem closeN_closed (P:List Int) (on:Nat→Bool):Closed P (closeN P on):=fun k hk h=>by
 show (on (k+1)||(closeN P on k&&decide (P[k]? =some (-1))))=true
 rw [h,hk]
 simp
theorem closeN_of {P:List Int} {on:Nat→Bool} {k:Nat} (h:on k=true):closeN P on k=true:=by
 cases k with
 |zero=>exact h
 |succ k=>show (on (k+1)||_)=true;rw [h];rfl
theorem close_goes {P:List Int} {on:Nat→Bool} {s:List Int}:Goes eqv P (closeN P on) s↔Goes eqv P on s:=by
 constructor
 ·rintro ⟨k,hk,h,hm⟩
  induction k generalizing s with
  |zero=>exact ⟨0,hk,h,hm⟩
  |succ k ih=>
   have h':(on (k+1)||(closeN P on k&&decide (P[k]? =some (-1))))=true:=h
   rw [Bool.or_eq_true] at h'
   rcases h' with h'|h'
   ·exact ⟨k+1,hk,h',hm⟩
   ·rw [Bool.and_eq_true,decide_eq_true_eq] at h'
    refine ih (by omega) h'.1 ?_
    rw [drop_cons h'.2]
    exact mat_star.2 ⟨0,Nat.zero_le _,hm⟩
 ·rintro ⟨k,hk,h,hm⟩
  exact ⟨k,hk,closeN_of h,hm⟩
theorem step_goes {P:List Int} {on:Nat→Bool} (hc:Closed P on) {x:Int} {s:List Int}:Goes eqv P (stepN eqv P on x) s↔Goes eqv P on (x::s):=by
 constructor
 ·rintro ⟨k,hk,h,hm⟩
  unfold stepN at h
  rw [Bool.or_eq_true] at h
  rcases h with h|h
  ·rw [Bool.and_eq_true,decide_eq_true_eq] at h
   refine ⟨k,hk,h.1,?_⟩
   rw [drop_cons h.2] at hm⊢
   obtain ⟨j,hj,hm⟩:=mat_star.1 hm
   exact mat_star.2 ⟨j+1,by simpa using hj,hm⟩
  ·cases k with
   |zero=>cases h
   |succ j=>
    dsimp only at h
    rw [Bool.and_eq_true] at h
    cases hp:P[j]? with
    |none=>rw [hp] at h;exact absurd h.2 (by simp)
    |some c=>
     rw [hp] at h
     have h2:=h.2
     rw [Bool.and_eq_true,decide_eq_true_eq] at h2
     refine ⟨j,by omega,h.1,?_⟩
     rw [drop_cons hp]
     exact (mat_sign h2.1).2 ⟨x,s,rfl,h2.2,hm⟩
 ·rintro ⟨k,hk,h,hm⟩
  obtain ⟨d,hd⟩: ∃d,P.length-k=d:=⟨_,rfl⟩
  induction d generalizing k with
  |zero=>
   have:P.drop k= []:=List.drop_eq_nil_of_le (by omega)
   rw [this] at hm
   cases hm
  |succ d ih=>
   obtain ⟨c,hp⟩: ∃c,P[k]? =some c:=⟨_,List.getElem?_eq_getElem (by omega)⟩
   rw [drop_cons hp] at hm
   by_cases hc1:c= -1
   ·subst hc1
    obtain ⟨j,hj,hm⟩:=mat_star.1 hm
    cases j with
    |zero=>exact ih (k+1) (by have:=(List.getElem?_eq_some_iff.1 hp).1;omega) (hc k hp h) hm (by omega)
    |succ j=>
     refine ⟨k,hk,?_,?_⟩
     ·unfold stepN;rw [h,hp];simp
     ·rw [drop_cons hp]
      exact mat_star.2 ⟨j,by simpa using hj,hm⟩
   ·obtain ⟨y,s',e,h1,h2⟩:=(mat_sign hc1).1 hm
    cases e
    refine ⟨k+1,(List.getElem?_eq_some_iff.1 hp).1,?_,h2⟩
    unfold stepN
    dsimp only
    rw [h,hp]
    simp [hc1,h1]
theorem end_goes {P:List Int} {on:Nat→Bool} (hc:Closed P on):Goes eqv P on []↔on P.length=true:=by
 constructor
 ·rintro ⟨k,hk,h,hm⟩
  obtain ⟨d,hd⟩: ∃d,P.length-k=d:=⟨_,rfl⟩
  induction d generalizing k with
  |zero=>
   have:k=P.length:=by omega
   rw [←this]
   exact h
  |succ d ih=>
   obtain ⟨c,hp⟩: ∃c,P[k]? =some c:=⟨_,List.getElem?_eq_getElem (by omega)⟩
   rw [drop_cons hp,mat_nil] at hm
   rw [List.all_cons,Bool.and_eq_true,decide_eq_true_eq] at hm
   rw [hm.1] at hp
   refine ih (k+1) (by have:=(List.getElem?_eq_some_iff.1 hp).1;omega) (hc k hp h) ?_ (by omega)
   rw [mat_nil]
   exact hm.2
 ·intro h
  refine ⟨P.length,Nat.le_refl _,h,?_⟩
  rw [List.drop_length]
  rfl
theorem start_goes {P s:List Int}:Goes eqv P (fun k=>decide (k=0)) s↔mat eqv P s=true:=by
 constructor
 ·rintro ⟨k,_,h,hm⟩
  have h:=of_decide_eq_true h
  subst h
  exact hm
 ·intro h
  exact ⟨0,Nat.zero_le _,rfl,h⟩
def bl (n:Nat) (f:Nat→Bool):List Value:=(List.range (n+1)).map fun k=> .bool (f k)
theorem bl_len (n:Nat) (f:Nat→Bool):(bl n f).length=n+1:=by simp [bl]
theorem bl_get {n:Nat} {f:Nat→Bool} {k:Nat} (h:k≤n):(bl n f)[k]? =some (.bool (f k)):=by
 unfold bl
 rw [List.getElem?_map,List.getElem?_range (by omega)]
 rfl
theorem bl_congr {n:Nat} {f g:Nat→Bool} (h: ∀k,k≤n→f k=g k):bl n f=bl n g:=by
 unfold bl
 exact List.map_congr_left fun k hk=>by rw [h k (by have:=List.mem_range.1 hk;omega)]
theorem bl_set {n:Nat} {f:Nat→Bool} {k:Nat} (b:Bool) (h:k≤n):(bl n f).set k (.bool b)=bl n fun j=>if j=k then b else f j:=by
 apply List.ext_getElem?
 intro j
 by_cases hj:j≤n
 ·rw [bl_get hj]
  by_cases e:k=j
  ·subst e
   rw [List.getElem?_set_self (by rw [bl_len];omega),if_pos rfl]
  ·rw [List.getElem?_set_ne e,bl_get hj,if_neg (fun h=>e h.symm)]
 ·rw [List.getElem?_eq_none (by rw [List.length_set,bl_len];omega),List.getElem?_eq_none (by rw [bl_len];omega)]
theorem bl_start (n:Nat):bl n (fun _=>false)=List.replicate (n+1) (.bool false):=by
 unfold bl
 rw [List.map_const',List.length_range]
def closeUp (P:List Int) (f:Nat→Bool) (k j:Nat):Bool:=if j≤k then closeN P f j else f j
theorem closeUp_0 (P:List Int) (f:Nat→Bool) (j:Nat):closeUp P f 0 j=f j:=by
 unfold closeUp
 split
 ·have:j=0:=by omega
  subst this
  rfl
 ·rfl
theorem closeUp_at (P:List Int) (f:Nat→Bool) (k:Nat):closeUp P f k k=closeN P f k:=by unfold closeUp;rw [if_pos (Nat.le_refl _)]
theorem closeUp_yes {P:List Int} {f:Nat→Bool} {k:Nat} (h:closeN P f k=true) (hp:P[k]? =some (-1)) (j:Nat):(if j=k+1 then true else closeUp P f k j)=closeUp P f (k+1) j:=by
 unfold closeUp
 by_cases e:j=k+1
 ·subst e
  rw [if_pos rfl,if_pos (Nat.le_refl _)]
  show true=(f (k+1)||(closeN P f k&&decide (P[k]? =some (-1))))
  rw [h,hp]
  simp
 ·rw [if_neg e]
  by_cases hj:j≤k
  ·rw [if_pos hj,if_pos (by omega)]
  ·rw [if_neg hj,if_neg (by omega)]
theorem closeUp_no {P:List Int} {f:Nat→Bool} {k:Nat} (h: ¬(closeN P f k=true∧P[k]? =some (-1))) (j:Nat):closeUp P f k j=closeUp P f (k+1) j:=by
 unfold closeUp
 by_cases e:j=k+1
 ·subst e
  rw [if_neg (by omega),if_pos (Nat.le_refl _)]
  show f (k+1)=(f (k+1)||(closeN P f k&&decide (P[k]? =some (-1))))
  cases hc:closeN P f k with
  |false=>simp
  |true=>
   have: ¬P[k]? =some (-1):=fun h2=>h ⟨hc,h2⟩
   simp [this]
 ·by_cases hj:j≤k
  ·rw [if_pos hj,if_pos (by omega)]
  ·rw [if_neg hj,if_neg (by omega)]
def stepUp (eqv:Int→Int→Bool) (P:List Int) (f:Nat→Bool) (x:Int) (k j:Nat):Bool:=
 (decide (j<k)&&(f j&&decide (P[j]? =some (-1))))||match j with
   |0=>false
   |i+1=>decide (i<k)&&(f i&&match P[i]? with
    |some c=>decide (c≠-1)&&hit eqv c x
    |none=>false)
theorem stepUp_0 (P:List Int) (f:Nat→Bool) (x:Int) (j:Nat):stepUp eqv P f x 0 j=false:=by
 unfold stepUp
 cases j<;>simp
theorem stepUp_end {P:List Int} {f:Nat→Bool} {x:Int} {j:Nat} (hj:j≤P.length):stepUp eqv P f x P.length j=stepN eqv P f x j:=by
 unfold stepUp stepN
 congr 1
 ·by_cases h:j<P.length
  ·simp [h]
  ·have:j=P.length:=by omega
   subst this
   simp
 ·cases j with
  |zero=>rfl
  |succ i=>simp [show i<P.length by omega]
theorem stepUp_off {P:List Int} {f:Nat→Bool} {x:Int} {k:Nat} (h:f k=false) (j:Nat):stepUp eqv P f x k j=stepUp eqv P f x (k+1) j:=by
 unfold stepUp
 congr 1
 ·by_cases e:j=k
  ·subst e;simp [h]
  ·rw [show decide (j<k+1)=decide (j<k) by rw [decide_eq_decide];omega]
 ·cases j with
  |zero=>rfl
  |succ i=>
   dsimp only
   by_cases e:i=k
   ·subst e;simp [h]
   ·rw [show decide (i<k+1)=decide (i<k) by rw [decide_eq_decide];omega]
theorem stepUp_star {P:List Int} {f:Nat→Bool} {x:Int} {k:Nat} (h:f k=true) (hp:P[k]? =some (-1)) (j:Nat):(if j=k then true else stepUp eqv P f x k j)=stepUp eqv P f x (k+1) j:=by
 by_cases e:j=k
 ·subst e
  rw [if_pos rfl]
  unfold stepUp
  rw [h,hp]
  simp
 ·rw [if_neg e]
  unfold stepUp
  congr 1
  ·rw [show decide (j<k+1)=decide (j<k) by rw [decide_eq_decide];omega]
  ·cases j with
   |zero=>rfl
   |succ i=>
    dsimp only
    by_cases e:i=k
    ·subst e;simp [hp]
    ·rw [show decide (i<k+1)=decide (i<k) by rw [decide_eq_decide];omega]
theorem stepUp_hit {P:List Int} {f:Nat→Bool} {x c:Int} {k:Nat} (h:f k=true) (hp:P[k]? =some c) (hc:c≠-1) (hh:hit eqv c x=true) (j:Nat):(if j=k+1 then true else stepUp eqv P f x k j)=stepUp eqv P f x (k+1) j:=by
 by_cases e:j=k+1
 ·subst e
  rw [if_pos rfl]
  unfold stepUp
  dsimp only
  rw [h,hp]
  simp [hc,hh]
 ·rw [if_neg e]
  unfold stepUp
  congr 1
  ·by_cases e2:j=k
   ·subst e2;simp [hp,hc]
   ·rw [show decide (j<k+1)=decide (j<k) by rw [decide_eq_decide];omega]
  ·cases j with
   |zero=>rfl
   |succ i=>
    dsimp only
    rw [show decide (i<k+1)=decide (i<k) by rw [decide_eq_decide];omega]
theorem stepUp_miss {P:List Int} {f:Nat→Bool} {x c:Int} {k:Nat} (hp:P[k]? =some c) (hc:c≠-1) (hh:hit eqv c x=false) (j:Nat):stepUp eqv P f x k j=stepUp eqv P f x (k+1) j:=by
 unfold stepUp
 congr 1
 ·by_cases e2:j=k
  ·subst e2;simp [hp,hc]
  ·rw [show decide (j<k+1)=decide (j<k) by rw [decide_eq_decide];omega]
 ·cases j with
  |zero=>rfl
  |succ i=>
   dsimp only
   by_cases e:i=k
   ·subst e;simp [hp,hh]
   ·rw [show decide (i<k+1)=decide (i<k) by rw [decide_eq_decide];omega]
def kindI (x:Int):Int:=if x= -1 then 2 else if x= -2 then 1 else 0
def valI (x:Int):Int:=if x<0 then 0 else x
def sgV (P:List Int):List Value:=P.flatMap fun x=> [.int .i64 (kindI x),.int .i64 (valI x)]
theorem sgV_get: ∀{P:List Int} {i:Nat} {x:Int},P[i]? =some x→(sgV P)[i*2]? =some (.int .i64 (kindI x))∧(sgV P)[i*2+1]? =some (.int .i64 (valI x))
 | [],i,x,h=>by simp at h
 |y::P,0,x,h=>by
  simp at h
  subst h
  exact ⟨rfl,rfl⟩
 |y::P,i+1,x,h=>by
  have ih:=sgV_get (P:=P) (i:=i) (x:=x) (by simpa using h)
  show (Value.int .i64 (kindI y)::Value.int .i64 (valI y)::sgV P)[(i+1)*2]? =_∧(Value.int .i64 (kindI y)::Value.int .i64 (valI y)::sgV P)[(i+1)*2+1]? =_
  rw [show (i+1)*2=i*2+2 by omega]
  simpa using ih
theorem sgV_snoc (P:List Int) (x:Int):sgV (P++ [x])=sgV P++ [.int .i64 (kindI x),.int .i64 (valI x)]:=by simp [sgV]
end Go.Ux.Like
namespace Go.Ux.Sign
open Go
theorem valid_signs (l:List UInt8):Lib.validD l=(signs l).all fun c=>decide (c<1114112):=by
 obtain ⟨n,hn⟩: ∃n,l.length=n:=⟨_,rfl⟩
 induction n using Nat.strongRecOn generalizing l with
 |_ n ih=>
  by_cases h:l= []
  ·subst h
   unfold signs
   rfl
  ·rw [Lib.validD_step l h,signs_cons h,List.all_cons]
   have hsz:(⟨l.toArray⟩:ByteArray).data.toList=l:=rfl
   have e:=decode_sg ⟨l.toArray⟩
   have h1:1≤(sg l).2:=sgN_one _ _ _ _
   have h2:=sg_le h
   have hr:(Lib.decodeL l).1≤1114111:=Lib.decodeL_rune l
   unfold Lib.decodeL at hr⊢
   rw [hsz] at e
   by_cases hd:(Utf8.decode ⟨l.toArray⟩ 0).1=65533∧(Utf8.decode ⟨l.toArray⟩ 0).2=1
   ·rw [if_pos hd] at e⊢
    rw [←e]
    symm
    rw [Bool.and_eq_false_iff]
    exact .inl (decide_eq_false (by simp only;omega))
   ·rw [if_neg hd] at e⊢
    rw [e] at hr⊢
    rw [decide_eq_true (by omega),Bool.true_and]
    exact ih (l.drop (sg l).2).length (by rw [List.length_drop];omega) _ rfl
end Go.Ux.Sign
