/- A part of the proof that the statement holds for every input that it names. No other condition. -/
import Derived.Test.YtclffhpdekepkaaGreatDoorTsAZ
import Derived.Test.YtclffhpdekepkaaGreatDoorPlcAZ
set_option linter.unusedVariables false
set_option linter.unusedSimpArgs false
namespace Go.Ux
open Go Go.Ux.Rules
def relL (k:Nat):List Nat:=if k=1 then [60] else if k=2 then [60,60] else if k=3 then [60,60,60] else [61]
def rowS (r:Nat→Nat):Nat→Nat→List Nat
 |_,0=> []
 |i,n+1=>32::(relL (r i)++32::(49+i)::rowS r (i+1) n)
end Go.Ux
namespace Go.Proofs.YtclffhpdekepkaaGreatDoor
open Go.RowKit
open Ux (Ent sv findE putE okE okT SortedE elemsE rootT eLetter eMk stepA raise incW mapE newK lastN lastW fullT wF keepW wt8 eP eS eT eV cmpL)
open Ux.Rules (Rul)
def ok1 (b x:Nat):Prop:=x<4294967296∧eP x≤456+b∧eS x≤48+b∧eT x≤10+b∧okW x=true
theorem ok1_mono {b x:Nat} (h:ok1 b x):ok1 (b+1) x:=⟨h.1,by have:=h.2.1;omega,by have:=h.2.2.1;omega,by have:=h.2.2.2.1;omega,h.2.2.2.2⟩
theorem okW_iff (x:Nat):okW x=true↔(eP x=0∨0<eS x)∧(eS x=0∨0<eT x)∧(eV x=false∨0<eP x):=by
 unfold okW
 simp only [Bool.and_eq_true,Bool.or_eq_true,decide_eq_true_eq,Bool.not_eq_true']
 constructor
 ·rintro ⟨⟨a,b⟩,c⟩;exact ⟨a,b,c⟩
 ·rintro ⟨a,b,c⟩;exact ⟨⟨a,b⟩,c⟩
theorem wt8_1 (x:Nat):wt8 1 x=eP x:=rfl
theorem wt8_2 (x:Nat):wt8 2 x=eS x:=rfl
theorem wt8_3' (x:Nat):wt8 3 x=eT x:=rfl
theorem raise_is {L w x b:Nat} (hL:L=1∨L=2∨L=3) (hx:ok1 b x) (hb:b≤20):
 (∀q,q=1∨q=2∨q=3→wt8 q (raise L w x)=if q=L∧w<wt8 L x then wt8 q x+1 else wt8 q x)∧ok1 (b+1) (raise L w x):=by
 obtain ⟨h1,h2,h3,h4,h5⟩:=hx
 have h5':=(okW_iff x).1 h5
 unfold raise
 by_cases hw:w<wt8 L x
 ·have hc:w<wt8 L x∧(1<L∨wt8 L x≤64255):=⟨hw,by
   rcases hL with rfl|rfl|rfl
   ·exact .inr (by rw [wt8_1];omega)
   ·exact .inl (by decide)
   ·exact .inl (by decide)⟩
  rw [if_pos hc]
  have hlt:=Ux.incW_lt L x h1
  rcases hL with rfl|rfl|rfl
  ·obtain ⟨i1,i2,i3,i4⟩:=Ux.inc_1 x (by omega)
   rw [wt8_1] at hw
   refine ⟨fun q hq=> ?_,hlt,by omega,by omega,by omega,(okW_iff _).2 ?_⟩
   ·rcases hq with rfl|rfl|rfl
    ·rw [if_pos ⟨rfl,hw⟩];exact i1
    ·rw [if_neg (fun h=>absurd h.1 (by decide))];exact i2
    ·rw [if_neg (fun h=>absurd h.1 (by decide))];exact i3
   ·rw [i1,i2,i3,i4]
    exact ⟨.inr (by rcases h5'.1 with h|h<;>omega),h5'.2.1,.inr (by omega)⟩
  ·obtain ⟨i1,i2,i3,i4⟩:=Ux.inc_2 x (by omega)
   rw [wt8_2] at hw
   refine ⟨fun q hq=> ?_,hlt,by omega,by omega,by omega,(okW_iff _).2 ?_⟩
   ·rcases hq with rfl|rfl|rfl
    ·rw [if_neg (fun h=>absurd h.1 (by decide))];exact i1
    ·rw [if_pos ⟨rfl,hw⟩];exact i2
    ·rw [if_neg (fun h=>absurd h.1 (by decide))];exact i3
   ·rw [i1,i2,i3,i4]
    exact ⟨.inr (by omega),.inr (by rcases h5'.2.1 with h|h<;>omega),h5'.2.2⟩
  ·obtain ⟨i1,i2,i3,i4⟩:=Ux.inc_3 x (by omega)
   rw [wt8_3'] at hw
   refine ⟨fun q hq=> ?_,hlt,by omega,by omega,by omega,(okW_iff _).2 ?_⟩
   ·rcases hq with rfl|rfl|rfl
    ·rw [if_neg (fun h=>absurd h.1 (by decide))];exact i1
    ·rw [if_neg (fun h=>absurd h.1 (by decide))];exact i2
    ·rw [if_pos ⟨rfl,hw⟩];exact i3
   ·rw [i1,i2,i3,i4]
    exact ⟨h5'.1,.inr (by omega),h5'.2.2⟩
 ·rw [if_neg (fun h=>hw h.1)]
  exact ⟨fun q _=>by rw [if_neg (fun h=>hw h.2)],ok1_mono ⟨h1,h2,h3,h4,h5⟩⟩
theorem newK_is {L a b:Nat} (hL:L=1∨L=2∨L=3) (ha:ok1 b a) (hb:b≤20) (hp: ∀q,q=1∨q=2∨q=3→0<wt8 q a):
 (∀q,q=1∨q=2∨q=3→(q<L→wt8 q (newK L a)=wt8 q a)∧(q=L→wt8 q (newK L a)=wt8 q a+1)∧0<wt8 q (newK L a))∧ok1 (b+1) (newK L a):=by
 obtain ⟨h1,h2,h3,h4,h5⟩:=ha
 have h5':=(okW_iff a).1 h5
 have p1:=hp 1 (.inl rfl)
 have p2:=hp 2 (.inr (.inl rfl))
 have p3:=hp 3 (.inr (.inr rfl))
 rw [wt8_1] at p1
 rw [wt8_2] at p2
 rw [wt8_3'] at p3
 have hlt:=Ux.newK_lt L a h1 (fun _=>by omega)
 rcases hL with rfl|rfl|rfl
 ·obtain ⟨i1,i2,i3,i4⟩:=Ux.new_1 a
  refine ⟨fun q hq=> ?_,hlt,by omega,by omega,by omega,(okW_iff _).2 ?_⟩
  ·rcases hq with rfl|rfl|rfl
   ·exact ⟨fun h=>absurd h (by decide),fun _=>i1,by rw [wt8_1,i1];omega⟩
   ·exact ⟨fun h=>absurd h (by decide),fun h=>absurd h (by decide),by rw [wt8_2,i2];omega⟩
   ·exact ⟨fun h=>absurd h (by decide),fun h=>absurd h (by decide),by rw [wt8_3',i3];omega⟩
  ·rw [i1,i2,i3,i4]
   exact ⟨.inr (by omega),.inr (by omega),.inl rfl⟩
 ·obtain ⟨i1,i2,i3,i4⟩:=Ux.new_2 a (by omega)
  refine ⟨fun q hq=> ?_,hlt,by omega,by omega,by omega,(okW_iff _).2 ?_⟩
  ·rcases hq with rfl|rfl|rfl
   ·exact ⟨fun _=>i1,fun h=>absurd h (by decide),by rw [wt8_1,i1];omega⟩
   ·exact ⟨fun h=>absurd h (by decide),fun _=>i2,by rw [wt8_2,i2];omega⟩
   ·exact ⟨fun h=>absurd h (by decide),fun h=>absurd h (by decide),by rw [wt8_3',i3];omega⟩
  ·rw [i1,i2,i3,i4]
   exact ⟨.inr (by omega),.inr (by omega),.inr (by omega)⟩
 ·have e:=Ux.new_3 a
  obtain ⟨i1,i2,i3,i4⟩:=Ux.inc_3 a (by omega)
  rw [e] at hlt⊢
  refine ⟨fun q hq=> ?_,hlt,by omega,by omega,by omega,(okW_iff _).2 ?_⟩
  ·rcases hq with rfl|rfl|rfl
   ·exact ⟨fun _=>i1,fun h=>absurd h (by decide),by rw [wt8_1,i1];omega⟩
   ·exact ⟨fun _=>i2,fun h=>absurd h (by decide),by rw [wt8_2,i2];omega⟩
   ·exact ⟨fun h=>absurd h (by decide),fun _=>i3,by rw [wt8_3',i3];omega⟩
  ·rw [i1,i2,i3,i4]
   exact ⟨.inr (by omega),.inr (by omega),h5'.2.2⟩
def q3 (q:Nat):Prop:=q=1∨q=2∨q=3
structure RowsT (i:Nat) (r:Nat→Nat) (T:List Ent) (d:Nat→Nat) (en el:Nat):Prop where
 sorted:SortedE T
 ok:okT T
 one: ∀e∈T,e.1.length=1
 len:T.length≤132+i
 vals: ∀e∈T,∀x∈e.2,ok1 i x
 fm:findE T [109]=some [d 0]
 fd: ∀j,j<i→findE T [49+j]=some [d (j+1)]
 fn:findE T [110]=some [en]
 fl:findE T [108]=some [el]
 pos: ∀j,j≤i→∀q,q3 q→0<wt8 q (d j)
 rel: ∀j,j<i→∀q,q3 q→(q<r j→wt8 q (d j)=wt8 q (d (j+1)))∧(q=r j→wt8 q (d j)<wt8 q (d (j+1)))
 lo: ∀j,j≤i→wt8 1 el<wt8 1 (d j)
 hi:wt8 1 (d i)<wt8 1 en
 pen:0<wt8 1 el
theorem rows_vals:((rootT 132).all fun e=>e.2.all fun x=>decide (x<4294967296)&&decide (eP x≤456)&&decide (eS x≤48)&&decide (eT x≤10)&&okW x)=true:=by decide+kernel
theorem RowsT.zero (r:Nat→Nat):RowsT 0 r (rootT 132) (fun _=>eLetter 12 2) (eLetter 13 2) (eLetter 11 2) where
 sorted:=Ux.rootT_sorted 132
 ok:=rootT_okT
 one:=Ux.rootT_one
 len:=by have:=Ux.rootT_len 132;omega
 vals:=fun e he x hx=>by
  have h:=List.all_eq_true.1 (List.all_eq_true.1 rows_vals e he) x hx
  simp only [Bool.and_eq_true,decide_eq_true_eq] at h
  obtain ⟨⟨⟨⟨h1,h2⟩,h3⟩,h4⟩,h5⟩:=h
  exact ⟨h1,h2,h3,h4,h5⟩
 fm:=Ux.findT_letter (i:=12) (by decide)
 fd:=fun j h=>absurd h (by omega)
 fn:=Ux.findT_letter (i:=13) (by decide)
 fl:=Ux.findT_letter (i:=11) (by decide)
 pos:=fun j _ q hq=>by
  have h:0<wt8 1 (eLetter 12 2)∧0<wt8 2 (eLetter 12 2)∧0<wt8 3 (eLetter 12 2):=by decide+kernel
  rcases hq with rfl|rfl|rfl
  ·exact h.1
  ·exact h.2.1
  ·exact h.2.2
 rel:=fun j h=>absurd h (by omega)
 lo:=fun j _=>by decide+kernel
 hi:=by decide+kernel
 pen:=by decide+kernel
theorem RowsT.dok {i:Nat} {r:Nat→Nat} {T:List Ent} {d:Nat→Nat} {en el:Nat} (h:RowsT i r T d en el) (j:Nat) (hj:j≤i):ok1 i (d j):=by
 cases j with
 |zero=>exact h.vals _ (Ux.findE_some h.fm) _ (by simp)
 |succ j=>exact h.vals _ (Ux.findE_some (h.fd j (by omega))) _ (by simp)
theorem keyOk_dig: ∀i,i<8→keyOk (sv [49+i])=true:=by decide+kernel
theorem code_dig {T:List Ent} {i:Nat} (hi:i<8) (x:Nat) (hl:T.length<500):codeE T (sv [49+i]) [x]=0:=by
 unfold codeE
 rw [keyOk_dig i hi,if_neg (by simp),if_neg (fun h=>by have:=h.2;omega)]
theorem RowsT.next {i:Nat} {r:Nat→Nat} {T:List Ent} {d:Nat→Nat} {en el:Nat} (h:RowsT i r T d en el) (hi:i<8) (hL:r i=1∨r i=2∨r i=3):
 ∃T' d' en' el',ruleT T [d i] ⟨1+r i,[49+i],[]⟩=(0,T',[d' (i+1)])∧RowsT (i+1) r T' d' en' el':=by
 obtain ⟨L,hLL⟩: ∃L,r i=L:=⟨_,rfl⟩
 rw [hLL] at hL⊢
 obtain ⟨a,ha⟩: ∃a,d i=a:=⟨_,rfl⟩
 obtain ⟨w,hw⟩: ∃w,wt8 L a=w:=⟨_,rfl⟩
 have hda:=h.dok i (Nat.le_refl _)
 have hpa:=h.pos i (Nat.le_refl _)
 rw [ha] at hda hpa
 have h0:wt8 L a≠0:=by have:=hpa L hL;omega
 have hR:=fun x (hx:ok1 i x)=>raise_is (w:=w) hL hx (show i≤20 by omega)
 have hN:=newK_is hL hda (show i≤20 by omega) hpa
 obtain ⟨k,hk⟩: ∃k,newK L a=k:=⟨_,rfl⟩
 rw [hk] at hN
 have hfull:fullT L T=false:=by
  unfold fullT
  rw [List.any_eq_false]
  intro e he
  rw [Bool.not_eq_true,List.any_eq_false]
  intro x hx
  have hv:=h.vals e he x hx
  rw [Bool.not_eq_true]
  refine beq_false_of_ne fun e=> ?_
  obtain ⟨_,v1,v2,v3,_⟩:=hv
  rcases hL with rfl|rfl|rfl
  ·rw [wt8_1] at e;have e:eP x=64255:=e;omega
  ·rw [wt8_2] at e;have e:eS x=255:=e;omega
  ·rw [wt8_3'] at e;have e:eT x=127:=e;omega
 have hstep:stepA T [a] L=(0,mapE (raise L w) T,[k]):=by
  unfold stepA
  have h1:lastN L [a] [a].length=some 0:=by
   show (if wt8 L ([a].getD 0 0)=0 then _ else _)=_
   rw [if_neg (by exact h0)]
  rw [h1]
  dsimp only
  have e: [a].getD 0 0=a:=rfl
  rw [e,if_neg (fun hh=>by have:=hh.2;have:=hda.2.1;omega),hfull,if_neg (by simp),hw,hk]
  rfl
 have hms:SortedE (mapE (raise L w) T):=Ux.mapE_sorted _ h.sorted
 have hmo:okT (mapE (raise L w) T):=Ux.mapE_ok (fun x hx=>Ux.raise_lt _ _ x hx) h.ok
 have hne:okE ([49+i],[k]):=okE_one (by omega) (by simp) (fun x hx=>by rw [List.mem_singleton.1 hx];exact hN.2.1)
 have hfind: ∀t,findE (putE (mapE (raise L w) T) [49+i] [k]) t=if t= [49+i] then some [k] else (findE T t).map (List.map (raise L w)):=fun t=>by
  rw [Ux.findE_put hms hmo hne t,findE_map]
 have hkeep: ∀t x,t≠[49+i]→findE T t=some [x]→findE (putE (mapE (raise L w) T) [49+i] [k]) t=some [raise L w x]:=fun t x ht hx=>by
  rw [hfind,if_neg ht,hx]
  rfl
 have hmem: ∀e∈putE (mapE (raise L w) T) [49+i] [k],e=([49+i],[k])∨∃e0∈T,e=(e0.1,e0.2.map (raise L w)):=fun e he=>by
  rcases (Ux.putE_mem hms e).1 he with h1|⟨h1,_⟩
  ·exact .inl h1
  ·obtain ⟨e0,he0,rfl⟩:=List.mem_map.1 h1
   exact .inr ⟨e0,he0,rfl⟩
 have hen:=h.vals _ (Ux.findE_some h.fn) en (by simp)
 have hel:=h.vals _ (Ux.findE_some h.fl) el (by simp)
 refine ⟨putE (mapE (raise L w) T) [49+i] [k],fun j=>if j≤i then raise L w (d j) else k,raise L w en,raise L w el,?_,?_⟩
 ·rw [ha,rule_step _ _ _ _ _ L hL hstep (code_dig hi k (by rw [Ux.mapE_len];have:=h.len;omega))]
  dsimp only
  rw [if_neg (by omega)]
 ·have hQ: ∀q,q3 q→∀x y,ok1 i x→ok1 i y→(wt8 q x=wt8 q y→wt8 q (raise L w x)=wt8 q (raise L w y))∧(wt8 q x<wt8 q y→wt8 q (raise L w x)<wt8 q (raise L w y)):=fun q hq x y hx hy=>by
   rw [(hR x hx).1 q hq,(hR y hy).1 q hq]
   by_cases hqL:q=L
   ·subst hqL
    constructor
    ·intro e;rw [e]
    ·intro e
     split<;>split<;>omega
   ·rw [if_neg (fun hh=>hqL hh.1),if_neg (fun hh=>hqL hh.1)]
    exact ⟨fun e=>e,fun e=>e⟩
  have hra: ∀q,q3 q→wt8 q (raise L w a)=wt8 q a:=fun q hq=>by
   rw [(hR a hda).1 q hq,if_neg (fun hh=>by rw [hw] at hh;exact absurd hh.2 (Nat.lt_irrefl _))]
  refine ⟨Ux.putE_sorted hms,Ux.putE_ok hms hmo hne,fun e he=> ?_,?_,fun e he x hx=> ?_,?_,fun j hj=> ?_,?_,?_,fun j hj q hq=> ?_,fun j hj q hq=> ?_,fun j hj=> ?_,?_,?_⟩
  ·rcases hmem e he with rfl|⟨e0,he0,rfl⟩
   ·rfl
   ·exact h.one e0 he0
  ·have h1:=Ux.putE_len (mapE (raise L w) T) [49+i] [k]
   rw [Ux.mapE_len] at h1
   have:=h.len
   omega
  ·rcases hmem e he with rfl|⟨e0,he0,rfl⟩
   ·rw [List.mem_singleton.1 hx];exact hN.2
   ·obtain ⟨y,hy,rfl⟩:=List.mem_map.1 hx
    exact (hR y (h.vals e0 he0 y hy)).2
  ·rw [if_pos (Nat.zero_le _)]
   exact hkeep _ _ (by simp;omega) h.fm
  ·by_cases hji:j=i
   ·subst hji
    rw [hfind,if_pos rfl,if_neg (by omega)]
   ·rw [if_pos (by omega)]
    exact hkeep _ _ (by simp;omega) (h.fd j (by omega))
  ·exact hkeep _ _ (by simp;omega) h.fn
  ·exact hkeep _ _ (by simp;omega) h.fl
  ·by_cases hji:j≤i
   ·rw [if_pos hji,(hR _ (h.dok j hji)).1 q hq]
    have:=h.pos j hji q hq
    split<;>omega
   ·rw [if_neg hji]
    exact (hN.1 q hq).2.2
  ·by_cases hji:j<i
   ·rw [if_pos (by omega),if_pos (by omega)]
    have h1:=h.rel j hji q hq
    have h2:=hQ q hq (d j) (d (j+1)) (h.dok j (by omega)) (h.dok (j+1) (by omega))
    exact ⟨fun hh=>h2.1 (h1.1 hh),fun hh=>h2.2 (h1.2 hh)⟩
   ·obtain rfl:j=i:=by omega
    rw [if_pos (Nat.le_refl _),if_neg (by omega),ha,hra q hq,hLL]
    have h1:=hN.1 q hq
    exact ⟨fun hh=>(h1.1 hh).symm,fun hh=>by rw [h1.2.1 hh];omega⟩
  ·have hl:=h.lo i (Nat.le_refl _)
   rw [ha] at hl
   have hel1:wt8 1 (raise L w el)=wt8 1 el:=by
    rw [(hR el hel).1 1 (.inl rfl),if_neg]
    rintro ⟨e,hh⟩
    rw [←e] at hh hw
    omega
   by_cases hji:j≤i
   ·rw [if_pos hji,hel1,(hR _ (h.dok j hji)).1 1 (.inl rfl)]
    have:=h.lo j hji
    split<;>omega
   ·rw [if_neg hji,hel1]
    have h1:=hN.1 1 (.inl rfl)
    rcases hL with rfl|rfl|rfl
    ·rw [h1.2.1 rfl];omega
    ·rw [h1.1 (by decide)];exact hl
    ·rw [h1.1 (by decide)];exact hl
  ·rw [if_neg (by omega)]
   have hh:=h.hi
   rw [ha] at hh
   have h1:=hN.1 1 (.inl rfl)
   rw [(hR en hen).1 1 (.inl rfl)]
   rcases hL with rfl|rfl|rfl
   ·rw [h1.2.1 rfl,if_pos ⟨rfl,by rw [←hw];exact hh⟩];omega
   ·rw [h1.1 (by decide),if_neg (fun hh=>absurd hh.1 (by decide))];exact hh
   ·rw [h1.1 (by decide),if_neg (fun hh=>absurd hh.1 (by decide))];exact hh
  ·rw [(hR el hel).1 1 (.inl rfl)]
   have:=h.pen
   split<;>omega
theorem RowsT.same {i:Nat} {r:Nat→Nat} {T:List Ent} {d:Nat→Nat} {en el:Nat} (h:RowsT i r T d en el) (hi:i<8) (hr:r i=4):
 ∃T' d' en' el',ruleT T [d i] ⟨1+r i,[49+i],[]⟩=(0,T',[d' (i+1)])∧RowsT (i+1) r T' d' en' el':=by
 have hda:=h.dok i (Nat.le_refl _)
 have hne:okE ([49+i],[d i]):=okE_one (by omega) (by simp) (fun x hx=>by rw [List.mem_singleton.1 hx];exact hda.1)
 have hfind: ∀t,findE (putE T [49+i] [d i]) t=if t= [49+i] then some [d i] else findE T t:=fun t=>Ux.findE_put h.sorted h.ok hne t
 have hkeep: ∀t x,t≠[49+i]→findE T t=some x→findE (putE T [49+i] [d i]) t=some x:=fun t x ht hx=>by rw [hfind,if_neg ht,hx]
 have hmem: ∀e∈putE T [49+i] [d i],e=([49+i],[d i])∨e∈T:=fun e he=>by
  rcases (Ux.putE_mem h.sorted e).1 he with h1|⟨h1,_⟩
  ·exact .inl h1
  ·exact .inr h1
 refine ⟨putE T [49+i] [d i],fun j=>if j≤i then d j else d i,en,el,?_,?_⟩
 ·rw [hr,rule_same _ _ _ (code_dig hi (d i) (by have:=h.len;omega))]
  dsimp only
  rw [if_neg (by omega)]
 ·refine ⟨Ux.putE_sorted h.sorted,Ux.putE_ok h.sorted h.ok hne,fun e he=> ?_,?_,fun e he x hx=> ?_,?_,fun j hj=> ?_,?_,?_,fun j hj q hq=> ?_,fun j hj q hq=> ?_,fun j hj=> ?_,?_,h.pen⟩
  ·rcases hmem e he with rfl|he0
   ·rfl
   ·exact h.one e he0
  ·have h1:=Ux.putE_len T [49+i] [d i]
   have:=h.len
   omega
  ·rcases hmem e he with rfl|he0
   ·rw [List.mem_singleton.1 hx];exact ok1_mono hda
   ·exact ok1_mono (h.vals e he0 x hx)
  ·rw [if_pos (Nat.zero_le _)]
   exact hkeep _ _ (by simp;omega) h.fm
  ·by_cases hji:j=i
   ·subst hji
    rw [hfind,if_pos rfl,if_neg (by omega)]
   ·rw [if_pos (by omega)]
    exact hkeep _ _ (by simp;omega) (h.fd j (by omega))
  ·exact hkeep _ _ (by simp;omega) h.fn
  ·exact hkeep _ _ (by simp;omega) h.fl
  ·split
   ·rename_i hji;exact h.pos j hji q hq
   ·exact h.pos i (Nat.le_refl _) q hq
  ·by_cases hji:j<i
   ·rw [if_pos (by omega),if_pos (by omega)]
    exact h.rel j hji q hq
   ·obtain rfl:j=i:=by omega
    rw [if_pos (Nat.le_refl _),if_neg (by omega),hr]
    exact ⟨fun _=>rfl,fun e=>by unfold q3 at hq;omega⟩
  ·split
   ·rename_i hji;exact h.lo j hji
   ·exact h.lo i (Nat.le_refl _)
  ·rw [if_neg (by omega)]
   exact h.hi
end Go.Proofs.YtclffhpdekepkaaGreatDoor
