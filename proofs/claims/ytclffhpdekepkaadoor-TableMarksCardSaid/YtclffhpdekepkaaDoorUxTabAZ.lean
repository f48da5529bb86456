/- A part of the proof that the statement holds for every input that it names. No other condition. -/
import Derived.Test.YtclffhpdekepkaaDoorUxMapAZ
import Derived.Test.YtclffhpdekepkaaDoorUxNumAZ
set_option linter.unusedVariables false
set_option linter.unusedSimpArgs false
namespace Go.Ux
open Go Go.Maps Go.RowKit Ux.Trie
def first (e:Ent):Nat:=e.1.headD 0
def LongInv (E:List Ent) (left:Lit→Bool) (lg:Int→Option Nat):Prop:=
 (∀e∈E,left (kl3 e.1)=false→∃n,lg (first e)=some n∧e.1.length≤n)∧∀c n,lg c=some n→0≤c∧c<1114368∧1≤n∧n≤3
def longPut (lg:Int→Option Nat) (e:Ent):Int→Option Nat:=fun c=>if c=first e then some (max ((lg c).getD 0) e.1.length) else lg c
theorem LongInv.start {E:List Ent} {left:Lit→Bool} (h: ∀e∈E,left (kl3 e.1)=true):LongInv E left (fun _=>none):=
 ⟨fun e he hl=>by (rw [h e he] at hl;cases hl),fun _ _ h=>by cases h⟩
theorem first_lt {e:Ent} (h:okS e.1):first e<1114368:=by
 unfold first
 match he:e.1,h with
 | [],h=>exact absurd h.1 (by simp)
 |c::_,h=>exact h.2.2 c (by simp)
theorem LongInv.step {E:List Ent} {left:Lit→Bool} {lg:Int→Option Nat} (h:LongInv E left lg) (hE:okT E) {e:Ent} (he:e∈E):LongInv E (fun z=>left z&& !z.sameKey (kl3 e.1)) (longPut lg e):=by
 have hok:=(hE.2 e he).1
 have hf:=first_lt hok
 refine ⟨fun d hd hl=> ?_,fun c n hc=> ?_⟩
 ·unfold longPut
  by_cases h1:(first d:Int)=first e
  ·rw [if_pos h1]
   refine ⟨_,rfl,?_⟩
   cases hk:left (kl3 d.1) with
   |false=>
    obtain ⟨n,hn,hle⟩:=h.1 d hd hk
    rw [hn]
    simp only [Option.getD_some]
    omega
   |true=>
    simp only [hk,Bool.true_and,Bool.not_eq_false'] at hl
    have:=kl3_inj (hE.2 d hd).1 hok (WideAt.sameKey_eq hl)
    rw [this]
    omega
  ·rw [if_neg h1]
   cases hk:left (kl3 d.1) with
   |false=>exact h.1 d hd hk
   |true=>
    simp only [hk,Bool.true_and,Bool.not_eq_false'] at hl
    have:=kl3_inj (hE.2 d hd).1 hok (WideAt.sameKey_eq hl)
    exact absurd (by unfold first;rw [this]) h1
 ·unfold longPut at hc
  split at hc
  ·rename_i h1
   have e1:=Option.some.inj hc
   have h2:(lg c).getD 0≤3:=by
    cases hl:lg c with
    |none=>simp
    |some m=>have:=(h.2 c m hl).2.2.2;simpa using this
   have:=hok.1
   have:=hok.2.1
   refine ⟨by omega,by omega,by omega,by omega⟩
  ·exact h.2 c n hc
def PairsInv (lg:Int→Option Nat) (left:Int→Bool) (l:List Pr):Prop:=
 (∀c n,lg c=some n→left c=false→(c,(n:Int))∈l)∧(∀p∈l,left p.1=false∧∃n,lg p.1=some n∧p.2=n)∧apart l
theorem PairsInv.start {lg:Int→Option Nat} {left:Int→Bool} (h: ∀c,(lg c).isSome=true→left c=true):PairsInv lg left []:=
 ⟨fun c n hc hl=>by (rw [h c (by rw [hc];rfl)] at hl;cases hl),(fun _ h=>by cases h),List.Pairwise.nil⟩
theorem PairsInv.step {lg:Int→Option Nat} {left left':Int→Bool} {l:List Pr} (h:PairsInv lg left l) {c:Int} {n:Nat} (hc:lg c=some n) (hl:left c=true) (hl': ∀d,left' d=(left d&& !decide (d=c))):PairsInv lg left' (l++ [(c,(n:Int))]):=by
 obtain ⟨h1,h2,h3⟩:=h
 refine ⟨fun d m hd hm=> ?_,fun p hp=> ?_,?_⟩
 ·rw [hl'] at hm
  by_cases e:d=c
  ·subst e
   rw [hc] at hd
   obtain rfl:=Option.some.inj hd
   simp
  ·simp only [e,decide_false,Bool.not_false,Bool.and_true] at hm
   exact List.mem_append_left _ (h1 d m hd hm)
 ·rcases List.mem_append.1 hp with hp|hp
  ·obtain ⟨e1,e2⟩:=h2 p hp
   exact ⟨by rw [hl',e1];rfl,e2⟩
  ·obtain rfl:p=(c,(n:Int)):=by simpa using hp
   exact ⟨by rw [hl'];simp,n,hc,rfl⟩
 ·refine List.pairwise_append.2 ⟨h3,List.pairwise_singleton _ _,fun p hp q hq=> ?_⟩
  obtain rfl:q=(c,(n:Int)):=by simpa using hq
  intro e
  have:=(h2 p hp).1
  simp only at e
  rw [e,hl] at this
  cases this
def LongIs (E:List Ent) (f:Int→Int):Prop:=(∀e∈E,(e.1.length:Int)≤f (first e))∧∀c,0≤f c∧f c≤3∧(¬(0≤c∧c≤1114367)→f c=0)
theorem long_is {E:List Ent} {left:Lit→Bool} {left2:Int→Bool} {lg:Int→Option Nat} {l:List Pr} (h:LongInv E left lg) (h0: ∀kl,left kl=false) (hp:PairsInv lg left2 l) (h2: ∀c,left2 c=false):
 LongIs E (fnd l)∧(l.any fun p=> !may p)=false:=by
 have hm: ∀p∈l,0≤p.1∧p.1≤1114367∧1≤p.2∧p.2≤3:=fun p hpl=>by
  obtain ⟨_,n,h1,h2⟩:=hp.2.1 p hpl
  have:=h.2 _ _ h1
  omega
 refine ⟨⟨fun e he=> ?_,fun c=> ?_⟩,?_⟩
 ·obtain ⟨n,hn,hle⟩:=h.1 e he (h0 _)
  have:=fnd_mem hp.2.2 (hp.1 _ _ hn (h2 _))
  simp only at this
  rw [this]
  omega
 ·by_cases hc: ∃p∈l,p.1=c
  ·obtain ⟨p,hpl,rfl⟩:=hc
   have:=hm p hpl
   rw [fnd_mem hp.2.2 hpl]
   exact ⟨by omega,by omega,fun e=>absurd ⟨this.1,this.2.1⟩ e⟩
  ·rw [fnd_none fun p hpl e=>hc ⟨p,hpl,e⟩]
   exact ⟨by omega,by omega,fun _=>rfl⟩
 ·rw [List.any_eq_false]
  intro p hpl
  have:=hm p hpl
  unfold may
  simp
  omega
end Go.Ux
namespace Go.Ux
open Go
def implE (c:Nat):List Nat:= [eMk (64256+c/32768) 32 2 false,eMk (32768+c % 32768) 32 2 false]
def longE (E:List Ent) (s:List Nat) (i:Nat):Nat→Option (List Nat×Nat)
 |0=>none
 |n+1=>match findE E ((s.drop i).take (n+1)) with
  |some l=>some (l,n+1)
  |none=>longE E s i n
def atE (E:List Ent) (s:List Nat) (i:Nat):List Nat×Nat:=(longE E s i (min 3 (s.length-i))).getD (implE (s.getD i 0),1)
def ofE (E:List Ent) (s:List Nat):Nat→Nat→List Nat
 |_,0=> []
 |i,k+1=>if s.length≤i then [] else (atE E s i).1++ofE E s (i+(atE E s i).2) k
def elemsE (E:List Ent) (s:List Nat):List Nat:=ofE E s 0 s.length
theorem longE_pos {E:List Ent} {s:List Nat} {i:Nat}: ∀{n:Nat} {x:List Nat×Nat},longE E s i n=some x→1≤x.2∧x.2≤n∧findE E ((s.drop i).take x.2)=some x.1
 |0,x,h=>by cases h
 |n+1,x,h=>by
  unfold longE at h
  split at h
  ·rename_i l hl
   obtain rfl:=Option.some.inj h
   exact ⟨by simp,Nat.le_refl _,hl⟩
  ·have:=longE_pos h
   exact ⟨this.1,by omega,this.2.2⟩
theorem atE_pos (E:List Ent) (s:List Nat) (i:Nat) (hi:i<s.length):1≤(atE E s i).2∧i+(atE E s i).2≤s.length∧(atE E s i).2≤3:=by
 unfold atE
 cases h:longE E s i (min 3 (s.length-i)) with
 |none=>simp;omega
 |some x=>
  have:=longE_pos h
  simp
  omega
theorem longE_less {E:List Ent} {f:Int→Int} (hf:LongIs E f) {s:List Nat} {i c:Nat} (hc:s[i]? =some c): ∀n,n≤s.length-i→(n:Int)>f c→longE E s i n=longE E s i (n-1)
 |0,_,_=>rfl
 |n+1,hn,h=>by
  show longE E s i (n+1)=longE E s i n
  rw [longE]
  cases hl:findE E ((s.drop i).take (n+1)) with
  |none=>rfl
  |some l=>
   have h1:=hf.1 _ (findE_some hl)
   have h2:((s.drop i).take (n+1)).length=n+1:=by simp;omega
   have h3:first ((s.drop i).take (n+1),l)=c:=by
    unfold first
    rw [drop_get hc]
    rfl
   simp only [h2,h3] at h1
   omega
theorem longE_min {E:List Ent} {f:Int→Int} (hf:LongIs E f) {s:List Nat} {i c:Nat} (hc:s[i]? =some c) (m:Nat) (hm:(m:Int)=min (f c) ((s.length-i:Nat):Int)):longE E s i m=longE E s i (min 3 (s.length-i)):=by
 have hb:=hf.2 c
 have key: ∀k,m+k≤s.length-i→longE E s i (m+k)=longE E s i m:=by
  intro k
  induction k with
  |zero=>intro _;rfl
  |succ k ih=>
   intro hk
   rw [←ih (by omega),show m+(k+1)=(m+k)+1 by omega]
   exact longE_less hf hc (m+k+1) (by omega) (by omega)
 have hle:m≤min 3 (s.length-i):=by omega
 obtain ⟨k,hk⟩: ∃k,min 3 (s.length-i)=m+k:=⟨min 3 (s.length-i)-m,by omega⟩
 rw [hk,key k (by omega)]
theorem longE_some {E:List Ent} {s:List Nat} {i n:Nat} {l:List Nat} (hn:0<n) (h:findE E ((s.drop i).take n)=some l):longE E s i n=some (l,n):=by
 obtain ⟨m,rfl⟩: ∃m,n=m+1:=⟨n-1,by omega⟩
 rw [longE,h]
theorem longE_none {E:List Ent} {s:List Nat} {i n:Nat} (hn:0<n) (h:findE E ((s.drop i).take n)=none):longE E s i n=longE E s i (n-1):=by
 obtain ⟨m,rfl⟩: ∃m,n=m+1:=⟨n-1,by omega⟩
 rw [longE,h]
 rfl
theorem ofE_more (E:List Ent) (s:List Nat): ∀(k i:Nat),s.length-i≤k→ofE E s i k=ofE E s i (s.length-i)
 |0,i,h=>by have:s.length-i=0:=by omega
            rw [this]
 |k+1,i,h=>by
  by_cases hi:s.length≤i
  ·have:s.length-i=0:=by omega
   rw [this]
   show ofE E s i (k+1)= []
   simp only [ofE,if_pos hi]
  ·have hp:=atE_pos E s i (by omega)
   obtain ⟨j,hj⟩: ∃j,s.length-i=j+1:=⟨s.length-i-1,by omega⟩
   rw [hj,ofE,ofE,if_neg hi,if_neg hi,ofE_more E s k _ (by omega),ofE_more E s j _ (by omega)]
theorem ofE_step {E:List Ent} {s:List Nat} {i:Nat} (hi:i<s.length):ofE E s i (s.length-i)=(atE E s i).1++ofE E s (i+(atE E s i).2) (s.length-(i+(atE E s i).2)):=by
 have hp:=atE_pos E s i hi
 obtain ⟨j,hj⟩: ∃j,s.length-i=j+1:=⟨s.length-i-1,by omega⟩
 rw [hj,ofE,if_neg (by omega),ofE_more E s j _ (by omega)]
theorem ofE_end {E:List Ent} {s:List Nat} {i:Nat} (hi:s.length≤i):ofE E s i (s.length-i)= []:=by
 have:s.length-i=0:=by omega
 rw [this]
 rfl
theorem implE_lt {c:Nat} (h:c<1114368): ∀x∈implE c,x<4294967296:=fun x hx=>by
 unfold implE at hx
 rcases List.mem_cons.1 hx with rfl|hx
 ·exact eMk_lt (by omega) (by omega) (by omega)
 ·obtain rfl:=List.mem_singleton.1 hx
  exact eMk_lt (by omega) (by omega) (by omega)
theorem atE_ok {E:List Ent} (h:okT E) {s:List Nat} (hs: ∀c∈s,c<1114368) {i:Nat} (hi:i<s.length):(atE E s i).1.length≤8∧∀x∈(atE E s i).1,x<4294967296:=by
 unfold atE
 cases hl:longE E s i (min 3 (s.length-i)) with
 |none=>
  simp only [Option.getD_none]
  refine ⟨by simp [implE],implE_lt ?_⟩
  rw [List.getD_eq_getElem?_getD,List.getElem?_eq_getElem hi]
  exact hs _ (List.getElem_mem hi)
 |some x=>
  have:=h.2 _ (findE_some (longE_pos hl).2.2)
  exact ⟨this.2.1,this.2.2⟩
end Go.Ux
namespace Go.Ux
open Go
def lexB:List Nat→List Nat→Bool
 |x::a,y::b=>if x=y then lexB a b else decide (x<y)
 |_,_=>false
def fst0:List Nat→Nat
 | []=>0
 |x::_=>x
def befE (a b:List Nat):Bool:=
 if fst0 a≠fst0 b then decide (fst0 a<fst0 b) else if a.length≠b.length then decide (a.length<b.length) else lexB a.tail b.tail
theorem lexB_irrefl: ∀a,lexB a a=false
 | []=>rfl
 |x::a=>by unfold lexB;rw [if_pos rfl];exact lexB_irrefl a
theorem lexB_total: ∀{a b:List Nat},a.length=b.length→a≠b→lexB a b=true∨lexB b a=true
 | [],[],_,h=>absurd rfl h
 |x::a,y::b,hl,h=>by
  unfold lexB
  by_cases e:x=y
  ·subst e
   rw [if_pos rfl,if_pos rfl]
   exact lexB_total (by simpa using hl) (fun e=>h (by rw [e]))
  ·rw [if_neg e,if_neg (fun e'=>e e'.symm)]
   simp
   omega
theorem lexB_trans: ∀{a b c:List Nat},lexB a b=true→lexB b c=true→lexB a c=true
 |x::a,y::b,z::c,h1,h2=>by
  unfold lexB at*
  by_cases e1:x=y
  ·by_cases e2:y=z
   ·rw [if_pos e1] at h1
    rw [if_pos e2] at h2
    rw [if_pos (e1.trans e2)]
    exact lexB_trans h1 h2
   ·rw [if_neg e2] at h2
    rw [if_neg (by omega)]
    simp at h2⊢
    omega
  ·rw [if_neg e1] at h1
   by_cases e2:y=z
   ·rw [if_neg (by omega)]
    simp at h1⊢
    omega
   ·rw [if_neg e2] at h2
    simp at h1 h2
    rw [if_neg (by omega)]
    simp
    omega
 | [],_,_,h,_=>by unfold lexB at h;cases h
 |_::_,[],_,h,_=>by unfold lexB at h;cases h
 |_::_,_::_,[],_,h=>by unfold lexB at h;cases h
theorem befE_irrefl (a:List Nat):befE a a=false:=by
 unfold befE
 simp [lexB_irrefl]
theorem befE_total {a b:List Nat} (h:a≠b):befE a b=true∨befE b a=true:=by
 unfold befE
 by_cases h1:fst0 a=fst0 b
 ·by_cases h2:a.length=b.length
  ·rw [if_neg (fun e=>e h1),if_neg (fun e=>e h2),if_neg (fun e=>e h1.symm),if_neg (fun e=>e h2.symm)]
   refine lexB_total (by simp [h2]) fun e=>h ?_
   cases a with
   |nil=>cases b with
    |nil=>rfl
    |cons y b=>simp at h2
   |cons x a=>cases b with
    |nil=>simp at h2
    |cons y b=>
     simp [fst0] at h1 e
     rw [h1,e]
  ·rw [if_neg (fun e=>e h1),if_pos h2,if_neg (fun e=>e h1.symm),if_pos (fun e=>h2 e.symm)]
   simp
   omega
 ·rw [if_pos h1,if_pos (fun e=>h1 e.symm)]
  simp
  omega
theorem befE_trans {a b c:List Nat} (h1:befE a b=true) (h2:befE b c=true):befE a c=true:=by
 unfold befE at*
 by_cases e1:fst0 a=fst0 b
 ·rw [if_neg (by simp [e1])] at h1
  by_cases e2:fst0 b=fst0 c
  ·rw [if_neg (by simp [e2])] at h2
   rw [if_neg (by simp [e1,e2])]
   by_cases l1:a.length=b.length
   ·rw [if_neg (by simp [l1])] at h1
    by_cases l2:b.length=c.length
    ·rw [if_neg (by simp [l2])] at h2
     rw [if_neg (by simp [l1,l2])]
     exact lexB_trans h1 h2
    ·rw [if_pos l2] at h2
     rw [if_pos (by omega)]
     simp at h2⊢
     omega
   ·rw [if_pos l1] at h1
    by_cases l2:b.length=c.length
    ·rw [if_pos (by omega)]
     simp at h1⊢
     omega
    ·rw [if_pos l2] at h2
     simp at h1 h2
     rw [if_pos (by omega)]
     simp
     omega
  ·rw [if_pos e2] at h2
   rw [if_pos (by omega),e1]
   exact h2
 ·rw [if_pos e1] at h1
  by_cases e2:fst0 b=fst0 c
  ·rw [if_pos (by omega),←e2]
   exact h1
  ·rw [if_pos e2] at h2
   simp only [decide_eq_true_eq] at h1 h2
   rw [if_pos (by omega)]
   simp only [decide_eq_true_eq]
   omega
def putE:List Ent→List Nat→List Nat→List Ent
 | [],s,l=> [(s,l)]
 |e::T,s,l=>if befE e.1 s then e::putE T s l else if e.1=s then (s,l)::T else (s,l)::e::T
def SortedE (T:List Ent):Prop:=T.Pairwise fun a b=>befE a.1 b.1=true
theorem putE_mem: ∀{T:List Ent} {s l:List Nat},SortedE T→∀e,e∈putE T s l↔e=(s,l)∨(e∈T∧e.1≠s)
 | [],s,l,_,e=>by simp [putE]
 |d::T,s,l,hs,e=>by
  unfold SortedE at hs
  rw [List.pairwise_cons] at hs
  unfold putE
  split
  ·rename_i h
   rw [List.mem_cons,putE_mem (T:=T) hs.2]
   have hd:d.1≠s:=fun e=>by rw [e,befE_irrefl] at h;cases h
   constructor
   ·rintro (rfl|rfl|⟨h1,h2⟩)
    ·exact .inr ⟨List.mem_cons_self,hd⟩
    ·exact .inl rfl
    ·exact .inr ⟨List.mem_cons_of_mem _ h1,h2⟩
   ·rintro (rfl|⟨h1,h2⟩)
    ·exact .inr (.inl rfl)
    ·rcases List.mem_cons.1 h1 with rfl|h1
     ·exact .inl rfl
     ·exact .inr (.inr ⟨h1,h2⟩)
  ·rename_i h
   have hgt: ∀x∈T,x.1≠s:=fun x hx hxs=>h (by rw [←hxs];exact hs.1 x hx)
   split
   ·rename_i h2
    rw [List.mem_cons]
    constructor
    ·rintro (rfl|h1)
     ·exact .inl rfl
     ·exact .inr ⟨List.mem_cons_of_mem _ h1,hgt e h1⟩
    ·rintro (rfl|⟨h1,h3⟩)
     ·exact .inl rfl
     ·rcases List.mem_cons.1 h1 with rfl|h1
      ·exact absurd h2 h3
      ·exact .inr h1
   ·rename_i h2
    rw [List.mem_cons]
    constructor
    ·rintro (rfl|h1)
     ·exact .inl rfl
     ·refine .inr ⟨h1,?_⟩
      rcases List.mem_cons.1 h1 with rfl|h1
      ·exact h2
      ·exact hgt e h1
    ·rintro (rfl|⟨h1,h3⟩)
     ·exact .inl rfl
     ·exact .inr h1
theorem putE_sorted: ∀{T:List Ent} {s l:List Nat},SortedE T→SortedE (putE T s l)
 | [],s,l,_=>by simp [putE,SortedE]
 |d::T,s,l,hs0=>by
  have hs:=hs0
  unfold SortedE at hs
  rw [List.pairwise_cons] at hs
  unfold putE
  split
  ·rename_i h
   unfold SortedE
   rw [List.pairwise_cons]
   refine ⟨fun x hx=> ?_,putE_sorted hs.2⟩
   rcases (putE_mem (T:=T) hs.2 x).1 hx with rfl|⟨h1,_⟩
   ·exact h
   ·exact hs.1 x h1
  ·rename_i h
   split
   ·rename_i h2
    unfold SortedE
    rw [List.pairwise_cons]
    exact ⟨fun x hx=>by rw [←h2];exact hs.1 x hx,hs.2⟩
   ·rename_i h2
    have hb:befE s d.1=true:=by
     rcases befE_total h2 with h3|h3
     ·exact absurd h3 h
     ·exact h3
    unfold SortedE
    rw [List.pairwise_cons]
    refine ⟨fun x hx=> ?_,hs0⟩
    rcases List.mem_cons.1 hx with rfl|hx
    ·exact hb
    ·exact befE_trans hb (hs.1 x hx)
theorem SortedE.nodup {T:List Ent} (h:SortedE T):(T.map (·.1)).Nodup:=by
 unfold List.Nodup
 rw [List.pairwise_map]
 exact h.imp fun {a b} h1 e=>by rw [e,befE_irrefl] at h1;cases h1
def setE (E:List Ent) (s l:List Nat):List Ent:=if s∈E.map (·.1) then E.map fun e=>if e.1=s then (s,l) else e else E++ [(s,l)]
theorem setE_mem {E:List Ent} {s l:List Nat} (e:Ent):e∈setE E s l↔e=(s,l)∨(e∈E∧e.1≠s):=by
 unfold setE
 split
 ·rename_i h
  rw [List.mem_map]
  constructor
  ·rintro ⟨d,hd,rfl⟩
   split
   ·exact .inl rfl
   ·rename_i h1;exact .inr ⟨hd,h1⟩
  ·rintro (rfl|⟨h1,h2⟩)
   ·obtain ⟨d,hd,rfl⟩:=List.mem_map.1 h
    exact ⟨d,hd,by simp⟩
   ·exact ⟨e,h1,by simp [h2]⟩
 ·rename_i h
  rw [List.mem_append,List.mem_singleton]
  constructor
  ·rintro (h1|rfl)
   ·exact .inr ⟨h1,fun e'=>h (List.mem_map.2 ⟨e,h1,e'⟩)⟩
   ·exact .inl rfl
  ·rintro (rfl|⟨h1,_⟩)
   ·exact .inr rfl
   ·exact .inl h1
theorem setE_keys {E:List Ent} {s l:List Nat}:(setE E s l).map (·.1)=if s∈E.map (·.1) then E.map (·.1) else E.map (·.1)++ [s]:=by
 unfold setE
 split
 ·rw [List.map_map]
  refine List.map_congr_left fun e _=> ?_
  simp only [Function.comp]
  split
  ·rename_i h;exact h.symm
  ·rfl
 ·simp
theorem setE_ok {E:List Ent} {s l:List Nat} (h:okT E) (hn:okE (s,l)):okT (setE E s l):=by
 refine ⟨?_,fun e he=> ?_⟩
 ·rw [setE_keys]
  split
  ·exact h.1
  ·rename_i h1
   rw [List.nodup_append]
   refine ⟨h.1,by simp,fun a ha b hb e=> ?_⟩
   simp at hb
   subst hb
   subst e
   exact h1 ha
 ·rcases (setE_mem e).1 he with rfl|⟨h1,_⟩
  ·exact hn
  ·exact h.2 e h1
def SameE (E T:List Ent):Prop:=E.Perm T∧SortedE T
theorem nodup_of_keys {E:List Ent} (h:(E.map (·.1)).Nodup):E.Nodup:=by
 unfold List.Nodup at*
 rw [List.pairwise_map] at h
 exact h.imp fun {a b} h1 e=>h1 (by rw [e])
theorem SameE.put {E T:List Ent} (h:SameE E T) (hE:okT E) {s l:List Nat} (hn:okE (s,l)):SameE (setE E s l) (putE T s l):=by
 refine ⟨?_,putE_sorted h.2⟩
 refine (List.perm_ext_iff_of_nodup (nodup_of_keys (setE_ok hE hn).1) (nodup_of_keys (putE_sorted h.2).nodup)).2 fun e=> ?_
 rw [setE_mem,putE_mem h.2,h.1.mem_iff]
theorem SameE.ok {E T:List Ent} (h:SameE E T) (hE:okT E):okT T:=⟨h.2.nodup,fun e he=>hE.2 e (h.1.mem_iff.2 he)⟩
end Go.Ux
namespace Go.Ux
open Go
def rootSp:List Nat:= [32,95,45,44,46,39]
def rootMk:List Nat:= [768,769,770,771,772,776,778,807]
def rootGr:List (Nat×Nat×List Nat):= [(192,0,[768,769,770,771,776,778]),(199,2,[807]),(200,4,[768,769,770,776]),(204,8,[768,769,770,776]),(209,13,[771]),(210,14,[768,769,770,771,776]),(217,20,[768,769,770,776]),(221,24,[769])]
def rootE:List Ent:=
 (List.range 6).map (fun i=>([rootSp.getD i 0],[eMk (16+4*i) 32 2 true]))++(List.range 10).map (fun i=>([48+i],[eMk (128+4*i) 32 2 false]))++
 (List.range 26).flatMap (fun i=> [([97+i],[eLetter i 2]),([65+i],[eLetter i 8])])++rootMk.map (fun c=>([c],[eMark c]))++
 rootGr.flatMap (fun x=>(List.range x.2.2.length).flatMap fun i=> [([x.1+i],[eLetter x.2.1 8,eMark (x.2.2.getD i 0)]),([x.1+i+32],[eLetter x.2.1 2,eMark (x.2.2.getD i 0)])])++
 [([223],[eLetter 18 4,eLetter 18 4]),([198],[eLetter 0 10,eLetter 4 10]),([230],[eLetter 0 4,eLetter 4 4]),([173],[])]
theorem rootE_len:rootE.length=132:=by decide+kernel
theorem rootE_nodup:(rootE.map (·.1)).Nodup:=by decide+kernel
theorem rootE_ok: ∀e∈rootE,okE e:=by
 have h: ∀e∈rootE,1≤e.1.length∧e.1.length≤3∧(∀c∈e.1,c<1114368)∧e.2.length≤8∧∀x∈e.2,x<4294967296:=by decide+kernel
 exact fun e he=>⟨⟨(h e he).1,(h e he).2.1,(h e he).2.2.1⟩,(h e he).2.2.2⟩
theorem rootE_1: ∀i,i<6→rootE[i]? =some ([rootSp.getD i 0],[eMk (16+4*i) 32 2 true]):=by decide+kernel
theorem rootE_2: ∀i,i<10→rootE[6+i]? =some ([48+i],[eMk (128+4*i) 32 2 false]):=by decide+kernel
theorem rootE_3: ∀i,i<26→rootE[16+2*i]? =some ([97+i],[eLetter i 2])∧rootE[16+2*i+1]? =some ([65+i],[eLetter i 8]):=by decide+kernel
theorem rootE_4: ∀i,i<8→rootE[68+i]? =some ([rootMk.getD i 0],[eMark (rootMk.getD i 0)]):=by decide+kernel
def rootAt:List Nat:= [76,88,90,98,106,108,118,126]
def rootG5 (x i:Nat):Prop:=rootE[rootAt.getD x 0+2*i]? =some ([(rootGr.getD x (0,0,[])).1+i],[eLetter (rootGr.getD x (0,0,[])).2.1 8,eMark ((rootGr.getD x (0,0,[])).2.2.getD i 0)])∧
    rootE[rootAt.getD x 0+2*i+1]? =some ([(rootGr.getD x (0,0,[])).1+i+32],[eLetter (rootGr.getD x (0,0,[])).2.1 2,eMark ((rootGr.getD x (0,0,[])).2.2.getD i 0)])
instance (x i:Nat):Decidable (rootG5 x i):=inferInstanceAs (Decidable (_∧_))
theorem rootE_5 (x:Nat) (hx:x<8) (i:Nat) (hi:i<(rootGr.getD x (0,0,[])).2.2.length):rootG5 x i:=by
 have h:((List.range 8).all fun x=>(List.range (rootGr.getD x (0,0,[])).2.2.length).all fun i=>decide (rootG5 x i))=true:=by decide+kernel
 have h1:=List.all_eq_true.1 h x (List.mem_range.2 hx)
 have h2:=List.all_eq_true.1 h1 i (List.mem_range.2 hi)
 exact of_decide_eq_true h2
theorem rootE_6:rootE[128]? =some ([223],[eLetter 18 4,eLetter 18 4])∧rootE[129]? =some ([198],[eLetter 0 10,eLetter 4 10])∧rootE[130]? =some ([230],[eLetter 0 4,eLetter 4 4])∧rootE[131]? =some ([173],[]):=by decide+kernel
theorem root_new {n:Nat} {s l:List Nat} (h:rootE[n]? =some (s,l)):s∉(rootE.take n).map (·.1)∧rootE.take (n+1)=rootE.take n++ [(s,l)]∧okE (s,l):=by
 have ht:rootE.take (n+1)=rootE.take n++ [(s,l)]:=by rw [List.take_add_one,h];rfl
 refine ⟨fun hm=> ?_,ht,rootE_ok _ (List.mem_of_getElem? h)⟩
 have hn:((rootE.take (n+1)).map (·.1)).Nodup:=rootE_nodup.sublist ((List.take_sublist _ _).map _)
 rw [ht,List.map_append,List.nodup_append] at hn
 exact hn.2.2 s hm s (by simp) rfl
end Go.Ux
namespace Go.Ux
open Go Go.RowKit
def hd (d:Nat):UInt8:=if d<10 then UInt8.ofNat (48+d) else UInt8.ofNat (87+d)
def hexGo:Nat→Nat→List UInt8→List UInt8
 |0,_,acc=>acc
 |n+1,u,acc=>if u<16 then hd u::acc else hexGo n (u/16) (hd (u % 16)::acc)
def hexS (u:Nat):List UInt8:=hexGo 4 u []
theorem hexGo_len2: ∀(n u m:Nat) (acc:List UInt8),u<16^m→1≤m→m≤n→(hexGo n u acc).length≤acc.length+m
 |0,_,_,_,_,h1,h2=>by omega
 |n+1,u,m,acc,hu,h1,h2=>by
  unfold hexGo
  split
  ·simp;omega
  ·match m,hu,h1,h2 with
   |1,hu,_,_=>omega
   |m+2,hu,_,_=>
    have h16:u/16<16^(m+1):=by rw [Nat.pow_succ] at hu;omega
    have:=hexGo_len2 n (u/16) (m+1) (hd (u % 16)::acc) h16 (by omega) (by omega)
    simp at this
    omega
def hexP (d u:Nat):List UInt8:=List.replicate (d-(hexS u).length) 48++hexS u
def textE (x:Nat):List UInt8:= [91]++(if eV x then [42] else [])++hexP 4 (eP x)++ [46]++hexP 2 (eS x)++ [46]++hexP 2 (eT x)++ [93]
theorem hd_at (d:Nat) (h:d<16):(⟨#[48,49,50,51,52,53,54,55,56,57,97,98,99,100,101,102,103,104,105,106,107,108,109,110,111,112,113,114,115,116,117,118,119,120,121,122]⟩:ByteArray).data[d]? =some (hd d):=by
 have: ∀d,d<16→(#[48,49,50,51,52,53,54,55,56,57,97,98,99,100,101,102,103,104,105,106,107,108,109,110,111,112,113,114,115,116,117,118,119,120,121,122]:Array UInt8)[d]? =some (hd d):=by decide+kernel
 exact this d h
def dcur (n:Nat) (acc:List UInt8):Array Value:=(List.replicate (n-acc.length) (Value.int .u8 0)++bv acc).toArray
theorem dcur_set {n:Nat} {acc:List UInt8} (h:acc.length<n) (d:UInt8):(dcur n acc).setIfInBounds (n-acc.length-1) (.int .u8 (d.toNat:Int))=dcur n (d::acc):=by
 unfold dcur
 rw [List.setIfInBounds_toArray]
 congr 1
 have e:n-acc.length=(n-(d::acc).length)+1:=by simp;omega
 rw [e,List.replicate_succ',List.append_assoc,List.set_append_right _ _ (by simp),List.length_replicate]
 simp [bv]
theorem dcur_at {n:Nat} {acc:List UInt8} (h:acc.length≤n) {j:Nat} {b:UInt8} (hj:acc[j]? =some b):(dcur n acc)[n-acc.length+j]? =some (.int .u8 (b.toNat:Int)):=by
 unfold dcur
 rw [List.getElem?_toArray,List.getElem?_append_right (by simp),List.length_replicate,Nat.add_sub_cancel_left]
 unfold bv
 rw [List.getElem?_map,hj]
 rfl
theorem dcur_zero {n:Nat} {acc:List UInt8} (h:acc.length<n):(dcur n acc)[n-acc.length-1]? =some (.int .u8 0):=by
 unfold dcur
 rw [List.getElem?_toArray,List.getElem?_append_left (by simp;omega),List.getElem?_replicate]
 rw [if_pos (by omega)]
variable {P:Program}
theorem wpList_indexS {ops:Array Oper} {rest:List Oper} {o:Oper} {a:Act} {w:World} {Q:Exit→Act→World→Prop} (hg:o.guard=none) (t:TypeId) (k:IntKind) (x:Nat) (y z:Operand) (ho:o.op= .index t y z) (s:ByteArray) (b:UInt8)
 (hu:P.underlying t=some .string) (hy:a.eval y= .string s) (hz:a.eval z= .int k (x:Int)) (hv:s.data[x]? =some b)
 (h:wpList P ops Q rest (a.put o.dst (.int .u8 (b.toNat:Int))) w):wpList P ops Q (o::rest) a w:=
 wpList_plain hg fun _ hK=>by
  have hx:x<s.size:=(Array.getElem?_eq_some_iff.1 hv).1
  have hb:s[(x:Int).toNat]'(by simpa using hx)=b:=by
   have:=(Array.getElem?_eq_some_iff.1 hv).2
   simp only [Int.toNat_natCast]
   exact this
  have hr:(Instr.index t (.string s) (.int k (x:Int))).run P w= .ok (.int .u8 (b.toNat:Int)) w:=by
   rw [run_index_string w t s k x hu,dif_pos ⟨by omega,by omega⟩,hb]
  unfold Oper.wp execOp
  simp only [ho,hy,hz,Sem.run_bind,Sem.run_pure,Result.andThen_ok,hr]
  exact hK _ _ h
end Go.Ux
