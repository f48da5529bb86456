/- A part of the proof that the statement holds for every input that it names. No other condition. -/
import Derived.Test.YtmnkinaaoifpeaaGreatDoorUxMapAZ
import Derived.Test.YtmnkinaaoifpeaaGreatDoorUxNumAZ
set_option linter.unusedVariables false
set_option linter.unusedSimpArgs false
namespace Go.Ux
open Go Go.Maps Go.RowKit Ux.Trie
def first (e:Ent):Nat:=e.1.headD 0
def LongInv (E:List Ent) (left:Lit→Bool) (lg:Int→Option Nat):Prop:=
 (∀e∈E,left (kl3 e.1)=false→∃n,lg (first e)=some n∧e.1.length≤n)∧∀c n,lg c=some n→0≤c∧c<1114368∧1≤n∧n≤3
def longPut (lg:Int→Option Nat) (e:Ent):Int→Option Nat:=fun c=>if c=first e then some (max ((lg c).getD 0) e.1.length) else lg c
theorem LongInv.start {E:List Ent} {left:Lit→Bool} (h: ∀e∈E,left (kl3 e.1)=true):LongInv E left (fun _=>none):=
 ⟨fun e he hl=>by (rw [h e he] at hl;cases hl),fun _ _ h=>by cases h⟩
theorem first_lt {e:Ent} (h:okS e.1):first e<1114368:=by
 unfold first
 match he:e.1,h with
 | [],h=>exact absurd h.1 (by simp)
 |c::_,h=>exact h.2.2 c (by simp)
theorem LongInv.step {E:List Ent} {left:Lit→Bool} {lg:Int→Option Nat} (h:LongInv E left lg) (hE:okT E) {e:Ent} (he:e∈E):LongInv E (fun z=>left z&& !z.sameKey (kl3 e.1)) (longPut lg e):=by
 have hok:=(hE.2 e he).1
 have hf:=first_lt hok
 refine ⟨fun d hd hl=> ?_,fun c n hc=> ?_⟩
 ·unfold longPut
  by_cases h1:(first d:Int)=first e
  ·rw [if_pos h1]
   refine ⟨_,rfl,?_⟩
   cases hk:left (kl3 d.1) with
   |false=>
    obtain ⟨n,hn,hle⟩:=h.1 d hd hk
    rw [hn]
    simp only [Option.getD_some]
    omega
   |true=>
    simp only [hk,Bool.true_and,Bool.not_eq_false'] at hl
    have:=kl3_inj (hE.2 d hd).1 hok (WideAt.sameKey_eq hl)
    rw [this]
    omega
  ·rw [if_neg h1]
   cases hk:left (kl3 d.1) with
   |false=>exact h.1 d hd hk
   |true=>
    simp only [hk,Bool.true_and,Bool.not_eq_false'] at hl
    have:=kl3_inj (hE.2 d hd).1 hok (WideAt.sameKey_eq hl)
    exact absurd (by unfold first;rw [this]) h1
 ·unfold longPut at hc
  split at hc
  ·rename_i h1
   have e1:=Option.some.inj hc
   have h2:(lg c).getD 0≤3:=by
    cases hl:lg c with
    |none=>simp
    |some m=>have:=(h.2 c m hl).2.2.2;simpa using this
   have:=hok.1
   have:=hok.2.1
   refine ⟨by omega,by omega,by omega,by omega⟩
  ·exact h.2 c n hc
def PairsInv (lg:Int→Option Nat) (left:Int→Bool) (l:List Pr):Prop:=
 (∀c n,lg c=some n→left c=false→(c,(n:Int))∈l)∧(∀p∈l,left p.1=false∧∃n,lg p.1=some n∧p.2=n)∧apart l
theorem PairsInv.start {lg:Int→Option Nat} {left:Int→Bool} (h: ∀c,(lg c).isSome=true→left c=true):PairsInv lg left []:=
 ⟨fun c n hc hl=>by (rw [h c (by rw [hc];rfl)] at hl;cases hl),(fun _ h=>by cases h),List.Pairwise.nil⟩
theorem PairsInv.step {lg:Int→Option Nat} {left left':Int→Bool} {l:List Pr} (h:PairsInv lg left l) {c:Int} {n:Nat} (hc:lg c=some n) (hl:left c=true) (hl': ∀d,left' d=(left d&& !decide (d=c))):PairsInv lg left' (l++ [(c,(n:Int))]):=by
 obtain ⟨h1,h2,h3⟩:=h
 refine ⟨fun d m hd hm=> ?_,fun p hp=> ?_,?_⟩
 ·rw [hl'] at hm
  by_cases e:d=c
  ·subst e
   rw [hc] at hd
   obtain rfl:=Option.some.inj hd
   simp
  ·simp only [e,decide_false,Bool.not_false,Bool.and_true] at hm
   exact List.mem_append_left _ (h1 d m hd hm)
 ·rcases List.mem_append.1 hp with hp|hp
  ·obtain ⟨e1,e2⟩:=h2 p hp
   exact ⟨by rw [hl',e1];rfl,e2⟩
  ·obtain rfl:p=(c,(n:Int)):=by simpa using hp
   exact ⟨by rw [hl'];simp,n,hc,rfl⟩
 ·refine List.pairwise_append.2 ⟨h3,List.pairwise_singleton _ _,fun p hp q hq=> ?_⟩
  obtain rfl:q=(c,(n:Int)):=by simpa using hq
  intro e
  have:=(h2 p hp).1
  simp only at e
  rw [e,hl] at this
  cases this
def LongIs (E:List Ent) (f:Int→Int):Prop:=(∀e∈E,(e.1.length:Int)≤f (first e))∧∀c,0≤f c∧f c≤3∧(¬(0≤c∧c≤1114367)→f c=0)
theorem long_is {E:List Ent} {left:Lit→Bool} {left2:Int→Bool} {lg:Int→Option Nat} {l:List Pr} (h:LongInv E left lg) (h0: ∀kl,left kl=false) (hp:PairsInv lg left2 l) (h2: ∀c,left2 c=false):
 LongIs E (fnd l)∧(l.any fun p=> !may p)=false:=by
 have hm: ∀p∈l,0≤p.1∧p.1≤1114367∧1≤p.2∧p.2≤3:=fun p hpl=>by
  obtain ⟨_,n,h1,h2⟩:=hp.2.1 p hpl
  have:=h.2 _ _ h1
  omega
 refine ⟨⟨fun e he=> ?_,fun c=> ?_⟩,?_⟩
 ·obtain ⟨n,hn,hle⟩:=h.1 e he (h0 _)
  have:=fnd_mem hp.2.2 (hp.1 _ _ hn (h2 _))
  simp only at this
  rw [this]
  omega
 ·by_cases hc: ∃p∈l,p.1=c
  ·obtain ⟨p,hpl,rfl⟩:=hc
   have:=hm p hpl
   rw [fnd_mem hp.2.2 hpl]
   exact ⟨by omega,by omega,fun e=>absurd ⟨this.1,this.2.1⟩ e⟩
  ·rw [fnd_none fun p hpl e=>hc ⟨p,hpl,e⟩]
   exact ⟨by omega,by omega,fun _=>rfl⟩
 ·rw [List.any_eq_false]
  intro p hpl
  have:=hm p hpl
  unfold may
  simp
  omega
end Go.Ux
namespace Go.Ux
open Go
def rootSp:List Nat:= [32,95,45,44,46,39]
def rootMk:List Nat:= [768,769,770,771,772,776,778,807]
def rootGr:List (Nat×Nat×List Nat):= [(192,0,[768,769,770,771,776,778]),(199,2,[807]),(200,4,[768,769,770,776]),(204,8,[768,769,770,776]),(209,13,[771]),(210,14,[768,769,770,771,776]),(217,20,[768,769,770,776]),(221,24,[769])]
def rootE:List Ent:=
 (List.range 6).map (fun i=>([rootSp.getD i 0],[eMk (16+4*i) 32 2 true]))++(List.range 10).map (fun i=>([48+i],[eMk (128+4*i) 32 2 false]))++
 (List.range 26).flatMap (fun i=> [([97+i],[eLetter i 2]),([65+i],[eLetter i 8])])++rootMk.map (fun c=>([c],[eMark c]))++
 rootGr.flatMap (fun x=>(List.range x.2.2.length).flatMap fun i=> [([x.1+i],[eLetter x.2.1 8,eMark (x.2.2.getD i 0)]),([x.1+i+32],[eLetter x.2.1 2,eMark (x.2.2.getD i 0)])])++
 [([223],[eLetter 18 4,eLetter 18 4]),([198],[eLetter 0 10,eLetter 4 10]),([230],[eLetter 0 4,eLetter 4 4]),([173],[])]
theorem rootE_len:rootE.length=132:=by decide+kernel
theorem rootE_nodup:(rootE.map (·.1)).Nodup:=by decide+kernel
theorem rootE_ok: ∀e∈rootE,okE e:=by
 have h: ∀e∈rootE,1≤e.1.length∧e.1.length≤3∧(∀c∈e.1,c<1114368)∧e.2.length≤8∧∀x∈e.2,x<4294967296:=by decide+kernel
 exact fun e he=>⟨⟨(h e he).1,(h e he).2.1,(h e he).2.2.1⟩,(h e he).2.2.2⟩
theorem rootE_1: ∀i,i<6→rootE[i]? =some ([rootSp.getD i 0],[eMk (16+4*i) 32 2 true]):=by decide+kernel
theorem rootE_2: ∀i,i<10→rootE[6+i]? =some ([48+i],[eMk (128+4*i) 32 2 false]):=by decide+kernel
theorem rootE_3: ∀i,i<26→rootE[16+2*i]? =some ([97+i],[eLetter i 2])∧rootE[16+2*i+1]? =some ([65+i],[eLetter i 8]):=by decide+kernel
theorem rootE_4: ∀i,i<8→rootE[68+i]? =some ([rootMk.getD i 0],[eMark (rootMk.getD i 0)]):=by decide+kernel
def rootAt:List Nat:= [76,88,90,98,106,108,118,126]
def rootG5 (x i:Nat):Prop:=rootE[rootAt.getD x 0+2*i]? =some ([(rootGr.getD x (0,0,[])).1+i],[eLetter (rootGr.getD x (0,0,[])).2.1 8,eMark ((rootGr.getD x (0,0,[])).2.2.getD i 0)])∧
    rootE[rootAt.getD x 0+2*i+1]? =some ([(rootGr.getD x (0,0,[])).1+i+32],[eLetter (rootGr.getD x (0,0,[])).2.1 2,eMark ((rootGr.getD x (0,0,[])).2.2.getD i 0)])
instance (x i:Nat):Decidable (rootG5 x i):=inferInstanceAs (Decidable (_∧_))
theorem rootE_5 (x:Nat) (hx:x<8) (i:Nat) (hi:i<(rootGr.getD x (0,0,[])).2.2.length):rootG5 x i:=by
 have h:((List.range 8).all fun x=>(List.range (rootGr.getD x (0,0,[])).2.2.length).all fun i=>decide (rootG5 x i))=true:=by decide+kernel
 have h1:=List.all_eq_true.1 h x (List.mem_range.2 hx)
 have h2:=List.all_eq_true.1 h1 i (List.mem_range.2 hi)
 exact of_decide_eq_true h2
theorem rootE_6:rootE[128]? =some ([223],[eLetter 18 4,eLetter 18 4])∧rootE[129]? =some ([198],[eLetter 0 10,eLetter 4 10])∧rootE[130]? =some ([230],[eLetter 0 4,eLetter 4 4])∧rootE[131]? =some ([173],[]):=by decide+kernel
theorem root_new {n:Nat} {s l:List Nat} (h:rootE[n]? =some (s,l)):s∉(rootE.take n).map (·.1)∧rootE.take (n+1)=rootE.take n++ [(s,l)]∧okE (s,l):=by
 have ht:rootE.take (n+1)=rootE.take n++ [(s,l)]:=by rw [List.take_add_one,h];rfl
 refine ⟨fun hm=> ?_,ht,rootE_ok _ (List.mem_of_getElem? h)⟩
 have hn:((rootE.take (n+1)).map (·.1)).Nodup:=rootE_nodup.sublist ((List.take_sublist _ _).map _)
 rw [ht,List.map_append,List.nodup_append] at hn
 exact hn.2.2 s hm s (by simp) rfl
end Go.Ux
namespace Go.Ux
open Go
def implE (c:Nat):List Nat:= [eMk (64256+c/32768) 32 2 false,eMk (32768+c % 32768) 32 2 false]
def longE (E:List Ent) (s:List Nat) (i:Nat):Nat→Option (List Nat×Nat)
 |0=>none
 |n+1=>match findE E ((s.drop i).take (n+1)) with
  |some l=>some (l,n+1)
  |none=>longE E s i n
def atE (E:List Ent) (s:List Nat) (i:Nat):List Nat×Nat:=(longE E s i (min 3 (s.length-i))).getD (implE (s.getD i 0),1)
theorem longE_less {E:List Ent} {f:Int→Int} (hf:LongIs E f) {s:List Nat} {i c:Nat} (hc:s[i]? =some c): ∀n,n≤s.length-i→(n:Int)>f c→longE E s i n=longE E s i (n-1)
 |0,_,_=>rfl
 |n+1,hn,h=>by
  show longE E s i (n+1)=longE E s i n
  rw [longE]
  cases hl:findE E ((s.drop i).take (n+1)) with
  |none=>rfl
  |some l=>
   have h1:=hf.1 _ (findE_some hl)
   have h2:((s.drop i).take (n+1)).length=n+1:=by simp;omega
   have h3:first ((s.drop i).take (n+1),l)=c:=by
    unfold first
    rw [drop_get hc]
    rfl
   simp only [h2,h3] at h1
   omega
theorem longE_min {E:List Ent} {f:Int→Int} (hf:LongIs E f) {s:List Nat} {i c:Nat} (hc:s[i]? =some c) (m:Nat) (hm:(m:Int)=min (f c) ((s.length-i:Nat):Int)):longE E s i m=longE E s i (min 3 (s.length-i)):=by
 have hb:=hf.2 c
 have key: ∀k,m+k≤s.length-i→longE E s i (m+k)=longE E s i m:=by
  intro k
  induction k with
  |zero=>intro _;rfl
  |succ k ih=>
   intro hk
   rw [←ih (by omega),show m+(k+1)=(m+k)+1 by omega]
   exact longE_less hf hc (m+k+1) (by omega) (by omega)
 have hle:m≤min 3 (s.length-i):=by omega
 obtain ⟨k,hk⟩: ∃k,min 3 (s.length-i)=m+k:=⟨min 3 (s.length-i)-m,by omega⟩
 rw [hk,key k (by omega)]
theorem longE_some {E:List Ent} {s:List Nat} {i n:Nat} {l:List Nat} (hn:0<n) (h:findE E ((s.drop i).take n)=some l):longE E s i n=some (l,n):=by
 obtain ⟨m,rfl⟩: ∃m,n=m+1:=⟨n-1,by omega⟩
 rw [longE,h]
theorem longE_none {E:List Ent} {s:List Nat} {i n:Nat} (hn:0<n) (h:findE E ((s.drop i).take n)=none):longE E s i n=longE E s i (n-1):=by
 obtain ⟨m,rfl⟩: ∃m,n=m+1:=⟨n-1,by omega⟩
 rw [longE,h]
 rfl
end Go.Ux
namespace Go.Ux
open Go
def lexB:List Nat→List Nat→Bool
 |x::a,y::b=>if x=y then lexB a b else decide (x<y)
 |_,_=>false
def fst0:List Nat→Nat
 | []=>0
 |x::_=>x
def befE (a b:List Nat):Bool:=
 if fst0 a≠fst0 b then decide (fst0 a<fst0 b) else if a.length≠b.length then decide (a.length<b.length) else lexB a.tail b.tail
theorem lexB_irrefl: ∀a,lexB a a=false
 | []=>rfl
 |x::a=>by unfold lexB;rw [if_pos rfl];exact lexB_irrefl a
theorem lexB_total: ∀{a b:List Nat},a.length=b.length→a≠b→lexB a b=true∨lexB b a=true
 | [],[],_,h=>absurd rfl h
 |x::a,y::b,hl,h=>by
  unfold lexB
  by_cases e:x=y
  ·subst e
   rw [if_pos rfl,if_pos rfl]
   exact lexB_total (by simpa using hl) (fun e=>h (by rw [e]))
  ·rw [if_neg e,if_neg (fun e'=>e e'.symm)]
   simp
   omega
theorem lexB_trans: ∀{a b c:List Nat},lexB a b=true→lexB b c=true→lexB a c=true
 |x::a,y::b,z::c,h1,h2=>by
  unfold lexB at*
  by_cases e1:x=y
  ·by_cases e2:y=z
   ·rw [if_pos e1] at h1
    rw [if_pos e2] at h2
    rw [if_pos (e1.trans e2)]
    exact lexB_trans h1 h2
   ·rw [if_neg e2] at h2
    rw [if_neg (by omega)]
    simp at h2⊢
    omega
  ·rw [if_neg e1] at h1
   by_cases e2:y=z
   ·rw [if_neg (by omega)]
    simp at h1⊢
    omega
   ·rw [if_neg e2] at h2
    simp at h1 h2
    rw [if_neg (by omega)]
    simp
    omega
 | [],_,_,h,_=>by unfold lexB at h;cases h
 |_::_,[],_,h,_=>by unfold lexB at h;cases h
 |_::_,_::_,[],_,h=>by unfold lexB at h;cases h
theorem befE_irrefl (a:List Nat):befE a a=false:=by
 unfold befE
 simp [lexB_irrefl]
theorem befE_total {a b:List Nat} (h:a≠b):befE a b=true∨befE b a=true:=by
 unfold befE
 by_cases h1:fst0 a=fst0 b
 ·by_cases h2:a.length=b.length
  ·rw [if_neg (fun e=>e h1),if_neg (fun e=>e h2),if_neg (fun e=>e h1.symm),if_neg (fun e=>e h2.symm)]
   refine lexB_total (by simp [h2]) fun e=>h ?_
   cases a with
   |nil=>cases b with
    |nil=>rfl
    |cons y b=>simp at h2
   |cons x a=>cases b with
    |nil=>simp at h2
    |cons y b=>
     simp [fst0] at h1 e
     rw [h1,e]
  ·rw [if_neg (fun e=>e h1),if_pos h2,if_neg (fun e=>e h1.symm),if_pos (fun e=>h2 e.symm)]
   simp
   omega
 ·rw [if_pos h1,if_pos (fun e=>h1 e.symm)]
  simp
  omega
theorem befE_trans {a b c:List Nat} (h1:befE a b=true) (h2:befE b c=true):befE a c=true:=by
 unfold befE at*
 by_cases e1:fst0 a=fst0 b
 ·rw [if_neg (by simp [e1])] at h1
  by_cases e2:fst0 b=fst0 c
  ·rw [if_neg (by simp [e2])] at h2
   rw [if_neg (by simp [e1,e2])]
   by_cases l1:a.length=b.length
   ·rw [if_neg (by simp [l1])] at h1
    by_cases l2:b.length=c.length
    ·rw [if_neg (by simp [l2])] at h2
     rw [if_neg (by simp [l1,l2])]
     exact lexB_trans h1 h2
    ·rw [if_pos l2] at h2
     rw [if_pos (by omega)]
     simp at h2⊢
     omega
   ·rw [if_pos l1] at h1
    by_cases l2:b.length=c.length
    ·rw [if_pos (by omega)]
     simp at h1⊢
     omega
    ·rw [if_pos l2] at h2
     simp at h1 h2
     rw [if_pos (by omega)]
     simp
     omega
  ·rw [if_pos e2] at h2
   rw [if_pos (by omega),e1]
   exact h2
 ·rw [if_pos e1] at h1
  by_cases e2:fst0 b=fst0 c
  ·rw [if_pos (by omega),←e2]
   exact h1
  ·rw [if_pos e2] at h2
   simp only [decide_eq_true_eq] at h1 h2
   rw [if_pos (by omega)]
   simp only [decide_eq_true_eq]
   omega
def putE:List Ent→List Nat→List Nat→List Ent
 | [],s,l=> [(s,l)]
 |e::T,s,l=>if befE e.1 s then e::putE T s l else if e.1=s then (s,l)::T else (s,l)::e::T
def SortedE (T:List Ent):Prop:=T.Pairwise fun a b=>befE a.1 b.1=true
theorem putE_mem: ∀{T:List Ent} {s l:List Nat},SortedE T→∀e,e∈putE T s l↔e=(s,l)∨(e∈T∧e.1≠s)
 | [],s,l,_,e=>by simp [putE]
 |d::T,s,l,hs,e=>by
  unfold SortedE at hs
  rw [List.pairwise_cons] at hs
  unfold putE
  split
  ·rename_i h
   rw [List.mem_cons,putE_mem (T:=T) hs.2]
   have hd:d.1≠s:=fun e=>by rw [e,befE_irrefl] at h;cases h
   constructor
   ·rintro (rfl|rfl|⟨h1,h2⟩)
    ·exact .inr ⟨List.mem_cons_self,hd⟩
    ·exact .inl rfl
    ·exact .inr ⟨List.mem_cons_of_mem _ h1,h2⟩
   ·rintro (rfl|⟨h1,h2⟩)
    ·exact .inr (.inl rfl)
    ·rcases List.mem_cons.1 h1 with rfl|h1
     ·exact .inl rfl
     ·exact .inr (.inr ⟨h1,h2⟩)
  ·rename_i h
   have hgt: ∀x∈T,x.1≠s:=fun x hx hxs=>h (by rw [←hxs];exact hs.1 x hx)
   split
   ·rename_i h2
    rw [List.mem_cons]
    constructor
    ·rintro (rfl|h1)
     ·exact .inl rfl
     ·exact .inr ⟨List.mem_cons_of_mem _ h1,hgt e h1⟩
    ·rintro (rfl|⟨h1,h3⟩)
     ·exact .inl rfl
     ·rcases List.mem_cons.1 h1 with rfl|h1
      ·exact absurd h2 h3
      ·exact .inr h1
   ·rename_i h2
    rw [List.mem_cons]
    constructor
    ·rintro (rfl|h1)
     ·exact .inl rfl
     ·refine .inr ⟨h1,?_⟩
      rcases List.mem_cons.1 h1 with rfl|h1
      ·exact h2
      ·exact hgt e h1
    ·rintro (rfl|⟨h1,h3⟩)
     ·exact .inl rfl
     ·exact .inr h1
theorem putE_sorted: ∀{T:List Ent} {s l:List Nat},SortedE T→SortedE (putE T s l)
 | [],s,l,_=>by simp [putE,SortedE]
 |d::T,s,l,hs0=>by
  have hs:=hs0
  unfold SortedE at hs
  rw [List.pairwise_cons] at hs
  unfold putE
  split
  ·rename_i h
   unfold SortedE
   rw [List.pairwise_cons]
   refine ⟨fun x hx=> ?_,putE_sorted hs.2⟩
   rcases (putE_mem (T:=T) hs.2 x).1 hx with rfl|⟨h1,_⟩
   ·exact h
   ·exact hs.1 x h1
  ·rename_i h
   split
   ·rename_i h2
    unfold SortedE
    rw [List.pairwise_cons]
    exact ⟨fun x hx=>by rw [←h2];exact hs.1 x hx,hs.2⟩
   ·rename_i h2
    have hb:befE s d.1=true:=by
     rcases befE_total h2 with h3|h3
     ·exact absurd h3 h
     ·exact h3
    unfold SortedE
    rw [List.pairwise_cons]
    refine ⟨fun x hx=> ?_,hs0⟩
    rcases List.mem_cons.1 hx with rfl|hx
    ·exact hb
    ·exact befE_trans hb (hs.1 x hx)
theorem SortedE.nodup {T:List Ent} (h:SortedE T):(T.map (·.1)).Nodup:=by
 unfold List.Nodup
 rw [List.pairwise_map]
 exact h.imp fun {a b} h1 e=>by rw [e,befE_irrefl] at h1;cases h1
theorem putE_len (T:List Ent) (s l:List Nat):(putE T s l).length≤T.length+1:=by
 induction T with
 |nil=>simp [putE]
 |cons d T ih=>
  unfold putE
  split
  ·simp;omega
  ·split<;>simp
def setE (E:List Ent) (s l:List Nat):List Ent:=if s∈E.map (·.1) then E.map fun e=>if e.1=s then (s,l) else e else E++ [(s,l)]
theorem setE_mem {E:List Ent} {s l:List Nat} (e:Ent):e∈setE E s l↔e=(s,l)∨(e∈E∧e.1≠s):=by
 unfold setE
 split
 ·rename_i h
  rw [List.mem_map]
  constructor
  ·rintro ⟨d,hd,rfl⟩
   split
   ·exact .inl rfl
   ·rename_i h1;exact .inr ⟨hd,h1⟩
  ·rintro (rfl|⟨h1,h2⟩)
   ·obtain ⟨d,hd,rfl⟩:=List.mem_map.1 h
    exact ⟨d,hd,by simp⟩
   ·exact ⟨e,h1,by simp [h2]⟩
 ·rename_i h
  rw [List.mem_append,List.mem_singleton]
  constructor
  ·rintro (h1|rfl)
   ·exact .inr ⟨h1,fun e'=>h (List.mem_map.2 ⟨e,h1,e'⟩)⟩
   ·exact .inl rfl
  ·rintro (rfl|⟨h1,_⟩)
   ·exact .inr rfl
   ·exact .inl h1
theorem setE_keys {E:List Ent} {s l:List Nat}:(setE E s l).map (·.1)=if s∈E.map (·.1) then E.map (·.1) else E.map (·.1)++ [s]:=by
 unfold setE
 split
 ·rw [List.map_map]
  refine List.map_congr_left fun e _=> ?_
  simp only [Function.comp]
  split
  ·rename_i h;exact h.symm
  ·rfl
 ·simp
theorem setE_ok {E:List Ent} {s l:List Nat} (h:okT E) (hn:okE (s,l)):okT (setE E s l):=by
 refine ⟨?_,fun e he=> ?_⟩
 ·rw [setE_keys]
  split
  ·exact h.1
  ·rename_i h1
   rw [List.nodup_append]
   refine ⟨h.1,by simp,fun a ha b hb e=> ?_⟩
   simp at hb
   subst hb
   subst e
   exact h1 ha
 ·rcases (setE_mem e).1 he with rfl|⟨h1,_⟩
  ·exact hn
  ·exact h.2 e h1
def SameE (E T:List Ent):Prop:=E.Perm T∧SortedE T
theorem nodup_of_keys {E:List Ent} (h:(E.map (·.1)).Nodup):E.Nodup:=by
 unfold List.Nodup at*
 rw [List.pairwise_map] at h
 exact h.imp fun {a b} h1 e=>h1 (by rw [e])
theorem SameE.put {E T:List Ent} (h:SameE E T) (hE:okT E) {s l:List Nat} (hn:okE (s,l)):SameE (setE E s l) (putE T s l):=by
 refine ⟨?_,putE_sorted h.2⟩
 refine (List.perm_ext_iff_of_nodup (nodup_of_keys (setE_ok hE hn).1) (nodup_of_keys (putE_sorted h.2).nodup)).2 fun e=> ?_
 rw [setE_mem,putE_mem h.2,h.1.mem_iff]
theorem SameE.ok {E T:List Ent} (h:SameE E T) (hE:okT E):okT T:=⟨h.2.nodup,fun e he=>hE.2 e (h.1.mem_iff.2 he)⟩
theorem findE_none' {E:List Ent} {s:List Nat} (h:s∉E.map (·.1)):findE E s=none:=by
 cases hf:findE E s with
 |none=>rfl
 |some l=>exact absurd (List.mem_map.2 ⟨_,findE_some hf,rfl⟩) h
theorem findE_perm {E T:List Ent} (hE:(E.map (·.1)).Nodup) (h:E.Perm T) (s:List Nat):findE E s=findE T s:=by
 have hT:(T.map (·.1)).Nodup:=(h.map _).nodup_iff.1 hE
 cases hf:findE E s with
 |some l=>exact (findE_mem hT (h.mem_iff.1 (findE_some hf))).symm
 |none=>
  have h1:=findE_none hf
  refine (findE_none' fun hm=> ?_).symm
  obtain ⟨e,he,rfl⟩:=List.mem_map.1 hm
  exact h1 e (h.mem_iff.2 he) rfl
end Go.Ux
namespace Go.Ux
open Go
def six:List Nat:= [768,769,770,771,776,778]
def four:List Nat:= [768,769,770,776]
def mkd (c b m:Nat):List Ent:= [([c],[eLetter b 8,eMark m]),([c+32],[eLetter b 2,eMark m])]
def rseq:List Ent:=
 (List.range 6).map (fun i=>([rootSp.getD i 0],[eMk (16+4*i) 32 2 true]))++(List.range 10).map (fun i=>([48+i],[eMk (128+4*i) 32 2 false]))++
 (List.range 26).flatMap (fun i=> [([97+i],[eLetter i 2]),([65+i],[eLetter i 8])])++rootMk.map (fun m=>([m],[eMark m]))++
 (List.range 6).flatMap (fun i=>mkd (192+i) 0 (six.getD i 0))++mkd 199 2 807++
 (List.range 4).flatMap (fun i=>mkd (200+i) 4 (four.getD i 0)++mkd (204+i) 8 (four.getD i 0)++mkd (217+i) 20 (four.getD i 0))++mkd 209 13 771++
 (List.range 5).flatMap (fun i=>mkd (210+i) 14 (six.getD i 0))++mkd 221 24 769++
 [([223],[eLetter 18 4,eLetter 18 4]),([230],[eLetter 0 4,eLetter 4 4]),([198],[eLetter 0 10,eLetter 4 10]),([173],[])]
def putP (T:List Ent) (e:Ent):List Ent:=putE T e.1 e.2
def rootT (n:Nat):List Ent:=(rseq.take n).foldl putP []
theorem rootT_step {n:Nat} {e:Ent} (h:rseq[n]? =some e):rootT (n+1)=putE (rootT n) e.1 e.2:=by
 unfold rootT
 rw [List.take_add_one,h]
 simp [putP]
theorem rseq_len:rseq.length=132:=by decide+kernel
theorem rseq_ok: ∀e∈rseq,okE e:=by
 have h:(rseq.all fun e=>decide (1≤e.1.length)&&decide (e.1.length≤3)&&e.1.all (fun c=>decide (c<1114368))&&decide (e.2.length≤8)&&e.2.all fun x=>decide (x<4294967296))=true:=by decide+kernel
 intro e he
 have:=List.all_eq_true.1 h e he
 simp only [Bool.and_eq_true,decide_eq_true_eq,List.all_eq_true] at this
 exact ⟨⟨this.1.1.1.1,this.1.1.1.2,fun c hc=>this.1.1.2 c hc⟩,this.1.2,this.2⟩
theorem rootT_mem: ∀n,∀e∈rootT n,e∈rseq:=by
 have key: ∀(l:List Ent) (T:List Ent),(∀e∈T,e∈rseq)→(∀e∈l,e∈rseq)→∀e∈l.foldl putP T,e∈rseq:=by
  intro l
  induction l with
  |nil=>intro T h1 _ e he;exact h1 e he
  |cons d l ih=>
   intro T h1 h2 e he
   refine ih (putP T d) (fun x hx=> ?_) (fun x hx=>h2 x (List.mem_cons_of_mem _ hx)) e he
   unfold putP at hx
   have: ∀(T:List Ent) (s l:List Nat) (x:Ent),x∈putE T s l→x=(s,l)∨x∈T:=by
    intro T
    induction T with
    |nil=>intro s l x hx;simp [putE] at hx;exact .inl hx
    |cons t T ih2=>
     intro s l x hx
     unfold putE at hx
     split at hx
     ·rcases List.mem_cons.1 hx with rfl|hx
      ·exact .inr List.mem_cons_self
      ·exact (ih2 s l x hx).imp id fun h=>List.mem_cons_of_mem _ h
     ·split at hx
      ·rcases List.mem_cons.1 hx with rfl|hx
       ·exact .inl rfl
       ·exact .inr (List.mem_cons_of_mem _ hx)
      ·rcases List.mem_cons.1 hx with rfl|hx
       ·exact .inl rfl
       ·exact .inr hx
   rcases this T d.1 d.2 x hx with rfl|h
   ·exact h2 d List.mem_cons_self
   ·exact h1 x h
 intro n e he
 exact key _ [] (fun _ h=>by cases h) (fun x hx=>List.mem_of_mem_take hx) e he
theorem rootT_sorted (n:Nat):SortedE (rootT n):=by
 have key: ∀(l:List Ent) (T:List Ent),SortedE T→SortedE (l.foldl putP T):=by
  intro l
  induction l with
  |nil=>intro T h;exact h
  |cons d l ih=>intro T h;exact ih _ (putE_sorted h)
 exact key _ [] List.Pairwise.nil
theorem rootT_len (n:Nat):(rootT n).length≤132:=by
 have key: ∀(l:List Ent) (T:List Ent),(l.foldl putP T).length≤T.length+l.length:=by
  intro l
  induction l with
  |nil=>intro T;simp
  |cons d l ih=>
   intro T
   have h1:=ih (putP T d)
   have h2:=putE_len T d.1 d.2
   unfold putP at*
   simp at*
   omega
 have h:=key (rseq.take n) []
 have h2:(rseq.take n).length≤132:=by rw [List.length_take,rseq_len];omega
 unfold rootT
 simp at h h2⊢
 omega
theorem rseq_perm:rootE.Perm rseq:=by
 have h:rootE.isPerm rseq=true:=by decide+kernel
 exact List.isPerm_iff.1 h
theorem rootT_perm:rootE.Perm (rootT 132):=by
 have key: ∀(l:List Ent) (T:List Ent),SortedE T→(l.map (·.1)).Nodup→(∀e∈l,∀d∈T,d.1≠e.1)→(l.foldl putP T).Perm (T++l):=by
  intro l
  induction l with
  |nil=>intro T _ _ _;simp
  |cons d l ih=>
   intro T hT hn hd
   have hn2:=hn
   rw [List.map_cons,List.nodup_cons] at hn2
   have h1:=ih (putP T d) (putE_sorted hT) hn2.2 (fun e he x hx=>by
    rcases (putE_mem hT x).1 hx with rfl|⟨h,_⟩
    ·exact fun e'=>hn2.1 (List.mem_map.2 ⟨e,he,e'.symm⟩)
    ·exact hd e (List.mem_cons_of_mem _ he) x h)
   refine h1.trans ?_
   have h2:(putP T d).Perm (T++ [d]):=by
    have hTn:=nodup_of_keys hT.nodup
    have hdT:d∉T:=fun h=>hd d List.mem_cons_self d h rfl
    refine (List.perm_ext_iff_of_nodup (nodup_of_keys (putE_sorted hT).nodup) ?_).2 fun e=> ?_
    ·rw [List.nodup_append]
     exact ⟨hTn,by simp,fun a ha b hb e=>by simp at hb;subst hb;subst e;exact hdT ha⟩
    ·rw [putE_mem hT,List.mem_append,List.mem_singleton]
     constructor
     ·rintro (rfl|⟨h,_⟩)
      ·exact .inr rfl
      ·exact .inl h
     ·rintro (h|rfl)
      ·exact .inr ⟨h,fun e'=>hd d List.mem_cons_self e h e'⟩
      ·exact .inl rfl
   have h3:=h2.append_right l
   rw [List.append_assoc,List.singleton_append] at h3
   exact h3
 have hn:(rseq.map (·.1)).Nodup:=(rseq_perm.map (·.1)).nodup_iff.1 rootE_nodup
 have:=key rseq [] List.Pairwise.nil hn (fun _ _ _ h=>by cases h)
 rw [List.nil_append] at this
 unfold rootT
 rw [List.take_of_length_le (by rw [rseq_len];exact Nat.le_refl _)]
 exact rseq_perm.trans this.symm
theorem same_root:SameE rootE (rootT 132):=⟨rootT_perm,rootT_sorted 132⟩
theorem rs_1: ∀i,i<6→rseq[i]? =some ([rootSp.getD i 0],[eMk (16+4*i) 32 2 true]):=by decide+kernel
theorem rs_2: ∀i,i<10→rseq[6+i]? =some ([48+i],[eMk (128+4*i) 32 2 false]):=by decide+kernel
theorem rs_3: ∀i,i<26→rseq[16+2*i]? =some ([97+i],[eLetter i 2])∧rseq[16+2*i+1]? =some ([65+i],[eLetter i 8]):=by decide+kernel
theorem rs_4: ∀i,i<8→rseq[68+i]? =some ([rootMk.getD i 0],[eMark (rootMk.getD i 0)]):=by decide+kernel
def isMkd (n c b m:Nat):Prop:=rseq[n]? =some ([c],[eLetter b 8,eMark m])∧rseq[n+1]? =some ([c+32],[eLetter b 2,eMark m])
instance (n c b m:Nat):Decidable (isMkd n c b m):=inferInstanceAs (Decidable (_∧_))
theorem rs_5: ∀i,i<6→isMkd (76+2*i) (192+i) 0 (six.getD i 0):=by decide+kernel
theorem rs_6:isMkd 88 199 2 807:=by decide+kernel
theorem rs_7: ∀i,i<4→isMkd (90+6*i) (200+i) 4 (four.getD i 0)∧isMkd (90+6*i+2) (204+i) 8 (four.getD i 0)∧isMkd (90+6*i+4) (217+i) 20 (four.getD i 0):=by decide+kernel
theorem rs_8:isMkd 114 209 13 771:=by decide+kernel
theorem rs_9: ∀i,i<5→isMkd (116+2*i) (210+i) 14 (six.getD i 0):=by decide+kernel
theorem rs_10:isMkd 126 221 24 769:=by decide+kernel
theorem rs_11:rseq[128]? =some ([223],[eLetter 18 4,eLetter 18 4])∧rseq[129]? =some ([230],[eLetter 0 4,eLetter 4 4])∧rseq[130]? =some ([198],[eLetter 0 10,eLetter 4 10])∧rseq[131]? =some ([173],[]):=by decide+kernel
end Go.Ux
namespace Go.Ux
open Go Go.RowKit
def KGrow (w:World) (lo:Nat) (e:TypeId) (sz:Nat) (v:Value) (n:Nat) (xs:List Value):Prop:=w.ownsRow 0 e sz v n xs∧∀b,v.ownBlock=some b→lo≤b
theorem KGrow.nil (w:World) (lo:Nat) (e:TypeId) (sz:Nat):KGrow w lo e sz (.slice none 0 0) 0 []:=⟨World.ownsRow_nil _ _ _ _,by simp [Value.ownBlock]⟩
theorem KGrow.empty (w:World) (lo:Nat) (e:TypeId) (sz:Nat) (hlo:lo≤w.heap.size):KGrow (w.alloc (.cells #[] e)) lo e sz (.slice (some ⟨w.heap.size,0,none⟩) 0 0) 0 []:=
 ⟨⟨by simp,.inr ⟨w.heap.size,0,#[],rfl,Nat.zero_le _,heap_alloc_new w _,Nat.le_refl _,Nat.zero_le _,by simp,by simp⟩⟩,fun b hb=>by cases hb;exact hlo⟩
theorem KGrow.touch {R:Nat→Prop} {w w':World} {lo:Nat} {e:TypeId} {sz:Nat} {v:Value} {n:Nat} {xs:List Value} (h:KGrow w lo e sz v n xs) (ht:Touch R w w') (hR: ∀b,lo≤b→¬R b):KGrow w' lo e sz v n xs:=
 ⟨own_touch h.1 ht fun b hb=>hR b (h.2 b hb),h.2⟩
theorem KGrow.touch0 {w w':World} {lo:Nat} {e:TypeId} {sz:Nat} {v:Value} {n:Nat} {xs:List Value} (h:KGrow w lo e sz v n xs) (ht:Touch (fun _=>False) w w'):KGrow w' lo e sz v n xs:=h.touch ht fun _ _ f=>f
theorem KGrow.mono {w:World} {lo lo':Nat} {e:TypeId} {sz:Nat} {v:Value} {n:Nat} {xs:List Value} (h:KGrow w lo e sz v n xs) (hl:lo'≤lo):KGrow w lo' e sz v n xs:=⟨h.1,fun b hb=>Nat.le_trans hl (h.2 b hb)⟩
theorem KGrow.is {w:World} {lo:Nat} {e:TypeId} {sz:Nat} {v:Value} {n:Nat} {xs:List Value} (h:KGrow w lo e sz v n xs): ∃a c,v= .slice a n c∧∀(j:Nat) (u:Value),xs[j]? =some u→∃g,a=some ⟨g,0,none⟩∧lo≤g∧w.cell? ⟨g,j,none⟩=some u:=by
 have hl:=h.1.1
 rcases h.1.2 with ⟨hv,h0⟩|⟨g,cap,cur,hv,_,hh,_,_,_,ht⟩
 ·refine ⟨none,0,by rw [h0];exact hv,fun j u hj=> ?_⟩
  rw [h0,Nat.zero_mul] at hl
  rw [List.eq_nil_of_length_eq_zero hl] at hj
  simp at hj
 ·exact ⟨_,_,hv,fun j u hj=>⟨g,rfl,h.2 g (by rw [hv];rfl),row_cell hh ht _ _ hj⟩⟩
theorem KGrow.cap {w:World} {lo:Nat} {e:TypeId} {sz:Nat} {a:Option Addr} {n c:Nat} {xs:List Value} (h:KGrow w lo e sz (.slice a n c) n xs):n≤c:=by
 rcases h.1.2 with ⟨hv,h0⟩|⟨g,cap,cur,hv,_,hh,h1,_,_,ht⟩
 ·rw [h0];exact Nat.zero_le _
 ·cases hv;exact h1
theorem KGrow.len {w:World} {lo:Nat} {e:TypeId} {sz:Nat} {v:Value} {n:Nat} {xs:List Value} (h:KGrow w lo e sz v n xs):xs.length=n*sz:=h.1.1
theorem KGrow.app' {P:Program} {w:World} {lo:Nat} {e:TypeId} {sz:Nat} {v:Value} {n:Nat} {xs:List Value} (h:KGrow w lo e sz v n xs) (t:TypeId) (bytes:Nat) (z:Value) (ht:P.underlying t=some (.slice e))
 (hi:(P.info? e).map (fun i=>(i.zero,i.size,i.bytes))=some (some z,sz,bytes)) (hzs:z.cells.size=sz) (hsz:0<sz) (x:Value) (m:Nat) (ys:List Value) (hs:Src P sz t x m ys w) (hlo:lo≤w.heap.size)
 (h63:n+m≤maxLen) (hb:(n+m)*bytes≤140737488355328):
 ∃r w',(∀ty,(Builtin.append_ #[t,t] ty #[v,x]).run P w= .ok r w')∧KGrow w' lo e sz r (n+m) (xs++ys)∧Touch (fun b=>lo≤b∧v.ownBlock=some b) w w'∧(r.ownBlock=v.ownBlock∨∃g,r.ownBlock=some g∧w.heap.size≤g):=by
 obtain ⟨i0,hi0,hz0⟩:=Option.map_eq_some_iff.1 hi
 simp only [Prod.mk.injEq] at hz0
 obtain ⟨hz0,hz1,hz2⟩:=hz0
 have key:=fun ty=>run_app (P:=P) w t ty e i0 z sz bytes ht hi0 hz0 hz1 hz2 hzs hsz v n xs h.1 x m ys hs h63 hb
 obtain ⟨r,w',hr,ho,htt,hbk,_⟩:=key t
 refine ⟨r,w',fun ty=>hr,⟨ho,fun b hb=> ?_⟩,htt.mono fun b _ hb=>⟨h.2 b hb,hb⟩,hbk⟩
 rcases hbk with e|⟨g,e,hg⟩
 ·exact h.2 b (by rw [←e];exact hb)
 ·rw [e] at hb
  cases hb
  omega
theorem KGrow.app {P:Program} {w:World} {lo:Nat} {e:TypeId} {sz:Nat} {v:Value} {n:Nat} {xs:List Value} (h:KGrow w lo e sz v n xs) (t:TypeId) (bytes:Nat) (z:Value) (ht:P.underlying t=some (.slice e))
 (hi:(P.info? e).map (fun i=>(i.zero,i.size,i.bytes))=some (some z,sz,bytes)) (hzs:z.cells.size=sz) (hsz:0<sz) (x:Value) (m:Nat) (ys:List Value) (hs:Src P sz t x m ys w) (hlo:lo≤w.heap.size)
 (h63:n+m≤maxLen) (hb:(n+m)*bytes≤140737488355328):
 ∃r w',(∀ty,(Builtin.append_ #[t,t] ty #[v,x]).run P w= .ok r w')∧KGrow w' lo e sz r (n+m) (xs++ys)∧Touch (fun b=>lo≤b∧v.ownBlock=some b) w w':=
 let ⟨r,w',h1,h2,h3,_⟩:=h.app' t bytes z ht hi hzs hsz x m ys hs hlo h63 hb
 ⟨r,w',h1,h2,h3⟩
theorem src_new {P:Program} {t e:TypeId} (ht:P.underlying t=some (.slice e)) (w:World) (sz m:Nat) (ys:List Value) (hl:ys.length=m*sz) (h1: ∀u∈ys,u.oneCell'=true):
 Src P sz t (.slice (some ⟨w.heap.size,0,none⟩) m m) m ys (w.alloc (.cells ys.toArray e)):=Src.ofSlice _ ht ⟨w.heap.size,0,none⟩ m m ys hl (fun j u hj=>by
  have e1:(⟨w.heap.size,0,none⟩:Addr).add j=⟨w.heap.size,j,none⟩:=by rw [Addr.add_mid];simp
  rw [e1,cell_newg]
  simpa using hj) h1
theorem src_at {P:Program} {t e:TypeId} (ht:P.underlying t=some (.slice e)) {w:World} (sz m c:Nat) (a:Option Addr) (ys:List Value) (hl:ys.length=m*sz) (h1: ∀u∈ys,u.oneCell'=true)
 (hc: ∀(j:Nat) (u:Value),ys[j]? =some u→∃g o,a=some ⟨g,o,none⟩∧w.cell? ⟨g,o+j,none⟩=some u) (hz:0<sz):Src P sz t (.slice a m c) m ys w:=by
 cases a with
 |none=>
  have h0:ys= []:=by
   cases ys with
   |nil=>rfl
   |cons y ys=>obtain ⟨_,_,h,_⟩:=hc 0 y rfl;cases h
  subst h0
  have:m=0:=by
   have h2:m*sz=0:=hl.symm
   rcases Nat.mul_eq_zero.1 h2 with h|h
   ·exact h
   ·omega
  subst this
  exact Src.ofNil w ht c
 |some p=>
  refine Src.ofSlice _ ht p m c ys hl (fun j u hj=> ?_) h1
  obtain ⟨g,o,h,hcell⟩:=hc j u hj
  cases h
  rw [Addr.add_mid]
  exact hcell
def Ents (R:Value→Value→Ent→Prop):List Value→List Ent→Prop
 | [],[]=>True
 |a::b::xs,e::T=>R a b e∧Ents R xs T
 |_,_=>False
theorem Ents.len {R:Value→Value→Ent→Prop}: ∀{xs:List Value} {T:List Ent},Ents R xs T→xs.length=T.length*2
 | [],[],_=>rfl
 |a::b::xs,e::T,h=>by
  have:=Ents.len h.2
  simp
  omega
 | [_],_,h=>by unfold Ents at h;exact h.elim
 | [],_::_,h=>h.elim
 |_::_::_,[],h=>h.elim
theorem Ents.at {R:Value→Value→Ent→Prop}: ∀{xs:List Value} {T:List Ent} {i:Nat} {e:Ent},Ents R xs T→T[i]? =some e→∃a b,xs[i*2]? =some a∧xs[i*2+1]? =some b∧R a b e
 |a::b::xs,d::T,0,e,h,hi=>by
  cases hi
  exact ⟨a,b,rfl,rfl,h.1⟩
 |a::b::xs,d::T,i+1,e,h,hi=>by
  obtain ⟨p,q,h1,h2,h3⟩:=Ents.at (i:=i) h.2 (by simpa using hi)
  have e1:(i+1)*2=i*2+1+1:=by omega
  rw [e1]
  exact ⟨p,q,h1,h2,h3⟩
 | [],[],_,_,_,hi=>by simp at hi
 | [_],_,_,_,h,_=>by unfold Ents at h;exact h.elim
 | [],_::_,_,_,h,_=>h.elim
 |_::_::_,[],_,_,h,_=>h.elim
theorem Ents.append {R:Value→Value→Ent→Prop}: ∀{xs ys:List Value} {T U:List Ent},Ents R xs T→Ents R ys U→Ents R (xs++ys) (T++U)
 | [],_,[],_,_,h=>h
 |a::b::xs,ys,d::T,U,h,h2=>⟨h.1,Ents.append h.2 h2⟩
 | [_],_,_,_,h,_=>by unfold Ents at h;exact h.elim
 | [],_,_::_,_,h,_=>h.elim
 |_::_::_,_,[],_,h,_=>h.elim
theorem Ents.mono {R R':Value→Value→Ent→Prop} (hR: ∀a b e,R a b e→R' a b e): ∀{xs:List Value} {T:List Ent},Ents R xs T→Ents R' xs T
 | [],[],_=>trivial
 |a::b::xs,e::T,h=>⟨hR a b e h.1,Ents.mono hR h.2⟩
 | [_],_,h=>by unfold Ents at h;exact h.elim
 | [],_::_,h=>h.elim
 |_::_::_,[],h=>h.elim
theorem Ents.one {R:Value→Value→Ent→Prop} (hR: ∀a b e,R a b e→a.oneCell'=true∧b.oneCell'=true): ∀{xs:List Value} {T:List Ent},Ents R xs T→∀u∈xs,u.oneCell'=true
 | [],[],_,u,hu=>by cases hu
 |a::b::xs,e::T,h,u,hu=>by
  rcases List.mem_cons.1 hu with rfl|hu
  ·exact (hR _ _ _ h.1).1
  ·rcases List.mem_cons.1 hu with rfl|hu
   ·exact (hR _ _ _ h.1).2
   ·exact Ents.one hR h.2 u hu
 | [_],_,h,_,_=>by unfold Ents at h;exact h.elim
 | [],_::_,h,_,_=>h.elim
 |_::_::_,[],h,_,_=>h.elim
theorem Ents.of_block {R:Value→Value→Ent→Prop} {w:World}: ∀{T:List Ent} (g o:Nat),(∀(i:Nat) (e:Ent),T[i]? =some e→∃a b,w.cell? ⟨g,o+i*2,none⟩=some a∧w.cell? ⟨g,o+i*2+1,none⟩=some b∧R a b e)→
 ∃xs,Ents R xs T∧∀(j:Nat) (u:Value),xs[j]? =some u→w.cell? ⟨g,o+j,none⟩=some u
 | [],g,o,_=>⟨[],trivial,fun j u h=>by simp at h⟩
 |e::T,g,o,h=>by
  obtain ⟨a,b,h1,h2,h3⟩:=h 0 e rfl
  obtain ⟨xs,hx,hc⟩:=Ents.of_block (T:=T) g (o+2) fun i d hd=>by
   obtain ⟨a,b,h1,h2,h3⟩:=h (i+1) d (by simpa using hd)
   rw [show o+2+i*2=o+(i+1)*2 by omega]
   exact ⟨a,b,h1,h2,h3⟩
  refine ⟨a::b::xs,⟨h3,hx⟩,fun j u hj=> ?_⟩
  match j,hj with
  |0,hj=>cases hj;simpa using h1
  |1,hj=>cases hj;simpa using h2
  |j+2,hj=>
   have:=hc j u (by simpa using hj)
   rw [show o+(j+2)=o+2+j by omega]
   exact this
def ahead (T:List Ent) (s:List Nat):Nat:=(T.takeWhile fun e=>befE e.1 s).length
theorem ahead_le (T:List Ent) (s:List Nat):ahead T s≤T.length:=by
 unfold ahead
 induction T with
 |nil=>simp
 |cons e T ih=>
  rw [List.takeWhile_cons]
  split<;>simp<;>omega
theorem ahead_lt {T:List Ent} {s:List Nat}: ∀{i:Nat} {e:Ent},T[i]? =some e→i<ahead T s→befE e.1 s=true:=by
 induction T with
 |nil=>intro i e h;simp at h
 |cons d T ih=>
  intro i e h hi
  unfold ahead at hi
  rw [List.takeWhile_cons] at hi
  split at hi
  ·rename_i hd
   cases i with
   |zero=>cases h;exact hd
   |succ i=>exact ih (by simpa using h) (by unfold ahead;simp at hi;omega)
  ·simp at hi
theorem ahead_at {T:List Ent} {s:List Nat}: ∀{e:Ent},T[ahead T s]? =some e→befE e.1 s=false:=by
 unfold ahead
 induction T with
 |nil=>intro e h;simp at h
 |cons d T ih=>
  intro e h
  rw [List.takeWhile_cons] at h
  cases hd:befE d.1 s with
  |true=>
   simp only [hd,if_true] at h
   exact ih (by simpa using h)
  |false=>
   simp [hd] at h
   subst h
   exact hd
theorem putE_eq (T:List Ent) (s l:List Nat):putE T s l=T.take (ahead T s)++(s,l)::(match T[ahead T s]? with
 |some e=>if e.1=s then T.drop (ahead T s+1) else T.drop (ahead T s)
 |none=> []):=by
 unfold ahead
 induction T with
 |nil=>rfl
 |cons d T ih=>
  rw [List.takeWhile_cons,putE]
  cases hd:befE d.1 s with
  |true=>
   simp only [if_true]
   rw [ih]
   rfl
  |false=>
   by_cases hs:d.1=s<;>simp [hs]
end Go.Ux
