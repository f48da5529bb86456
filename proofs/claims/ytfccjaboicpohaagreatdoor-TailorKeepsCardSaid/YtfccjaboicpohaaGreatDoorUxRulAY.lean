/- A part of the proof that the statement holds for every input that it names. No other condition. -/
import Derived.Test.YtfccjaboicpohaaGreatDoorUxNumAY
import Derived.Test.YtfccjaboicpohaaGreatDoorUxCollAY
import Derived.Test.YtfccjaboicpohaaGreatDoorUxEntAY
set_option linter.unusedVariables false
set_option linter.unusedSimpArgs false
namespace Go.Ux.Rules
open Go Go.RowKit Go.Ux.Sign
structure Rul where
 rel:Nat
 seq:List Nat
 exp:List Nat
def isBl (c:Nat):Bool:=c==32||c==10
def isSp (c:Nat):Bool:=c==32||c==10||c==38||c==60||c==61||c==47
def blankS (r:List Nat):List Nat:=r.dropWhile isBl
def seqG:List Nat→List Nat→Option (List Nat)×List Nat
 | [],out=>(some out,[])
 | [c],out=>if isSp c then (some out,[c]) else if out.length=3 then (none,[c]) else if c=92 then (none,[]) else (some (out++ [c]),[])
 |c::d::r,out=>if isSp c then (some out,c::d::r) else if out.length=3 then (none,c::d::r) else if c=92 then seqG r (out++ [d]) else seqG (d::r) (out++ [c])
def seqS (r:List Nat):Option (List Nat)×List Nat:=
 match seqG (blankS r) [] with
 |(some out,r')=>if out= [] then (none,r') else (some out,r')
 |(none,r')=>(none,r')
def ltN:Nat→List Nat→Nat
 |0,_=>0
 |_+1,[]=>0
 |n+1,c::r=>if c=60 then ltN n r+1 else 0
def relS (r:List Nat):Nat×List Nat:=
 if r.head? =some 38 then (1,r.tail) else if r.head? =some 61 then (5,r.tail) else if ltN 3 r=0 then (0,r) else (1+ltN 3 r,r.drop (ltN 3 r))
def ruleS (first:Bool) (r:List Nat):Option Rul×List Nat:=
 if (relS r).1=0∨(first=true∧(relS r).1≠1) then (none,r)
 else match seqS (relS r).2 with
  |(none,r2)=>(none,r2)
  |(some s,r2)=>if (relS r).1=1∨(blankS r2).head?≠some 47 then (some ⟨(relS r).1,s,[]⟩,r2)
   else match seqS (blankS r2).tail with
    |(none,r3)=>(none,r3)
    |(some x,r3)=>(some ⟨(relS r).1,s,x⟩,r3)
def parseG:Nat→List Nat→List Rul→List Rul×Option (List Nat)
 |0,_,out=>(out,none)
 |n+1,r,out=>if blankS r= [] then (out,none) else match ruleS out.isEmpty (blankS r) with
  |(none,r')=>(out,some r')
  |(some x,r')=>parseG n r' (out++ [x])
def parseS (l:List Nat):List Rul×Option (List Nat):=parseG (l.length+1) l []
theorem blankS_cons (c:Nat) (r:List Nat):blankS (c::r)=if isBl c then blankS r else c::r:=by
 unfold blankS
 rw [List.dropWhile_cons]
theorem blankS_head {r:List Nat} {c:Nat} (h:(blankS r).head? =some c):isBl c=false:=by
 induction r with
 |nil=>cases h
 |cons a r ih=>
  rw [blankS_cons] at h
  cases ha:isBl a with
  |true=>rw [ha] at h;exact ih h
  |false=>rw [ha] at h;simp at h;subst h;exact ha
theorem blankS_twice (r:List Nat):blankS (blankS r)=blankS r:=by
 cases h:blankS r with
 |nil=>rfl
 |cons c s=>
  have:=blankS_head (r:=r) (c:=c) (by rw [h];rfl)
  rw [blankS_cons,this]
  rfl
theorem parseG_blank (n:Nat) (r:List Nat) (out:List Rul):parseG n (blankS r) out=parseG n r out:=by
 cases n with
 |zero=>rfl
 |succ n=>rw [parseG,parseG,blankS_twice]
theorem seqG_suffix: ∀(r out:List Nat),(seqG r out).2<:+r
 | [],_=>by unfold seqG;exact List.suffix_refl _
 | [c],out=>by
   unfold seqG
   repeat' split
   all_goals first|exact List.suffix_refl _|exact List.nil_suffix
 |c::d::r,out=>by
  unfold seqG
  split
  ·exact List.suffix_refl _
  ·split
   ·exact List.suffix_refl _
   ·split
    ·exact (seqG_suffix r _).trans ((List.suffix_cons d r).trans (List.suffix_cons c _))
    ·exact (seqG_suffix (d::r) _).trans (List.suffix_cons c _)
termination_by r=>r.length
theorem seqS_suffix (r:List Nat):(seqS r).2<:+r:=by
 have h:=(seqG_suffix (blankS r) []).trans (List.dropWhile_suffix isBl)
 unfold seqS
 rcases hg:seqG (blankS r) [] with ⟨o,r'⟩
 rw [hg] at h
 cases o with
 |none=>exact h
 |some o=>dsimp only;split<;>exact h
theorem ltN_le: ∀n r,ltN n r≤n
 |0,_=>by simp [ltN]
 |n+1,[]=>by simp [ltN]
 |n+1,c::r=>by
  have:=ltN_le n r
  unfold ltN
  split<;>omega
theorem relS_suffix (r:List Nat):(relS r).2<:+r:=by
 unfold relS
 split
 ·exact List.tail_suffix _
 ·split
  ·exact List.tail_suffix _
  ·split
   ·exact List.suffix_refl _
   ·exact List.drop_suffix _ _
theorem ltN_len: ∀n r,ltN n r≤r.length
 |0,_=>by simp [ltN]
 |n+1,[]=>by simp [ltN]
 |n+1,c::r=>by
  have:=ltN_len n r
  unfold ltN
  rw [List.length_cons]
  split<;>omega
theorem relS_less {r:List Nat} (h:(relS r).1≠0):(relS r).2.length<r.length:=by
 unfold relS at h⊢
 split
 ·rename_i h1
  cases r with
  |nil=>cases h1
  |cons a r=>simp
 ·split
  ·rename_i h1
   cases r with
   |nil=>cases h1
   |cons a r=>simp
  ·split
   ·rename_i h1 h2 h3
    rw [if_neg h1,if_neg h2,if_pos h3] at h
    exact absurd rfl h
   ·have:=ltN_len 3 r
    rw [List.length_drop]
    omega
theorem ruleS_suffix (first:Bool) (r:List Nat):(ruleS first r).2<:+r:=by
 unfold ruleS
 split
 ·exact List.suffix_refl _
 ·have h1:=relS_suffix r
  have h2:=seqS_suffix (relS r).2
  rcases hs:seqS (relS r).2 with ⟨o,r2⟩
  rw [hs] at h2
  have h12:=h2.trans h1
  cases o with
  |none=>exact h12
  |some s=>
   dsimp only
   split
   ·exact h12
   ·have h3:=seqS_suffix (blankS r2).tail
    have h4:(blankS r2).tail<:+r2:=(List.tail_suffix _).trans (List.dropWhile_suffix isBl)
    rcases ht:seqS (blankS r2).tail with ⟨o3,r3⟩
    rw [ht] at h3
    have h5:=(h3.trans h4).trans h12
    cases o3 with
    |none=>exact h5
    |some x=>exact h5
theorem ruleS_less {first:Bool} {r:List Nat} {x:Rul} (h:(ruleS first r).1=some x):(ruleS first r).2.length<r.length:=by
 unfold ruleS at h⊢
 split
 ·rename_i h0
  rw [if_pos h0] at h
  cases h
 ·rename_i h0
  rw [if_neg h0] at h
  have h1:(relS r).2.length<r.length:=relS_less (fun e=>h0 (.inl e))
  have h2:=(seqS_suffix (relS r).2).length_le
  rcases hs:seqS (relS r).2 with ⟨o,r2⟩
  rw [hs] at h2
  dsimp only at h2
  cases o with
  |none=>dsimp only;omega
  |some s=>
   dsimp only
   split
   ·dsimp only;omega
   ·have h3:=(seqS_suffix (blankS r2).tail).length_le
    have h4:(blankS r2).tail.length≤r2.length:=((List.tail_suffix _).trans (List.dropWhile_suffix isBl)).length_le
    rcases ht:seqS (blankS r2).tail with ⟨o3,r3⟩
    rw [ht] at h3
    dsimp only at h3
    cases o3 with
    |none=>dsimp only;omega
    |some x=>dsimp only;omega
def okQ (P:Nat→Prop) (s:List Nat):Prop:=s.length≤3∧∀c∈s,P c
theorem seqG_ok {P:Nat→Prop}: ∀(r out:List Nat),(∀c∈r,P c)→okQ P out→∀o,(seqG r out).1=some o→okQ P o
 | [],out,_,h,o,ho=>by unfold seqG at ho;cases ho;exact h
 | [c],out,hr,h,o,ho=>by
   unfold seqG at ho
   split at ho
   ·cases ho;exact h
   ·split at ho
    ·cases ho
    ·rename_i h3
     split at ho
     ·cases ho
     ·cases ho
      refine ⟨?_,fun d hd=> ?_⟩
      ·rw [List.length_append,List.length_singleton]
       have:=h.1
       omega
      ·rcases List.mem_append.1 hd with hd|hd
       ·exact h.2 d hd
       ·exact hr d hd
 |c::d::r,out,hr,h,o,ho=>by
  unfold seqG at ho
  split at ho
  ·cases ho;exact h
  ·split at ho
   ·cases ho
   ·rename_i h3
    have one: ∀e,P e→okQ P (out++ [e]):=fun e he=>by
     refine ⟨?_,fun d hd=> ?_⟩
     ·rw [List.length_append,List.length_singleton]
      have:=h.1
      omega
     ·rcases List.mem_append.1 hd with hd|hd
      ·exact h.2 d hd
      ·rw [List.mem_singleton.1 hd];exact he
    split at ho
    ·exact seqG_ok r _ (fun e he=>hr e (List.mem_cons_of_mem _ (List.mem_cons_of_mem _ he))) (one d (hr d (by simp))) o ho
    ·exact seqG_ok (d::r) _ (fun e he=>hr e (List.mem_cons_of_mem _ he)) (one c (hr c (by simp))) o ho
termination_by r=>r.length
theorem seqS_ok {P:Nat→Prop} {r:List Nat} (hr: ∀c∈r,P c) {o:List Nat} (ho:(seqS r).1=some o):o≠[]∧okQ P o:=by
 unfold seqS at ho
 have h:=seqG_ok (P:=P) (blankS r) [] (fun c hc=>hr c ((List.dropWhile_suffix isBl).subset hc)) ⟨by simp,fun c hc=>by cases hc⟩
 rcases hg:seqG (blankS r) [] with ⟨o1,r'⟩
 rw [hg] at ho h
 cases o1 with
 |none=>cases ho
 |some o1=>
  dsimp only at ho
  split at ho
  ·cases ho
  ·rename_i h1
   cases ho
   exact ⟨h1,h o rfl⟩
def okRul (P:Nat→Prop) (x:Rul):Prop:=(1≤x.rel∧x.rel≤5)∧(x.seq≠[]∧okQ P x.seq)∧okQ P x.exp∧(x.rel=1→x.exp= [])
theorem relS_le (r:List Nat):(relS r).1≤5:=by
 unfold relS
 split
 ·simp
 ·split
  ·simp
  ·split
   ·simp
   ·have:=ltN_le 3 r
    dsimp only
    omega
theorem ruleS_ok {P:Nat→Prop} {first:Bool} {r:List Nat} (hr: ∀c∈r,P c) {x:Rul} (h:(ruleS first r).1=some x):okRul P x∧(first=true→x.rel=1):=by
 unfold ruleS at h
 split at h
 ·cases h
 ·rename_i h0
  have h1: ∀c∈(relS r).2,P c:=fun c hc=>hr c ((relS_suffix r).subset hc)
  have h2:=fun o ho=>seqS_ok h1 (o:=o) ho
  have h3:=seqS_suffix (relS r).2
  have hl:=relS_le r
  have hn:(relS r).1≠0:=fun e=>h0 (.inl e)
  have hf:first=true→(relS r).1=1:=fun hf=>Classical.byContradiction fun hn=>h0 (.inr ⟨hf,hn⟩)
  rcases hs:seqS (relS r).2 with ⟨o,r2⟩
  rw [hs] at h h2 h3
  cases o with
  |none=>cases h
  |some s=>
   dsimp only at h h2
   have hs2:=h2 s rfl
   split at h
   ·cases h
    exact ⟨⟨⟨by dsimp only;omega,by dsimp only;omega⟩,hs2,⟨by simp,fun c hc=>by cases hc⟩,fun _=>rfl⟩,hf⟩
   ·rename_i h4
    have h5: ∀c∈(blankS r2).tail,P c:=fun c hc=>h1 c (h3.subset ((List.dropWhile_suffix isBl).subset ((List.tail_suffix _).subset hc)))
    have h6:=fun o ho=>seqS_ok h5 (o:=o) ho
    rcases ht:seqS (blankS r2).tail with ⟨o3,r3⟩
    rw [ht] at h h6
    cases o3 with
    |none=>cases h
    |some y=>
     dsimp only at h h6
     cases h
     exact ⟨⟨⟨by dsimp only;omega,by dsimp only;omega⟩,hs2,(h6 y rfl).2,fun e=>absurd (.inl e) h4⟩,hf⟩
def okRuls (P:Nat→Prop) (l:List Rul):Prop:=(∀x∈l,okRul P x)∧∀x,l.head? =some x→x.rel=1
theorem parseG_ok {P:Nat→Prop}: ∀(n:Nat) (r:List Nat) (out:List Rul),(∀c∈r,P c)→okRuls P out→okRuls P (parseG n r out).1
 |0,_,_,_,h=>h
 |n+1,r,out,hr,h=>by
  unfold parseG
  split
  ·exact h
  ·have hb: ∀c∈blankS r,P c:=fun c hc=>hr c ((List.dropWhile_suffix isBl).subset hc)
   have h1:=fun x hx=>ruleS_ok (first:=out.isEmpty) hb (x:=x) hx
   have h2:=ruleS_suffix out.isEmpty (blankS r)
   rcases hs:ruleS out.isEmpty (blankS r) with ⟨o,r'⟩
   rw [hs] at h1 h2
   cases o with
   |none=>exact h
   |some x=>
    dsimp only
    obtain ⟨h3,h4⟩:=h1 x rfl
    refine parseG_ok n r' _ (fun c hc=>hb c (h2.subset hc)) ⟨fun y hy=> ?_,fun y hy=> ?_⟩
    ·rcases List.mem_append.1 hy with hy|hy
     ·exact h.1 y hy
     ·rw [List.mem_singleton.1 hy];exact h3
    ·cases out with
     |nil=>simp at hy;subst hy;exact h4 rfl
     |cons z out=>exact h.2 y (by simpa using hy)
theorem parseS_ok {P:Nat→Prop} {l:List Nat} (h: ∀c∈l,P c):okRuls P (parseS l).1:=parseG_ok _ _ _ h ⟨fun x hx=>(by cases hx),fun x hx=>(by cases hx)⟩
def posB (n:Nat) (r:List Nat):Nat:=n-(put r).length
end Go.Ux.Rules
namespace Go.Ux
open Go Go.RowKit
def incW (L x:Nat):Nat:=if L=1 then (eP x+1) % 65536*65536+x % 65536 else if L=2 then x/65536*65536+(eS x+1) % 256*256+x % 256 else x/256*256+(eT x+1) % 128*2+x % 2
def raise (L w x:Nat):Nat:=if w<wt8 L x∧(1<L∨wt8 L x≤64255) then incW L x else x
def lastW (L:Nat):Nat:=if L=1 then 64255 else if L=2 then 255 else 127
def fullT (L:Nat) (T:List Ent):Bool:=T.any fun e=>e.2.any fun x=>wt8 L x==lastW L
def lastN (L:Nat) (a:List Nat):Nat→Option Nat
 |0=>none
 |k+1=>if wt8 L (a.getD k 0)=0 then lastN L a k else some k
def newK (L x:Nat):Nat:=if L=1 then eMk (eP x+1) 32 2 false else if L=2 then x/65536*65536+(eS x+1) % 256*256+4+x % 2 else incW 3 x
def stepA (T:List Ent) (a:List Nat) (L:Nat):Nat×List Ent×List Nat:=
 match lastN L a a.length with
 |none=>(1,T,a)
 |some k=>if L=1∧64256≤eP (a.getD k 0) then (1,T,a) else if fullT L T=true then (60,T,a)
  else (0,mapE (raise L (wt8 L (a.getD k 0))) T,((a.take (k+1)).map (raise L (wt8 L (a.getD k 0)))).set k (newK L (a.getD k 0)))
theorem incW_lt (L x:Nat) (hx:x<4294967296):incW L x<4294967296:=by
 unfold incW eP eS eT
 split
 ·omega
 ·split<;>omega
theorem raise_lt (L w x:Nat) (hx:x<4294967296):raise L w x<4294967296:=by
 unfold raise
 split
 ·exact incW_lt L x hx
 ·exact hx
theorem lastN_lt {L:Nat} {a:List Nat}: ∀{n k:Nat},lastN L a n=some k→k<n∧wt8 L (a.getD k 0)≠0
 |0,k,h=>by cases h
 |n+1,k,h=>by
  unfold lastN at h
  split at h
  ·have:=lastN_lt h
   exact ⟨by omega,this.2⟩
  ·rename_i h1
   cases h
   exact ⟨Nat.lt_succ_self _,h1⟩
theorem newK_lt (L x:Nat) (hx:x<4294967296) (h1:L=1→eP x<65535):newK L x<4294967296:=by
 unfold newK
 split
 ·rename_i h
  exact eMk_lt (by have:=h1 h;omega) (by omega) (by omega)
 ·split
  ·unfold eS;omega
  ·exact incW_lt 3 x hx
theorem inc_1 (x:Nat) (h:eP x<65535):eP (incW 1 x)=eP x+1∧eS (incW 1 x)=eS x∧eT (incW 1 x)=eT x∧eV (incW 1 x)=eV x:=by
 unfold incW eV
 rw [if_pos rfl]
 unfold eP eS eT at*
 refine ⟨by omega,by omega,by omega,?_⟩
 rw [decide_eq_decide]
 omega
theorem inc_2 (x:Nat) (h:eS x<255):eP (incW 2 x)=eP x∧eS (incW 2 x)=eS x+1∧eT (incW 2 x)=eT x∧eV (incW 2 x)=eV x:=by
 unfold incW eV
 rw [if_neg (by decide),if_pos rfl]
 unfold eP eS eT at*
 refine ⟨by omega,by omega,by omega,?_⟩
 rw [decide_eq_decide]
 omega
theorem inc_3 (x:Nat) (h:eT x<127):eP (incW 3 x)=eP x∧eS (incW 3 x)=eS x∧eT (incW 3 x)=eT x+1∧eV (incW 3 x)=eV x:=by
 unfold incW eV
 rw [if_neg (by decide),if_neg (by decide)]
 unfold eP eS eT at*
 refine ⟨by omega,by omega,by omega,?_⟩
 rw [decide_eq_decide]
 omega
theorem new_1 (x:Nat):eP (newK 1 x)=eP x+1∧eS (newK 1 x)=32∧eT (newK 1 x)=2∧eV (newK 1 x)=false:=by
 unfold newK
 rw [if_pos rfl]
 unfold eMk eP eS eT eV
 simp
 omega
theorem new_2 (x:Nat) (h:eS x<255):eP (newK 2 x)=eP x∧eS (newK 2 x)=eS x+1∧eT (newK 2 x)=2∧eV (newK 2 x)=eV x:=by
 unfold newK eV
 rw [if_neg (by decide),if_pos rfl]
 unfold eP eS eT at*
 refine ⟨by omega,by omega,by omega,?_⟩
 rw [decide_eq_decide]
 omega
theorem new_3 (x:Nat):newK 3 x=incW 3 x:=by
 unfold newK
 rw [if_neg (by decide),if_neg (by decide)]
def anchorOk (T:List Ent) (a:List Nat):Prop:= ∀x∈a,x<4294967296∧((∃e∈T,x∈e.2)∨(eS x=32∧eT x=2))
theorem anchorOk.nil (T:List Ent):anchorOk T []:=fun x hx=>by cases hx
theorem full_no {L:Nat} {T:List Ent} (h:fullT L T=false) {e:Ent} (he:e∈T) {x:Nat} (hx:x∈e.2):wt8 L x≠lastW L:=fun h1=>by
 unfold fullT at h
 rw [List.any_eq_false] at h
 have:=h e he
 rw [Bool.not_eq_true,List.any_eq_false] at this
 have:=this x hx
 rw [h1] at this
 simp at this
theorem anchor_room {T:List Ent} {a:List Nat} (h:anchorOk T a) {L:Nat} (hL:L=2∨L=3) (hf:fullT L T=false) {x:Nat} (hx:x∈a):wt8 L x<lastW L:=by
 obtain ⟨h1,h2⟩:=h x hx
 rcases h2 with ⟨e,he,hxe⟩|⟨h3,h4⟩
 ·have h5:=full_no hf he hxe
  rcases hL with rfl|rfl
  ·unfold wt8 lastW eS at*
   simp at*
   omega
  ·unfold wt8 lastW eT at*
   simp at*
   omega
 ·rcases hL with rfl|rfl
  ·show eS x<255
   omega
  ·show eT x<127
   omega
theorem impl_is {c x:Nat} (h:x∈implE c) (hc:c<1114368):x<4294967296∧eS x=32∧eT x=2:=by
 refine ⟨implE_lt hc x h,?_⟩
 unfold implE at h
 simp at h
 unfold eS eT
 rcases h with rfl|rfl
 ·unfold eMk;simp;omega
 ·unfold eMk;simp;omega
theorem atE_from {T:List Ent} {s:List Nat} {i x:Nat} (hs: ∀c∈s,c<1114368) (hi:i<s.length) (h:x∈(atE T s i).1):(∃e∈T,x∈e.2)∨∃c,c<1114368∧x∈implE c:=by
 unfold atE at h
 cases hl:longE T s i (min 3 (s.length-i)) with
 |none=>
  rw [hl] at h
  exact .inr ⟨_,by rw [List.getD_eq_getElem?_getD,List.getElem?_eq_getElem hi];exact hs _ (List.getElem_mem hi),h⟩
 |some r=>
  rw [hl] at h
  have:=(longE_pos hl).2.2
  exact .inl ⟨_,findE_some this,h⟩
theorem ofE_from {T:List Ent} (hT:okT T) {s:List Nat} (hs: ∀c∈s,c<1114368): ∀(k i x:Nat),x∈ofE T s i k→x<4294967296∧((∃e∈T,x∈e.2)∨(eS x=32∧eT x=2))
 |0,_,_,h=>by unfold ofE at h;cases h
 |k+1,i,x,h=>by
  unfold ofE at h
  split at h
  ·cases h
  ·rename_i hi
   rcases List.mem_append.1 h with h|h
   ·rcases atE_from hs (Nat.lt_of_not_le hi) h with ⟨e,he,hx⟩|⟨c,hc,hx⟩
    ·exact ⟨(hT.2 e he).2.2 x hx,.inl ⟨e,he,hx⟩⟩
    ·obtain ⟨a,b⟩:=impl_is hx hc
     exact ⟨a,.inr b⟩
   ·exact ofE_from hT hs k _ x h
theorem elems_anchor {T:List Ent} (hT:okT T) {s:List Nat} (hs: ∀c∈s,c<1114368):anchorOk T (elemsE T s):=fun x hx=>ofE_from hT hs _ _ x hx
end Go.Ux
namespace Go.Ux
open Go Go.RowKit
def Tri {β:Type} (R:Value→Value→Value→β→Prop) (xs:List Value) (L:List β):Prop:=
 xs.length=L.length*3∧∀(i:Nat) (e:β),L[i]? =some e→∃a b c,xs[i*3]? =some a∧xs[i*3+1]? =some b∧xs[i*3+2]? =some c∧R a b c e
theorem Tri.nil {β:Type} (R:Value→Value→Value→β→Prop):Tri R [] []:=⟨rfl,fun i e h=>by simp at h⟩
theorem Tri.mono {β:Type} {R R':Value→Value→Value→β→Prop} (hR: ∀a b c e,R a b c e→R' a b c e) {xs:List Value} {L:List β} (h:Tri R xs L):Tri R' xs L:=
 ⟨h.1,fun i e he=>let ⟨a,b,c,h1,h2,h3,h4⟩:=h.2 i e he;⟨a,b,c,h1,h2,h3,hR _ _ _ _ h4⟩⟩
theorem Tri.snoc {β:Type} {R:Value→Value→Value→β→Prop} {xs:List Value} {L:List β} (h:Tri R xs L) {a b c:Value} {e:β} (he:R a b c e):Tri R (xs++ [a,b,c]) (L++ [e]):=by
 refine ⟨by rw [List.length_append,List.length_append,h.1];simp;omega,fun i x hx=> ?_⟩
 by_cases hi:i<L.length
 ·rw [List.getElem?_append_left hi] at hx
  obtain ⟨u,v,y,h1,h2,h3,h4⟩:=h.2 i x hx
  have hl:=h.1
  exact ⟨u,v,y,by rw [List.getElem?_append_left (by omega)];exact h1,by rw [List.getElem?_append_left (by omega)];exact h2,by rw [List.getElem?_append_left (by omega)];exact h3,h4⟩
 ·rw [List.getElem?_append_right (by omega)] at hx
  have hi0:i-L.length=0:=by
   have:=(List.getElem?_eq_some_iff.1 hx).1
   simp at this
   omega
  rw [hi0] at hx
  simp at hx
  subst hx
  have hl:=h.1
  refine ⟨a,b,c,?_,?_,?_,he⟩
  ·rw [List.getElem?_append_right (by omega),show i*3-xs.length=0 by omega];rfl
  ·rw [List.getElem?_append_right (by omega),show i*3+1-xs.length=1 by omega];rfl
  ·rw [List.getElem?_append_right (by omega),show i*3+2-xs.length=2 by omega];rfl
theorem Tri.one {β:Type} {R:Value→Value→Value→β→Prop} (hR: ∀a b c e,R a b c e→a.oneCell'=true∧b.oneCell'=true∧c.oneCell'=true) {xs:List Value} {L:List β} (h:Tri R xs L): ∀u∈xs,u.oneCell'=true:=fun u hu=>by
 obtain ⟨j,hj⟩:=List.getElem?_of_mem hu
 have hl:=(List.getElem?_eq_some_iff.1 hj).1
 have h1:=h.1
 obtain ⟨e,he⟩: ∃e,L[j/3]? =some e:=⟨_,List.getElem?_eq_getElem (by omega)⟩
 obtain ⟨a,b,c,h2,h3,h4,h5⟩:=h.2 _ _ he
 obtain ⟨k1,k2,k3⟩:=hR _ _ _ _ h5
 have hc:j=j/3*3∨j=j/3*3+1∨j=j/3*3+2:=by omega
 rcases hc with hc|hc|hc
 ·rw [hc,h2] at hj;cases hj;exact k1
 ·rw [hc,h3] at hj;cases hj;exact k2
 ·rw [hc,h4] at hj;cases hj;exact k3
end Go.Ux
namespace Go.Ux.Rules
open Go Go.RowKit Go.Ux.Sign
def Left (s:List UInt8) (p:Nat) (r:List Nat):Prop:=p≤s.length∧signs (s.drop p)=r
theorem Left.start (s:List UInt8):Left s 0 (signs s):=⟨Nat.zero_le _,by rw [List.drop_zero]⟩
theorem Left.nil_iff {s:List UInt8} {p:Nat} {r:List Nat} (h:Left s p r):r= []↔p=s.length:=by
 obtain ⟨h1,rfl⟩:=h
 constructor
 ·intro h
  have h2:=put_signs (s.drop p)
  rw [h] at h2
  have h3:=congrArg List.length h2
  rw [List.length_drop] at h3
  simp [put] at h3
  omega
 ·intro h
  rw [List.drop_eq_nil_of_le (by omega)]
  unfold signs
  rfl
theorem Left.pos {s:List UInt8} {p:Nat} {r:List Nat} (h:Left s p r):posB s.length r=p:=by
 obtain ⟨h1,rfl⟩:=h
 unfold posB
 rw [put_signs,List.length_drop]
 omega
theorem Left.step {s:List UInt8} {p:Nat} {r:List Nat} (h:Left s p r) (hp:p<s.length):r=(sg (s.drop p)).1::signs (s.drop (p+(sg (s.drop p)).2))∧Left s (p+(sg (s.drop p)).2) (signs (s.drop (p+(sg (s.drop p)).2)))∧1≤(sg (s.drop p)).2:=by
 obtain ⟨h1,rfl⟩:=h
 have hne:s.drop p≠[]:=fun e=>by
  have:=congrArg List.length e
  rw [List.length_drop] at this
  simp at this
  omega
 have hl:=sg_le hne
 rw [List.length_drop] at hl
 refine ⟨by rw [signs_cons hne,List.drop_drop],⟨by omega,rfl⟩,sgN_one _ _ _ _⟩
theorem sg_small {x:UInt8} (hx:x.toNat<128) (t:List UInt8):sg (x::t)=(x.toNat,1):=by
 unfold sg sgN
 rw [bt_zero,if_pos hx]
theorem sg_big {x:UInt8} (hx:128≤x.toNat) (t:List UInt8):128≤(sg (x::t)).1:=by
 unfold sg sgN
 rw [bt_zero,if_neg (by omega)]
 split
 ·rename_i h;unfold tl at h;dsimp only;omega
 ·split
  ·rename_i h;unfold tl v3 at h;unfold v3;dsimp only;omega
  ·split
   ·rename_i h;dsimp only;omega
   ·dsimp only;omega
theorem Left.byte {s:List UInt8} {p:Nat} {r:List Nat} (h:Left s p r) {x:UInt8} (hx:s[p]? =some x):(x.toNat<128→r=x.toNat::signs (s.drop (p+1))∧Left s (p+1) (signs (s.drop (p+1))))∧(128≤x.toNat→∃c r',r=c::r'∧128≤c):=by
 have hp:p<s.length:=(List.getElem?_eq_some_iff.1 hx).1
 have hd:s.drop p=x::s.drop (p+1):=by
  rw [List.drop_eq_getElem_cons hp]
  congr 1
  exact (List.getElem?_eq_some_iff.1 hx).2
 obtain ⟨h1,h2,h3⟩:=h.step hp
 rw [hd] at h1 h2
 constructor
 ·intro hs
  rw [sg_small hs] at h1 h2
  exact ⟨h1,h2⟩
 ·intro hs
  exact ⟨_,_,h1,sg_big hs _⟩
end Go.Ux.Rules
namespace Go.Ux.Rules
open Go Go.RowKit Go.Ux.Sign
theorem Left.head {s:List UInt8} {p:Nat} {r:List Nat} (h:Left s p r) {c:Nat} (hc:c<128):r.head? =some c↔∃x,s[p]? =some x∧x.toNat=c:=by
 cases hp:s[p]? with
 |none=>
  have:p=s.length:=by have:=List.getElem?_eq_none_iff.1 hp;have:=h.1;omega
  rw [h.nil_iff.2 this]
  simp
 |some x=>
  by_cases h1:x.toNat<128
  ·obtain ⟨h2,_⟩:=(h.byte hp).1 h1
   rw [h2]
   simp
  ·obtain ⟨d,r',h2,h3⟩:=(h.byte hp).2 (by omega)
   rw [h2]
   simp
   omega
theorem Left.tail {s:List UInt8} {p:Nat} {r:List Nat} (h:Left s p r) {x:UInt8} (hx:s[p]? =some x) (hs:x.toNat<128):Left s (p+1) r.tail:=by
 obtain ⟨h2,h3⟩:=(h.byte hx).1 hs
 rw [h2]
 exact h3
end Go.Ux.Rules
