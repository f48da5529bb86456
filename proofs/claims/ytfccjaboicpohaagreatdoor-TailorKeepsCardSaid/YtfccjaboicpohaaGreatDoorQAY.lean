/- A part of the proof that the statement holds for every input that it names. No other condition. -/
import Derived.Test.YtfccjaboicpohaaGreatDoorUxRulAY
import Derived.Test.YtfccjaboicpohaaGreatDoorTableAY
import Derived.Test.YtfccjaboicpohaaGreatDoorTableBY
import Derived.Test.YtfccjaboicpohaaGreatDoorRefAY
import Derived.Test.YtfccjaboicpohaaGreatDoorTailAY
import Derived.Test.YtfccjaboicpohaaGreatDoorTailBY
import Derived.Test.YtfccjaboicpohaaGreatDoorPlcAY
set_option linter.unusedVariables false
set_option linter.unusedSimpArgs false
namespace Go.Proofs.YtfccjaboicpohaaGreatDoor
open Go.RowKit
open Ux (Ent sv findE longE okT okE okS implE LongIs)
open Ux.Sign (cp raw)
def codeI (c:Int):Nat:=if 0≤c∧c<1114368 then c.toNat else 1114368
theorem codeI_nat {n:Nat} (h:n<1114368):codeI (n:Int)=n:=by
 have h1:0≤(n:Int)∧(n:Int)<1114368:=by omega
 unfold codeI
 rw [if_pos h1,Int.toNat_natCast]
theorem codeI_back {c:Int} {n:Nat} (hn:n<1114368) (h:codeI c=n):c=n:=by
 unfold codeI at h
 split at h<;>omega
def codeS (s:List Int):List Nat:=s.map codeI
theorem codeS_len (s:List Int):(codeS s).length=s.length:=by simp [codeS]
theorem codeS_sv: ∀{t:List Nat},(∀c∈t,c<1114368)→codeS (sv t)=t
 | [],_=>rfl
 |c::t,h=>by
  have h1:=codeI_nat (h c (by simp))
  have h2:=codeS_sv (t:=t) fun d hd=>h d (by simp [hd])
  unfold codeS sv at h2⊢
  rw [List.map_cons,List.map_cons,h1,h2]
theorem codeS_back: ∀{s:List Int} {t:List Nat},(∀c∈t,c<1114368)→codeS s=t→s=sv t
 | [],t,_,h=>by subst h;rfl
 |c::s,[],_,h=>by cases h
 |c::s,d::t,ht,h=>by
  have h1:codeI c=d:=(List.cons.inj h).1
  have h2:codeS s=t:=(List.cons.inj h).2
  show c::s=(d:Int)::sv t
  rw [codeI_back (ht d (by simp)) h1,codeS_back (fun e he=>ht e (by simp [he])) h2]
theorem codeS_sub (s:List Int) (i m:Nat):((codeS s).drop i).take m=codeS ((s.drop i).take m):=by
 unfold codeS
 rw [←List.map_drop,←List.map_take]
theorem findI_code {T:List Ent} (hT: ∀e∈T,∀c∈e.1,c<1114368) (s:List Int):findI T s=findE T (codeS s):=by
 unfold findI findE
 congr 1
 induction T with
 |nil=>rfl
 |cons e T ih=>
  have he:=hT e (by simp)
  rw [List.find?_cons,List.find?_cons,ih fun x hx=>hT x (by simp [hx])]
  have:(sv e.1==s)=(e.1==codeS s):=by
   rw [Bool.eq_iff_iff]
   simp only [beq_iff_eq]
   exact ⟨fun h=>by rw [←h,codeS_sv he],fun h=>(codeS_back he h.symm).symm⟩
  rw [this]
theorem okT_lt {T:List Ent} (h:okT T): ∀e∈T,∀c∈e.1,c<1114368:=fun e he c hc=>(h.2 e he).1.2.2 c hc
theorem keyOk_code {s:List Int} (h:keyOk s=true):s=sv (codeS s)∧okS (codeS s)∧∀c∈codeS s,cp c∨raw c:=by
 obtain ⟨t,rfl,h1,h2,h3⟩:=keyOk_sv h
 have hl: ∀c∈t,c<1114368:=fun c hc=>by have:=h3 c hc;unfold cp raw at this;omega
 rw [codeS_sv hl]
 exact ⟨rfl,⟨h1,h2,hl⟩,h3⟩
theorem findE_keyNo {T:List Ent} (hsig: ∀e∈T,∀c∈e.1,cp c∨raw c) (hok:okT T) {s:List Int} (h:keyOk s=false):findE T (codeS s)=none:=by
 cases hf:findE T (codeS s) with
 |none=>rfl
 |some l=>
  exfalso
  have hm:=Ux.findE_some hf
  have h1:=(hok.2 _ hm).1
  have h2:=hsig _ hm
  have hs:=codeS_back (s:=s) (t:=codeS s) h1.2.2 rfl
  have:keyOk s=true:=by
   unfold keyOk
   have e1:1≤s.length:=by have h:=h1.1;simp only [codeS_len] at h;exact h
   have e2:s.length≤3:=by have h:=h1.2.1;simp only [codeS_len] at h;exact h
   rw [decide_eq_true e1,decide_eq_true e2,Bool.true_and,Bool.true_and,List.all_eq_true]
   intro c hc
   rw [hs] at hc
   unfold sv at hc
   obtain ⟨n,hn,rfl⟩:=List.mem_map.1 hc
   rw [isI_nat]
   exact decide_eq_true (h2 n hn)
  rw [h] at this
  cases this
def atQ (T:List Ent) (s:List Int) (i:Nat):List Nat×Nat:=(longE T (codeS s) i (min 3 (s.length-i))).getD (implI (s.getD i 0),1)
def ofQ (T:List Ent) (s:List Int):Nat→Nat→List Nat
 |_,0=> []
 |i,k+1=>if s.length≤i then [] else (atQ T s i).1++ofQ T s (i+(atQ T s i).2) k
def elemsQ (T:List Ent) (s:List Int):List Nat:=ofQ T s 0 s.length
theorem atQ_pos (T:List Ent) (s:List Int) (i:Nat) (hi:i<s.length):1≤(atQ T s i).2∧i+(atQ T s i).2≤s.length∧(atQ T s i).2≤3:=by
 unfold atQ
 cases h:longE T (codeS s) i (min 3 (s.length-i)) with
 |none=>simp;omega
 |some x=>
  have:=Ux.longE_pos h
  simp
  omega
theorem ofQ_more (T:List Ent) (s:List Int): ∀(k i:Nat),s.length-i≤k→ofQ T s i k=ofQ T s i (s.length-i)
 |0,i,h=>by
  have:s.length-i=0:=by omega
  rw [this]
 |k+1,i,h=>by
  by_cases hi:s.length≤i
  ·have:s.length-i=0:=by omega
   rw [this]
   show ofQ T s i (k+1)= []
   simp only [ofQ,if_pos hi]
  ·have hp:=atQ_pos T s i (by omega)
   obtain ⟨j,hj⟩: ∃j,s.length-i=j+1:=⟨s.length-i-1,by omega⟩
   rw [hj,ofQ,ofQ,if_neg hi,if_neg hi,ofQ_more T s k _ (by omega),ofQ_more T s j _ (by omega)]
theorem ofQ_step {T:List Ent} {s:List Int} {i:Nat} (hi:i<s.length):ofQ T s i (s.length-i)=(atQ T s i).1++ofQ T s (i+(atQ T s i).2) (s.length-(i+(atQ T s i).2)):=by
 have hp:=atQ_pos T s i hi
 obtain ⟨j,hj⟩: ∃j,s.length-i=j+1:=⟨s.length-i-1,by omega⟩
 rw [hj,ofQ,if_neg (by omega),ofQ_more T s j _ (by omega)]
theorem ofQ_end {T:List Ent} {s:List Int} {i:Nat} (hi:s.length≤i):ofQ T s i (s.length-i)= []:=by
 have:s.length-i=0:=by omega
 rw [this]
 rfl
theorem implI_2 (c:Int):(implI c).length≤2:=by
 rw [implI_len]
 split<;>omega
theorem atQ_ok {T:List Ent} (h:okT T) {s:List Int} {i:Nat}:(atQ T s i).1.length≤8∧∀x∈(atQ T s i).1,x<4294967296∧((∃e∈T,x∈e.2)∨(Ux.eS x=32∧Ux.eT x=2)):=by
 unfold atQ
 cases hl:longE T (codeS s) i (min 3 (s.length-i)) with
 |none=>
  simp only [Option.getD_none]
  refine ⟨by have:=implI_2 (s.getD i 0);omega,fun x hx=>⟨implI_lt _ x hx,.inr ?_⟩⟩
  unfold implI at hx
  split at hx
  ·rename_i hi
   obtain ⟨n,hn,_,hlt⟩:=isI_cp hi
   rw [hn,Int.toNat_natCast] at hx
   exact (Ux.impl_is hx hlt).2
  ·cases hx
 |some x=>
  have hf:=Ux.findE_some (Ux.longE_pos hl).2.2
  have:=h.2 _ hf
  exact ⟨this.2.1,fun y hy=>⟨this.2.2 y hy,.inl ⟨_,hf,hy⟩⟩⟩
theorem ofQ_ok {T:List Ent} (h:okT T) (s:List Int): ∀k i,(ofQ T s i k).length≤8*k∧∀x∈ofQ T s i k,x<4294967296∧((∃e∈T,x∈e.2)∨(Ux.eS x=32∧Ux.eT x=2))
 |0,i=>⟨Nat.zero_le _,fun x hx=>by cases hx⟩
 |k+1,i=>by
  unfold ofQ
  split
  ·exact ⟨Nat.zero_le _,fun x hx=>by cases hx⟩
  ·have h1:=atQ_ok h (s:=s) (i:=i)
   have h2:=ofQ_ok h s k (i+(atQ T s i).2)
   refine ⟨by rw [List.length_append];omega,fun x hx=> ?_⟩
   rcases List.mem_append.1 hx with hx|hx
   ·exact h1.2 x hx
   ·exact h2.2 x hx
theorem elemsQ_ok {T:List Ent} (h:okT T) (s:List Int):(elemsQ T s).length≤8*s.length∧∀x∈elemsQ T s,x<4294967296:=⟨(ofQ_ok h s _ _).1,fun x hx=>((ofQ_ok h s _ _).2 x hx).1⟩
theorem elemsQ_anchor {T:List Ent} (h:okT T) (s:List Int):Ux.anchorOk T (elemsQ T s):=(ofQ_ok h s _ _).2
theorem longE_congr' {E T:List Ent} (h: ∀s,findE E s=findE T s) (s:List Nat) (i:Nat): ∀n,longE E s i n=longE T s i n
 |0=>rfl
 |n+1=>by rw [longE,longE,h,longE_congr' h s i n]
theorem atQ_congr {E T:List Ent} (h: ∀s,findE E s=findE T s) (s:List Int) (i:Nat):atQ E s i=atQ T s i:=by
 unfold atQ
 rw [longE_congr' h]
theorem ofQ_congr {E T:List Ent} (h: ∀s,findE E s=findE T s) (s:List Int): ∀k i,ofQ E s i k=ofQ T s i k
 |0,_=>rfl
 |k+1,i=>by rw [ofQ,ofQ,atQ_congr h,ofQ_congr h s k]
theorem elemsQ_congr {E T:List Ent} (h: ∀s,findE E s=findE T s) (s:List Int):elemsQ E s=elemsQ T s:=ofQ_congr h s _ _
end Go.Proofs.YtfccjaboicpohaaGreatDoor
namespace Go.Proofs.YtfccjaboicpohaaGreatDoor
open Go.RowKit
open Ux (Row Ent sv ev iv findE okT SameE SortedE stepA anchorOk putE)
open Ux.Sign (cp raw)
structure RulI where
 rel:Int
 seq:List Int
 exp:List Int
def ruleQ (T:List Ent) (a:List Nat) (x:RulI):Nat×List Ent×List Nat:=
 if x.rel=1 then (if 8<(elemsQ T x.seq).length then (1,T,a) else (0,T,elemsQ T x.seq))
 else if (goT T a x.rel.toNat).1≠0 then ((goT T a x.rel.toNat).1,T,a)
 else if codeE (goT T a x.rel.toNat).2.1 x.seq ((goT T a x.rel.toNat).2.2++elemsQ (goT T a x.rel.toNat).2.1 x.exp)≠0 then (codeE (goT T a x.rel.toNat).2.1 x.seq ((goT T a x.rel.toNat).2.2++elemsQ (goT T a x.rel.toNat).2.1 x.exp),T,a)
 else (0,putE (goT T a x.rel.toNat).2.1 (x.seq.map Int.toNat) ((goT T a x.rel.toNat).2.2++elemsQ (goT T a x.rel.toNat).2.1 x.exp),(goT T a x.rel.toNat).2.2)
def relOk (b:Bool) (r:Int):Bool:=(b||decide (r=1))&&decide (1≤r)&&decide (r≤5)
def applyQ:List Ent→List Nat→Bool→List RulI→Nat×List Ent
 |T,_,_,[]=>if checkE T=true then (0,T) else (3,T)
 |T,a,b,x::l=>if relOk b x.rel=false then (1,T) else if (ruleQ T a x).1≠0 then ((ruleQ T a x).1,T) else applyQ (ruleQ T a x).2.1 (ruleQ T a x).2.2 true l
def i64s (s:List Int):Prop:= ∀c∈s,-9223372036854775808≤c∧c≤9223372036854775807
def okI (x:RulI):Prop:=(-9223372036854775808≤x.rel∧x.rel≤9223372036854775807)∧(x.seq.length≤12∧i64s x.seq)∧(x.exp.length≤12∧i64s x.exp)
theorem goT_inv {T:List Ent} {a:List Nat} (h:InvT T a) {r:Nat} (hz:(goT T a r).1=0):SortedE (goT T a r).2.1∧(goT T a r).2.1.length=T.length:=by
 unfold goT at hz⊢
 by_cases h5:r<5
 ·rw [if_pos h5] at hz⊢
  obtain ⟨h1,_,_,h4,_,_⟩:=stepA_ok h _ hz
  exact ⟨h1,h4⟩
 ·rw [if_neg h5]
  exact ⟨h.sorted,rfl⟩
theorem map_sv (t:List Nat):(sv t).map Int.toNat=t:=sv_nat t
theorem ruleQ_ok {T:List Ent} {a:List Nat} (h:InvT T a) (x:RulI) (h0:(ruleQ T a x).1=0):InvT (ruleQ T a x).2.1 (ruleQ T a x).2.2:=by
 unfold ruleQ at h0⊢
 by_cases h1:x.rel=1
 ·rw [if_pos h1] at h0⊢
  split at h0
  ·cases h0
  ·rename_i h8
   rw [if_neg h8]
   exact ⟨h.sorted,h.ok,h.sig,h.len,Nat.le_of_not_lt h8,elemsQ_anchor h.ok _⟩
 ·rw [if_neg h1] at h0⊢
  obtain ⟨r,hr⟩: ∃r,x.rel.toNat=r:=⟨_,rfl⟩
  rw [hr] at h0⊢
  split at h0
  ·rename_i hz
   exact absurd h0 hz
  ·rename_i hz
   rw [if_neg hz]
   have hz:(goT T a r).1=0:=Classical.not_not.1 hz
   obtain ⟨a2,a3,a4,a5,a6⟩:=goT_ok h hz
   obtain ⟨a1,a7⟩:=goT_inv h hz
   obtain ⟨U,hU⟩: ∃t,(goT T a r).2.1=t:=⟨_,rfl⟩
   obtain ⟨b,hb⟩: ∃t,(goT T a r).2.2=t:=⟨_,rfl⟩
   rw [hU] at a1 a2 a3 a4 a7 h0⊢
   rw [hb] at a5 a6 h0⊢
   split at h0
   ·rename_i hc
    exact absurd h0 hc
   ·rename_i hc
    rw [if_neg hc]
    have hc:codeE U x.seq (b++elemsQ U x.exp)=0:=Classical.not_not.1 hc
    have hlt: ∀y∈b++elemsQ U x.exp,y<4294967296:=fun y hy=>by
     rcases List.mem_append.1 hy with hy|hy
     ·exact a6 y hy
     ·exact (elemsQ_ok a2 _).2 y hy
    obtain ⟨b1,b2,b3,b4⟩:=step_ok (E:=U) (T:=U) ⟨List.Perm.refl _,a1⟩ a2 a3 a4 x.seq _ hlt
    have hT:stepT U x.seq (b++elemsQ U x.exp)=putE U (x.seq.map Int.toNat) (b++elemsQ U x.exp):=by
     unfold stepT
     rw [if_pos hc]
    rw [hT] at b1
    have hp:=b1.1
    refine ⟨b1.2,b1.ok b2,fun e he=>b3 e (hp.mem_iff.2 he),by rw [←hp.length_eq];exact b4,a5,fun y hy=>⟨a6 y hy,.inl ⟨(x.seq.map Int.toNat,b++elemsQ U x.exp),(Ux.putE_mem a1 _).2 (.inl rfl),List.mem_append.2 (.inl hy)⟩⟩⟩
theorem applyQ_ok: ∀(l:List RulI) {T:List Ent} {a:List Nat} {b:Bool},InvT T a→(applyQ T a b l).1=0→InvT (applyQ T a b l).2 []∧checkE (applyQ T a b l).2=true
 | [],T,a,b,h,h0=>by
   unfold applyQ at h0⊢
   split at h0
   ·rename_i hc
    rw [if_pos hc]
    exact ⟨⟨h.sorted,h.ok,h.sig,h.len,by simp,anchorOk.nil _⟩,hc⟩
   ·cases h0
 |x::l,T,a,b,h,h0=>by
  unfold applyQ at h0⊢
  split at h0
  ·cases h0
  ·rename_i hb
   rw [if_neg hb]
   split at h0
   ·rename_i hc
    exact absurd h0 hc
   ·rename_i hc
    rw [if_neg hc]
    exact applyQ_ok l (ruleQ_ok h x (Classical.not_not.1 hc)) h0
def QI (w:World) (lo:Nat) (v:Value) (s:List Int):Prop:=Row w lo 3 v (iv s)
def RulesI (w:World) (lo:Nat) (v:Value) (l:List RulI):Prop:= ∃a c,v= .slice a l.length c∧∀(i:Nat) (x:RulI),l[i]? =some x→∃g v1 v2,a=some ⟨g,0,none⟩∧w.cell? ⟨g,i*3,none⟩=some (.int .i64 x.rel)∧w.cell? ⟨g,i*3+1,none⟩=some v1∧w.cell? ⟨g,i*3+2,none⟩=some v2∧QI w lo v1 x.seq∧QI w lo v2 x.exp
theorem RulesI.touch {w w':World} {lo:Nat} {v:Value} {l:List RulI} (h:RulesI w lo v l) (T:Ux.Touch (fun _=>False) w w'):RulesI w' lo v l:=by
 obtain ⟨a,c,rfl,hc⟩:=h
 refine ⟨a,c,rfl,fun i x hx=> ?_⟩
 obtain ⟨g,v1,v2,e,h1,h2,h3,h4,h5⟩:=hc i x hx
 exact ⟨g,v1,v2,e,T.cell h1 (fun f=>f),T.cell h2 (fun f=>f),T.cell h3 (fun f=>f),Row.touch0 h4 T,Row.touch0 h5 T⟩
def RulesV (w:World) (v:Value) (l:List RulI):Prop:= ∃a c,v= .slice a l.length c∧∀(i:Nat) (x:RulI),l[i]? =some x→∃g o v1 v2,a=some ⟨g,o,none⟩∧w.cell? ⟨g,o+i*3,none⟩=some (.int .i64 x.rel)∧w.cell? ⟨g,o+i*3+1,none⟩=some v1∧w.cell? ⟨g,o+i*3+2,none⟩=some v2∧(IView w v1 x.seq∧capOk v1)∧IView w v2 x.exp∧capOk v2
theorem RulesV.touch {w w':World} {v:Value} {l:List RulI} (h:RulesV w v l) (T:Ux.Touch (fun _=>False) w w'):RulesV w' v l:=by
 obtain ⟨a,c,rfl,hc⟩:=h
 refine ⟨a,c,rfl,fun i x hx=> ?_⟩
 obtain ⟨g,o,v1,v2,e,h1,h2,h3,h4,h5,h6⟩:=hc i x hx
 exact ⟨g,o,v1,v2,e,T.cell h1 (fun f=>f),T.cell h2 (fun f=>f),T.cell h3 (fun f=>f),⟨h4.1.touch0 T,h4.2⟩,h5.touch0 T,h6⟩
end Go.Proofs.YtfccjaboicpohaaGreatDoor
namespace Go.Proofs.YtfccjaboicpohaaGreatDoor
open Go.RowKit
open Ux (Row Grow iv sv Ent k3 kl3 okS okE ev TabMap Tells okT LongIs implE longE findE)
open Ux.Sign (cp raw)
theorem long_code {E:List Ent} {f:Int→Int} (h:LongIs E f) (c:Int):f (codeI c:Nat)=f c:=by
 unfold codeI
 split
 ·rename_i h1
  rw [show ((c.toNat:Nat):Int)=c by omega]
 ·rename_i h1
  rw [(h.2 c).2.2 (by omega),(h.2 _).2.2 (by omega)]
theorem implG_ (c:Int) (w:World):Calls Tryz.prog 184 #[.int .i64 c] w fun e w'=> ∃u,e= .returned u∧Row w' 0 56 u (ev (implI c))∧Ux.Touch (fun _=>False) w w':=by
 cases h:isI c with
 |false=>
  refine (impl_no c h w).mono ?_
  rintro e w' ⟨rfl,rfl⟩
  unfold implI
  rw [h]
  exact ⟨_,rfl,Row.nil _ _ _,Ux.Touch.refl _ _⟩
 |true=>
  obtain ⟨n,rfl,hc,hn⟩:=isI_cp h
  refine (impl_ n hc hn w).mono ?_
  rintro e w' ⟨rfl,rfl⟩
  unfold implI
  rw [h,if_pos rfl,Int.toNat_natCast]
  exact ⟨_,rfl,ev_rowA w (implE n) 2 rfl,(Ux.Touch.refl _ _).alloc _⟩
set_option maxHeartbeats 8000000 in
set_option maxRecDepth 100000 in
theorem atq_ (B mb:Nat) (E:List Ent) (s:List Int) (v:Value) (i:Nat) (w:World) (hT:TableAt w B mb E) (hR:Row w 0 3 v (iv s)) (hb: ∀c∈s,-9223372036854775808≤c∧c≤9223372036854775807) (hsig: ∀e∈E,∀c∈e.1,cp c∨raw c) (hl:s.length≤1000000000) (hi:i<s.length):
 Calls Tryz.prog 142 #[.pointer (some ⟨B,0,none⟩),v,.int .i64 i] w fun e w'=> ∃u,e= .returned (.tuple #[u,.int .i64 ((atQ E s i).2:Nat)])∧Row w' 0 56 u (ev (atQ E s i).1)∧Ux.Touch (fun _=>False) w w':=by
 obtain ⟨⟨h0,F,h1,h2⟩,t,ks,f,hB,hTr,hLI⟩:=hT
 obtain ⟨c,hc⟩: ∃c,s[i]? =some c:=⟨_,List.getElem?_eq_getElem hi⟩
 rcases hR with ⟨rfl,h⟩|⟨g,cap,cur,rfl,hg,hh,hc1,hc2,hc3⟩
 ·rw [List.eq_nil_of_length_eq_zero (by rw [←Ux.iv_length,h];rfl:s.length=0)] at hc
  simp at hc
 rw [Ux.iv_length] at hc1 hc3⊢
 obtain ⟨n,hn⟩: ∃n,s.length=n:=⟨_,rfl⟩
 rw [hn] at hc1 hc3 hi hl⊢
 have hcells: ∀(j:Nat) (x:Int),s[j]? =some x→w.cell? ⟨g,j,none⟩=some (.int .i64 x):=fun j x hj=>Ux.row_cell hh hc3 j _ (Ux.iv_get hj)
 obtain ⟨fc,hfc⟩: ∃fc,f c=fc:=⟨_,rfl⟩
 have hf:=hLI.2 c
 rw [hfc] at hf
 have hcb:=hb c (List.mem_of_getElem? hc)
 have f0:=hf.1
 have f3:=hf.2.1
 have n0:(n:Int)≤1000000000:=by omega
 have i0:(i:Int)<n:=by omega
 have hB0:w.cell? ⟨B,0,none⟩=some (.map (some mb)):=by rw [cell_of_row w B 0 _ _ (0,0) hB];rfl
 have hB1:w.cell? ⟨B,1,none⟩=some (.pointer (some ⟨t,0,none⟩)):=by rw [cell_of_row w B 1 _ _ (0,0) hB];rfl
 have hci:=hcells i c hc
 have HG:=Lib.hid fun w' (T:Ux.Touch (fun _=>False) w w')=>by
  have h:=get9 t ks f c w' (hTr.touch0 T) hcb.1 hcb.2 (fun c=>by have:=hLI.2 c;omega) (fun c h=>(hLI.2 c).2.2 h)
  rw [hfc] at h
  exact h
 have HQ:=Lib.hid fun w' (T:Ux.Touch (fun _=>False) w w')=>And.intro (T.cell hB1 (fun f=>f)) (T.cell hci (fun f=>f))
 have HH:=Lib.hid (And.intro h0 (And.intro h1 (And.intro h2 (And.intro hLI (And.intro hc (And.intro hcells (And.intro hsig (And.intro hn hB0))))))))
 have HF:=Lib.hid hfc
 have HIM:=Lib.hid fun W=>implG_ c W
 have hcap:(n:Int)≤cap:=by omega
 have z1:decide ((i:Int)<0)=false:=by simp
 have z2:decide ((n:Int)≤i)=false:=by simp;omega
 have z3:(0:Int)≤i:=by omega
 clear hcb h0 h1 h2 hTr hLI hB hc hh hc3 hcells hfc hf hn hsig hi hl hB0 hb
 go_enter Tryz.func142,Tryz.ntmps142
 go_upto_region 3 with (fail)
 refine Ux.wpr (fun _ w'=>w'.cell? ⟨B,1,none⟩=some (.pointer (some ⟨t,0,none⟩))∧w'.cell? ⟨g,i,none⟩=some (.int .i64 c)) (.q [0,1,2,4,5,6,9,10,11,12] (.h false [3,7] (.e 8 false false (.q [13] (.line [14]))))) ?_;repeat ((with_reducible refine Ux.qg ?_);refine Ux.qu ?_)
 clear hB1 hci
 go_wp2_with (go_at_call 183;fail)
 refine (HG.out _ (Ux.Touch.refl (fun _=>False) w).drew).mono ?_
 rintro e w1 ⟨rfl,rfl⟩
 go_wp2_with (fail)
 repeat ((with_reducible refine Ux.qg ?_);refine Ux.qu ?_)
 go_wp2
 go_loopg [8] 3 (fun g s8 wr=> ∃m:Nat,s8= .int .i64 m∧m≤g∧m≤3∧i+m≤n∧Hid (longE E (codeS s) i m=longE E (codeS s) i (min 3 (n-i))∧Ux.Touch (fun _=>False) w wr))
 case atStart=>
  refine ⟨(min fc ((n:Int)-i)).toNat,?_,by omega,by omega,by omega,Lib.hid ⟨?_,(Ux.Touch.refl (fun _=>False) w).drew⟩⟩
  ·congr 1
   omega
  ·have hcc:(codeS s)[i]? =some (codeI c):=by unfold codeS;rw [List.getElem?_map,HH.out.2.2.2.2.1];rfl
   have:=Ux.longE_min HH.out.2.2.2.1 hcc (min fc ((n:Int)-i)).toNat (by rw [long_code HH.out.2.2.2.1,HF.out,codeS_len,HH.out.2.2.2.2.2.2.2.1];omega)
   rw [codeS_len,HH.out.2.2.2.2.2.2.2.1] at this
   exact this
 case round=>
  obtain ⟨m,rfl,hmg,hm3,hmn,HI⟩:=hrel
  by_cases hm0:m=0
  ·subst hm0
   have hci:=HI.out.2.cell (HQ.out w (Ux.Touch.refl _ w)).2 (fun f=>f)
   go_wp2_with (go_at_call 184;fail)
   refine (HIM.out _).mono ?_
   rintro e w2 ⟨u,rfl,hu,T2⟩
   have HU:=Lib.hid (And.intro hu T2)
   clear hu T2 hci
   go_wp2
   go_returns
   have hA:atQ E s i=(implI c,1):=by
    unfold atQ
    rw [HH.out.2.2.2.2.2.2.2.1,←HI.out.1,List.getD_eq_getElem?_getD,HH.out.2.2.2.2.1]
    rfl
   rw [hA]
   exact ⟨_,rfl,HU.out.1,HI.out.2.trans HU.out.2 fun _ _ f=>f⟩
  ·obtain ⟨g',rfl⟩: ∃g',gk=g'+1:=⟨gk-1,by omega⟩
   have m0:(0:Int)<m:=by omega
   have m3:(m:Int)≤3:=by omega
   have mn:(i:Int)+m≤n:=by omega
   have hlen:((s.drop i).take m).length=m:=by rw [List.length_take,List.length_drop,HH.out.2.2.2.2.2.2.2.1];omega
   have hview:IView wr (.slice (some ⟨g,i,none⟩) m (cap-i)) ((s.drop i).take m):=by
    refine ⟨some ⟨g,i,none⟩,cap-i,by rw [hlen],fun j x hj=>⟨g,i,rfl,?_⟩⟩
    have:s[i+j]? =some x:=by
     rw [List.getElem?_take] at hj
     split at hj
     ·rw [List.getElem?_drop] at hj
      exact hj
     ·cases hj
    exact HI.out.2.cell (HH.out.2.2.2.2.2.1 _ _ this) (fun f=>f)
   have HV:=Lib.hid (And.intro hview (And.intro hlen hm0))
   clear hview hlen hm0
   cases hko:keyOk ((s.drop i).take m) with
   |false=>
    have HKN:=Lib.hid (keyNo_ _ hko (by rw [HV.out.2.1];omega) _ wr HV.out.1)
    have hnone:longE E (codeS s) i m=longE E (codeS s) i (m-1):=Ux.longE_none (by have:=HV.out.2.2;omega) (by rw [codeS_sub];exact findE_keyNo HH.out.2.2.2.2.2.2.1 HH.out.1 hko)
    have HNO:=Lib.hid hnone
    clear hko hnone
    go_wp2_with (go_at_call 61;fail)
    refine HKN.out.mono ?_
    rintro e w2 ⟨x,y,z,rfl,T2⟩
    have HT2:=Lib.hid (HI.out.2.trans T2 fun _ _ f=>f)
    clear T2
    go_wp2
    go_roundg g'
    case measure=>omega
    case rel=>
     refine ⟨m-1,by congr 1;omega,by omega,by omega,by omega,Lib.hid ⟨?_,by repeat (first|exact HT2.out|refine Ux.Touch.drew ?_|refine Ux.Touch.alloc ?_ _)⟩⟩
     rw [←HI.out.1,HNO.out]
   |true=>
    obtain ⟨kb,k1,k4⟩:=keyOk_code hko
    obtain ⟨x,y,z,hk3⟩:=k3_is k1
    have HK:=Lib.hid (And.intro k1 (And.intro kb (And.intro k4 hk3)))
    have HS:=Lib.hid (show SView wr (.slice (some ⟨g,i,none⟩) m (cap-i)) (codeS ((s.drop i).take m)) by
     have h:=HV.out.1
     rw [kb] at h
     exact h.s)
    clear k1 kb k4 hk3 hko
    have hlk: ∀w',Ux.Touch (fun _=>False) w w'→(Instr.lookup 103 (.map (some mb)) (.agg #[.int .i64 x,.int .i64 y,.int .i64 z]) true).run Tryz.prog w'= .ok (.tuple #[(F (kl3 (codeS ((s.drop i).take m)))).getD (.slice none 0 0),.bool (F (kl3 (codeS ((s.drop i).take m)))).isSome]) w':=fun w' T=>by
     have h:=(HH.out.2.1.touch T (fun f=>f)).lookOk keyedS Tryz.underlying103 (zeroEs w') (keyS HK.out.1)
     rw [HK.out.2.2.2] at h
     exact h
    have hfind:=Ux.Tells.find HH.out.1 HH.out.2.2.1 HK.out.1
    go_wp2_with (go_at_call 61;fail)
    refine (key3_ _ HK.out.1 HK.out.2.2.1 _ _ HS.out x y z HK.out.2.2.2).mono ?_
    rintro e w2 ⟨rfl,T2⟩
    have T2:=HI.out.2.trans T2 fun _ _ f=>f
    obtain ⟨q2,hq2⟩: ∃q2,w2.heap.size=q2:=⟨_,rfl⟩
    have HT:=Lib.hid (T2.alloc (.cells #[.int .i64 x,.int .i64 y,.int .i64 z] 105))
    have hd0:(w2.alloc (.cells #[.int .i64 x,.int .i64 y,.int .i64 z] 105)).cell? ⟨q2,0,none⟩=some (.int .i64 x):=by rw [←hq2,Ux.cell_newg];rfl
    have hd1:(w2.alloc (.cells #[.int .i64 x,.int .i64 y,.int .i64 z] 105)).cell? ⟨q2,1,none⟩=some (.int .i64 y):=by rw [←hq2,Ux.cell_newg];rfl
    have hd2:(w2.alloc (.cells #[.int .i64 x,.int .i64 y,.int .i64 z] 105)).cell? ⟨q2,2,none⟩=some (.int .i64 z):=by rw [←hq2,Ux.cell_newg];rfl
    have hb0:(w2.alloc (.cells #[.int .i64 x,.int .i64 y,.int .i64 z] 105)).cell? ⟨B,0,none⟩=some (.map (some mb)):=HT.out.cell HH.out.2.2.2.2.2.2.2.2 (fun f=>f)
    have HLK:=Lib.hid hlk
    cases hfe:findE E (codeS ((s.drop i).take m)) with
    |some l=>
     rw [hfe] at hfind
     obtain ⟨u,hu,hrow⟩:=hfind
     rw [hu] at HLK
     simp only [Option.getD_some,Option.isSome_some] at HLK
     have HU:=Lib.hid (And.intro hrow hfe)
     clear hlk hfe hu hrow T2
     go_upto_region 8 with (fail)
     refine Ux.wpr (fun _ w'=>w'.cell? ⟨B,0,none⟩=some (.map (some mb))∧w'.cell? ⟨q2,0,none⟩=some (.int .i64 x)∧w'.cell? ⟨q2,1,none⟩=some (.int .i64 y)∧w'.cell? ⟨q2,2,none⟩=some (.int .i64 z)) (.q [0,1,2] (.h false [3,4] (.e 5 true false (.q [6,7,8,9] (.line [10]))))) ?_;repeat ((with_reducible refine Ux.qg ?_);refine Ux.qu ?_)
     go_wp2_with (at_lookup;refine Ux.wpList_look rfl _ _ 103 rfl rfl rfl (HLK.out _ HT.out.drew) ?_)
     refine ⟨by simp only [World.cell?_drew];exact ⟨hb0,hd0,hd1,hd2⟩,?_⟩
     repeat ((with_reducible refine Ux.qg ?_);refine Ux.qu ?_)
     go_wp2
     go_ret2
     have hA:atQ E s i=(l,m):=by
      unfold atQ
      rw [HH.out.2.2.2.2.2.2.2.1,←HI.out.1,Ux.longE_some (by have:=HV.out.2.2;omega) (by rw [codeS_sub];exact HU.out.2)]
      rfl
     rw [hA]
     exact ⟨u,rfl,HU.out.1.touch0 HT.out.drew,HT.out.drew⟩
    |none=>
     rw [hfe] at hfind
     simp only at hfind
     rw [hfind] at HLK
     simp only [Option.getD_none,Option.isSome_none] at HLK
     have HU:=Lib.hid hfe
     clear hlk hfe hfind T2
     go_upto_region 8 with (fail)
     refine Ux.wpr (fun _ w'=>w'.cell? ⟨B,0,none⟩=some (.map (some mb))∧w'.cell? ⟨q2,0,none⟩=some (.int .i64 x)∧w'.cell? ⟨q2,1,none⟩=some (.int .i64 y)∧w'.cell? ⟨q2,2,none⟩=some (.int .i64 z)) (.q [0,1,2] (.h false [3,4] (.e 5 true false (.q [6,7,8,9] (.line [10]))))) ?_;repeat ((with_reducible refine Ux.qg ?_);refine Ux.qu ?_)
     go_wp2_with (at_lookup;refine Ux.wpList_look rfl _ _ 103 rfl rfl rfl (HLK.out _ HT.out.drew) ?_)
     refine ⟨by simp only [World.cell?_drew];exact ⟨hb0,hd0,hd1,hd2⟩,?_⟩
     repeat ((with_reducible refine Ux.qg ?_);refine Ux.qu ?_)
     go_wp2
     go_roundg g'
     case measure=>omega
     case rel=>
      refine ⟨m-1,by congr 1;omega,by omega,by omega,by omega,Lib.hid ⟨?_,HT.out.drew⟩⟩
      have hno:longE E (codeS s) i m=longE E (codeS s) i (m-1):=Ux.longE_none (by have:=HV.out.2.2;omega) (by rw [codeS_sub];exact HU.out)
      rw [←HI.out.1,hno]
set_option maxHeartbeats 4000000 in
set_option maxRecDepth 100000 in
theorem ofq_ (B mb:Nat) (E:List Ent) (s:List Int) (v:Value) (w:World) (hT:TableAt w B mb E) (hR:Row w 0 3 v (iv s)) (hb: ∀c∈s,-9223372036854775808≤c∧c≤9223372036854775807) (hsig: ∀e∈E,∀c∈e.1,cp c∨raw c) (hl:s.length≤1000000000):
 Calls Tryz.prog 96 #[.pointer (some ⟨B,0,none⟩),v] w fun e w'=> ∃u,e= .returned u∧Row w' w.heap.size 56 u (ev (elemsQ E s))∧Ux.Touch (fun _=>False) w w':=by
 obtain ⟨a,cap,hv,_⟩:=hR.is
 rw [Ux.iv_length] at hv
 obtain ⟨n,hn⟩: ∃n,s.length=n:=⟨_,rfl⟩
 rw [hn] at hv hl
 subst hv
 have hok:=hT.1.1
 have HA:=Lib.hid fun w' (i:Nat) (T:Ux.Touch (fun _=>False) w w') (hi:i<n)=>atq_ B mb E s _ i w' (hT.touch0 T) (hR.touch0 T) hb hsig (by omega) (by omega)
 have HH:=Lib.hid (And.intro hn hok)
 clear hT hR hb hsig hn hok
 go_enter Tryz.func96,Tryz.ntmps96
 go_wp2
 go_loopg [5,6] n (fun g s5 s6 wr=> ∃(i:Nat) (acc:List Nat),s6= .int .i64 i∧i≤n∧n-i≤g∧Hid (acc++ofQ E s i (n-i)=elemsQ E s∧acc.length≤8*i∧Grow wr w.heap.size 56 s5 (ev acc)∧Ux.Touch (fun _=>False) w wr))
 case atStart=>
  exact ⟨0,[],rfl,Nat.zero_le _,by omega,Lib.hid ⟨by unfold elemsQ;rw [HH.out.1];rfl,by simp,Grow.nil _ _ _,Ux.Touch.refl _ _⟩⟩
 case round=>
  obtain ⟨i,acc,rfl,hin,hig,HI⟩:=hrel
  by_cases h0:i=n
  ·subst h0
   obtain ⟨v',hr,hc⟩:=clipE HI.out.2.2.1.row
   have HC:=Lib.hid hc
   have HR:=Lib.hid hr
   clear hc hr
   go_wp2_with (go_at_call 65;refine HC.out.mono ?_;rintro e w' ⟨rfl,rfl⟩)
   go_ret
   refine ⟨_,rfl,?_,HI.out.2.2.2⟩
   have e:=HI.out.1
   rw [←HH.out.1,ofQ_end (Nat.le_refl _),List.append_nil] at e
   rw [←e]
   exact HR.out
  ·obtain ⟨g',rfl⟩: ∃g',gk=g'+1:=⟨gk-1,by omega⟩
   have i0:(i:Int)<n:=by omega
   have hil:i<s.length:=by have:=HH.out.1;omega
   have hp:=atQ_pos E s i hil
   have hq:=atQ_ok HH.out.2 (s:=s) (i:=i)
   have hstep:=ofQ_step (T:=E) hil
   rw [HH.out.1] at hstep
   obtain ⟨l,hl1⟩: ∃l,(atQ E s i).1=l:=⟨_,rfl⟩
   obtain ⟨k,hk1⟩: ∃k,(atQ E s i).2=k:=⟨_,rfl⟩
   have hat:=HA.out wr i HI.out.2.2.2 (by omega)
   rw [hl1,hk1] at hat hstep
   rw [hk1,HH.out.1] at hp
   rw [hl1] at hq
   have HX:=Lib.hid (And.intro hp (And.intro hq hstep))
   have HAT:=Lib.hid hat
   have k0:(i:Int)+k≤n:=by omega
   clear hp hq hstep hl1 hk1 hat h0 hil
   go_wp2_with (go_at_call 142;fail)
   refine HAT.out.mono ?_
   rintro e w2 ⟨u,rfl,hu,T2⟩
   have hn2:=HI.out.2.1
   have hl8:=HX.out.2.1.1
   obtain ⟨r,w3,hrun,hG2,hT3⟩:=(HI.out.2.2.1.touch0 T2).appRow (P:=Tryz.prog) 49 4 _ Tryz.underlying49 infoE rfl u (ev l) hu (ev_one l) (by have:=(HI.out.2.2.2.trans T2 fun _ _ f=>f).size;omega) (by rw [Ux.ev_length,Ux.ev_length];simp only [maxLen];omega) (by rw [Ux.ev_length,Ux.ev_length];omega)
   have HR:=Lib.hid (And.intro hrun (And.intro hG2 (And.intro hT3 T2)))
   clear hrun hG2 hT3 T2 hu hn2 hl8
   go_wp2_with (at_builtin;refine Ux.wpList_app (v1:=u5) (x1:=u) rfl _ _ _ _ rfl rfl rfl (HR.out.1 _) ?_)
   go_roundg g'
   case measure=>omega
   case rel=>
    have hp:=HX.out.1
    have hl8:=HX.out.2.1.1
    have hn2:=HI.out.2.1
    refine ⟨i+k,acc++l,by congr 1,by omega,by omega,Lib.hid ⟨?_,by simp;omega,by rw [Ux.ev_append];exact HR.out.2.1,?_⟩⟩
    ·rw [←HI.out.1,HX.out.2.2,List.append_assoc]
    ·exact Ux.Touch.own (HI.out.2.2.2.trans HR.out.2.2.2 fun _ _ f=>f) (Nat.le_refl _) HR.out.2.2.1
end Go.Proofs.YtfccjaboicpohaaGreatDoor
namespace Go.Proofs.YtfccjaboicpohaaGreatDoor
open Go.RowKit
open Ux (Ent sv iv findE longE KGrow okT)
open Ux.Sign (cp raw)
theorem IView.sub {w:World} {g o n c:Nat} {s:List Int} (h:IView w (.slice (some ⟨g,o,none⟩) n c) s) (i m:Nat) (hm:i+m≤s.length) (c':Nat):IView w (.slice (some ⟨g,o+i,none⟩) m c') ((s.drop i).take m):=by
 obtain ⟨a,k,e,hc⟩:=h
 cases e
 refine ⟨_,c',by rw [List.length_take,List.length_drop,Nat.min_eq_left (by omega)],fun j x hj=>⟨g,o+i,rfl,?_⟩⟩
 have:s[i+j]? =some x:=by
  rw [List.getElem?_take] at hj
  split at hj
  ·rw [List.getElem?_drop] at hj
   exact hj
  ·cases hj
 obtain ⟨g',o',e,h1⟩:=hc _ _ this
 cases e
 rw [Nat.add_assoc]
 exact h1
set_option maxHeartbeats 8000000 in
set_option maxRecDepth 100000 in
theorem ratq_ (v vs:Value) (T:List Ent) (s:List Int) (A:Nat→Prop) (i:Nat) (w:World) (hT:RRows w A v T) (hs:IView w vs s) (hcap:capOk vs) (hok:okT T) (h1:T.length≤1000000) (h2:s.length≤1000000000) (hi:i<s.length):
 Calls Tryz.prog 105 #[.agg #[v],vs,.int .i64 i] w fun e w'=> ∃u,e= .returned (.tuple #[u,.int .i64 ((atQ T s i).2:Nat)])∧RRow w' u (atQ T s i).1∧Ux.Touch (fun _=>False) w w':=by
 obtain ⟨c,hc⟩: ∃c,s[i]? =some c:=⟨_,List.getElem?_eq_getElem hi⟩
 have h3: ∀e∈T,e.1.length≤1000000000:=fun e he=>by have:=(hok.2 e he).1.2.1;omega
 have hss:=hs
 have hTT:=hT
 obtain ⟨_,a,ca,rfl,_,_⟩:=hT
 obtain ⟨a1,c1,rfl,hc1⟩:=hs
 obtain ⟨g,o,rfl,hci⟩:=hc1 i c hc
 have hcap:s.length≤c1:=hcap
 obtain ⟨n,hn⟩: ∃n,s.length=n:=⟨_,rfl⟩
 obtain ⟨N,hN⟩: ∃N,T.length=N:=⟨_,rfl⟩
 have HF:=Lib.hid fun W (T1:Ux.Touch (fun _=>False) w W) (m:Nat) (hm:i+m≤n)=>by
  have h:=rfind_ (.slice a N ca) (.slice (some ⟨g,o+i,none⟩) m (c1-i)) T ((s.drop i).take m) A W (by rw [←hN];exact hTT.touch0 T1) ((hss.sub i m (by omega) (c1-i)).touch0 T1) h1 (by simp;omega) h3
  rw [findI_code (okT_lt hok),←codeS_sub] at h
  exact h
 rw [hn] at hss hcap h2 hi⊢
 rw [hN] at hTT h1⊢
 have n0:(n:Int)≤1000000000:=by omega
 have i0:(i:Int)<n:=by omega
 have hcap0:(n:Int)≤c1:=by omega
 have HI1:=Lib.hid fun W=>rimplG_ c W
 have HH:=Lib.hid (And.intro hn (And.intro hc hci))
 have z1:decide ((i:Int)<0)=false:=by simp
 have z2:decide ((n:Int)≤i)=false:=by simp;omega
 have z3:(0:Int)≤i:=by omega
 clear hcap hn hN hTT hss hc1 h1 h2 h3 hi hc hci hok
 go_enter Tryz.func105,Tryz.ntmps105
 go_wp2
 all_goals
  go_loopg [8] 3 (fun gk s8 wr=> ∃m:Nat,s8= .int .i64 m∧m≤gk∧m≤3∧i+m≤n∧wr.cell? ⟨w.heap.size,0,none⟩=some (.slice a N ca)∧Hid (longE T (codeS s) i m=longE T (codeS s) i (min 3 (n-i))∧Ux.Touch (fun _=>False) w wr))
  case atStart=>
   refine ⟨(min (3:Int) ((n:Int)-i)).toNat,?_,by omega,by omega,by omega,by simp [Ux.cell_newg],Lib.hid ⟨?_,(Ux.Touch.refl _ _).alloc _⟩⟩
   ·congr 1
    omega
   ·congr 1
    omega
  case round=>
   obtain ⟨m,rfl,hmg,hm3,hmn,hb,HI⟩:=hrel
   by_cases hm0:m=0
   ·subst hm0
    have hci:=HI.out.2.cell HH.out.2.2 (fun f=>f)
    clear hb
    go_wp2_with (go_at_call 157;fail)
    refine (HI1.out _).mono ?_
    rintro e w2 ⟨u,rfl,hu,T2⟩
    have HU:=Lib.hid (And.intro hu T2)
    clear hu T2 hci
    go_wp2
    go_returns
    have hA:atQ T s i=(implI c,1):=by
     unfold atQ
     rw [HH.out.1,←HI.out.1,List.getD_eq_getElem?_getD,HH.out.2.1]
     rfl
    rw [hA]
    exact ⟨_,rfl,HU.out.1,HI.out.2.trans HU.out.2 fun _ _ f=>f⟩
   ·obtain ⟨g',rfl⟩: ∃g',gk=g'+1:=⟨gk-1,by omega⟩
    have m0:(1:Int)≤m:=by omega
    have m3:(m:Int)≤3:=by omega
    have mn:(i:Int)+m≤n:=by omega
    have HK:=Lib.hid hm0
    have HB:=Lib.hid fun W (T1:Ux.Touch (fun _=>False) wr W)=>T1.cell hb (fun f=>f)
    clear hm0
    go_upto_region 6 with (fail)
    refine Ux.wpr (fun _ w'=>w'.cell? ⟨w.heap.size,0,none⟩=some (.slice a N ca)) (.h false [0] (.q [1,2,3,4,5,6] (.e 7 false false (.q [8,9,10,11] (.line [12]))))) ?_;repeat ((with_reducible refine Ux.qg ?_);refine Ux.qu ?_)
    clear hb
    go_wp2_with (go_at_call 22;fail)
    refine (HF.out _ HI.out.2.drew m hmn).mono ?_
    rintro e w2 ⟨u,rfl,hu,T2⟩
    have HU:=Lib.hid (And.intro hu (HI.out.2.drew.trans T2 fun _ _ f=>f))
    have hb:=HB.out w2 ((Ux.Touch.refl (fun _=>False) wr).drew.trans T2 fun _ _ f=>f)
    clear hu T2
    cases hfe:findE T (((codeS s).drop i).take m) with
    |some l=>
     have HX:=Lib.hid hfe
     rw [hfe] at HU
     clear hfe
     go_wp2_with (fail)
     repeat ((with_reducible refine Ux.qg ?_);refine Ux.qu ?_)
     go_wp2
     go_returns
     have hA:atQ T s i=(l,m):=by
      unfold atQ
      rw [HH.out.1,←HI.out.1,Ux.longE_some (by omega) HX.out]
      rfl
     rw [hA]
     exact ⟨u,rfl,HU.out.1,HU.out.2⟩
    |none=>
     have HX:=Lib.hid hfe
     rw [hfe] at HU
     clear hfe
     go_wp2_with (fail)
     repeat ((with_reducible refine Ux.qg ?_);refine Ux.qu ?_)
     go_wp2
     go_roundg g'
     case measure=>omega
     case rel=>
      refine ⟨m-1,by congr 1;omega,by omega,by omega,by omega,hb,Lib.hid ⟨?_,HU.out.2⟩⟩
      rw [←HI.out.1,Ux.longE_none (by have:=HK.out;omega) HX.out]
set_option maxHeartbeats 8000000 in
set_option maxRecDepth 100000 in
theorem rofsq_ (v vs:Value) (T:List Ent) (s:List Int) (A:Nat→Prop) (w:World) (hT:RRows w A v T) (hs:IView w vs s) (hcap:capOk vs) (hok:okT T) (h1:T.length≤1000000) (h2:s.length≤100000000):
 Calls Tryz.prog 55 #[.agg #[v],vs] w fun e w'=> ∃u,e= .returned u∧(RRow w' u (elemsQ T s)∧capOk u∧∀g,u.ownBlock=some g→g<w'.heap.size)∧(∀b,u.ownBlock=some b→w.heap.size≤b)∧Ux.Touch (fun _=>False) w w':=by
 have HA:=Lib.hid fun W (i:Nat) (T1:Ux.Touch (fun _=>False) w W) (hi:i<s.length)=>ratq_ v vs T s A i W (hT.touch0 T1) (hs.touch0 T1) hcap hok h1 (by omega) hi
 obtain ⟨_,a,ca,rfl,_,_⟩:=hT
 obtain ⟨a1,c1,rfl,_⟩:=hs
 obtain ⟨n,hn⟩: ∃n,s.length=n:=⟨_,rfl⟩
 obtain ⟨N,hN⟩: ∃N,T.length=N:=⟨_,rfl⟩
 rw [hn] at h2⊢
 rw [hN]
 have HA:=HA.out
 rw [hn,hN] at HA
 have HA:=Lib.hid HA
 have n0:(n:Int)≤100000000:=by omega
 have HH:=Lib.hid (And.intro hn hok)
 clear hcap hn hN hok h1 h2
 go_enter Tryz.func55,Tryz.ntmps55
 go_wp2
 go_loopg [5,6] n (fun gk s5 s6 wr=> ∃(i:Nat) (acc:List Nat),s6= .int .i64 i∧i≤n∧n-i≤gk∧wr.cell? ⟨w.heap.size,0,none⟩=some (.slice a N ca)∧Hid (acc++ofQ T s i (n-i)=elemsQ T s∧acc.length≤8*i∧KGrow wr (w.heap.size+1) 121 4 s5 acc.length (rv acc)∧Ux.Touch (fun _=>False) w wr∧w.heap.size+1≤wr.heap.size))
 case atStart=>
  exact ⟨0,[],rfl,Nat.zero_le _,by omega,by simp [Ux.cell_newg],Lib.hid ⟨by unfold elemsQ;rw [HH.out.1];rfl,by simp,KGrow.nil _ _ _ _,(Ux.Touch.refl _ _).alloc _,by simp⟩⟩
 case round=>
  obtain ⟨i,acc,rfl,hin,hig,hb,HI⟩:=hrel
  by_cases h0:i=n
  ·subst h0
   clear hb
   go_wp2
   go_returns
   have e:=HI.out.1
   rw [←HH.out.1,ofQ_end (Nat.le_refl _),List.append_nil] at e
   rw [←e]
   exact ⟨_,rfl,⟨RRow.of_grow rfl HI.out.2.2.1,capOk_grow HI.out.2.2.1,fun g hg=>Ux.own_lt HI.out.2.2.1.1 g hg⟩,fun b hb=>by have:=HI.out.2.2.1.2 b hb;omega,HI.out.2.2.2.1⟩
  ·obtain ⟨g',rfl⟩: ∃g',gk=g'+1:=⟨gk-1,by omega⟩
   have i0:(i:Int)<n:=by omega
   have hil:i<s.length:=by have:=HH.out.1;omega
   have hp:=atQ_pos T s i hil
   have hq:=atQ_ok HH.out.2 (s:=s) (i:=i)
   have hstep:=ofQ_step (T:=T) hil
   rw [HH.out.1] at hstep
   obtain ⟨l,hl1⟩: ∃l,(atQ T s i).1=l:=⟨_,rfl⟩
   obtain ⟨k,hk1⟩: ∃k,(atQ T s i).2=k:=⟨_,rfl⟩
   have hat:=HA.out wr i HI.out.2.2.2.1 (by omega)
   rw [hl1,hk1] at hat hstep
   rw [hk1,HH.out.1] at hp
   rw [hl1] at hq
   have HX:=Lib.hid (And.intro hp (And.intro hq hstep))
   have HAT:=Lib.hid hat
   have k0:(i:Int)+k≤n:=by omega
   clear hp hq hstep hl1 hk1 hat h0 hil
   go_wp2_with (go_at_call 105;fail)
   refine HAT.out.mono ?_
   rintro e w2 ⟨u,rfl,hu,T2⟩
   have hn2:=HI.out.2.1
   have hl8:=HX.out.2.1.1
   obtain ⟨r,w3,hrun,hG2,hT3⟩:=(HI.out.2.2.1.touch0 T2).app (P:=Tryz.prog) 50 32 _ Tryz.underlying50 infoRE rfl (by omega) u l.length (rv l) hu.src (by have:=T2.size;have:=HI.out.2.2.2.2;omega) (by simp only [maxLen];omega) (by omega)
   have hb2:=hT3.cell (T2.cell hb (fun f=>f)) (fun h=>by have h1:w.heap.size+1≤w.heap.size:=h.1;omega)
   have hsz3:=hT3.size
   have HR:=Lib.hid (And.intro hrun (And.intro hG2 (And.intro hT3 (And.intro T2 hsz3))))
   clear hrun hG2 hT3 T2 hu hn2 hl8 hb hsz3
   go_wp2_with (at_builtin;refine Ux.wpList_app (v1:=u5) (x1:=u) rfl _ _ _ _ rfl rfl rfl (HR.out.1 _) ?_)
   go_roundg g'
   case measure=>omega
   case rel=>
    have hp:=HX.out.1
    have hl8:=HX.out.2.1.1
    have hn2:=HI.out.2.1
    refine ⟨i+k,acc++l,by congr 1,by omega,by omega,hb2,Lib.hid ⟨?_,by simp;omega,by rw [rv_app,List.length_append];exact HR.out.2.1,?_,?_⟩⟩
    ·rw [←HI.out.1,HX.out.2.2,List.append_assoc]
    ·exact Ux.Touch.own (HI.out.2.2.2.1.trans HR.out.2.2.2.1 fun _ _ f=>f) (Nat.le_succ _) HR.out.2.2.1
    ·have:=HR.out.2.2.2.1.size
     have:=HR.out.2.2.2.2
     have:=HI.out.2.2.2.2
     omega
end Go.Proofs.YtfccjaboicpohaaGreatDoor
namespace Go.Proofs.YtfccjaboicpohaaGreatDoor
open Go.RowKit
open Ux (Row Ent sv ev iv Grow KGrow Tri)
theorem IView.src {w:World} {v:Value} {s:List Int} (h:IView w v s):Src Tryz.prog 1 23 v s.length (iv s) w:=by
 obtain ⟨a,c,rfl,hc⟩:=h
 refine Ux.src_at Tryz.underlying23 1 _ c a _ (by rw [Ux.iv_length];omega) (Ux.iv_one _) (fun j u hj=> ?_) (by omega)
 unfold iv at hj
 rw [List.getElem?_map] at hj
 obtain ⟨x,hx,rfl⟩:=Option.map_eq_some_iff.1 hj
 exact hc j x hx
theorem copyV (W:World) (b:Nat) (hb:W.heap[b]? =some (.cells #[] 3 (0,0))) (u:Value) (ys:List Int) (hu:IView W u ys) (hy:ys.length≤1000000):
 ∃r w',(∀ty,(Builtin.append_ #[23,23] ty #[.slice (some ⟨b,0,none⟩) 0 0,u]).run Tryz.prog W= .ok r w')∧Row w' 0 3 r (iv ys)∧Ux.Touch (fun x=>x=b) W w'∧∀x,r.ownBlock=some x→x=b∨W.heap.size≤x:=by
 have hlt:b<W.heap.size:=by
  rcases Nat.lt_or_ge b W.heap.size with h|h
  ·exact h
  ·rw [Array.getElem?_eq_none h] at hb;cases hb
 have hG:KGrow W 0 3 1 (.slice (some ⟨b,0,none⟩) 0 0) 0 []:=⟨⟨rfl,.inr ⟨b,0,#[],rfl,Nat.zero_le _,hb,Nat.le_refl _,Nat.zero_le _,rfl,rfl⟩⟩,fun x hx=>Nat.zero_le _⟩
 obtain ⟨r,w',h1,h2,h3,h4⟩:=hG.app' 23 8 (.int .i64 0) Tryz.underlying23 infoI rfl (by omega) u _ (iv ys) hu.src (Nat.zero_le _) (by simp only [maxLen];omega) (by omega)
 refine ⟨r,w',h1,?_,?_,?_⟩
 ·have h2:KGrow w' 0 3 1 r (iv ys).length ([]++iv ys):=by rw [Ux.iv_length];rw [Nat.zero_add] at h2;exact h2
  have:=(Row.own h2.1 h2.2).1
  rwa [List.nil_append] at this
 ·exact h3.mono fun x _ hx=>by
   have:=hx.2
   simp [Value.ownBlock] at this
   exact this.symm
 ·intro x hx
  rcases h4 with e|⟨g,e,hg⟩
  ·rw [e] at hx
   simp [Value.ownBlock] at hx
   exact .inl hx.symm
  ·rw [e] at hx
   cases hx
   exact .inr hg
def TriI (w:World) (lo:Nat) (xs:List Value) (l:List RulI):Prop:=Tri (fun a b c (e:RulI)=>a= .int .i64 e.rel∧QI w lo b e.seq∧QI w lo c e.exp) xs l
theorem TriI.touch {R:Nat→Prop} {w w':World} {lo:Nat} {xs:List Value} {l:List RulI} (h:TriI w lo xs l) (T:Ux.Touch R w w') (hR: ∀g cs,w.heap[g]? =some (.cells cs 3 (0,0))→¬R g):TriI w' lo xs l:=
 Tri.mono (fun a b c e he=>⟨he.1,he.2.1.touch T fun g _ hb=>let ⟨cs,hk⟩:=he.2.1.kind hb;hR g cs hk,he.2.2.touch T fun g _ hb=>let ⟨cs,hk⟩:=he.2.2.kind hb;hR g cs hk⟩) h
theorem rulesI_of {w:World} {lo lo':Nat} (hl:lo'≤lo) {a:Option Addr} {k c c':Nat} {l:List RulI} {xs:List Value} (h:KGrow w lo 117 3 (.slice a k c) k xs) (hk:l.length=k) (ht:TriI w lo xs l):RulesI w lo' (.slice a k c') l:=by
 obtain ⟨a',c1,e,hc⟩:=h.is
 cases e
 refine ⟨a,c',by rw [hk],fun i x hx=> ?_⟩
 obtain ⟨u,v1,v2,h1,h2,h3,rfl,h4,h5⟩:=ht.2 i x hx
 obtain ⟨g,rfl,_,k1⟩:=hc _ _ h1
 obtain ⟨g',e2,_,k2⟩:=hc _ _ h2
 obtain ⟨g'',e3,_,k3⟩:=hc _ _ h3
 cases e2;cases e3
 exact ⟨g,v1,v2,rfl,k1,k2,k3,Row.mono h4 hl,Row.mono h5 hl⟩
def BunI (w:World) (lo:Nat) (v:Value) (k:Nat) (xs:List Value) (out:List RulI):Prop:=KGrow w lo 117 3 v k xs∧TriI w 0 xs out
set_option maxHeartbeats 8000000 in
set_option maxRecDepth 100000 in
theorem of6q_ (l:List RulI) (v:Value) (w:World) (hl:RulesV w v l) (hlen:l.length≤1000) (hs: ∀x∈l,x.seq.length≤12∧x.exp.length≤12):
 Calls Tryz.prog 12 #[v] w fun e w'=> ∃u,e= .returned u∧RulesI w' 0 u l∧Ux.Touch (fun _=>False) w w':=by
 obtain ⟨al,cl,rfl,hcel⟩:=hl
 obtain ⟨n,hn⟩: ∃n,l.length=n:=⟨_,rfl⟩
 rw [hn]
 have HH:=Lib.hid (And.intro hcel (And.intro hs (And.intro hn hlen)))
 have n0:(n:Int)≤1000:=by omega
 clear hcel hs hn hlen
 go_enter Tryz.func12,Tryz.ntmps12
 go_wp2_with (fail)
 go_loopg [3,4] n (fun gk s3 s4 wr=> ∃(i:Nat) (xs:List Value),s4= .int .i64 i∧i+gk=n∧Hid (BunI wr w.heap.size s3 i xs (l.take i)∧Ux.Touch (fun _=>False) w wr))
 case atStart=>exact ⟨0,[],rfl,by omega,Lib.hid ⟨⟨KGrow.nil _ _ _ _,Tri.nil _⟩,Ux.Touch.refl _ _⟩⟩
 case round=>
  obtain ⟨i,xs,rfl,hig,HI⟩:=hrel
  have i0:(0:Int)≤i:=by omega
  by_cases hlt:i<n
  ·obtain ⟨g',rfl⟩: ∃g',gk=g'+1:=⟨gk-1,by omega⟩
   have i1:(i:Int)<n:=by omega
   obtain ⟨x,hx⟩: ∃x,l[i]? =some x:=⟨_,List.getElem?_eq_getElem (by have:=HH.out.2.2.1;omega)⟩
   obtain ⟨g,o,v1,v2,rfl,c0,c1,c2,⟨p1,_⟩,p2,_⟩:=HH.out.1 i x hx
   have hxs:=HH.out.2.1 x (List.mem_of_getElem? hx)
   have T:=HI.out.2
   have HC0:=Lib.hid fun W (T:Ux.Touch (fun _=>False) w W)=>And.intro (T.cell c0 (fun f=>f)) (And.intro (T.cell c1 (fun f=>f)) (T.cell c2 (fun f=>f)))
   have c0:=T.cell c0 (fun f=>f)
   have c1:=T.cell c1 (fun f=>f)
   have c2:=T.cell c2 (fun f=>f)
   have p1:=p1.touch0 T
   have p2:=p2.touch0 T
   have p1k:=p1
   have p2k:=p2
   obtain ⟨b1,e1,hv1,_⟩:=p1k
   obtain ⟨b2,e2,hv2,_⟩:=p2k
   obtain ⟨m1,hm1⟩: ∃m,x.seq.length=m:=⟨_,rfl⟩
   obtain ⟨m2,hm2⟩: ∃m,x.exp.length=m:=⟨_,rfl⟩
   rw [hm1] at hv1
   rw [hm2] at hv2
   subst hv1
   subst hv2
   obtain ⟨⟨hk,htq⟩,_⟩:=HI.out
   obtain ⟨a3,c3,hv3,_⟩:=hk.is
   subst hv3
   have HC:=Lib.hid fun W (T:Ux.Touch (fun _=>False) wr W)=>And.intro (T.cell c0 (fun f=>f)) (And.intro (T.cell c1 (fun f=>f)) (T.cell c2 (fun f=>f)))
   have HP:=Lib.hid (And.intro p1 (And.intro p2 (And.intro hk (And.intro htq (And.intro hxs hx)))))
   have HM:=Lib.hid (And.intro hm1 hm2)
   clear p1 p2 hk htq hxs hx T hm1 hm2 hlt
   go_upto_region 5 with (fail)
   refine Ux.wpr (fun _ w'=>w'.cell? ⟨g,o+i*3,none⟩=some (.int .i64 x.rel)∧w'.cell? ⟨g,o+i*3+1,none⟩=some (.slice b1 m1 e1)∧w'.cell? ⟨g,o+i*3+2,none⟩=some (.slice b2 m2 e2)) (.q [0,1,2,3,4,7,8,9,10,14,15,16,17] (.h false [5,11,18] (.br 6 (.br 12 (.e 13 true false (.e 19 true false (.q [20] (.e 21 true false (.e 22 true false (.line [23])))))) 13 (.e 12 true true (.e 19 true false (.q [20] (.e 21 true false (.e 22 true false (.line [23]))))))) 13 (.e 6 true true (.e 12 true true (.e 19 true false (.q [20] (.e 21 true false (.e 22 true false (.line [23])))))))))) ?_;repeat ((with_reducible refine Ux.qg ?_);refine Ux.qu ?_)
   refine ⟨?_,?_⟩
   ·obtain ⟨q1,hq⟩: ∃q,wr.heap.size=q:=⟨_,rfl⟩
    have r:((wr.alloc (.cells #[] 3)).drew).heap[q1]? =some (.cells #[] 3 (0,0)):=by rw [←hq];exact heap_alloc_new _ _
    have t:Ux.Touch (fun _=>False) wr ((wr.alloc (.cells #[] 3)).drew):=((Ux.Touch.refl _ _).alloc _).drew
    have hz:((wr.alloc (.cells #[] 3)).drew).heap.size=q1+1:=by rw [←hq];exact World.size_alloc _ _
    obtain ⟨wr1,hW⟩: ∃W,(wr.alloc (.cells #[] 3)).drew=W:=⟨_,rfl⟩
    rw [hW] at r t hz
    have HQ1:=Lib.hid (And.intro hW (And.intro hq (And.intro r (And.intro t hz))))
    have HTwr1:=Lib.hid (t)
    clear hW hq r t hz
    go_wp2_with (fail)
    rw [HQ1.out.1,HQ1.out.2.1]
    refine ⟨⟨HC.out _ HTwr1.out,HC.out _ HTwr1.out⟩,?_⟩
    refine ⟨?_,?_⟩
    ·obtain ⟨y1,wr1c1,hrun,hrow,hT,hown⟩:=copyV wr1 q1 (HQ1.out.2.2.1) _ _ (HP.out.1.touch0 HTwr1.out) (by have:=HP.out.2.2.2.2.1.1;omega)
     obtain ⟨ya1,yc1,hy,_⟩:=hrow.is
     rw [Ux.iv_length,HM.out.1] at hy
     subst hy
     have HY1:=Lib.hid (And.intro hrun (And.intro hrow (And.intro hT hown)))
     have HTwr1c1:=Lib.hid (HTwr1.out.trans hT fun b hb e=>by have:=HQ1.out.2.1;omega)
     clear hrun hrow hT hown
     go_wp2_with (at_builtin;refine Ux.wpList_app (v1:= .slice (some ⟨q1,0,none⟩) 0 0) (x1:= .slice b1 m1 e1) rfl _ _ _ _ rfl rfl rfl (HY1.out.1 _) ?_)
     refine ⟨⟨HC.out _ HTwr1c1.out,HC.out _ HTwr1c1.out⟩,?_⟩
     obtain ⟨q2,hq⟩: ∃q,wr1c1.heap.size=q:=⟨_,rfl⟩
     have r:(wr1c1.alloc (.cells #[] 3)).heap[q2]? =some (.cells #[] 3 (0,0)):=by rw [←hq];exact heap_alloc_new _ _
     have t:Ux.Touch (fun _=>False) wr1c1 (wr1c1.alloc (.cells #[] 3)):=(Ux.Touch.refl _ _).alloc _
     have hz:(wr1c1.alloc (.cells #[] 3)).heap.size=q2+1:=by rw [←hq];exact World.size_alloc _ _
     obtain ⟨wr1c12,hW⟩: ∃W,wr1c1.alloc (.cells #[] 3)=W:=⟨_,rfl⟩
     rw [hW] at r t hz
     have HQ2:=Lib.hid (And.intro hW (And.intro hq (And.intro r (And.intro t hz))))
     have HTwr1c12:=Lib.hid (HTwr1c1.out.trans t fun _ _ f=>f)
     clear hW hq r t hz
     go_wp2_with (fail)
     rw [HQ2.out.1,HQ2.out.2.1]
     refine ⟨HC.out _ HTwr1c12.out,?_⟩
     obtain ⟨y2,wr1c12c2,hrun,hrow,hT,hown⟩:=copyV wr1c12 q2 (HQ2.out.2.2.1) _ _ (HP.out.2.1.touch0 HTwr1c12.out) (by have:=HP.out.2.2.2.2.1.2;omega)
     obtain ⟨ya2,yc2,hy,_⟩:=hrow.is
     rw [Ux.iv_length,HM.out.2] at hy
     subst hy
     have HY2:=Lib.hid (And.intro hrun (And.intro hrow (And.intro hT hown)))
     have HTwr1c12c2:=Lib.hid (HTwr1c12.out.trans hT fun b hb e=>by have:=HQ2.out.2.1;have:=HTwr1c1.out.size;omega)
     clear hrun hrow hT hown
     go_wp2_with (at_builtin;refine Ux.wpList_app (v1:= .slice (some ⟨q2,0,none⟩) 0 0) (x1:= .slice b2 m2 e2) rfl _ _ _ _ rfl rfl rfl (HY2.out.1 _) ?_)
     refine ⟨HC.out _ HTwr1c12c2.out,?_⟩
     have hr1:Row wr1c12c2 0 3 (.slice ya1 m1 yc1) (iv x.seq):=(HY1.out.2.1.touch0 HQ2.out.2.2.2.1).touch HY2.out.2.2.1 fun b _ hb e=>by obtain ⟨cs,hk⟩:=HY1.out.2.1.kind hb;have h1:=(Array.getElem?_eq_some_iff.1 hk).1;have:=HQ2.out.2.1;omega
     have hr2:=HY2.out.2.1
     obtain ⟨ra,WF,rc,hrun,hG,hTT⟩:=appR (HP.out.2.2.1.touch0 HTwr1c12c2.out) (Nat.le_trans HI.out.2.size HTwr1c12c2.out.size) (by have:=HH.out.2.2.2;have:=HH.out.2.2.1;omega) x.rel ya1 m1 yc1 ya2 m2 yc2
     have hTF:Ux.Touch (fun _=>False) w WF:=(HI.out.2.trans HTwr1c12c2.out fun _ _ f=>f).trans hTT fun b hb e=>by have:=e.1;omega
     have hR: ∀g cs,(wr1c12c2).heap[g]? =some (.cells cs 3 (0,0))→¬(w.heap.size≤g∧∃cs,(wr1c12c2).heap[g]? =some (Obj.cells cs 117 (0,0))):=fun g cs h1 h2=>by
      obtain ⟨_,cs2,h2⟩:=h2
      rw [h1] at h2
      cases h2
     have hq1:QI WF 0 (.slice ya1 m1 yc1) x.seq:=Row.touch hr1 hTT fun b _ hb=>let ⟨cs,hk⟩:=hr1.kind hb;hR b cs hk
     have hq2:QI WF 0 (.slice ya2 m2 yc2) x.exp:=Row.touch hr2 hTT fun b _ hb=>let ⟨cs,hk⟩:=hr2.kind hb;hR b cs hk
     have htq:=Ux.Tri.snoc (TriI.touch (TriI.touch HP.out.2.2.2.1 HTwr1c12c2.out fun _ _ _ f=>f) hTT hR) (e:=x) ⟨rfl,hq1,hq2⟩
     have hsz:=HTwr1c12c2.out.alloc (.cells #[.int .i64 x.rel,.slice ya1 m1 yc1,.slice ya2 m2 yc2] 117)
     have HF:=Lib.hid (And.intro hrun (And.intro hG (And.intro hTF (And.intro htq hsz))))
     clear hr1 hr2 hrun hG hTT hTF hR hq1 hq2 htq hsz
     repeat ((with_reducible refine Ux.qg ?_);refine Ux.qu ?_)
     go_wp2_with (fail)
     refine ⟨HC.out _ HF.out.2.2.2.2,?_⟩
     go_wp2_with (at_builtin;refine Ux.wpList_app (v1:= .slice a3 i c3) (x1:= .slice (some ⟨_,0,none⟩) 1 1) rfl _ _ _ _ rfl rfl rfl (HF.out.1 _) ?_)
     refine ⟨HC0.out _ HF.out.2.2.1,?_⟩
     go_wp2
     go_roundg g'
     case measure=>omega
     case rel=>
      refine ⟨i+1,_,by congr 1,by omega,Lib.hid ⟨⟨HF.out.2.1,?_⟩,HF.out.2.2.1⟩⟩
      rw [List.take_add_one,HP.out.2.2.2.2.2]
      exact HF.out.2.2.2.1
    ·obtain ⟨q2,hq⟩: ∃q,wr1.heap.size=q:=⟨_,rfl⟩
     have r:(wr1.alloc (.cells #[] 3)).heap[q2]? =some (.cells #[] 3 (0,0)):=by rw [←hq];exact heap_alloc_new _ _
     have t:Ux.Touch (fun _=>False) wr1 (wr1.alloc (.cells #[] 3)):=(Ux.Touch.refl _ _).alloc _
     have hz:(wr1.alloc (.cells #[] 3)).heap.size=q2+1:=by rw [←hq];exact World.size_alloc _ _
     obtain ⟨wr12,hW⟩: ∃W,wr1.alloc (.cells #[] 3)=W:=⟨_,rfl⟩
     rw [hW] at r t hz
     have HQ2:=Lib.hid (And.intro hW (And.intro hq (And.intro r (And.intro t hz))))
     have HTwr12:=Lib.hid (HTwr1.out.trans t fun _ _ f=>f)
     clear hW hq r t hz
     go_wp2_with (fail)
     rw [HQ2.out.1,HQ2.out.2.1]
     refine ⟨⟨HC.out _ HTwr12.out,HC.out _ HTwr12.out⟩,?_⟩
     obtain ⟨y1,wr12c1,hrun,hrow,hT,hown⟩:=copyV wr12 q1 (HQ2.out.2.2.2.1.heap HQ1.out.2.2.1 fun f=>f) _ _ (HP.out.1.touch0 HTwr12.out) (by have:=HP.out.2.2.2.2.1.1;omega)
     obtain ⟨ya1,yc1,hy,_⟩:=hrow.is
     rw [Ux.iv_length,HM.out.1] at hy
     subst hy
     have HY1:=Lib.hid (And.intro hrun (And.intro hrow (And.intro hT hown)))
     have HTwr12c1:=Lib.hid (HTwr12.out.trans hT fun b hb e=>by have:=HQ1.out.2.1;omega)
     clear hrun hrow hT hown
     go_wp2_with (at_builtin;refine Ux.wpList_app (v1:= .slice (some ⟨q1,0,none⟩) 0 0) (x1:= .slice b1 m1 e1) rfl _ _ _ _ rfl rfl rfl (HY1.out.1 _) ?_)
     refine ⟨⟨HC.out _ HTwr12c1.out,HC.out _ HTwr12c1.out⟩,?_⟩
     obtain ⟨y2,wr12c1c2,hrun,hrow,hT,hown⟩:=copyV wr12c1 q2 (HY1.out.2.2.1.heap HQ2.out.2.2.1 (by have:=HQ2.out.2.1;have:=HQ1.out.2.2.2.2;omega)) _ _ (HP.out.2.1.touch0 HTwr12c1.out) (by have:=HP.out.2.2.2.2.1.2;omega)
     obtain ⟨ya2,yc2,hy,_⟩:=hrow.is
     rw [Ux.iv_length,HM.out.2] at hy
     subst hy
     have HY2:=Lib.hid (And.intro hrun (And.intro hrow (And.intro hT hown)))
     have HTwr12c1c2:=Lib.hid (HTwr12c1.out.trans hT fun b hb e=>by have:=HQ2.out.2.1;have:=HTwr1.out.size;omega)
     clear hrun hrow hT hown
     go_wp2_with (at_builtin;refine Ux.wpList_app (v1:= .slice (some ⟨q2,0,none⟩) 0 0) (x1:= .slice b2 m2 e2) rfl _ _ _ _ rfl rfl rfl (HY2.out.1 _) ?_)
     refine ⟨HC.out _ HTwr12c1c2.out,?_⟩
     have hr1:Row wr12c1c2 0 3 (.slice ya1 m1 yc1) (iv x.seq):=HY1.out.2.1.touch HY2.out.2.2.1 fun b _ hb e=>by have h1:=HY1.out.2.2.2 b hb;have h2:=HQ2.out.2.2.2.2;have h3:=HQ2.out.2.1;have h4:=HQ1.out.2.2.2.2;omega
     have hr2:=HY2.out.2.1
     obtain ⟨ra,WF,rc,hrun,hG,hTT⟩:=appR (HP.out.2.2.1.touch0 HTwr12c1c2.out) (Nat.le_trans HI.out.2.size HTwr12c1c2.out.size) (by have:=HH.out.2.2.2;have:=HH.out.2.2.1;omega) x.rel ya1 m1 yc1 ya2 m2 yc2
     have hTF:Ux.Touch (fun _=>False) w WF:=(HI.out.2.trans HTwr12c1c2.out fun _ _ f=>f).trans hTT fun b hb e=>by have:=e.1;omega
     have hR: ∀g cs,(wr12c1c2).heap[g]? =some (.cells cs 3 (0,0))→¬(w.heap.size≤g∧∃cs,(wr12c1c2).heap[g]? =some (Obj.cells cs 117 (0,0))):=fun g cs h1 h2=>by
      obtain ⟨_,cs2,h2⟩:=h2
      rw [h1] at h2
      cases h2
     have hq1:QI WF 0 (.slice ya1 m1 yc1) x.seq:=Row.touch hr1 hTT fun b _ hb=>let ⟨cs,hk⟩:=hr1.kind hb;hR b cs hk
     have hq2:QI WF 0 (.slice ya2 m2 yc2) x.exp:=Row.touch hr2 hTT fun b _ hb=>let ⟨cs,hk⟩:=hr2.kind hb;hR b cs hk
     have htq:=Ux.Tri.snoc (TriI.touch (TriI.touch HP.out.2.2.2.1 HTwr12c1c2.out fun _ _ _ f=>f) hTT hR) (e:=x) ⟨rfl,hq1,hq2⟩
     have hsz:=HTwr12c1c2.out.alloc (.cells #[.int .i64 x.rel,.slice ya1 m1 yc1,.slice ya2 m2 yc2] 117)
     have HF:=Lib.hid (And.intro hrun (And.intro hG (And.intro hTF (And.intro htq hsz))))
     clear hr1 hr2 hrun hG hTT hTF hR hq1 hq2 htq hsz
     repeat ((with_reducible refine Ux.qg ?_);refine Ux.qu ?_)
     go_wp2_with (fail)
     refine ⟨HC.out _ HF.out.2.2.2.2,?_⟩
     go_wp2_with (at_builtin;refine Ux.wpList_app (v1:= .slice a3 i c3) (x1:= .slice (some ⟨_,0,none⟩) 1 1) rfl _ _ _ _ rfl rfl rfl (HF.out.1 _) ?_)
     refine ⟨HC0.out _ HF.out.2.2.1,?_⟩
     go_wp2
     go_roundg g'
     case measure=>omega
     case rel=>
      refine ⟨i+1,_,by congr 1,by omega,Lib.hid ⟨⟨HF.out.2.1,?_⟩,HF.out.2.2.1⟩⟩
      rw [List.take_add_one,HP.out.2.2.2.2.2]
      exact HF.out.2.2.2.1
   ·obtain ⟨q2,hq⟩: ∃q,wr.heap.size=q:=⟨_,rfl⟩
    have r:((wr.alloc (.cells #[] 3)).drew).heap[q2]? =some (.cells #[] 3 (0,0)):=by rw [←hq];exact heap_alloc_new _ _
    have t:Ux.Touch (fun _=>False) wr ((wr.alloc (.cells #[] 3)).drew):=((Ux.Touch.refl _ _).alloc _).drew
    have hz:((wr.alloc (.cells #[] 3)).drew).heap.size=q2+1:=by rw [←hq];exact World.size_alloc _ _
    obtain ⟨wr2,hW⟩: ∃W,(wr.alloc (.cells #[] 3)).drew=W:=⟨_,rfl⟩
    rw [hW] at r t hz
    have HQ2:=Lib.hid (And.intro hW (And.intro hq (And.intro r (And.intro t hz))))
    have HTwr2:=Lib.hid (t)
    clear hW hq r t hz
    go_wp2_with (fail)
    rw [HQ2.out.1,HQ2.out.2.1]
    refine ⟨⟨HC.out _ HTwr2.out,HC.out _ HTwr2.out⟩,?_⟩
    obtain ⟨q1,hq⟩: ∃q,wr2.heap.size=q:=⟨_,rfl⟩
    have r:(wr2.alloc (.cells #[] 3)).heap[q1]? =some (.cells #[] 3 (0,0)):=by rw [←hq];exact heap_alloc_new _ _
    have t:Ux.Touch (fun _=>False) wr2 (wr2.alloc (.cells #[] 3)):=(Ux.Touch.refl _ _).alloc _
    have hz:(wr2.alloc (.cells #[] 3)).heap.size=q1+1:=by rw [←hq];exact World.size_alloc _ _
    obtain ⟨wr21,hW⟩: ∃W,wr2.alloc (.cells #[] 3)=W:=⟨_,rfl⟩
    rw [hW] at r t hz
    have HQ1:=Lib.hid (And.intro hW (And.intro hq (And.intro r (And.intro t hz))))
    have HTwr21:=Lib.hid (HTwr2.out.trans t fun _ _ f=>f)
    clear hW hq r t hz
    go_wp2_with (fail)
    rw [HQ1.out.1,HQ1.out.2.1]
    refine ⟨⟨HC.out _ HTwr21.out,HC.out _ HTwr21.out⟩,?_⟩
    obtain ⟨y1,wr21c1,hrun,hrow,hT,hown⟩:=copyV wr21 q1 (HQ1.out.2.2.1) _ _ (HP.out.1.touch0 HTwr21.out) (by have:=HP.out.2.2.2.2.1.1;omega)
    obtain ⟨ya1,yc1,hy,_⟩:=hrow.is
    rw [Ux.iv_length,HM.out.1] at hy
    subst hy
    have HY1:=Lib.hid (And.intro hrun (And.intro hrow (And.intro hT hown)))
    have HTwr21c1:=Lib.hid (HTwr21.out.trans hT fun b hb e=>by have:=HQ1.out.2.1;have:=HTwr2.out.size;omega)
    clear hrun hrow hT hown
    go_wp2_with (at_builtin;refine Ux.wpList_app (v1:= .slice (some ⟨q1,0,none⟩) 0 0) (x1:= .slice b1 m1 e1) rfl _ _ _ _ rfl rfl rfl (HY1.out.1 _) ?_)
    refine ⟨⟨HC.out _ HTwr21c1.out,HC.out _ HTwr21c1.out⟩,?_⟩
    obtain ⟨y2,wr21c1c2,hrun,hrow,hT,hown⟩:=copyV wr21c1 q2 (HY1.out.2.2.1.heap (HQ1.out.2.2.2.1.heap HQ2.out.2.2.1 fun f=>f) (by have:=HQ1.out.2.1;have:=HQ2.out.2.2.2.2;omega)) _ _ (HP.out.2.1.touch0 HTwr21c1.out) (by have:=HP.out.2.2.2.2.1.2;omega)
    obtain ⟨ya2,yc2,hy,_⟩:=hrow.is
    rw [Ux.iv_length,HM.out.2] at hy
    subst hy
    have HY2:=Lib.hid (And.intro hrun (And.intro hrow (And.intro hT hown)))
    have HTwr21c1c2:=Lib.hid (HTwr21c1.out.trans hT fun b hb e=>by have:=HQ2.out.2.1;omega)
    clear hrun hrow hT hown
    go_wp2_with (at_builtin;refine Ux.wpList_app (v1:= .slice (some ⟨q2,0,none⟩) 0 0) (x1:= .slice b2 m2 e2) rfl _ _ _ _ rfl rfl rfl (HY2.out.1 _) ?_)
    refine ⟨HC.out _ HTwr21c1c2.out,?_⟩
    have hr1:Row wr21c1c2 0 3 (.slice ya1 m1 yc1) (iv x.seq):=HY1.out.2.1.touch HY2.out.2.2.1 fun b _ hb e=>by have h1:=HY1.out.2.2.2 b hb;have h2:=HQ2.out.2.2.2.2;have h3:=HQ1.out.2.1;have h4:=HQ1.out.2.2.2.2;omega
    have hr2:=HY2.out.2.1
    obtain ⟨ra,WF,rc,hrun,hG,hTT⟩:=appR (HP.out.2.2.1.touch0 HTwr21c1c2.out) (Nat.le_trans HI.out.2.size HTwr21c1c2.out.size) (by have:=HH.out.2.2.2;have:=HH.out.2.2.1;omega) x.rel ya1 m1 yc1 ya2 m2 yc2
    have hTF:Ux.Touch (fun _=>False) w WF:=(HI.out.2.trans HTwr21c1c2.out fun _ _ f=>f).trans hTT fun b hb e=>by have:=e.1;omega
    have hR: ∀g cs,(wr21c1c2).heap[g]? =some (.cells cs 3 (0,0))→¬(w.heap.size≤g∧∃cs,(wr21c1c2).heap[g]? =some (Obj.cells cs 117 (0,0))):=fun g cs h1 h2=>by
     obtain ⟨_,cs2,h2⟩:=h2
     rw [h1] at h2
     cases h2
    have hq1:QI WF 0 (.slice ya1 m1 yc1) x.seq:=Row.touch hr1 hTT fun b _ hb=>let ⟨cs,hk⟩:=hr1.kind hb;hR b cs hk
    have hq2:QI WF 0 (.slice ya2 m2 yc2) x.exp:=Row.touch hr2 hTT fun b _ hb=>let ⟨cs,hk⟩:=hr2.kind hb;hR b cs hk
    have htq:=Ux.Tri.snoc (TriI.touch (TriI.touch HP.out.2.2.2.1 HTwr21c1c2.out fun _ _ _ f=>f) hTT hR) (e:=x) ⟨rfl,hq1,hq2⟩
    have hsz:=HTwr21c1c2.out.alloc (.cells #[.int .i64 x.rel,.slice ya1 m1 yc1,.slice ya2 m2 yc2] 117)
    have HF:=Lib.hid (And.intro hrun (And.intro hG (And.intro hTF (And.intro htq hsz))))
    clear hr1 hr2 hrun hG hTT hTF hR hq1 hq2 htq hsz
    repeat ((with_reducible refine Ux.qg ?_);refine Ux.qu ?_)
    go_wp2_with (fail)
    refine ⟨HC.out _ HF.out.2.2.2.2,?_⟩
    go_wp2_with (at_builtin;refine Ux.wpList_app (v1:= .slice a3 i c3) (x1:= .slice (some ⟨_,0,none⟩) 1 1) rfl _ _ _ _ rfl rfl rfl (HF.out.1 _) ?_)
    refine ⟨HC0.out _ HF.out.2.2.1,?_⟩
    go_wp2
    go_roundg g'
    case measure=>omega
    case rel=>
     refine ⟨i+1,_,by congr 1,by omega,Lib.hid ⟨⟨HF.out.2.1,?_⟩,HF.out.2.2.1⟩⟩
     rw [List.take_add_one,HP.out.2.2.2.2.2]
     exact HF.out.2.2.2.1
  ·obtain rfl:i=n:=by omega
   have i1: ¬(i:Int)<i:=by omega
   obtain ⟨hk,htq⟩:=HI.out.1
   obtain ⟨a3,c3,hv3,_⟩:=hk.is
   subst hv3
   have hla:l.take i=l:=List.take_of_length_le (by have:=HH.out.2.2.1;omega)
   rw [hla] at htq
   have HF:=Lib.hid (And.intro hk htq)
   clear hk htq hla hlt
   go_wp2
   go_returns
   exact ⟨_,rfl,rulesI_of (Nat.zero_le _) (KGrow.mono0 HF.out.1) HH.out.2.2.1 HF.out.2,HI.out.2⟩
end Go.Proofs.YtfccjaboicpohaaGreatDoor
