/- A part of the proof that the statement holds for every input that it names. No other condition. -/
import Derived.Test.YtmonfaepfbpdpaaUxMapAZ
import Derived.Test.YtmonfaepfbpdpaaUxNumAZ
set_option linter.unusedVariables false
set_option linter.unusedSimpArgs false
namespace Go.Ux
open Go Go.Maps Go.RowKit Ux.Trie
def first (e:Ent):Nat:=e.1.headD 0
def LongInv (E:List Ent) (left:Lit→Bool) (lg:Int→Option Nat):Prop:=
 (∀e∈E,left (kl3 e.1)=false→∃n,lg (first e)=some n∧e.1.length≤n)∧∀c n,lg c=some n→0≤c∧c<1114368∧1≤n∧n≤3
def longPut (lg:Int→Option Nat) (e:Ent):Int→Option Nat:=fun c=>if c=first e then some (max ((lg c).getD 0) e.1.length) else lg c
theorem first_lt {e:Ent} (h:okS e.1):first e<1114368:=by
 unfold first
 match he:e.1,h with
 | [],h=>exact absurd h.1 (by simp)
 |c::_,h=>exact h.2.2 c (by simp)
theorem LongInv.step {E:List Ent} {left:Lit→Bool} {lg:Int→Option Nat} (h:LongInv E left lg) (hE:okT E) {e:Ent} (he:e∈E):LongInv E (fun z=>left z&& !z.sameKey (kl3 e.1)) (longPut lg e):=by
 have hok:=(hE.2 e he).1
 have hf:=first_lt hok
 refine ⟨fun d hd hl=> ?_,fun c n hc=> ?_⟩
 ·unfold longPut
  by_cases h1:(first d:Int)=first e
  ·rw [if_pos h1]
   refine ⟨_,rfl,?_⟩
   cases hk:left (kl3 d.1) with
   |false=>
    obtain ⟨n,hn,hle⟩:=h.1 d hd hk
    rw [hn]
    simp only [Option.getD_some]
    omega
   |true=>
    simp only [hk,Bool.true_and,Bool.not_eq_false'] at hl
    have:=kl3_inj (hE.2 d hd).1 hok (WideAt.sameKey_eq hl)
    rw [this]
    omega
  ·rw [if_neg h1]
   cases hk:left (kl3 d.1) with
   |false=>exact h.1 d hd hk
   |true=>
    simp only [hk,Bool.true_and,Bool.not_eq_false'] at hl
    have:=kl3_inj (hE.2 d hd).1 hok (WideAt.sameKey_eq hl)
    exact absurd (by unfold first;rw [this]) h1
 ·unfold longPut at hc
  split at hc
  ·rename_i h1
   have e1:=Option.some.inj hc
   have h2:(lg c).getD 0≤3:=by
    cases hl:lg c with
    |none=>simp
    |some m=>have:=(h.2 c m hl).2.2.2;simpa using this
   have:=hok.1
   have:=hok.2.1
   refine ⟨by omega,by omega,by omega,by omega⟩
  ·exact h.2 c n hc
def PairsInv (lg:Int→Option Nat) (left:Int→Bool) (l:List Pr):Prop:=
 (∀c n,lg c=some n→left c=false→(c,(n:Int))∈l)∧(∀p∈l,left p.1=false∧∃n,lg p.1=some n∧p.2=n)∧apart l
theorem PairsInv.step {lg:Int→Option Nat} {left left':Int→Bool} {l:List Pr} (h:PairsInv lg left l) {c:Int} {n:Nat} (hc:lg c=some n) (hl:left c=true) (hl': ∀d,left' d=(left d&& !decide (d=c))):PairsInv lg left' (l++ [(c,(n:Int))]):=by
 obtain ⟨h1,h2,h3⟩:=h
 refine ⟨fun d m hd hm=> ?_,fun p hp=> ?_,?_⟩
 ·rw [hl'] at hm
  by_cases e:d=c
  ·subst e
   rw [hc] at hd
   obtain rfl:=Option.some.inj hd
   simp
  ·simp only [e,decide_false,Bool.not_false,Bool.and_true] at hm
   exact List.mem_append_left _ (h1 d m hd hm)
 ·rcases List.mem_append.1 hp with hp|hp
  ·obtain ⟨e1,e2⟩:=h2 p hp
   exact ⟨by rw [hl',e1];rfl,e2⟩
  ·obtain rfl:p=(c,(n:Int)):=by simpa using hp
   exact ⟨by rw [hl'];simp,n,hc,rfl⟩
 ·refine List.pairwise_append.2 ⟨h3,List.pairwise_singleton _ _,fun p hp q hq=> ?_⟩
  obtain rfl:q=(c,(n:Int)):=by simpa using hq
  intro e
  have:=(h2 p hp).1
  simp only at e
  rw [e,hl] at this
  cases this
end Go.Ux
namespace Go.Ux
open Go
def lexB:List Nat→List Nat→Bool
 |x::a,y::b=>if x=y then lexB a b else decide (x<y)
 |_,_=>false
def fst0:List Nat→Nat
 | []=>0
 |x::_=>x
def befE (a b:List Nat):Bool:=
 if fst0 a≠fst0 b then decide (fst0 a<fst0 b) else if a.length≠b.length then decide (a.length<b.length) else lexB a.tail b.tail
theorem lexB_irrefl: ∀a,lexB a a=false
 | []=>rfl
 |x::a=>by unfold lexB;rw [if_pos rfl];exact lexB_irrefl a
theorem lexB_total: ∀{a b:List Nat},a.length=b.length→a≠b→lexB a b=true∨lexB b a=true
 | [],[],_,h=>absurd rfl h
 |x::a,y::b,hl,h=>by
  unfold lexB
  by_cases e:x=y
  ·subst e
   rw [if_pos rfl,if_pos rfl]
   exact lexB_total (by simpa using hl) (fun e=>h (by rw [e]))
  ·rw [if_neg e,if_neg (fun e'=>e e'.symm)]
   simp
   omega
theorem lexB_trans: ∀{a b c:List Nat},lexB a b=true→lexB b c=true→lexB a c=true
 |x::a,y::b,z::c,h1,h2=>by
  unfold lexB at*
  by_cases e1:x=y
  ·by_cases e2:y=z
   ·rw [if_pos e1] at h1
    rw [if_pos e2] at h2
    rw [if_pos (e1.trans e2)]
    exact lexB_trans h1 h2
   ·rw [if_neg e2] at h2
    rw [if_neg (by omega)]
    simp at h2⊢
    omega
  ·rw [if_neg e1] at h1
   by_cases e2:y=z
   ·rw [if_neg (by omega)]
    simp at h1⊢
    omega
   ·rw [if_neg e2] at h2
    simp at h1 h2
    rw [if_neg (by omega)]
    simp
    omega
 | [],_,_,h,_=>by unfold lexB at h;cases h
 |_::_,[],_,h,_=>by unfold lexB at h;cases h
 |_::_,_::_,[],_,h=>by unfold lexB at h;cases h
theorem befE_irrefl (a:List Nat):befE a a=false:=by
 unfold befE
 simp [lexB_irrefl]
theorem befE_total {a b:List Nat} (h:a≠b):befE a b=true∨befE b a=true:=by
 unfold befE
 by_cases h1:fst0 a=fst0 b
 ·by_cases h2:a.length=b.length
  ·rw [if_neg (fun e=>e h1),if_neg (fun e=>e h2),if_neg (fun e=>e h1.symm),if_neg (fun e=>e h2.symm)]
   refine lexB_total (by simp [h2]) fun e=>h ?_
   cases a with
   |nil=>cases b with
    |nil=>rfl
    |cons y b=>simp at h2
   |cons x a=>cases b with
    |nil=>simp at h2
    |cons y b=>
     simp [fst0] at h1 e
     rw [h1,e]
  ·rw [if_neg (fun e=>e h1),if_pos h2,if_neg (fun e=>e h1.symm),if_pos (fun e=>h2 e.symm)]
   simp
   omega
 ·rw [if_pos h1,if_pos (fun e=>h1 e.symm)]
  simp
  omega
theorem befE_trans {a b c:List Nat} (h1:befE a b=true) (h2:befE b c=true):befE a c=true:=by
 unfold befE at*
 by_cases e1:fst0 a=fst0 b
 ·rw [if_neg (by simp [e1])] at h1
  by_cases e2:fst0 b=fst0 c
  ·rw [if_neg (by simp [e2])] at h2
   rw [if_neg (by simp [e1,e2])]
   by_cases l1:a.length=b.length
   ·rw [if_neg (by simp [l1])] at h1
    by_cases l2:b.length=c.length
    ·rw [if_neg (by simp [l2])] at h2
     rw [if_neg (by simp [l1,l2])]
     exact lexB_trans h1 h2
    ·rw [if_pos l2] at h2
     rw [if_pos (by omega)]
     simp at h2⊢
     omega
   ·rw [if_pos l1] at h1
    by_cases l2:b.length=c.length
    ·rw [if_pos (by omega)]
     simp at h1⊢
     omega
    ·rw [if_pos l2] at h2
     simp at h1 h2
     rw [if_pos (by omega)]
     simp
     omega
  ·rw [if_pos e2] at h2
   rw [if_pos (by omega),e1]
   exact h2
 ·rw [if_pos e1] at h1
  by_cases e2:fst0 b=fst0 c
  ·rw [if_pos (by omega),←e2]
   exact h1
  ·rw [if_pos e2] at h2
   simp only [decide_eq_true_eq] at h1 h2
   rw [if_pos (by omega)]
   simp only [decide_eq_true_eq]
   omega
def putE:List Ent→List Nat→List Nat→List Ent
 | [],s,l=> [(s,l)]
 |e::T,s,l=>if befE e.1 s then e::putE T s l else if e.1=s then (s,l)::T else (s,l)::e::T
def SortedE (T:List Ent):Prop:=T.Pairwise fun a b=>befE a.1 b.1=true
theorem putE_mem: ∀{T:List Ent} {s l:List Nat},SortedE T→∀e,e∈putE T s l↔e=(s,l)∨(e∈T∧e.1≠s)
 | [],s,l,_,e=>by simp [putE]
 |d::T,s,l,hs,e=>by
  unfold SortedE at hs
  rw [List.pairwise_cons] at hs
  unfold putE
  split
  ·rename_i h
   rw [List.mem_cons,putE_mem (T:=T) hs.2]
   have hd:d.1≠s:=fun e=>by rw [e,befE_irrefl] at h;cases h
   constructor
   ·rintro (rfl|rfl|⟨h1,h2⟩)
    ·exact .inr ⟨List.mem_cons_self,hd⟩
    ·exact .inl rfl
    ·exact .inr ⟨List.mem_cons_of_mem _ h1,h2⟩
   ·rintro (rfl|⟨h1,h2⟩)
    ·exact .inr (.inl rfl)
    ·rcases List.mem_cons.1 h1 with rfl|h1
     ·exact .inl rfl
     ·exact .inr (.inr ⟨h1,h2⟩)
  ·rename_i h
   have hgt: ∀x∈T,x.1≠s:=fun x hx hxs=>h (by rw [←hxs];exact hs.1 x hx)
   split
   ·rename_i h2
    rw [List.mem_cons]
    constructor
    ·rintro (rfl|h1)
     ·exact .inl rfl
     ·exact .inr ⟨List.mem_cons_of_mem _ h1,hgt e h1⟩
    ·rintro (rfl|⟨h1,h3⟩)
     ·exact .inl rfl
     ·rcases List.mem_cons.1 h1 with rfl|h1
      ·exact absurd h2 h3
      ·exact .inr h1
   ·rename_i h2
    rw [List.mem_cons]
    constructor
    ·rintro (rfl|h1)
     ·exact .inl rfl
     ·refine .inr ⟨h1,?_⟩
      rcases List.mem_cons.1 h1 with rfl|h1
      ·exact h2
      ·exact hgt e h1
    ·rintro (rfl|⟨h1,h3⟩)
     ·exact .inl rfl
     ·exact .inr h1
theorem putE_sorted: ∀{T:List Ent} {s l:List Nat},SortedE T→SortedE (putE T s l)
 | [],s,l,_=>by simp [putE,SortedE]
 |d::T,s,l,hs0=>by
  have hs:=hs0
  unfold SortedE at hs
  rw [List.pairwise_cons] at hs
  unfold putE
  split
  ·rename_i h
   unfold SortedE
   rw [List.pairwise_cons]
   refine ⟨fun x hx=> ?_,putE_sorted hs.2⟩
   rcases (putE_mem (T:=T) hs.2 x).1 hx with rfl|⟨h1,_⟩
   ·exact h
   ·exact hs.1 x h1
  ·rename_i h
   split
   ·rename_i h2
    unfold SortedE
    rw [List.pairwise_cons]
    exact ⟨fun x hx=>by rw [←h2];exact hs.1 x hx,hs.2⟩
   ·rename_i h2
    have hb:befE s d.1=true:=by
     rcases befE_total h2 with h3|h3
     ·exact absurd h3 h
     ·exact h3
    unfold SortedE
    rw [List.pairwise_cons]
    refine ⟨fun x hx=> ?_,hs0⟩
    rcases List.mem_cons.1 hx with rfl|hx
    ·exact hb
    ·exact befE_trans hb (hs.1 x hx)
theorem SortedE.nodup {T:List Ent} (h:SortedE T):(T.map (·.1)).Nodup:=by
 unfold List.Nodup
 rw [List.pairwise_map]
 exact h.imp fun {a b} h1 e=>by rw [e,befE_irrefl] at h1;cases h1
def setE (E:List Ent) (s l:List Nat):List Ent:=if s∈E.map (·.1) then E.map fun e=>if e.1=s then (s,l) else e else E++ [(s,l)]
theorem setE_mem {E:List Ent} {s l:List Nat} (e:Ent):e∈setE E s l↔e=(s,l)∨(e∈E∧e.1≠s):=by
 unfold setE
 split
 ·rename_i h
  rw [List.mem_map]
  constructor
  ·rintro ⟨d,hd,rfl⟩
   split
   ·exact .inl rfl
   ·rename_i h1;exact .inr ⟨hd,h1⟩
  ·rintro (rfl|⟨h1,h2⟩)
   ·obtain ⟨d,hd,rfl⟩:=List.mem_map.1 h
    exact ⟨d,hd,by simp⟩
   ·exact ⟨e,h1,by simp [h2]⟩
 ·rename_i h
  rw [List.mem_append,List.mem_singleton]
  constructor
  ·rintro (h1|rfl)
   ·exact .inr ⟨h1,fun e'=>h (List.mem_map.2 ⟨e,h1,e'⟩)⟩
   ·exact .inl rfl
  ·rintro (rfl|⟨h1,_⟩)
   ·exact .inr rfl
   ·exact .inl h1
theorem setE_keys {E:List Ent} {s l:List Nat}:(setE E s l).map (·.1)=if s∈E.map (·.1) then E.map (·.1) else E.map (·.1)++ [s]:=by
 unfold setE
 split
 ·rw [List.map_map]
  refine List.map_congr_left fun e _=> ?_
  simp only [Function.comp]
  split
  ·rename_i h;exact h.symm
  ·rfl
 ·simp
theorem setE_ok {E:List Ent} {s l:List Nat} (h:okT E) (hn:okE (s,l)):okT (setE E s l):=by
 refine ⟨?_,fun e he=> ?_⟩
 ·rw [setE_keys]
  split
  ·exact h.1
  ·rename_i h1
   rw [List.nodup_append]
   refine ⟨h.1,by simp,fun a ha b hb e=> ?_⟩
   simp at hb
   subst hb
   subst e
   exact h1 ha
 ·rcases (setE_mem e).1 he with rfl|⟨h1,_⟩
  ·exact hn
  ·exact h.2 e h1
def SameE (E T:List Ent):Prop:=E.Perm T∧SortedE T
theorem nodup_of_keys {E:List Ent} (h:(E.map (·.1)).Nodup):E.Nodup:=by
 unfold List.Nodup at*
 rw [List.pairwise_map] at h
 exact h.imp fun {a b} h1 e=>h1 (by rw [e])
theorem SameE.put {E T:List Ent} (h:SameE E T) (hE:okT E) {s l:List Nat} (hn:okE (s,l)):SameE (setE E s l) (putE T s l):=by
 refine ⟨?_,putE_sorted h.2⟩
 refine (List.perm_ext_iff_of_nodup (nodup_of_keys (setE_ok hE hn).1) (nodup_of_keys (putE_sorted h.2).nodup)).2 fun e=> ?_
 rw [setE_mem,putE_mem h.2,h.1.mem_iff]
theorem SameE.ok {E T:List Ent} (h:SameE E T) (hE:okT E):okT T:=⟨h.2.nodup,fun e he=>hE.2 e (h.1.mem_iff.2 he)⟩
end Go.Ux
namespace Go.Ux
open Go Go.RowKit
def KGrow (w:World) (lo:Nat) (e:TypeId) (sz:Nat) (v:Value) (n:Nat) (xs:List Value):Prop:=w.ownsRow 0 e sz v n xs∧∀b,v.ownBlock=some b→lo≤b
theorem KGrow.nil (w:World) (lo:Nat) (e:TypeId) (sz:Nat):KGrow w lo e sz (.slice none 0 0) 0 []:=⟨World.ownsRow_nil _ _ _ _,by simp [Value.ownBlock]⟩
theorem KGrow.touch {R:Nat→Prop} {w w':World} {lo:Nat} {e:TypeId} {sz:Nat} {v:Value} {n:Nat} {xs:List Value} (h:KGrow w lo e sz v n xs) (ht:Touch R w w') (hR: ∀b,lo≤b→¬R b):KGrow w' lo e sz v n xs:=
 ⟨own_touch h.1 ht fun b hb=>hR b (h.2 b hb),h.2⟩
theorem KGrow.touch0 {w w':World} {lo:Nat} {e:TypeId} {sz:Nat} {v:Value} {n:Nat} {xs:List Value} (h:KGrow w lo e sz v n xs) (ht:Touch (fun _=>False) w w'):KGrow w' lo e sz v n xs:=h.touch ht fun _ _ f=>f
theorem KGrow.mono {w:World} {lo lo':Nat} {e:TypeId} {sz:Nat} {v:Value} {n:Nat} {xs:List Value} (h:KGrow w lo e sz v n xs) (hl:lo'≤lo):KGrow w lo' e sz v n xs:=⟨h.1,fun b hb=>Nat.le_trans hl (h.2 b hb)⟩
theorem KGrow.is {w:World} {lo:Nat} {e:TypeId} {sz:Nat} {v:Value} {n:Nat} {xs:List Value} (h:KGrow w lo e sz v n xs): ∃a c,v= .slice a n c∧∀(j:Nat) (u:Value),xs[j]? =some u→∃g,a=some ⟨g,0,none⟩∧lo≤g∧w.cell? ⟨g,j,none⟩=some u:=by
 have hl:=h.1.1
 rcases h.1.2 with ⟨hv,h0⟩|⟨g,cap,cur,hv,_,hh,_,_,_,ht⟩
 ·refine ⟨none,0,by rw [h0];exact hv,fun j u hj=> ?_⟩
  rw [h0,Nat.zero_mul] at hl
  rw [List.eq_nil_of_length_eq_zero hl] at hj
  simp at hj
 ·exact ⟨_,_,hv,fun j u hj=>⟨g,rfl,h.2 g (by rw [hv];rfl),row_cell hh ht _ _ hj⟩⟩
theorem KGrow.cap {w:World} {lo:Nat} {e:TypeId} {sz:Nat} {a:Option Addr} {n c:Nat} {xs:List Value} (h:KGrow w lo e sz (.slice a n c) n xs):n≤c:=by
 rcases h.1.2 with ⟨hv,h0⟩|⟨g,cap,cur,hv,_,hh,h1,_,_,ht⟩
 ·rw [h0];exact Nat.zero_le _
 ·cases hv;exact h1
theorem KGrow.len {w:World} {lo:Nat} {e:TypeId} {sz:Nat} {v:Value} {n:Nat} {xs:List Value} (h:KGrow w lo e sz v n xs):xs.length=n*sz:=h.1.1
theorem KGrow.app' {P:Program} {w:World} {lo:Nat} {e:TypeId} {sz:Nat} {v:Value} {n:Nat} {xs:List Value} (h:KGrow w lo e sz v n xs) (t:TypeId) (bytes:Nat) (z:Value) (ht:P.underlying t=some (.slice e))
 (hi:(P.info? e).map (fun i=>(i.zero,i.size,i.bytes))=some (some z,sz,bytes)) (hzs:z.cells.size=sz) (hsz:0<sz) (x:Value) (m:Nat) (ys:List Value) (hs:Src P sz t x m ys w) (hlo:lo≤w.heap.size)
 (h63:n+m≤maxLen) (hb:(n+m)*bytes≤140737488355328):
 ∃r w',(∀ty,(Builtin.append_ #[t,t] ty #[v,x]).run P w= .ok r w')∧KGrow w' lo e sz r (n+m) (xs++ys)∧Touch (fun b=>lo≤b∧v.ownBlock=some b) w w'∧(r.ownBlock=v.ownBlock∨∃g,r.ownBlock=some g∧w.heap.size≤g):=by
 obtain ⟨i0,hi0,hz0⟩:=Option.map_eq_some_iff.1 hi
 simp only [Prod.mk.injEq] at hz0
 obtain ⟨hz0,hz1,hz2⟩:=hz0
 have key:=fun ty=>run_app (P:=P) w t ty e i0 z sz bytes ht hi0 hz0 hz1 hz2 hzs hsz v n xs h.1 x m ys hs h63 hb
 obtain ⟨r,w',hr,ho,htt,hbk,_⟩:=key t
 refine ⟨r,w',fun ty=>hr,⟨ho,fun b hb=> ?_⟩,htt.mono fun b _ hb=>⟨h.2 b hb,hb⟩,hbk⟩
 rcases hbk with e|⟨g,e,hg⟩
 ·exact h.2 b (by rw [←e];exact hb)
 ·rw [e] at hb
  cases hb
  omega
theorem KGrow.app {P:Program} {w:World} {lo:Nat} {e:TypeId} {sz:Nat} {v:Value} {n:Nat} {xs:List Value} (h:KGrow w lo e sz v n xs) (t:TypeId) (bytes:Nat) (z:Value) (ht:P.underlying t=some (.slice e))
 (hi:(P.info? e).map (fun i=>(i.zero,i.size,i.bytes))=some (some z,sz,bytes)) (hzs:z.cells.size=sz) (hsz:0<sz) (x:Value) (m:Nat) (ys:List Value) (hs:Src P sz t x m ys w) (hlo:lo≤w.heap.size)
 (h63:n+m≤maxLen) (hb:(n+m)*bytes≤140737488355328):
 ∃r w',(∀ty,(Builtin.append_ #[t,t] ty #[v,x]).run P w= .ok r w')∧KGrow w' lo e sz r (n+m) (xs++ys)∧Touch (fun b=>lo≤b∧v.ownBlock=some b) w w':=
 let ⟨r,w',h1,h2,h3,_⟩:=h.app' t bytes z ht hi hzs hsz x m ys hs hlo h63 hb
 ⟨r,w',h1,h2,h3⟩
theorem src_new {P:Program} {t e:TypeId} (ht:P.underlying t=some (.slice e)) (w:World) (sz m:Nat) (ys:List Value) (hl:ys.length=m*sz) (h1: ∀u∈ys,u.oneCell'=true):
 Src P sz t (.slice (some ⟨w.heap.size,0,none⟩) m m) m ys (w.alloc (.cells ys.toArray e)):=Src.ofSlice _ ht ⟨w.heap.size,0,none⟩ m m ys hl (fun j u hj=>by
  have e1:(⟨w.heap.size,0,none⟩:Addr).add j=⟨w.heap.size,j,none⟩:=by rw [Addr.add_mid];simp
  rw [e1,cell_newg]
  simpa using hj) h1
theorem src_at {P:Program} {t e:TypeId} (ht:P.underlying t=some (.slice e)) {w:World} (sz m c:Nat) (a:Option Addr) (ys:List Value) (hl:ys.length=m*sz) (h1: ∀u∈ys,u.oneCell'=true)
 (hc: ∀(j:Nat) (u:Value),ys[j]? =some u→∃g o,a=some ⟨g,o,none⟩∧w.cell? ⟨g,o+j,none⟩=some u) (hz:0<sz):Src P sz t (.slice a m c) m ys w:=by
 cases a with
 |none=>
  have h0:ys= []:=by
   cases ys with
   |nil=>rfl
   |cons y ys=>obtain ⟨_,_,h,_⟩:=hc 0 y rfl;cases h
  subst h0
  have:m=0:=by
   have h2:m*sz=0:=hl.symm
   rcases Nat.mul_eq_zero.1 h2 with h|h
   ·exact h
   ·omega
  subst this
  exact Src.ofNil w ht c
 |some p=>
  refine Src.ofSlice _ ht p m c ys hl (fun j u hj=> ?_) h1
  obtain ⟨g,o,h,hcell⟩:=hc j u hj
  cases h
  rw [Addr.add_mid]
  exact hcell
def Ents (R:Value→Value→Ent→Prop):List Value→List Ent→Prop
 | [],[]=>True
 |a::b::xs,e::T=>R a b e∧Ents R xs T
 |_,_=>False
theorem Ents.len {R:Value→Value→Ent→Prop}: ∀{xs:List Value} {T:List Ent},Ents R xs T→xs.length=T.length*2
 | [],[],_=>rfl
 |a::b::xs,e::T,h=>by
  have:=Ents.len h.2
  simp
  omega
 | [_],_,h=>by unfold Ents at h;exact h.elim
 | [],_::_,h=>h.elim
 |_::_::_,[],h=>h.elim
theorem Ents.at {R:Value→Value→Ent→Prop}: ∀{xs:List Value} {T:List Ent} {i:Nat} {e:Ent},Ents R xs T→T[i]? =some e→∃a b,xs[i*2]? =some a∧xs[i*2+1]? =some b∧R a b e
 |a::b::xs,d::T,0,e,h,hi=>by
  cases hi
  exact ⟨a,b,rfl,rfl,h.1⟩
 |a::b::xs,d::T,i+1,e,h,hi=>by
  obtain ⟨p,q,h1,h2,h3⟩:=Ents.at (i:=i) h.2 (by simpa using hi)
  have e1:(i+1)*2=i*2+1+1:=by omega
  rw [e1]
  exact ⟨p,q,h1,h2,h3⟩
 | [],[],_,_,_,hi=>by simp at hi
 | [_],_,_,_,h,_=>by unfold Ents at h;exact h.elim
 | [],_::_,_,_,h,_=>h.elim
 |_::_::_,[],_,_,h,_=>h.elim
theorem Ents.append {R:Value→Value→Ent→Prop}: ∀{xs ys:List Value} {T U:List Ent},Ents R xs T→Ents R ys U→Ents R (xs++ys) (T++U)
 | [],_,[],_,_,h=>h
 |a::b::xs,ys,d::T,U,h,h2=>⟨h.1,Ents.append h.2 h2⟩
 | [_],_,_,_,h,_=>by unfold Ents at h;exact h.elim
 | [],_,_::_,_,h,_=>h.elim
 |_::_::_,_,[],_,h,_=>h.elim
theorem Ents.mono {R R':Value→Value→Ent→Prop} (hR: ∀a b e,R a b e→R' a b e): ∀{xs:List Value} {T:List Ent},Ents R xs T→Ents R' xs T
 | [],[],_=>trivial
 |a::b::xs,e::T,h=>⟨hR a b e h.1,Ents.mono hR h.2⟩
 | [_],_,h=>by unfold Ents at h;exact h.elim
 | [],_::_,h=>h.elim
 |_::_::_,[],h=>h.elim
theorem Ents.one {R:Value→Value→Ent→Prop} (hR: ∀a b e,R a b e→a.oneCell'=true∧b.oneCell'=true): ∀{xs:List Value} {T:List Ent},Ents R xs T→∀u∈xs,u.oneCell'=true
 | [],[],_,u,hu=>by cases hu
 |a::b::xs,e::T,h,u,hu=>by
  rcases List.mem_cons.1 hu with rfl|hu
  ·exact (hR _ _ _ h.1).1
  ·rcases List.mem_cons.1 hu with rfl|hu
   ·exact (hR _ _ _ h.1).2
   ·exact Ents.one hR h.2 u hu
 | [_],_,h,_,_=>by unfold Ents at h;exact h.elim
 | [],_::_,h,_,_=>h.elim
 |_::_::_,[],h,_,_=>h.elim
end Go.Ux
