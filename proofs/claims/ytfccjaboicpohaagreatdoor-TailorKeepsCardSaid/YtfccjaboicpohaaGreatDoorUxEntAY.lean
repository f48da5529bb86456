/- A part of the proof that the statement holds for every input that it names. No other condition. -/
import Derived.Test.YtfccjaboicpohaaGreatDoorUxTabAY
import Derived.Shelf.SlSortCmp.InsertionK
set_option linter.unusedVariables false
set_option linter.unusedSimpArgs false
namespace Go.Ux
open Go Go.RowKit Go.Sort Go.Proofs
abbrev EP:=Value×Value×Ent
def blkOf (p:EP) (b:Nat):Prop:=p.1.ownBlock=some b∨p.2.1.ownBlock=some b
theorem Row.blk {w:World} {lo:Nat} {t:TypeId} {v:Value} {xs:List Value} (h:Row w lo t v xs) {b:Nat} (hb:v.ownBlock=some b):lo≤b∧b<w.heap.size:=by
 rcases h with ⟨rfl,_⟩|⟨g,c,cur,rfl,hg,hh,_⟩
 ·cases hb
 ·cases hb
  exact ⟨hg,lt_of_heap hh⟩
theorem Row.lit {w:World} {lo:Nat} {t:TypeId} {v:Value} {xs:List Value} (h:Row w lo t v xs): ∃a n c,v= .slice a n c:=by
 rcases h with ⟨rfl,_⟩|⟨g,c,cur,rfl,_⟩
 ·exact ⟨_,_,_,rfl⟩
 ·exact ⟨_,_,_,rfl⟩
def EntsAt (w:World) (lo:Nat) (tI tE:TypeId) (P:List EP):Prop:=
 (∀p∈P,Row w lo tI p.1 (iv (sv p.2.2.1))∧Row w lo tE p.2.1 (ev p.2.2.2)∧∀b,p.1.ownBlock=some b→p.2.1.ownBlock≠some b)∧P.Pairwise fun p q=> ∀b,blkOf p b→¬blkOf q b
theorem EntsAt.nil (w:World) (lo:Nat) (tI tE:TypeId):EntsAt w lo tI tE []:=⟨fun p h=>(by cases h),List.Pairwise.nil⟩
theorem EntsAt.lt {w:World} {lo:Nat} {tI tE:TypeId} {P:List EP} (h:EntsAt w lo tI tE P) {p:EP} (hp:p∈P) {b:Nat} (hb:blkOf p b):lo≤b∧b<w.heap.size:=by
 obtain ⟨h1,h2,_⟩:=h.1 p hp
 rcases hb with hb|hb
 ·exact h1.blk hb
 ·exact h2.blk hb
theorem EntsAt.touch {R:Nat→Prop} {w w':World} {lo:Nat} {tI tE:TypeId} {P:List EP} (h:EntsAt w lo tI tE P) (ht:Touch R w w') (hR: ∀p∈P,∀b,blkOf p b→¬R b):EntsAt w' lo tI tE P:=
 ⟨fun p hp=>⟨(h.1 p hp).1.touch ht fun b _ hb=>hR p hp b (.inl hb),(h.1 p hp).2.1.touch ht fun b _ hb=>hR p hp b (.inr hb),(h.1 p hp).2.2⟩,h.2⟩
theorem EntsAt.perm {w:World} {lo:Nat} {tI tE:TypeId} {P P':List EP} (h:EntsAt w lo tI tE P) (hp:P.Perm P'):EntsAt w lo tI tE P':=
 ⟨fun p hm=>h.1 p (hp.mem_iff.2 hm),(hp.pairwise_iff fun h b h1 h2=>h b h2 h1).1 h.2⟩
theorem EntsAt.snoc {w w1 w2:World} {lo:Nat} {tI tE:TypeId} {P:List EP} (h:EntsAt w lo tI tE P) (hlo:lo≤w.heap.size) (T1:Touch (fun _=>False) w w1) {s l:Value} {e:Ent} (hs:Row w1 w.heap.size tI s (iv (sv e.1)))
 (T2:Touch (fun _=>False) w1 w2) (hl:Row w2 w1.heap.size tE l (ev e.2)):EntsAt w2 lo tI tE (P++ [(s,l,e)]):=by
 have hP:=(h.touch T1 fun _ _ _ _ f=>f).touch T2 fun _ _ _ _ f=>f
 refine ⟨fun p hp=> ?_,?_⟩
 ·rcases List.mem_append.1 hp with hp|hp
  ·exact hP.1 p hp
  ·obtain rfl:=List.mem_singleton.1 hp
   refine ⟨(hs.touch0 T2).mono hlo,hl.mono (Nat.le_trans hlo T1.size),fun b hb hb2=> ?_⟩
   have h1:=hs.blk hb
   have h2:=hl.blk hb2
   omega
 ·rw [List.pairwise_append]
  refine ⟨h.2,by simp,fun p hp q hq b h1 h2=> ?_⟩
  obtain rfl:=List.mem_singleton.1 hq
  have h3:=h.lt hp h1
  rcases h2 with h2|h2
  ·have:=hs.blk h2
   omega
  ·have:=hl.blk h2
   have:=T1.size
   omega
def flatP (P:List EP):List Value:=P.flatMap fun p=> [p.1,p.2.1]
theorem flatP_append (P Q:List EP):flatP (P++Q)=flatP P++flatP Q:=by simp [flatP]
theorem flatP_get: ∀{P:List EP} {i:Nat} {p:EP},P[i]? =some p→(flatP P)[i*2]? =some p.1∧(flatP P)[i*2+1]? =some p.2.1
 |q::P,0,p,h=>by cases h;exact ⟨rfl,rfl⟩
 |q::P,i+1,p,h=>by
  have:=flatP_get (P:=P) (i:=i) (by simpa using h)
  unfold flatP at*
  rw [List.flatMap_cons,show (i+1)*2=i*2+1+1 by omega]
  exact this
 | [],i,p,h=>by simp at h
def OutAt (w:World) (lo:Nat) (tI tE tN:TypeId) (v:Value) (P:List EP):Prop:=KGrow w lo tN 2 v P.length (flatP P)∧EntsAt w lo tI tE P∧∀p∈P,∀b,blkOf p b→v.ownBlock≠some b
theorem OutAt.nil (w:World) (lo:Nat) (tI tE tN:TypeId):OutAt w lo tI tE tN (.slice none 0 0) []:=⟨KGrow.nil _ _ _ _,EntsAt.nil _ _ _ _,fun p h=>(by cases h)⟩
theorem OutAt.touch {R:Nat→Prop} {w w':World} {lo:Nat} {tI tE tN:TypeId} {v:Value} {P:List EP} (h:OutAt w lo tI tE tN v P) (ht:Touch R w w') (hR: ∀b,lo≤b→¬R b):OutAt w' lo tI tE tN v P:=
 ⟨h.1.touch ht hR,h.2.1.touch ht fun p hp b hb=>hR b (h.2.1.lt hp hb).1,h.2.2⟩
theorem OutAt.app {Pr:Program} {w w1 w2:World} {lo:Nat} {tI tE tN:TypeId} {v:Value} {P:List EP} (h:OutAt w lo tI tE tN v P) (hlo:lo≤w.heap.size) (T1:Touch (fun _=>False) w w1) {s l:Value} {e:Ent} (hs:Row w1 w.heap.size tI s (iv (sv e.1)))
 (T2:Touch (fun _=>False) w1 w2) (hl:Row w2 w1.heap.size tE l (ev e.2)) (t:TypeId) (bytes:Nat) (z:Value) (ht:Pr.underlying t=some (.slice tN))
 (hi:(Pr.info? tN).map (fun i=>(i.zero,i.size,i.bytes))=some (some z,2,bytes)) (hzs:z.cells.size=2) (h63:P.length+1≤maxLen) (hb:(P.length+1)*bytes≤140737488355328):
 ∃r w',(∀ty,(Builtin.append_ #[t,t] ty #[v,.slice (some ⟨w2.heap.size,0,none⟩) 1 1]).run Pr (w2.alloc (.cells #[s,l] tN))= .ok r w')∧OutAt w' lo tI tE tN r (P++ [(s,l,e)])∧Touch (fun b=>lo≤b∧v.ownBlock=some b) w2 w':=by
 have hE:=h.2.1.snoc hlo T1 hs T2 hl
 have T12:=T1.trans T2 fun _ _ f=>f
 have tA:Touch (fun _=>False) w2 (w2.alloc (.cells [s,l].toArray tN)):=(Touch.refl _ _).alloc _
 obtain ⟨_,_,_,es⟩:=hs.lit
 obtain ⟨_,_,_,el⟩:=hl.lit
 have hone: ∀u∈[s,l],u.oneCell'=true:=fun u hu=>by
  rcases List.mem_cons.1 hu with rfl|hu
  ·rw [es];rfl
  ·rw [List.mem_singleton.1 hu,el];rfl
 obtain ⟨r,w',hr,hG,hT,hB⟩:=((h.1.touch0 T12).touch0 tA).app' (P:=Pr) t bytes z ht hi hzs (by omega) _ 1 [s,l] (src_new ht w2 2 1 _ rfl hone) (Nat.le_trans hlo (Nat.le_trans T12.size tA.size)) h63 hb
 have hvlt: ∀b,v.ownBlock=some b→b<w.heap.size:=fun b hb=>own_lt h.1.1 b hb
 have hne: ∀p∈P++ [(s,l,e)],∀b,blkOf p b→v.ownBlock≠some b:=fun p hp b hb hv=>by
  rcases List.mem_append.1 hp with hp|hp
  ·exact h.2.2 p hp b hb hv
  ·obtain rfl:=List.mem_singleton.1 hp
   have:=hvlt b hv
   rcases hb with hb|hb
   ·have:=hs.blk hb;omega
   ·have:=hl.blk hb;have:=T1.size;omega
 have hE2:=(hE.touch tA fun _ _ _ _ f=>f).touch hT fun p hp b hb hh=>hne p hp b hb hh.2
 refine ⟨r,w',hr,⟨by rw [List.length_append,flatP_append];exact hG,hE2,fun p hp b hb hr2=> ?_⟩,⟨hT.os,hT.tape,hT.output,Nat.le_trans tA.size hT.size,fun k hk hn=>(hT.block k (Nat.lt_of_lt_of_le hk tA.size) hn).trans (tA.block k hk (fun f=>f))⟩⟩
 rcases hB with e'|⟨g,e',hg⟩
 ·exact hne p hp b hb (by rw [←e'];exact hr2)
 ·rw [e'] at hr2
  cases hr2
  have:=(hE.touch tA fun _ _ _ _ f=>f).lt hp hb
  omega
def EArr (w:World) (lo:Nat) (tI tE:TypeId) (v:Value) (P:List EP):Prop:=
 EntsAt w lo tI tE P∧∃a,v= .slice a P.length P.length∧(∀(i:Nat) (p:EP),P[i]? =some p→∃g,a=some ⟨g,0,none⟩∧lo≤g∧w.cell? ⟨g,i*2,none⟩=some p.1∧w.cell? ⟨g,i*2+1,none⟩=some p.2.1)∧∀p∈P,∀b,blkOf p b→v.ownBlock≠some b
section sort
variable (w:World) (blk:Nat) (tI:TypeId)
def GoodP (p:EP):Prop:=(∃a m c,p.1= .slice a m c)∧(∃a m c,p.2.1= .slice a m c)∧1≤p.2.2.1.length∧p.2.2.1.length≤3∧∀W,Touch (fun b=>b=blk) w W→Row W 0 tI p.1 (iv (sv p.2.2.1))
abbrev SP:= { p:EP//GoodP w blk tI p }
def encP (p:SP w blk tI):List Value:= [p.1.1,p.1.2.1]
def cfP (p q:SP w blk tI):Int:=cfE p.1.2.2.1 q.1.2.2.1
theorem cfP_lt (p q:SP w blk tI):ltOf (cfP w blk tI) p q=befE p.1.2.2.1 q.1.2.2.1:=by
 unfold ltOf cfP
 exact cfE_lt p.2.2.2.1 q.2.2.2.1
theorem befE_ntrans {a b c:List Nat} (h1:befE a b=false) (h2:befE b c=false):befE a c=false:=by
 by_cases e1:a=b
 ·subst e1;exact h2
 ·by_cases e2:b=c
  ·subst e2;exact h1
  ·have g1:befE b a=true:=by
    rcases befE_total e1 with h|h
    ·rw [h1] at h;cases h
    ·exact h
   have g2:befE c b=true:=by
    rcases befE_total e2 with h|h
    ·rw [h2] at h;cases h
    ·exact h
   exact befE_asymm (befE_trans g2 g1)
theorem swoP:SWO (ltOf (cfP w blk tI)) where
 irrefl x:=by rw [cfP_lt];exact befE_irrefl _
 trans x y z h1 h2:=by rw [cfP_lt] at*;exact befE_trans h1 h2
 ntrans x y z h1 h2:=by rw [cfP_lt] at*;exact befE_ntrans h1 h2
end sort
theorem touch_sortWorldK {α:Type} [Inhabited α] (enc:α→List Value) (k:Nat) (w:World) (blk off m:Nat) (dk:Array α) (os:Array Obj):Touch (fun b=>b=blk) w (sortWorldK enc k w blk off m dk os):=by
 refine ⟨rfl,rfl,rfl,size_sortWorldK_c _ _ _ _ _ _ _ _,fun b hb hne=> ?_⟩
 unfold sortWorldK putRowK
 rw [heap_grow_old _ _ (by simpa using hb)]
 have:blk≠b:=fun e=>hne e.symm
 simp [putRow,mapBlock,Sort.ahead,Array.getElem?_modify,this]
theorem flatP_flatK {w:World} {blk:Nat} {tI:TypeId} [Inhabited (SP w blk tI)] (d:Array (SP w blk tI)) (i:Nat) (p:SP w blk tI) (hp:d.toList[i]? =some p):(flatK (encP w blk tI) 2 d)[i*2]! =p.1.1∧(flatK (encP w blk tI) 2 d)[i*2+1]! =p.1.2.1:=by
 have hi:i<d.size:=by
  have:=(List.getElem?_eq_some_iff.1 hp).1
  simpa using this
 have hd:d[i]! =p:=by
  rw [getElem!_pos d i hi]
  have:=(List.getElem?_eq_some_iff.1 hp).2
  simpa using this
 rw [get_flatK _ _ _ _ (by omega),get_flatK _ _ _ _ (by omega)]
 rw [show i*2/2=i by omega,show (i*2+1)/2=i by omega,show i*2 % 2=0 by omega,show (i*2+1) % 2=1 by omega,hd]
 exact ⟨rfl,rfl⟩
end Go.Ux
namespace Go.Ux
open Go Go.Maps Go.RowKit
def mapE (F:Nat→Nat) (E:List Ent):List Ent:=E.map fun e=>(e.1,e.2.map F)
theorem mapE_keys (F:Nat→Nat) (E:List Ent):(mapE F E).map (·.1)=E.map (·.1):=by unfold mapE;rw [List.map_map];rfl
theorem mapE_len (F:Nat→Nat) (E:List Ent):(mapE F E).length=E.length:=by unfold mapE;rw [List.length_map]
theorem mapE_ok {F:Nat→Nat} (hF: ∀x,x<4294967296→F x<4294967296) {E:List Ent} (h:okT E):okT (mapE F E):=by
 refine ⟨by rw [mapE_keys];exact h.1,fun e he=> ?_⟩
 obtain ⟨d,hd,rfl⟩:=List.mem_map.1 he
 have:=h.2 d hd
 refine ⟨this.1,by simpa using this.2.1,fun x hx=> ?_⟩
 obtain ⟨y,hy,rfl⟩:=List.mem_map.1 hx
 exact hF y (this.2.2 y hy)
theorem LongIs.mapE {E:List Ent} {f:Int→Int} (h:LongIs E f) (F:Nat→Nat):LongIs (mapE F E) f:=by
 refine ⟨fun e he=> ?_,h.2⟩
 obtain ⟨d,hd,rfl⟩:=List.mem_map.1 he
 exact h.1 d hd
theorem LongIs.perm {E T:List Ent} {f:Int→Int} (h:LongIs E f) (hp:E.Perm T):LongIs T f:=⟨fun e he=>h.1 e (hp.mem_iff.2 he),h.2⟩
theorem mapE_sorted (F:Nat→Nat) {T:List Ent} (h:SortedE T):SortedE (mapE F T):=by
 unfold SortedE mapE at*
 rw [List.pairwise_map]
 exact h
theorem mapE_perm (F:Nat→Nat) {E T:List Ent} (h:E.Perm T):(mapE F E).Perm (mapE F T):=h.map _
theorem SameE.mapE {E T:List Ent} (h:SameE E T) (F:Nat→Nat):SameE (mapE F E) (mapE F T):=⟨mapE_perm F h.1,mapE_sorted F h.2⟩
variable {P:Program} {k t:TypeId} {w w':World} {b:Nat} {E T:List Ent} {A:Nat→Prop}
theorem okT.perm (h:okT E) (hp:E.Perm T):okT T:=⟨(hp.map (·.1)).nodup_iff.1 h.1,fun e he=>h.2 e (hp.mem_iff.2 he)⟩
theorem Tells.perm {f:Lit→Option Value} (h:Tells t w f E) (hp:E.Perm T):Tells t w f T:=by
 refine ⟨fun e he=>h.1 e (hp.mem_iff.2 he),fun kl v hv=> ?_⟩
 obtain ⟨e,he,hk⟩:=h.2 kl v hv
 exact ⟨e,hp.mem_iff.1 he,hk⟩
theorem TabMap.perm (h:TabMap P k t w b E) (hp:E.Perm T):TabMap P k t w b T:=by
 obtain ⟨h0,f,h1,h2⟩:=h
 exact ⟨h0.perm hp,f,by rw [←hp.length_eq];exact h1,h2.perm hp⟩
def TabA (P:Program) (k t:TypeId) (w:World) (b:Nat) (E:List Ent) (A:Nat→Prop):Prop:=
 okT E∧∃f,MapIs P k w b E.length f∧Tells t w f E∧∀kl v g,f kl=some v→v.ownBlock=some g→A g
theorem TabA.tab (h:TabA P k t w b E A):TabMap P k t w b E:=by
 obtain ⟨h0,f,h1,h2,_⟩:=h
 exact ⟨h0,f,h1,h2⟩
theorem TabA.made (w:World) (P:Program) (k t:TypeId) (A:Nat→Prop):TabA P k t (w.alloc (.map #[] 0)) w.heap.size [] A:=
 ⟨⟨List.nodup_nil,(fun _ h=>by cases h)⟩,_,MapIs.made w P k,⟨(fun _ h=>by cases h),(fun _ _ h=>by cases h)⟩,fun _ _ _ h=>by cases h⟩
theorem TabA.touch {R:Nat→Prop} (h:TabA P k t w b E A) (ht:Touch R w w') (hb: ¬R b) (hR: ∀g,A g→¬R g):TabA P k t w' b E A:=by
 obtain ⟨h0,f,h1,h2,h3⟩:=h
 refine ⟨h0,f,h1.touch ht hb,⟨fun e he=> ?_,h2.2⟩,h3⟩
 obtain ⟨v,g1,g2⟩:=h2.1 e he
 exact ⟨v,g1,g2.touch ht fun g _ hg=>hR g (h3 _ v g g1 hg)⟩
theorem TabA.mono {A':Nat→Prop} (h:TabA P k t w b E A) (hA: ∀g,A g→A' g):TabA P k t w b E A':=by
 obtain ⟨h0,f,h1,h2,h3⟩:=h
 exact ⟨h0,f,h1,h2,fun kl v g g1 g2=>hA g (h3 kl v g g1 g2)⟩
theorem TabA.put {f:Lit→Option Value} {v:Value} {s l:List Nat} (h0:okT E) (h1:MapIs P k w b E.length f) (h2:Tells t w f E) (h3: ∀kl v g,f kl=some v→v.ownBlock=some g→A g) (hs:okE (s,l)) (hn:s∉E.map (·.1)) (hv:Row w 0 t v (ev l))
 (hvA: ∀g,v.ownBlock=some g→A g) (hm:MapIs P k w' b (E.length+1) (upd f (kl3 s) v)) (ht:Touch (fun i=>i=b) w w'):TabA P k t w' b (E++ [(s,l)]) A:=by
 have hR:=h1.notCells (t:=t)
 have h2':=h2.touch ht hR
 have hv':Row w' 0 t v (ev l):=hv.imp id fun ⟨g,c,cur,e,hg,hh,r⟩=>⟨g,c,cur,e,hg,ht.heap hh (hR g _ hh),r⟩
 refine ⟨⟨?_,?_⟩,_,by rw [List.length_append];exact hm,⟨?_,?_⟩,?_⟩
 ·rw [List.map_append,List.nodup_append]
  refine ⟨h0.1,by simp,fun a ha b hb=> ?_⟩
  obtain rfl:b=s:=by simpa using hb
  exact fun e=>hn (e▸ha)
 ·intro e he
  rcases List.mem_append.1 he with he|he
  ·exact h0.2 e he
  ·obtain rfl:e=(s,l):=by simpa using he
   exact hs
 ·intro e he
  rcases List.mem_append.1 he with he|he
  ·obtain ⟨u,hu,hr⟩:=h2'.1 e he
   refine ⟨u,?_,hr⟩
   unfold upd
   rw [if_neg]
   ·exact hu
   ·intro hk
    have:=kl3_inj (h0.2 e he).1 hs.1 (WideAt.sameKey_eq hk)
    exact hn (List.mem_map.2 ⟨e,he,this⟩)
  ·obtain rfl:e=(s,l):=by simpa using he
   exact ⟨v,by unfold upd;rw [if_pos (kl3_self s)],hv'⟩
 ·intro kl u hu
  unfold upd at hu
  split at hu
  ·rename_i hk
   exact ⟨(s,l),by simp,WideAt.sameKey_eq hk⟩
  ·obtain ⟨e,he,hk⟩:=h2.2 kl u hu
   exact ⟨e,List.mem_append_left _ he,hk⟩
 ·intro kl u g hu hg
  unfold upd at hu
  split at hu
  ·cases hu
   exact hvA g hg
  ·exact h3 kl u g hu hg
end Go.Ux
