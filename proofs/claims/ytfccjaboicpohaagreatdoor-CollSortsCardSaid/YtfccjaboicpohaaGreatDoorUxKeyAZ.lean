/- A part of the proof that the statement holds for every input that it names. No other condition. -/
import Derived.Test.YtfccjaboicpohaaGreatDoorUxCollAZ
set_option linter.unusedVariables false
set_option linter.unusedSimpArgs false
namespace Go.Ux
open Go Go.RowKit
def encW (L x:Nat):List UInt8:=if L=1 then [UInt8.ofNat (x/256),UInt8.ofNat x] else [UInt8.ofNat x]
def sepW (L:Nat):List UInt8:=if L=2 then [0,0] else if L=3 then [0] else []
def keyL (sh bk:Bool) (l:List Nat):Nat→List UInt8
 |0=> []
 |n+1=>keyL sh bk l n++sepW (n+1)++(wts sh bk (n+1) l).flatMap (encW (n+1))
end Go.Ux
namespace Go.Ux
open Go Go.RowKit
def cmpB (x y:List UInt8):Int:=cmpL (x.map fun b=>(b.toNat:Int)) (y.map fun b=>(b.toNat:Int))
theorem cmpB_cons (a b:UInt8) (x y:List UInt8):cmpB (a::x) (b::y)=if a=b then cmpB x y else if a<b then-1 else 1:=by
 unfold cmpB
 rw [List.map_cons,List.map_cons,cmpL]
 by_cases h:a=b
 ·subst h
  rw [if_pos (cmpI_zero.2 rfl),if_pos rfl]
 ·have hn:(a.toNat:Int)≠b.toNat:=fun e=>h (UInt8.toNat_inj.1 (by omega))
  rw [if_neg (fun e=>hn (cmpI_zero.1 e)),if_neg h]
  unfold cmpI
  by_cases h2:a<b
  ·have:a.toNat<b.toNat:=UInt8.lt_iff_toNat_lt.1 h2
   rw [if_pos (by omega),if_pos h2]
  ·have: ¬a.toNat<b.toNat:=fun h3=>h2 (UInt8.lt_iff_toNat_lt.2 h3)
   rw [if_neg (by omega),if_pos (by omega),if_neg h2]
theorem cmpB_less: ∀(x y:List UInt8),cmpB x y=if Op.bytesLess x y then-1 else if Op.bytesLess y x then 1 else 0
 | [],[]=>by simp [cmpB,cmpL,Op.bytesLess]
 |_::_,[]=>by simp [cmpB,cmpL,Op.bytesLess]
 | [],_::_=>by simp [cmpB,cmpL,Op.bytesLess]
 |a::x,b::y=>by
  rw [cmpB_cons,cmpB_less x y]
  by_cases h:a=b
  ·subst h
   have: ¬(a<a):=by rw [UInt8.lt_iff_toNat_lt];omega
   simp [Op.bytesLess,this]
  ·have hn:a.toNat≠b.toNat:=fun e=>h (UInt8.toNat_inj.1 e)
   rw [if_neg h]
   by_cases h2:a<b
   ·simp [Op.bytesLess,h2]
   ·have h3:b<a:=by
     rw [UInt8.lt_iff_toNat_lt] at h2⊢
     omega
    have hb: ¬(b=a):=fun e=>h e.symm
    simp [Op.bytesLess,h2,h3,h]
theorem byte_eq {x y:Nat} (hx:x<256) (hy:y<256):UInt8.ofNat x=UInt8.ofNat y↔x=y:=by
 constructor
 ·intro h
  have:=congrArg UInt8.toNat h
  rw [UInt8.toNat_ofNat',UInt8.toNat_ofNat'] at this
  omega
 ·rintro rfl
  rfl
theorem byte_lt {x y:Nat} (hx:x<256) (hy:y<256):UInt8.ofNat x<UInt8.ofNat y↔x<y:=by
 rw [UInt8.lt_iff_toNat_lt,UInt8.toNat_ofNat',UInt8.toNat_ofNat']
 omega
theorem enc_two (L x:Nat) (h:L≠1):encW L x= [UInt8.ofNat x]:=by unfold encW;rw [if_neg h]
theorem enc_one (x:Nat):encW 1 x= [UInt8.ofNat (x/256),UInt8.ofNat x]:=by unfold encW;rw [if_pos rfl]
theorem cmpL_cons (x y:Nat) (a b:List Nat):cmpL (sv (x::a)) (sv (y::b))=if x=y then cmpL (sv a) (sv b) else if x<y then-1 else 1:=by
 show cmpL ((x:Int)::sv a) ((y:Int)::sv b)=_
 rw [cmpL]
 by_cases h:x=y
 ·subst h
  rw [if_pos (cmpI_zero.2 rfl),if_pos rfl]
 ·rw [if_neg (fun e=>h (by have:=cmpI_zero.1 e;omega)),if_neg h]
  unfold cmpI
  by_cases h2:x<y
  ·rw [if_pos (by omega),if_pos h2]
  ·rw [if_neg (by omega),if_pos (by omega),if_neg h2]
theorem flat_last {L:Nat} (hL:L≠1): ∀(a b:List Nat),(∀x∈a,x<256)→(∀x∈b,x<256)→cmpB (a.flatMap (encW L)) (b.flatMap (encW L))=cmpL (sv a) (sv b)
 | [],[],_,_=>rfl
 | [],y::b,_,_=>by rw [List.flatMap_cons,enc_two L y hL];rfl
 |x::a,[],_,_=>by rw [List.flatMap_cons,enc_two L x hL];rfl
 |x::a,y::b,ha,hb=>by
  have h1:=ha x (by simp)
  have h2:=hb y (by simp)
  rw [List.flatMap_cons,List.flatMap_cons,enc_two L x hL,enc_two L y hL,List.singleton_append,List.singleton_append,cmpB_cons,flat_last hL a b (fun z hz=>ha z (by simp [hz])) (fun z hz=>hb z (by simp [hz])),cmpL_cons]
  simp only [byte_eq h1 h2,byte_lt h1 h2]
theorem flat_more {L:Nat} (hL:L≠1) (X Y:List UInt8): ∀(a b:List Nat),(∀x∈a,0<x∧x<256)→(∀x∈b,0<x∧x<256)→cmpB (a.flatMap (encW L)++0::X) (b.flatMap (encW L)++0::Y)=if cmpL (sv a) (sv b)≠0 then cmpL (sv a) (sv b) else cmpB X Y
 | [],[],_,_=>by
   rw [List.flatMap_nil,List.nil_append,List.nil_append,cmpB_cons,if_pos rfl]
   rfl
 | [],y::b,_,hb=>by
   have h2:=hb y (by simp)
   rw [List.flatMap_cons,enc_two L y hL,List.flatMap_nil,List.nil_append,List.singleton_append,List.cons_append,cmpB_cons]
   rw [show (0:UInt8)=UInt8.ofNat 0 from rfl,if_neg (by rw [byte_eq (by omega) h2.2];omega),if_pos (by rw [byte_lt (by omega) h2.2];omega)]
   rfl
 |x::a,[],ha,_=>by
  have h1:=ha x (by simp)
  rw [List.flatMap_cons,enc_two L x hL,List.flatMap_nil,List.nil_append,List.singleton_append,List.cons_append,cmpB_cons]
  rw [show (0:UInt8)=UInt8.ofNat 0 from rfl,if_neg (by rw [byte_eq h1.2 (by omega)];omega),if_neg (by rw [byte_lt h1.2 (by omega)];omega)]
  rfl
 |x::a,y::b,ha,hb=>by
  have h1:=ha x (by simp)
  have h2:=hb y (by simp)
  rw [List.flatMap_cons,List.flatMap_cons,enc_two L x hL,enc_two L y hL,List.singleton_append,List.singleton_append,List.cons_append,List.cons_append,cmpB_cons,flat_more hL X Y a b (fun z hz=>ha z (by simp [hz])) (fun z hz=>hb z (by simp [hz])),cmpL_cons]
  simp only [byte_eq h1.2 h2.2,byte_lt h1.2 h2.2]
  by_cases h:x=y
  ·simp only [h,if_true]
  ·simp only [h,if_false]
   split<;>simp
theorem two_cmp (x y:Nat) (hx:x<65536) (hy:y<65536) (X Y:List UInt8):cmpB (encW 1 x++X) (encW 1 y++Y)=if x=y then cmpB X Y else if x<y then-1 else 1:=by
 rw [enc_one,enc_one]
 show cmpB (UInt8.ofNat (x/256)::UInt8.ofNat x::X) (UInt8.ofNat (y/256)::UInt8.ofNat y::Y)=_
 have e: ∀z:Nat,UInt8.ofNat z=UInt8.ofNat (z % 256):=fun z=>by
  apply UInt8.toNat_inj.1
  rw [UInt8.toNat_ofNat',UInt8.toNat_ofNat']
  omega
 rw [e x,e y,cmpB_cons,cmpB_cons]
 simp only [byte_eq (show x/256<256 by omega) (show y/256<256 by omega),byte_lt (show x/256<256 by omega) (show y/256<256 by omega),byte_eq (show x % 256<256 by omega) (show y % 256<256 by omega),byte_lt (show x % 256<256 by omega) (show y % 256<256 by omega)]
 by_cases h:x=y
 ·subst h
  simp
 ·rw [if_neg h]
  by_cases h1:x/256=y/256
  ·rw [if_pos h1,if_neg (by omega)]
   by_cases h2:x % 256<y % 256
   ·rw [if_pos h2,if_pos (by omega)]
   ·rw [if_neg h2,if_neg (by omega)]
  ·rw [if_neg h1]
   by_cases h2:x/256<y/256
   ·rw [if_pos h2,if_pos (by omega)]
   ·rw [if_neg h2,if_neg (by omega)]
theorem flat1_last: ∀(a b:List Nat),(∀x∈a,x<65536)→(∀x∈b,x<65536)→cmpB (a.flatMap (encW 1)) (b.flatMap (encW 1))=cmpL (sv a) (sv b)
 | [],[],_,_=>rfl
 | [],y::b,_,_=>by rw [List.flatMap_cons,enc_one];rfl
 |x::a,[],_,_=>by rw [List.flatMap_cons,enc_one];rfl
 |x::a,y::b,ha,hb=>by
  rw [List.flatMap_cons,List.flatMap_cons,two_cmp x y (ha x (by simp)) (hb y (by simp)),flat1_last a b (fun z hz=>ha z (by simp [hz])) (fun z hz=>hb z (by simp [hz])),cmpL_cons]
theorem flat1_more (X Y:List UInt8): ∀(a b:List Nat),(∀x∈a,0<x∧x<65536)→(∀x∈b,0<x∧x<65536)→cmpB (a.flatMap (encW 1)++0::0::X) (b.flatMap (encW 1)++0::0::Y)=if cmpL (sv a) (sv b)≠0 then cmpL (sv a) (sv b) else cmpB X Y
 | [],[],_,_=>by
   rw [List.flatMap_nil,List.nil_append,List.nil_append,cmpB_cons,if_pos rfl,cmpB_cons,if_pos rfl]
   rfl
 | [],y::b,_,hb=>by
   have h2:=hb y (by simp)
   rw [List.flatMap_cons,List.flatMap_nil,List.nil_append,List.append_assoc]
   have h:=two_cmp 0 y (by omega) h2.2 X (b.flatMap (encW 1)++0::0::Y)
   rw [if_neg (by omega),if_pos h2.1] at h
   exact h
 |x::a,[],ha,_=>by
  have h1:=ha x (by simp)
  rw [List.flatMap_cons,List.flatMap_nil,List.nil_append,List.append_assoc]
  have h:=two_cmp x 0 h1.2 (by omega) (a.flatMap (encW 1)++0::0::X) Y
  rw [if_neg (by omega),if_neg (by omega)] at h
  exact h
 |x::a,y::b,ha,hb=>by
  rw [List.flatMap_cons,List.flatMap_cons,List.append_assoc,List.append_assoc,two_cmp x y (ha x (by simp)).2 (hb y (by simp)).2,flat1_more X Y a b (fun z hz=>ha z (by simp [hz])) (fun z hz=>hb z (by simp [hz])),cmpL_cons]
  by_cases h:x=y
  ·simp only [h,if_true]
  ·simp only [h,if_false]
   split<;>simp
theorem wts_lt {sh bk:Bool} {L:Nat} (hL:L=1∨L=2∨L=3) {l:List Nat} (hl: ∀x∈l,x<4294967296): ∀x∈wts sh bk L l,0<x∧x<if L=1 then 65536 else 256:=fun x hx=>by
 have h1:x∈wF sh L l:=by
  unfold wts at hx
  split at hx
  ·exact List.mem_reverse.1 hx
  ·exact hx
 unfold wF at h1
 obtain ⟨y,hy,rfl⟩:=List.mem_map.1 h1
 obtain ⟨hy,hk⟩:=List.mem_filter.1 hy
 have h2:=hl y hy
 unfold keepW at hk
 simp at hk
 refine ⟨hk.1,?_⟩
 rcases hL with rfl|rfl|rfl
 ·show eP y<65536
  unfold eP
  omega
 ·show eS y<256
  unfold eS
  omega
 ·show eT y<256
  unfold eT
  omega
theorem key_order (sh bk:Bool) (a b:List Nat) (ha: ∀x∈a,x<4294967296) (hb: ∀x∈b,x<4294967296) (LI:Nat) (h1:1≤LI) (h3:LI≤3):cmpB (keyL sh bk a LI) (keyL sh bk b LI)=wghC sh bk a b 1 LI:=by
 have A1:=wts_lt (sh:=sh) (bk:=bk) (.inl rfl) ha
 have B1:=wts_lt (sh:=sh) (bk:=bk) (.inl rfl) hb
 have A2:=wts_lt (sh:=sh) (bk:=bk) (.inr (.inl rfl)) ha
 have B2:=wts_lt (sh:=sh) (bk:=bk) (.inr (.inl rfl)) hb
 have A3:=wts_lt (sh:=sh) (bk:=bk) (.inr (.inr rfl)) ha
 have B3:=wts_lt (sh:=sh) (bk:=bk) (.inr (.inr rfl)) hb
 have k1: ∀l,keyL sh bk l 1=(wts sh bk 1 l).flatMap (encW 1):=fun l=>rfl
 have k2: ∀l,keyL sh bk l 2=(wts sh bk 1 l).flatMap (encW 1)++0::0::(wts sh bk 2 l).flatMap (encW 2):=fun l=>by
  show (keyL sh bk l 1++ [0,0])++_=_
  rw [k1,List.append_assoc]
  rfl
 have k3: ∀l,keyL sh bk l 3=(wts sh bk 1 l).flatMap (encW 1)++0::0::((wts sh bk 2 l).flatMap (encW 2)++0::(wts sh bk 3 l).flatMap (encW 3)):=fun l=>by
  show (keyL sh bk l 2++ [0])++_=_
  rw [k2,List.append_assoc,List.append_assoc]
  rfl
 have hc:LI=1∨LI=2∨LI=3:=by omega
 rcases hc with rfl|rfl|rfl
 ·rw [k1,k1,flat1_last _ _ (fun x hx=>(A1 x hx).2) (fun x hx=>(B1 x hx).2)]
  unfold wghC wghC
  split
  ·rfl
  ·rename_i h
   exact Classical.not_not.1 h
 ·rw [k2,k2,flat1_more _ _ _ _ A1 B1,flat_last (by decide) _ _ (fun x hx=>(A2 x hx).2) (fun x hx=>(B2 x hx).2)]
  unfold wghC wghC wghC
  split
  ·rfl
  ·split
   ·rfl
   ·rename_i h
    exact Classical.not_not.1 h
 ·rw [k3,k3,flat1_more _ _ _ _ A1 B1,flat_more (by decide) _ _ _ _ A2 B2,flat_last (by decide) _ _ (fun x hx=>(A3 x hx).2) (fun x hx=>(B3 x hx).2)]
  unfold wghC wghC wghC wghC
  split
  ·rfl
  ·split
   ·rfl
   ·split
    ·rfl
    ·rename_i h
     exact Classical.not_not.1 h
end Go.Ux
namespace Go.Ux
open Go Go.RowKit
variable {P:Program}
theorem Row.app {w:World} {lo:Nat} {e:TypeId} {v:Value} {xs:List Value} (h:Row w lo e v xs) (t:TypeId) (bytes:Nat) (z:Value) (ht:P.underlying t=some (.slice e))
 (hi:(P.info? e).map (fun i=>(i.zero,i.size,i.bytes))=some (some z,1,bytes)) (hzs:z.cells.size=1) (x:Value) (m:Nat) (ys:List Value) (hs:Src P 1 t x m ys w) (hl:ys.length=m) (hlo:lo≤w.heap.size)
 (h63:xs.length+m≤maxLen) (hb:(xs.length+m)*bytes≤140737488355328):
 ∃r w',(∀ty,(Builtin.append_ #[t,t] ty #[v,x]).run P w= .ok r w')∧Row w' lo e r (xs++ys)∧Touch (fun b=>lo≤b∧v.ownBlock=some b) w w':=by
 rcases h with ⟨rfl,rfl⟩|⟨g,c,cur,rfl,hg,hh,h1,h2,h3⟩
 ·obtain ⟨r,w',a1,a2,a3⟩:=(KGrow.nil w lo e 1).app t bytes z ht hi hzs (by omega) x m ys hs hlo (by simpa using h63) (by simpa using hb)
  exact ⟨r,w',a1,(Row.own a2.1 a2.2).1,a3⟩
 ·obtain ⟨i0,hi0,hz0⟩:=Option.map_eq_some_iff.1 hi
  simp only [Prod.mk.injEq] at hz0
  obtain ⟨hz0,hz1,hz2⟩:=hz0
  by_cases hr:xs.length+m≤c
  ·have hcell: ∀j,j<ys.length→w.cell? ⟨g,0+xs.length*i0.size+j,none⟩=cur[xs.length+j]? :=fun j hj=>by
    rw [hz1,Nat.mul_one,Nat.zero_add]
    exact cell_of_row w g (xs.length+j) _ _ (0,0) hh
   refine ⟨_,_,fun ty=>run_append_room_src (P:=P) (w:=w) t t ty e i0 ht hi0 g 0 xs.length c x m ys (by rw [hz1];exact hs) hr (fun j hj=> ?_) (fun j hj=> ?_),?_,?_⟩
   ·rw [hcell j hj,Array.getElem?_eq_getElem (by omega)]
    rfl
   ·exact frozen_row hh _
   ·have hrow:Row w lo e (.slice (some ⟨g,0,none⟩) (xs.length+m) c) (cur.toList.take (xs.length+m)):=by
     have hlen:(cur.toList.take (xs.length+m)).length=xs.length+m:=by (have hcl:cur.toList.length=cur.size:=(by simp);rw [List.length_take];omega)
     exact .inr ⟨g,c,cur,by rw [hlen],hg,hh,by rw [hlen];exact hr,h2,by rw [hlen]⟩
    have h5:=Row.setAll ys xs.length w _ hrow
    rw [setL_eq _ _ _ (by have hcl:cur.toList.length=cur.size:=(by simp);rw [List.length_take];omega),List.take_take,Nat.min_eq_left (by omega),h3] at h5
    rw [hz1,Nat.mul_one,Nat.zero_add]
    exact h5
   ·rw [hz1,Nat.mul_one,Nat.zero_add]
    exact Touch.setCells (fun _=>⟨hg,rfl⟩) _ _ _ (Touch.refl _ _)
  ·have hold: ∀j u,xs[j]? =some u→w.drew.cell? ((⟨g,0,none⟩:Addr).add j)=some u:=fun j u hj=>by
    have e1:(⟨g,0,none⟩:Addr).add j=⟨g,j,none⟩:=by rw [Addr.add_mid];simp
    rw [e1]
    exact row_cell (w:=w.drew) hh h3 j u hj
   refine ⟨_,_,fun ty=>run_append_grow_src (P:=P) (w:=w) t t ty e i0 z ht hi0 hz0 (some ⟨g,0,none⟩) xs.length c xs (run_firstCells_some (P:=P) w.drew i0.size xs.length ⟨g,0,none⟩ xs.length c xs (by rw [hz1,Nat.mul_one]) hold) x m ys (by rw [hz1];exact hs) (by omega)
    (by have:=h63;simp only [maxLen] at this;omega) (growslice_fits (by omega) (by rw [hz2];exact hb)),?_,?_⟩
   ·have hge:=grownCap_ge w (xs.length+m) c e
    refine .inr ⟨w.heap.size,grownCap w (xs.length+m) c e,_,by rw [List.length_append,hl],hlo,by
     have:=heap_alloc_new w.drew (.cells ((xs++ys).toArray++Builtin.zeroCells z.cells (grownCap w (xs.length+m) c e-(xs.length+m))) e)
     exact this,by rw [List.length_append,hl];exact hge,?_,?_⟩
    ·rw [Array.size_append,size_zeroCells,hzs,Nat.mul_one,List.size_toArray,List.length_append,hl]
     omega
    ·rw [Array.toList_append,List.toList_toArray,List.take_left' rfl]
   ·exact ((Touch.refl _ w).drew).alloc _
theorem Row.kind {w:World} {lo:Nat} {t:TypeId} {v:Value} {xs:List Value} (h:Row w lo t v xs) {b:Nat} (hb:v.ownBlock=some b): ∃cs,w.heap[b]? =some (.cells cs t (0,0)):=by
 rcases h with ⟨rfl,_⟩|⟨g,c,cur,rfl,hg,hh,_⟩
 ·cases hb
 ·cases hb
  exact ⟨cur,hh⟩
end Go.Ux
