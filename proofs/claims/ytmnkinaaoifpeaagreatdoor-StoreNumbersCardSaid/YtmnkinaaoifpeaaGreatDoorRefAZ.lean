/- A part of the proof that the statement holds for every input that it names. No other condition. -/
import Derived.Test.YtmnkinaaoifpeaaGreatDoorUxTabAZ
import Derived.Test.YtmnkinaaoifpeaaGreatDoorTableBZ
set_option linter.unusedVariables false
set_option linter.unusedSimpArgs false
namespace Go.Proofs.YtmnkinaaoifpeaaGreatDoor
open Go.RowKit
open Ux (Ent befE sv findE KGrow Ents)
theorem SView.touchB {R:Nat→Prop} {w w':World} {v:Value} {s:List Nat} (h:SView w v s) (ht:Ux.Touch R w w') (hR: ∀g,v.ownBlock=some g→¬R g):SView w' v s:=by
 obtain ⟨a,c,rfl,hc⟩:=h
 refine ⟨a,c,rfl,fun j x hx=> ?_⟩
 obtain ⟨g,o,rfl,h1⟩:=hc j x hx
 exact ⟨g,o,rfl,ht.cell h1 (hR g rfl)⟩
theorem RRow.touchB {R:Nat→Prop} {w w':World} {v:Value} {l:List Nat} (h:RRow w v l) (ht:Ux.Touch R w w') (hR: ∀g,v.ownBlock=some g→¬R g):RRow w' v l:=by
 obtain ⟨a,c,rfl,hc⟩:=h
 refine ⟨a,c,rfl,fun i x hx=> ?_⟩
 obtain ⟨g,o,rfl,h1,h2,h3,h4⟩:=hc i x hx
 exact ⟨g,o,rfl,ht.cell h1 (hR g rfl),ht.cell h2 (hR g rfl),ht.cell h3 (hR g rfl),ht.cell h4 (hR g rfl)⟩
theorem one_of {w:World} {a b:Value} {s l:List Nat} (h1:SView w a s) (h2:RRow w b l):a.oneCell'=true∧b.oneCell'=true:=by
 obtain ⟨_,_,rfl,_⟩:=h1
 obtain ⟨_,_,rfl,_⟩:=h2
 exact ⟨rfl,rfl⟩
def capOk (v:Value):Prop:=match v with
 | .slice _ n c=>n≤c
 |_=>True
def EntV (w:World) (A:Nat→Prop) (a b:Value) (e:Ent):Prop:=(SView w a e.1∧RRow w b e.2)∧(∀g,a.ownBlock=some g→A g∧g<w.heap.size)∧(∀g,b.ownBlock=some g→A g∧g<w.heap.size)∧capOk a
theorem EntV.touchB {R:Nat→Prop} {w w':World} {A:Nat→Prop} (ht:Ux.Touch R w w') (hR: ∀g,g<w.heap.size→A g→¬R g) (a b:Value) (e:Ent) (h:EntV w A a b e):EntV w' A a b e:=
 ⟨⟨h.1.1.touchB ht fun g hg=>hR g (h.2.1 g hg).2 (h.2.1 g hg).1,h.1.2.touchB ht fun g hg=>hR g (h.2.2.1 g hg).2 (h.2.2.1 g hg).1⟩,fun g hg=>⟨(h.2.1 g hg).1,Nat.lt_of_lt_of_le (h.2.1 g hg).2 ht.size⟩,fun g hg=>⟨(h.2.2.1 g hg).1,Nat.lt_of_lt_of_le (h.2.2.1 g hg).2 ht.size⟩,h.2.2.2⟩
theorem EntV.touch0 {w w':World} {A:Nat→Prop} (ht:Ux.Touch (fun _=>False) w w') (a b:Value) (e:Ent) (h:EntV w A a b e):EntV w' A a b e:=h.touchB ht (fun _ _ _ f=>f)
theorem EntV.one {w:World} {A:Nat→Prop} (a b:Value) (e:Ent) (h:EntV w A a b e):a.oneCell'=true∧b.oneCell'=true:=one_of h.1.1 h.1.2
theorem EntV.mono {w:World} {A A':Nat→Prop} (hl: ∀g,g<w.heap.size→A g→A' g) (a b:Value) (e:Ent) (h:EntV w A a b e):EntV w A' a b e:=⟨h.1,fun g hg=>⟨hl g (h.2.1 g hg).2 (h.2.1 g hg).1,(h.2.1 g hg).2⟩,fun g hg=>⟨hl g (h.2.2.1 g hg).2 (h.2.2.1 g hg).1,(h.2.2.1 g hg).2⟩,h.2.2.2⟩
def RRows (w:World) (A:Nat→Prop) (v:Value) (T:List Ent):Prop:=(∀g,v.ownBlock=some g→A g∧g<w.heap.size)∧∃a c,v= .slice a T.length c∧T.length≤c∧∀(i:Nat) (e:Ent),T[i]? =some e→∃g o x y,a=some ⟨g,o,none⟩∧w.cell? ⟨g,o+i*2,none⟩=some x∧w.cell? ⟨g,o+i*2+1,none⟩=some y∧EntV w A x y e
theorem RRows.touchB {R:Nat→Prop} {w w':World} {A:Nat→Prop} {v:Value} {T:List Ent} (h:RRows w A v T) (ht:Ux.Touch R w w') (hR: ∀g,g<w.heap.size→A g→¬R g):RRows w' A v T:=by
 obtain ⟨h0,a,c,rfl,hcap,hc⟩:=h
 refine ⟨fun g hg=>⟨(h0 g hg).1,Nat.lt_of_lt_of_le (h0 g hg).2 ht.size⟩,a,c,rfl,hcap,fun i e he=> ?_⟩
 obtain ⟨g,o,x,y,rfl,h1,h2,h3⟩:=hc i e he
 have hg:=hR g (h0 g rfl).2 (h0 g rfl).1
 exact ⟨g,o,x,y,rfl,ht.cell h1 hg,ht.cell h2 hg,h3.touchB ht hR⟩
theorem RRows.touch0 {w w':World} {A:Nat→Prop} {v:Value} {T:List Ent} (h:RRows w A v T) (ht:Ux.Touch (fun _=>False) w w'):RRows w' A v T:=h.touchB ht (fun _ _ _ f=>f)
theorem RRows.mono {w:World} {A A':Nat→Prop} {v:Value} {T:List Ent} (h:RRows w A v T) (hl: ∀g,g<w.heap.size→A g→A' g):RRows w A' v T:=by
 obtain ⟨h0,a,c,rfl,hcap,hc⟩:=h
 refine ⟨fun g hg=>⟨hl g (h0 g hg).2 (h0 g hg).1,(h0 g hg).2⟩,a,c,rfl,hcap,fun i e he=> ?_⟩
 obtain ⟨g,o,x,y,h1,h2,h3,h4⟩:=hc i e he
 exact ⟨g,o,x,y,h1,h2,h3,h4.mono hl⟩
theorem RRows.nil (w:World) (A:Nat→Prop):RRows w A (.slice none 0 0) []:=⟨fun g hg=>(by cases hg),none,0,rfl,Nat.le_refl _,fun i x h=>(by simp at h)⟩
theorem RRows.of_grow {w:World} {lo:Nat} {A:Nat→Prop} {t:TypeId} {v:Value} {T:List Ent} {xs:List Value} (h:KGrow w lo t 2 v T.length xs) (hA: ∀g,lo≤g→A g) (he:Ents (EntV w A) xs T):RRows w A v T:=by
 have hg2:=h.2
 have hg3:=Ux.own_lt h.1
 obtain ⟨a,c,rfl,hc⟩:=h.is
 refine ⟨fun g hg=>⟨hA g (hg2 g hg),hg3 g hg⟩,a,c,rfl,h.cap,fun i e hi=> ?_⟩
 obtain ⟨x,y,h1,h2,h3⟩:=he.at hi
 obtain ⟨g,rfl,_,c1⟩:=hc _ _ h1
 obtain ⟨g',hg,_,c2⟩:=hc _ _ h2
 cases hg
 exact ⟨g,0,x,y,rfl,by rw [Nat.zero_add];exact c1,by rw [Nat.zero_add];exact c2,h3⟩
def findI (T:List Ent) (s:List Int):Option (List Nat):=(T.find? fun e=>sv e.1==s).map (·.2)
theorem sv_inj: ∀{a b:List Nat},sv a=sv b→a=b
 | [],[],_=>rfl
 |x::a,y::b,h=>by
  unfold sv at h
  simp only [List.map_cons,List.cons.injEq] at h
  have h1:x=y:=by have:=h.1;omega
  rw [h1,sv_inj (show sv a=sv b from h.2)]
 | [],_::_,h=>by simp [sv] at h
 |_::_,[],h=>by simp [sv] at h
theorem sv_beq (a b:List Nat):(sv a==sv b)=(a==b):=by
 rw [Bool.eq_iff_iff]
 simp only [beq_iff_eq]
 exact ⟨sv_inj,fun h=>by rw [h]⟩
theorem findI_sv (T:List Ent) (s:List Nat):findI T (sv s)=findE T s:=by
 unfold findI findE
 simp only [sv_beq]
theorem findI_drop {T:List Ent} {s:List Int} {i:Nat} {e:Ent} (h:T[i]? =some e):findI (T.drop i) s=if sv e.1==s then some e.2 else findI (T.drop (i+1)) s:=by
 rw [Ux.drop_get h]
 unfold findI
 rw [List.find?_cons]
 cases sv e.1==s<;>rfl
def FoundR (w:World) (v:Value) (r:Option (List Nat)):Prop:=match r with
 |some l=>RRow w v l
 |none=>v= .slice none 0 0
theorem FoundR.row {w:World} {v:Value} {r:Option (List Nat)} (h:FoundR w v r):RRow w v (r.getD []):=by
 cases r with
 |none=>
  have h:v= .slice none 0 0:=h
  subst h
  exact RRow.nil w
 |some l=>exact h
set_option maxHeartbeats 8000000 in
set_option maxRecDepth 100000 in
theorem rfind_ (v vs:Value) (T:List Ent) (s:List Int) (A:Nat→Prop) (w:World) (hT:RRows w A v T) (hs:IView w vs s) (h1:T.length≤1000000) (h2:s.length≤1000000000) (h3: ∀e∈T,e.1.length≤1000000000):
 Calls Tryz.prog 204 #[.agg #[v],vs] w fun e w'=> ∃u,e= .returned (.tuple #[u,.bool (findI T s).isSome])∧FoundR w' u (findI T s)∧Ux.Touch (fun _=>False) w w':=by
 obtain ⟨_,a,ca,rfl,_,hca⟩:=hT
 obtain ⟨n,hn⟩: ∃n,T.length=n:=⟨_,rfl⟩
 obtain ⟨R,hR⟩: ∃R,findI T s=R:=⟨_,rfl⟩
 obtain ⟨q,hq⟩: ∃q,w.heap.size=q:=⟨_,rfl⟩
 rw [hn] at h1⊢
 rw [hR]
 have n0:(n:Int)≤1000000:=by omega
 have HH:=Lib.hid (And.intro hca (And.intro hn (And.intro hs (And.intro h2 h3))))
 have HR:=Lib.hid (And.intro hR hq)
 clear hca hn hR h1 h2 h3 hs hq
 go_enter Tryz.func204,Tryz.ntmps204
 go_wp2
 go_loopg [6] n (fun g s6 wr=> ∃i:Nat,s6= .int .i64 i∧i+g=n∧wr.cell? ⟨w.heap.size,0,none⟩=some (.slice a n ca)∧Hid (findI (T.drop i) s=R∧Ux.Touch (fun _=>False) w wr))
 case atStart=>exact ⟨0,rfl,by omega,by simp [Ux.cell_newg],Lib.hid ⟨HR.out.1,(Ux.Touch.refl _ _).alloc _⟩⟩
 case round=>
  obtain ⟨i,rfl,hig,hbox,HI⟩:=hrel
  have p0:(0:Int)≤i:=by omega
  by_cases hlt:i<n
  ·obtain ⟨g',rfl⟩: ∃g',gk=g'+1:=⟨gk-1,by omega⟩
   obtain ⟨e,he⟩: ∃x,T[i]? =some x:=⟨_,List.getElem?_eq_getElem (by have:=HH.out.2.1;omega)⟩
   obtain ⟨g,o,x,y,rfl,c1,c2,c3⟩:=HH.out.1 i e he
   have T0:=HI.out.2
   have c1:=T0.cell c1 (fun f=>f)
   have c2:=T0.cell c2 (fun f=>f)
   have HS:=Lib.hid fun W (T1:Ux.Touch (fun _=>False) wr W)=>sameInts_ x vs (sv e.1) s W ((c3.touch0 T0).1.1.i.touch0 T1) ((HH.out.2.2.1.touch0 T0).touch0 T1) (by rw [Ux.sv_length];exact HH.out.2.2.2.2 e (List.mem_of_getElem? he)) HH.out.2.2.2.1
   have HD:=Lib.hid (findI_drop (s:=s) he)
   have HE:=Lib.hid c3.1.2
   have i1:(i:Int)<n:=by omega
   obtain ⟨⟨⟨a1,k1,rfl,_⟩,⟨a2,k2,rfl,_⟩⟩,_⟩:=c3
   obtain ⟨m1,hm1⟩: ∃m,e.1.length=m:=⟨_,rfl⟩
   obtain ⟨m2,hm2⟩: ∃m,e.2.length=m:=⟨_,rfl⟩
   have HE:=HE.out
   have HS:=HS.out
   rw [hm1] at HS c1
   rw [hm2] at HE c2
   have HE:=Lib.hid HE
   have HS:=Lib.hid HS
   have HC:=Lib.hid fun W (T1:Ux.Touch (fun _=>False) wr W)=>And.intro (T1.cell hbox (fun f=>f)) (T1.cell c2 (fun f=>f))
   clear T0 he hlt hm1 hm2
   go_wp2_with (go_at_call 161;fail)
   refine (HS.out _ (Ux.Touch.refl _ _)).mono ?_
   rintro e4 w4 ⟨rfl,T4⟩
   obtain ⟨b1,b2⟩:=HC.out _ T4
   have HT:=Lib.hid (And.intro T4 HI.out.2)
   clear c1 c2 T4 hbox
   cases hx:(sv e.1==s) with
   |true=>
    have HX:=Lib.hid hx
    clear hx
    go_wp2
    go_returns
    have hr:R=some e.2:=by rw [←HI.out.1,HD.out,if_pos HX.out]
    subst hr
    exact ⟨_,rfl,(HE.out.touch0 HT.out.2).touch0 HT.out.1,HT.out.2.trans HT.out.1 fun _ _ f=>f⟩
   |false=>
    have HX:=Lib.hid hx
    clear hx b2
    go_wp2
    go_roundg g'
    case measure=>omega
    case rel=>exact ⟨i+1,by congr 1,by omega,b1,Lib.hid ⟨by rw [←HI.out.1,HD.out,if_neg (by rw [HX.out];simp)],HT.out.2.trans HT.out.1 fun _ _ f=>f⟩⟩
  ·have q1: ¬(i:Int)<n:=by omega
   have hr0:R=none:=by
    rw [←HI.out.1,List.drop_eq_nil_of_le (by have:=HH.out.2.1;omega)]
    rfl
   subst hr0
   clear hlt
   go_wp2
   go_returns
   exact ⟨_,rfl,rfl,HI.out.2⟩
end Go.Proofs.YtmnkinaaoifpeaaGreatDoor
namespace Go.Proofs.YtmnkinaaoifpeaaGreatDoor
open Go.RowKit
open Ux (Ent befE sv iv findE KGrow Ents ahead putE eP eS eT eV)
theorem infoIR:(Tryz.prog.info? 3).map (fun i=>(i.zero,i.size,i.bytes))=some (some (.int .i64 0),1,8):=by kernel_rfl
theorem infoRE:(Tryz.prog.info? 212).map (fun i=>(i.zero,i.size,i.bytes))=some (some (.agg #[.int .i64 0,.int .i64 0,.int .i64 0,.bool false]),4,32):=by kernel_rfl
theorem infoRT:(Tryz.prog.info? 276).map (fun i=>(i.zero,i.size,i.bytes))=some (some (.agg #[.slice none 0 0,.slice none 0 0]),2,48):=by kernel_rfl
theorem SView.src {w:World} {v:Value} {s:List Nat} (h:SView w v s):Src Tryz.prog 1 22 v s.length (iv (sv s)) w:=by
 obtain ⟨a,c,rfl,hc⟩:=h
 refine Ux.src_at Tryz.underlying22 1 _ c a _ (by rw [Ux.iv_length,Ux.sv_length];omega) (Ux.iv_one _) (fun j u hj=> ?_) (by omega)
 unfold iv sv at hj
 rw [List.map_map,List.getElem?_map] at hj
 obtain ⟨x,hx,rfl⟩:=Option.map_eq_some_iff.1 hj
 exact hc j x hx
theorem rv_len (l:List Nat):(rv l).length=l.length*4:=by
 unfold rv
 induction l with
 |nil=>rfl
 |cons x l ih=>rw [List.flatMap_cons,List.length_append,ih];simp [rc];omega
theorem rv_one (l:List Nat): ∀u∈rv l,u.oneCell'=true:=by
 intro u hu
 obtain ⟨x,_,h⟩:=List.mem_flatMap.1 hu
 unfold rc at h
 simp only [List.mem_cons,List.not_mem_nil,or_false] at h
 rcases h with rfl|rfl|rfl|rfl<;>rfl
theorem rv_at: ∀{l:List Nat} {j:Nat} {u:Value},(rv l)[j]? =some u→∃i x k,l[i]? =some x∧j=i*4+k∧k<4∧(rc x)[k]? =some u
 | [],j,u,h=>by simp [rv] at h
 |x::l,j,u,h=>by
  unfold rv at h
  rw [List.flatMap_cons] at h
  by_cases hj:j<4
  ·rw [List.getElem?_append_left (by simp [rc];omega)] at h
   exact ⟨0,x,j,rfl,by omega,hj,h⟩
  ·rw [List.getElem?_append_right (by simp [rc];omega)] at h
   have e:(rc x).length=4:=rfl
   rw [e] at h
   obtain ⟨i,y,k,h1,h2,h3,h4⟩:=rv_at (l:=l) h
   exact ⟨i+1,y,k,h1,by omega,h3,h4⟩
theorem rv_get: ∀{l:List Nat} {i x k:Nat} {u:Value},l[i]? =some x→(rc x)[k]? =some u→(rv l)[i*4+k]? =some u
 |x::l,0,y,k,u,h,hu=>by
  cases h
  have hk:k<4:=(List.getElem?_eq_some_iff.1 hu).1
  unfold rv
  rw [List.flatMap_cons,Nat.zero_mul,Nat.zero_add,List.getElem?_append_left (by simp [rc];omega)]
  exact hu
 |x::l,i+1,y,k,u,h,hu=>by
  have:=rv_get (l:=l) (i:=i) (by simpa using h) hu
  unfold rv at*
  rw [List.flatMap_cons,List.getElem?_append_right (by simp [rc];omega)]
  rw [show (i+1)*4+k-(rc x).length=i*4+k by simp [rc];omega]
  exact this
 | [],i,_,_,_,h,_=>by simp at h
theorem RRow.src {w:World} {v:Value} {l:List Nat} (h:RRow w v l):Src Tryz.prog 4 213 v l.length (rv l) w:=by
 obtain ⟨a,c,rfl,hc⟩:=h
 refine Ux.src_at Tryz.underlying213 4 _ c a _ (rv_len l) (rv_one l) (fun j u hj=> ?_) (by omega)
 obtain ⟨i,x,k,h1,rfl,h3,h4⟩:=rv_at hj
 obtain ⟨g,o,rfl,c0,c1,c2,c3⟩:=hc i x h1
 refine ⟨g,o,rfl,?_⟩
 rw [←Nat.add_assoc]
 match k,h3,h4 with
 |0,_,h4=>cases h4;exact c0
 |1,_,h4=>cases h4;exact c1
 |2,_,h4=>cases h4;exact c2
 |3,_,h4=>cases h4;exact c3
theorem RRow.of_grow {w:World} {lo:Nat} {t:TypeId} {v:Value} {l:List Nat} {n:Nat} (hn:n=l.length) (h:KGrow w lo t 4 v n (rv l)):RRow w v l:=by
 obtain ⟨a,c,rfl,hc⟩:=h.is
 refine ⟨a,c,by rw [hn],fun i x hx=> ?_⟩
 obtain ⟨g,rfl,_,c0⟩:=hc _ _ (rv_get (k:=0) hx rfl)
 obtain ⟨_,h1,_,c1⟩:=hc _ _ (rv_get (k:=1) hx rfl)
 cases h1
 obtain ⟨_,h1,_,c2⟩:=hc _ _ (rv_get (k:=2) hx rfl)
 cases h1
 obtain ⟨_,h1,_,c3⟩:=hc _ _ (rv_get (k:=3) hx rfl)
 cases h1
 exact ⟨g,0,rfl,by rw [Nat.zero_add];exact c0,by rw [Nat.zero_add];exact c1,by rw [Nat.zero_add];exact c2,by rw [Nat.zero_add];exact c3⟩
theorem SView.of_grow {w:World} {lo:Nat} {t:TypeId} {v:Value} {s:List Nat} {n:Nat} (hn:n=s.length) (h:KGrow w lo t 1 v n (iv (sv s))):SView w v s:=by
 obtain ⟨a,c,rfl,hc⟩:=h.is
 refine ⟨a,c,by rw [hn],fun i x hx=> ?_⟩
 obtain ⟨g,rfl,_,c0⟩:=hc _ _ (Ux.iv_get (Ux.sv_get hx))
 exact ⟨g,0,rfl,by rw [Nat.zero_add];exact c0⟩
theorem RRows.src {w W:World} (ht:Ux.Touch (fun _=>False) w W) {A:Nat→Prop} {a:Option Addr} {n c:Nat} {T:List Ent} (h:RRows w A (.slice a n c) T) (k:Nat) (hk:k≤n) (a':Option Addr) (ha:k<n→∀g o,a=some ⟨g,o,none⟩→a'=some ⟨g,o+k*2,none⟩) (c':Nat):
 ∃xs,Ents (EntV w A) xs (T.drop k)∧Src Tryz.prog 2 101 (.slice a' (n-k) c') (n-k) xs W:=by
 obtain ⟨_,a0,c0,e,_,hc⟩:=h
 cases e
 by_cases hkn:k=T.length
 ·subst hkn
  rw [List.drop_length,Nat.sub_self]
  exact ⟨[],trivial,Ux.src_at Tryz.underlying101 2 0 c' a' [] rfl (fun u hu=>by cases hu) (fun j u hj=>by simp at hj) (by omega)⟩
 ·obtain ⟨e,he⟩: ∃x,T[k]? =some x:=⟨_,List.getElem?_eq_getElem (by omega)⟩
  obtain ⟨g,o,_,_,rfl,_⟩:=hc k e he
  obtain ⟨xs,hx,hcl⟩:=Ents.of_block (R:=EntV w A) (w:=W) (T:=T.drop k) g (o+k*2) fun i d hd=>by
   rw [List.getElem?_drop] at hd
   obtain ⟨_,_,x,y,hg,h1,h2,h3⟩:=hc (k+i) d hd
   cases hg
   rw [show o+k*2+i*2=o+(k+i)*2 by omega]
   exact ⟨x,y,ht.cell h1 (fun f=>f),ht.cell h2 (fun f=>f),h3⟩
  have hl:=hx.len
  rw [List.length_drop] at hl
  exact ⟨xs,hx,Ux.src_at Tryz.underlying101 2 _ c' a' xs hl (hx.one (fun a b e=>EntV.one a b e)) (fun j u hj=>⟨g,o+k*2,ha (by omega) g o rfl,hcl j u hj⟩) (by omega)⟩
end Go.Proofs.YtmnkinaaoifpeaaGreatDoor
namespace Go.Proofs.YtmnkinaaoifpeaaGreatDoor
open Go.RowKit
open Ux (Ent befE sv iv findE KGrow Ents putE eP eS eT eV)
set_option maxHeartbeats 8000000 in
set_option maxRecDepth 100000 in
theorem rrput_ (v vs vl:Value) (T:List Ent) (s l:List Nat) (A:Nat→Prop) (w:World) (hT:RRows w A v T) (hs:SView w vs s) (hl:RRow w vl l) (h0:1≤s.length) (h3:s.length≤3) (h8:l.length≤1000) (hn:T.length≤10000) (hT3: ∀e∈T,1≤e.1.length∧e.1.length≤3):
 Calls Tryz.prog 118 #[.agg #[v],vs,vl] w fun e w'=> ∃u,e= .returned (.agg #[u])∧RRows w' (fun b=>A b∨w.heap.size+2≤b) u (putE T s l)∧Ux.Touch (fun _=>False) w w':=by
 have hT0:=hT
 obtain ⟨_,a,ca,rfl,hcap,hca⟩:=hT
 obtain ⟨n,hnn⟩: ∃n,T.length=n:=⟨_,rfl⟩
 rw [hnn] at hn hT0 hcap⊢
 obtain ⟨k,hk⟩: ∃k,Ux.ahead T s=k:=⟨_,rfl⟩
 have hkn:k≤n:=by rw [←hk,←hnn];exact Ux.ahead_le T s
 have n0:(n:Int)≤10000:=by omega
 have k0:(k:Int)≤n:=by omega
 have HB:=Lib.hid fun W (T1:Ux.Touch (fun _=>False) w W) (i:Nat) (e:Ent) (x:Value) (he:T[i]? =some e) (hx:SView w x e.1)=>before_ x vs e.1 s W (hx.touch0 T1) (hs.touch0 T1) (hT3 e (List.mem_of_getElem? he)).1 h0 (by have:=(hT3 e (List.mem_of_getElem? he)).2;omega) (by omega)
 have HH:=Lib.hid (And.intro hca (And.intro hnn (And.intro hk (And.intro hs (And.intro hl (And.intro h0 (And.intro h3 (And.intro h8 (And.intro hT3 hT0)))))))))
 clear hca hnn hk hs hl h0 h3 h8 hT3 hT0 hn
 go_enter Tryz.func118,Tryz.ntmps118
 go_wp2
 have hbox:((w.alloc (Obj.cells #[Value.slice a n ca] 103)).alloc (Obj.cells #[Value.slice none 0 0] 103)).cell? ⟨w.heap.size,0,none⟩=some (.slice a n ca):=by
  have T1:=(Ux.Touch.refl (fun _=>False) (w.alloc (Obj.cells #[Value.slice a n ca] 103))).alloc (Obj.cells #[Value.slice none 0 0] 103)
  exact T1.cell (by rw [Ux.cell_newg];rfl) (fun f=>f)
 have hres:((w.alloc (Obj.cells #[Value.slice a n ca] 103)).alloc (Obj.cells #[Value.slice none 0 0] 103)).heap[w.heap.size+1]? =some (.cells #[.slice none 0 0] 103 (0,0)):=by
  have:=heap_alloc_new (w.alloc (Obj.cells #[Value.slice a n ca] 103)) (Obj.cells #[Value.slice none 0 0] 103)
  simpa using this
 have hT1:Ux.Touch (fun _=>False) w ((w.alloc (Obj.cells #[Value.slice a n ca] 103)).alloc (Obj.cells #[Value.slice none 0 0] 103)):=((Ux.Touch.refl _ _).alloc _).alloc _
 have hsz:((w.alloc (Obj.cells #[Value.slice a n ca] 103)).alloc (Obj.cells #[Value.slice none 0 0] 103)).heap.size=w.heap.size+2:=by simp
 generalize (w.alloc (Obj.cells #[Value.slice a n ca] 103)).alloc (Obj.cells #[Value.slice none 0 0] 103)=W1 at hbox hres hT1 hsz⊢
 have H1:=Lib.hid (And.intro hres (And.intro hT1 hsz))
 clear hres hT1 hsz
 go_loopg [7,8] n (fun g s7 s8 wr=> ∃i:Nat,s8= .int .i64 i∧i+g=n∧i≤k∧wr.cell? ⟨w.heap.size,0,none⟩=some (.slice a n ca)∧
  Hid (∃xs,KGrow wr (w.heap.size+2) 276 2 s7 i xs∧Ents (EntV w A) xs (T.take i)∧Ux.Touch (fun _=>False) w wr∧w.heap.size+2≤wr.heap.size∧wr.heap[w.heap.size+1]? =some (.cells #[.slice none 0 0] 103 (0,0))))
 case atStart=>exact ⟨0,rfl,by omega,Nat.zero_le _,hbox,Lib.hid ⟨[],KGrow.nil _ _ _ _,trivial,H1.out.2.1,by rw [H1.out.2.2];exact Nat.le_refl _,H1.out.1⟩⟩
 case round=>
  clear hbox
  obtain ⟨i,rfl,hig,hik,hbox,HI⟩:=hrel
  have p0:(0:Int)≤i:=by omega
  have HX:=Lib.hid fun W (T1:Ux.Touch (fun _=>False) wr W)=>T1.cell hbox (fun f=>f)
  clear hbox
  have hbox:=HX.out _ (Ux.Touch.refl _ wr)
  obtain ⟨B,hB⟩: ∃B,decide (i<k)=B:=⟨_,rfl⟩
  have HBB:=Lib.hid hB
  clear hB
  go_upto_region 3 with (fail)
  go_cut [23] (fun s23 wx=>s23= .bool B∧Ux.Touch (fun _=>False) wr wx)
  case first=>
   by_cases hlt:i<n
   ·obtain ⟨e,he⟩: ∃x,T[i]? =some x:=⟨_,List.getElem?_eq_getElem (by have:=HH.out.2.1;omega)⟩
    obtain ⟨g,o,x,y,rfl,c1,c2,c3⟩:=HH.out.1 i e he
    have T0:=HI.out
    obtain ⟨xs,_,_,T0,_⟩:=T0
    have c1:=T0.cell c1 (fun f=>f)
    have hbe:befE e.1 s=B:=by
     rw [←HBB.out]
     by_cases hik:i<k
     ·rw [decide_eq_true hik]
      exact Ux.ahead_lt he (by rw [HH.out.2.2.1];exact hik)
     ·rw [decide_eq_false hik]
      exact Ux.ahead_at (T:=T) (by rw [HH.out.2.2.1,show k=i by omega];exact he)
    have HS:=HB.out wr T0 i e x he (c3.1.1.touch0 (Ux.Touch.refl _ w))
    rw [hbe] at HS
    have HS:=Lib.hid HS
    have i1:(i:Int)<n:=by omega
    clear hbe T0 he hlt c2 c3
    go_wp2_with (go_at_call 160;fail)
    refine HS.out.mono ?_
    rintro e4 w4 ⟨rfl,T4⟩
    go_wp2_with (fail)
    go_meet
    exact ⟨rfl,T4⟩
   ·have q1: ¬(i:Int)<n:=by omega
    have hbe:B=false:=by rw [←HBB.out];exact decide_eq_false (by omega)
    subst hbe
    clear hlt
    go_wp2_with (fail)
    go_meet
    exact ⟨rfl,Ux.Touch.refl _ _⟩
  obtain ⟨rfl,hwc⟩:=hcut
  have hboxc:=HX.out _ hwc
  have HWC:=Lib.hid hwc
  clear hwc hbox
  cases B with
  |true=>
   have hik2:i<k:=of_decide_eq_true HBB.out
   obtain ⟨g',rfl⟩: ∃g',gk=g'+1:=⟨gk-1,by omega⟩
   obtain ⟨e,he⟩: ∃x,T[i]? =some x:=⟨_,List.getElem?_eq_getElem (by have:=HH.out.2.1;omega)⟩
   obtain ⟨g,o,x,y,rfl,c1,c2,c3⟩:=HH.out.1 i e he
   obtain ⟨xs,hG,hE,T0,hsz,hres⟩:=HI.out
   have Tc:=T0.trans HWC.out fun _ _ f=>f
   have c1:=Tc.cell c1 (fun f=>f)
   have c2:=Tc.cell c2 (fun f=>f)
   have hszc:w.heap.size+2≤wc.heap.size:=Nat.le_trans hsz HWC.out.size
   have HE2:=Lib.hid (show Ents (EntV w A) (xs++ [x,y]) (T.take (i+1)) by
    rw [show T.take (i+1)=T.take i++ [e] by rw [List.take_add_one,he];rfl]
    exact hE.append ⟨c3,trivial⟩)
   have hone:=EntV.one x y e c3
   obtain ⟨⟨⟨a1,k1,rfl,_⟩,⟨a2,k2,rfl,_⟩⟩,_⟩:=c3
   obtain ⟨m1,hm1⟩: ∃m,e.1.length=m:=⟨_,rfl⟩
   obtain ⟨m2,hm2⟩: ∃m,e.2.length=m:=⟨_,rfl⟩
   have HE2:=HE2.out
   rw [hm1] at c1 hone HE2
   rw [hm2] at c2 hone HE2
   have HE2:=Lib.hid HE2
   have tA:Ux.Touch (fun _=>False) wc (wc.alloc (.cells [Value.slice a1 m1 k1,Value.slice a2 m2 k2].toArray 276)):=(Ux.Touch.refl _ _).alloc _
   obtain ⟨r,w3,hrun,hG2,hT3⟩:=((hG.touch0 HWC.out).touch0 tA).app (P:=Tryz.prog) 101 48 _ Tryz.underlying101 infoRT rfl (by omega) (.slice (some ⟨wc.heap.size,0,none⟩) 1 1) 1 [.slice a1 m1 k1,.slice a2 m2 k2] (Ux.src_new Tryz.underlying101 wc 2 1 _ rfl (fun u hu=>by
    rcases List.mem_cons.1 hu with rfl|hu
    ·exact hone.1
    ·rw [List.mem_singleton.1 hu];exact hone.2)) (Nat.le_trans hszc tA.size) (by simp only [maxLen];omega) (by omega)
   have hlow: ∀b,b<w.heap.size+2→¬(w.heap.size+2≤b∧Value.ownBlock u7=some b):=fun b hb h=>by omega
   have TT:Ux.Touch (fun _=>False) w w3:=Ux.Touch.own (Tc.trans tA fun _ _ f=>f) (by omega) hT3
   have hb3:=hT3.cell (tA.cell hboxc (fun f=>f)) (hlow _ (by show w.heap.size<_;omega))
   have hr3:=hT3.heap (tA.heap (HWC.out.heap hres (fun f=>f)) (fun f=>f)) (hlow _ (by omega))
   have hs3:w.heap.size+2≤w3.heap.size:=Nat.le_trans hszc (Nat.le_trans tA.size hT3.size)
   have HR:=Lib.hid (And.intro hrun (And.intro hG2 (And.intro TT (And.intro hb3 (And.intro hr3 hs3)))))
   clear he hm1 hm2 hone hrun hG2 hT3 TT hb3 hr3 hs3 hlow tA hG hE T0 hsz hres Tc hszc
   go_wp2_with (at_builtin;refine Ux.wpList_app (v1:=u7) (x1:= .slice (some ⟨wc.heap.size,0,none⟩) 1 1) rfl _ _ _ _ rfl rfl rfl (HR.out.1 _) ?_)
   go_roundg g'
   case measure=>omega
   case rel=>
    exact ⟨i+1,by congr 1,by omega,by omega,HR.out.2.2.2.1,Lib.hid ⟨_,HR.out.2.1,HE2.out,HR.out.2.2.1,HR.out.2.2.2.2.2,HR.out.2.2.2.2.1⟩⟩
  |false=>
   have hik2:i=k:=by have:=of_decide_eq_false HBB.out;omega
   subst hik2
   obtain ⟨xs,hG,hE,T0,hsz,hres⟩:=HI.out
   have Tc:=T0.trans HWC.out fun _ _ f=>f
   have hszc:w.heap.size+2≤wc.heap.size:=Nat.le_trans hsz HWC.out.size
   have hl8:=HH.out.2.2.2.2.2.2.2.1
   have hs3:=HH.out.2.2.2.2.2.2.1
   obtain ⟨r1,w1,hrun1,hG1,hT1⟩:=(KGrow.empty wc wc.heap.size 3 1 (Nat.le_refl _)).app (P:=Tryz.prog) 22 8 _ Tryz.underlying22 infoIR rfl (by omega) vs s.length (iv (sv s)) ((HH.out.2.2.2.1.touch0 Tc).touch0 ((Ux.Touch.refl _ _).alloc _)).src (by simp) (by simp only [maxLen];omega) (by omega)
   have T1:Ux.Touch (fun _=>False) wc w1:=Ux.Touch.own ((Ux.Touch.refl _ _).alloc _) (Nat.le_refl _) hT1
   obtain ⟨r2,w2,hrun2,hG2,hT2⟩:=(KGrow.empty w1 w1.heap.size 212 4 (Nat.le_refl _)).app (P:=Tryz.prog) 213 32 _ Tryz.underlying213 infoRE rfl (by omega) vl l.length (rv l) (((HH.out.2.2.2.2.1.touch0 Tc).touch0 T1).touch0 ((Ux.Touch.refl _ _).alloc _)).src (by simp) (by simp only [maxLen];omega) (by omega)
   have T2:Ux.Touch (fun _=>False) w1 w2:=Ux.Touch.own ((Ux.Touch.refl _ _).alloc _) (Nat.le_refl _) hT2
   rw [Nat.zero_add] at hG1 hG2
   have hg1:KGrow w2 wc.heap.size 3 1 r1 s.length (iv (sv s)):=hG1.touch0 T2
   have hg2:KGrow w2 wc.heap.size 212 4 r2 l.length (rv l):=hG2.mono (by have:=T1.size;omega)
   have hv1:SView w2 r1 s:=SView.of_grow rfl hg1
   have hv2:RRow w2 r2 l:=RRow.of_grow rfl hg2
   have hone:=one_of hv1 hv2
   have HV:=Lib.hid (And.intro hg1 hg2)
   have hu7: ∀b,Value.ownBlock u7=some b→b<wc.heap.size:=fun b hb=>Ux.own_lt (hG.touch0 HWC.out).1 b hb
   clear hg1 hg2
   obtain ⟨a1,k1,rfl,_⟩:=hv1
   obtain ⟨a2,k2,rfl,_⟩:=hv2
   obtain ⟨m1,hm1⟩: ∃m,s.length=m:=⟨_,rfl⟩
   obtain ⟨m2,hm2⟩: ∃m,l.length=m:=⟨_,rfl⟩
   have tA:Ux.Touch (fun _=>False) w2 (w2.alloc (.cells [Value.slice a1 m1 k1,Value.slice a2 m2 k2].toArray 276)):=(Ux.Touch.refl _ _).alloc _
   have T02:=(Tc.trans T1 fun _ _ f=>f).trans T2 fun _ _ f=>f
   have HV:=HV.out
   rw [hm1] at HV hone hrun1
   rw [hm2] at HV hone hrun2
   have HV:=Lib.hid HV
   have hszc2:w.heap.size+2≤w2.heap.size:=Nat.le_trans hszc (Nat.le_trans T1.size T2.size)
   obtain ⟨r,w3,hrun,hG3,hT3,hB3⟩:=(((hG.touch0 HWC.out).touch0 (T1.trans T2 fun _ _ f=>f)).touch0 tA).app' (P:=Tryz.prog) 101 48 _ Tryz.underlying101 infoRT rfl (by omega) (.slice (some ⟨w2.heap.size,0,none⟩) 1 1) 1 [.slice a1 m1 k1,.slice a2 m2 k2] (Ux.src_new Tryz.underlying101 w2 2 1 _ rfl (fun u hu=>by
    rcases List.mem_cons.1 hu with rfl|hu
    ·exact hone.1
    ·rw [List.mem_singleton.1 hu];exact hone.2)) (Nat.le_trans hszc2 tA.size) (by simp only [maxLen];omega) (by omega)
   have hlow: ∀b,b<w.heap.size+2→¬(w.heap.size+2≤b∧Value.ownBlock u7=some b):=fun b hb h=>by omega
   have TT:Ux.Touch (fun _=>False) w w3:=Ux.Touch.own (T02.trans tA fun _ _ f=>f) (by omega) hT3
   have T12:=T1.trans T2 fun _ _ f=>f
   have hb3:=hT3.cell (tA.cell (T12.cell hboxc (fun f=>f)) (fun f=>f)) (hlow _ (by show w.heap.size<_;omega))
   have hr3:=hT3.heap (tA.heap (T12.heap (HWC.out.heap hres (fun f=>f)) (fun f=>f)) (fun f=>f)) (hlow _ (by omega))
   have h13:KGrow w3 wc.heap.size 3 1 (.slice a1 m1 k1) m1 (iv (sv s)):=(HV.out.1.touch0 tA).touch hT3 fun b h1 h2=>by have:=hu7 b h2.2;omega
   have h23:KGrow w3 wc.heap.size 212 4 (.slice a2 m2 k2) m2 (rv l):=(HV.out.2.touch0 tA).touch hT3 fun b h1 h2=>by have:=hu7 b h2.2;omega
   have hlt1: ∀b,(Value.slice a1 m1 k1).ownBlock=some b→b<w2.heap.size:=fun b hb=>Ux.own_lt HV.out.1.1 b hb
   have hlt2: ∀b,(Value.slice a2 m2 k2).ownBlock=some b→b<w2.heap.size:=fun b hb=>Ux.own_lt HV.out.2.1 b hb
   have hB4: ∀b,r.ownBlock=some b→b<wc.heap.size∨w2.heap.size≤b:=fun b hb=>by
    rcases hB3 with e|⟨g,e,hg⟩
    ·exact .inl (hu7 b (by rw [←e];exact hb))
    ·rw [e] at hb
     cases hb
     exact .inr (Nat.le_trans tA.size hg)
   have HQ:=Lib.hid (And.intro h13 (And.intro h23 (And.intro hlt1 (And.intro hlt2 (And.intro hB4 (And.intro hm1 hm2))))))
   have hs4:w.heap.size+2≤w3.heap.size:=Nat.le_trans hszc2 (Nat.le_trans tA.size hT3.size)
   have HR:=Lib.hid (And.intro hrun1 (And.intro hrun2 (And.intro hrun (And.intro hG3 (And.intro TT (And.intro hb3 (And.intro hr3 hs4)))))))
   have HE0:=Lib.hid hE
   have HZ:=Lib.hid hszc
   clear h13 h23 hlt1 hlt2 hB3 hB4 hu7
   clear hG hE T0 hsz hres Tc hszc hl8 hs3 hrun1 hG1 hT1 T1 hrun2 hG2 hT2 T2 hone hm1 hm2 tA T02 HV hszc2 hrun hG3 hT3 hlow TT T12 hb3 hr3 hs4
   go_upto_region 7 with (at_builtin;first
    |refine Ux.wpList_app (v1:= .slice (some ⟨wc.heap.size,0,none⟩) 0 0) (x1:=vs) rfl _ _ _ _ rfl rfl rfl (HR.out.1 _) ?_
    |refine Ux.wpList_app (v1:= .slice (some ⟨w1.heap.size,0,none⟩) 0 0) (x1:=vl) rfl _ _ _ _ rfl rfl rfl (HR.out.2.1 _) ?_
    |refine Ux.wpList_app (v1:=u7) (x1:= .slice (some ⟨w2.heap.size,0,none⟩) 1 1) rfl _ _ _ _ rfl rfl rfl (HR.out.2.2.1 _) ?_)
   obtain ⟨-,-,-,hG3,hT3,hb3,hr3,hs3⟩:=HR.out
   obtain ⟨a3,c3,rfl,_⟩:=hG3.is
   have H3:=Lib.hid (And.intro hG3 (And.intro hT3 (And.intro hr3 hs3)))
   clear HR hG3 hT3 hr3 hs3 hboxc HX HI
   have HX3:=Lib.hid fun W (T1:Ux.Touch (fun _=>False) w3 W)=>T1.cell hb3 (fun f=>f)
   obtain ⟨B2,hB2⟩: ∃B2,(match T[i]? with|some e=>e.1==s|none=>false)=B2:=⟨_,rfl⟩
   have HB2:=Lib.hid hB2
   clear hB2
   go_cut [58] (fun s58 wx=>s58= .bool B2∧Ux.Touch (fun _=>False) w3 wx)
   case first=>
    by_cases hlt:i<n
    ·obtain ⟨e,he⟩: ∃x,T[i]? =some x:=⟨_,List.getElem?_eq_getElem (by have:=HH.out.2.1;omega)⟩
     obtain ⟨g,o,x,y,rfl,c1,c2,c3⟩:=HH.out.1 i e he
     have c1:=H3.out.2.1.cell c1 (fun f=>f)
     have hS:=sameInts_ x vs (sv e.1) (sv s) w3 (c3.1.1.i.touch0 H3.out.2.1) (HH.out.2.2.2.1.i.touch0 H3.out.2.1) (by rw [Ux.sv_length];have:=(HH.out.2.2.2.2.2.2.2.2.1 e (List.mem_of_getElem? he)).2;omega) (by rw [Ux.sv_length];have:=HH.out.2.2.2.2.2.2.1;omega)
     have hbe:=HB2.out
     rw [he] at hbe
     rw [sv_beq,show (e.1==s)=B2 from hbe] at hS
     have HS:=Lib.hid hS
     have i1:(i:Int)<n:=by omega
     clear hbe he hlt c2 c3 hS
     go_wp2_with (go_at_call 161;fail)
     refine HS.out.mono ?_
     rintro e4 w4 ⟨rfl,T4⟩
     go_wp2_with (fail)
     go_meet
     exact ⟨rfl,T4⟩
    ·have q1: ¬(i:Int)<n:=by omega
     have hbe:B2=false:=by
      rw [←HB2.out,List.getElem?_eq_none (by have:=HH.out.2.1;omega)]
     subst hbe
     clear hlt
     go_wp2_with (fail)
     go_meet
     exact ⟨rfl,Ux.Touch.refl _ _⟩
   obtain ⟨rfl,hwd⟩:=hcut
   have hb4:=HX3.out _ hwd
   have HWD:=Lib.hid hwd
   clear hwd hb3
   obtain ⟨j,hjd⟩: ∃j,i+(if B2=true then 1 else 0)=j:=⟨_,rfl⟩
   have hput:putE T s l=T.take i++(s,l)::T.drop j:=by
    have hk:=HH.out.2.2.1
    have hb:=HB2.out
    rw [Ux.putE_eq,hk,←hjd]
    congr 1
    congr 1
    cases he:T[i]? with
    |none=>
     rw [he] at hb
     subst hb
     rw [List.getElem?_eq_none_iff] at he
     exact (List.drop_eq_nil_of_le (by simp;exact he)).symm
    |some e=>
     rw [he] at hb
     by_cases h1:e.1=s
     ·have hb2:B2=true:=by rw [←hb];simp [h1]
      rw [hb2]
      simp [h1]
     ·have hb2:B2=false:=by rw [←hb];simp [h1]
      rw [hb2]
      simp [h1]
   have hjn:j≤n:=by
    have hb:=HB2.out
    rw [←hjd]
    cases B2 with
    |false=>simp;omega
    |true=>
     simp
     have:i<T.length:=by
      cases he:T[i]? with
      |none=>rw [he] at hb;cases hb
      |some e=>exact (List.getElem?_eq_some_iff.1 he).1
     have:=HH.out.2.1
     omega
   have HP:=Lib.hid hput
   clear hput
   have i5:(i:Int)≤n:=by omega
   have HJ:=Lib.hid hjd
   clear hjd
   go_upto_if 58 with (fail)
   go_cut [8] (fun s8 wx=>s8= .int .i64 (j:Int)∧wx=wc)
   case first=>
    cases B2 with
    |true=>
     go_wp2_with (fail)
     go_meet
     exact ⟨congrArg (Value.int .i64) (by rw [←HJ.out];simp),rfl⟩
    |false=>
     go_wp2_with (fail)
     go_meet
     exact ⟨congrArg (Value.int .i64) (by rw [←HJ.out];simp),rfl⟩
   obtain ⟨rfl,rfl⟩:=hcut
   have tW:=HWD.out
   have tw3:=H3.out.2.1.trans tW fun _ _ f=>f
   obtain ⟨ys,hys,hsrc⟩:=RRows.src tw3 HH.out.2.2.2.2.2.2.2.2.2 j hjn (Ux.cutA a j ca 2) (fun hlt g o e=>by rw [e];exact Ux.cutA_some (by omega)) (ca-j)
   obtain ⟨r5,w5,hrun5,hG5,hT5⟩:=(H3.out.1.touch0 tW).app (P:=Tryz.prog) 101 48 _ Tryz.underlying101 infoRT rfl (by omega) _ _ _ hsrc (Nat.le_trans H3.out.2.2.2 tW.size) (by simp only [maxLen];omega) (by omega)
   have TT:=Ux.Touch.own tw3 (by omega:w.heap.size≤w.heap.size+2) hT5
   have hr5:=hT5.heap (tW.heap H3.out.2.2.1 (fun f=>f)) (fun h=>by omega)
   obtain ⟨h13,h23,hlt1,hlt2,hB4,hm1,hm2⟩:=HQ.out
   obtain ⟨a5,c5,e5,_⟩:=hG5.is
   subst e5
   have hfz:w5.cell? ⟨w.heap.size+1,0,none⟩=some (.slice none 0 0):=by rw [cell_of_row w5 _ 0 _ _ (0,0) hr5];rfl
   have hfz2:=Ux.frozen_row hr5 0
   have T56:Ux.Touch (fun b=>b=w.heap.size+1) w5 (w5.setCell ⟨w.heap.size+1,0,none⟩ (.slice a5 (i+1+(n-j)) c5)):=(Ux.Touch.refl (fun b=>b=w.heap.size+1) w5).setCell (p:=⟨w.heap.size+1,0,none⟩) (fun _=>rfl) _
   have TT6:Ux.Touch (fun _=>False) w (w5.setCell ⟨w.heap.size+1,0,none⟩ (.slice a5 (i+1+(n-j)) c5)):=TT.setCell (fun h=>by have h:w.heap.size+1<w.heap.size:=h;omega) _
   have c6:(w5.setCell ⟨w.heap.size+1,0,none⟩ (.slice a5 (i+1+(n-j)) c5)).cell? ⟨w.heap.size+1,0,none⟩=some (.slice a5 (i+1+(n-j)) c5):=by
    rw [cell_of_row _ _ 0 _ _ (0,0) (Ux.setCell_row hr5 0 _)]
    rfl
   obtain ⟨w6,hw6⟩: ∃w6,w5.setCell ⟨w.heap.size+1,0,none⟩ (.slice a5 (i+1+(n-j)) c5)=w6:=⟨_,rfl⟩
   rw [hw6] at T56 TT6 c6
   have h15:KGrow w6 _ 3 1 _ _ (iv (sv s)):=⟨Ux.own_touch (Ux.own_touch (h13.touch0 tW).1 hT5 fun b hb h2=>by
    have e1:=h13.2 b hb
    have e2:=hlt1 b hb
    have e3:=hB4 b h2.2
    omega) T56 fun b hb h2=>by
     have e1:=h13.2 b hb
     have e4:=HZ.out
     omega,h13.2⟩
   have h25:KGrow w6 _ 212 4 _ _ (rv l):=⟨Ux.own_touch (Ux.own_touch (h23.touch0 tW).1 hT5 fun b hb h2=>by
    have e1:=h23.2 b hb
    have e2:=hlt2 b hb
    have e3:=hB4 b h2.2
    omega) T56 fun b hb h2=>by
     have e1:=h23.2 b hb
     have e4:=HZ.out
     omega,h23.2⟩
   have hG6:=hG5.touch T56 fun b h1 h2=>by omega
   have hmid:Ents (EntV w6 (fun b=>A b∨w.heap.size+2≤b)) [Value.slice a1 m1 k1,Value.slice a2 m2 k2] [(s,l)]:=⟨⟨⟨SView.of_grow hm1.symm h15,RRow.of_grow hm2.symm h25⟩,fun g hg=>⟨.inr (by have:=h15.2 g hg;have:=HZ.out;omega),Ux.own_lt h15.1 g hg⟩,fun g hg=>⟨.inr (by have:=h25.2 g hg;have:=HZ.out;omega),Ux.own_lt h25.1 g hg⟩,h15.cap⟩,trivial⟩
   have hE6:=((HE0.out.mono fun a b e h=>((EntV.touch0 TT6 a b e h).mono fun _ _ h=> .inl h)).append hmid).append (hys.mono fun a b e h=>((EntV.touch0 TT6 a b e h).mono fun _ _ h=> .inl h))
   rw [←List.append_cons,←HP.out] at hE6
   have hfin:=RRows.of_grow (T:=putE T s l) (by rw [show (putE T s l).length=i+1+(n-j) by rw [HP.out];simp;have:=HH.out.2.1;omega];exact hG6) (fun _ h=> .inr h) hE6
   have HF:=Lib.hid (And.intro hrun5 (And.intro hfin TT6))
   clear tW tw3 hys hsrc hrun5 hG5 hT5 TT hr5 h13 h23 hlt1 hlt2 hB4 hm1 hm2 h15 h25 hfin HQ HE0 HWD H3 HX3 T56 TT6 hG6 hmid hE6
   go_wp2_with (first
    |(refine Ux.is_slice _ rfl ?_;refine Ux.wpList_cutl rfl _ _ _ _ rfl Tryz.underlying101 2 (by kernel_rfl) a n ca j .i64 rfl rfl hjn ?_)
    |(at_builtin;refine Ux.wpList_app (v1:= .slice a3 (i+1) c3) (x1:= .slice (Ux.cutA a j ca 2) (n-j) (ca-j)) rfl _ _ _ _ rfl rfl rfl (HF.out.1 _) ?_))
   refine bodyPost_ret (by simp [results,Tryz.results118,go_sem,c6];try rfl) rfl ?_
   exact ⟨_,rfl,HF.out.2.1,HF.out.2.2⟩
end Go.Proofs.YtmnkinaaoifpeaaGreatDoor
namespace Go.Proofs.YtmnkinaaoifpeaaGreatDoor
open Go.RowKit
open Ux (Ent befE sv iv findE KGrow Ents putE eP eS eT eV eLetter eMark eMk)
theorem letter_parts (c t:Nat) (hc:c<26) (ht:t=2∨t=8∨t=4∨t=10):eP (eLetter c t)=256+8*c∧eS (eLetter c t)=32∧eT (eLetter c t)=t∧eV (eLetter c t)=false:=by
 unfold eLetter eP eS eT eV eMk
 rcases ht with rfl|rfl|rfl|rfl<;>simp<;>omega
set_option maxHeartbeats 4000000 in
theorem rletterS_ (C:Int) (h1:97≤C) (h2:C≤122) (w:World):Calls Tryz.prog 119 #[.int .i64 C] w fun e w'=>e= .returned (.agg #[.int .i64 (256+8*(C-97)),.int .i64 32,.int .i64 2,.bool false])∧w'=w.alloc (.cells #[.int .i64 (256+8*(C-97)),.int .i64 32,.int .i64 2,.bool false] 212):=by
 have w1:8*(C-97)≤200:=by omega
 have w2:0≤8*(C-97):=by omega
 go_enter Tryz.func119,Tryz.ntmps119
 go_wp2
 go_returns
 exact ⟨rfl,rfl⟩
set_option maxHeartbeats 4000000 in
theorem rletterG_ (C:Int) (h1:65≤C) (h2:C≤90) (w:World):Calls Tryz.prog 119 #[.int .i64 C] w fun e w'=>e= .returned (.agg #[.int .i64 (256+8*(C-65)),.int .i64 32,.int .i64 8,.bool false])∧w'=w.alloc (.cells #[.int .i64 (256+8*(C-65)),.int .i64 32,.int .i64 8,.bool false] 212):=by
 have w1:8*(C-65)≤200:=by omega
 have w2:0≤8*(C-65):=by omega
 have h3: ¬(97:Int)≤C:=by omega
 go_enter Tryz.func119,Tryz.ntmps119
 go_wp2
 go_returns
 exact ⟨rfl,rfl⟩
set_option maxHeartbeats 8000000 in
theorem rmark_ (c:Nat) (C:Int) (hC:C=c) (hc:c∈[768,769,770,771,772,776,778,807]) (w:World):Calls Tryz.prog 120 #[.int .i64 C] w fun e w'=>e= .returned (.agg #[.int .i64 0,.int .i64 (Ux.markW c:Nat),.int .i64 2,.bool false])∧w'=w.alloc (.cells #[.int .i64 0,.int .i64 (Ux.markW c:Nat),.int .i64 2,.bool false] 212):=by
 subst hC
 simp only [List.mem_cons,List.not_mem_nil,or_false] at hc
 rcases hc with rfl|rfl|rfl|rfl|rfl|rfl|rfl|rfl
 all_goals
  go_enter Tryz.func120,Tryz.ntmps120
  go_wp2
  go_returns
  exact ⟨rfl,rfl⟩
end Go.Proofs.YtmnkinaaoifpeaaGreatDoor
namespace Go.Proofs.YtmnkinaaoifpeaaGreatDoor
open Go.RowKit
open Ux (Ent befE sv iv findE KGrow Ents putE eP eS eT eV eLetter eMark eMk markW)
theorem iv_rowAt {W:World} {blk:Nat} (cs:Array Value) (l:List Nat) (n:Nat) (hn:n=l.length) (h:cs.toList=iv (sv l)) (hh:W.heap[blk]? =some (.cells cs 3 (0,0))):SView W (.slice (some ⟨blk,0,none⟩) n n) l:=by
 subst hn
 refine ⟨_,_,rfl,fun j x hx=>⟨blk,0,rfl,?_⟩⟩
 rw [cell_of_row W blk _ _ _ (0,0) hh,Nat.zero_add,←Array.getElem?_toList,h]
 exact Ux.iv_get (Ux.sv_get hx)
theorem rv_rowAt {W:World} {blk:Nat} (cs:Array Value) (l:List Nat) (n:Nat) (hn:n=l.length) (h:cs.toList=rv l) (hh:W.heap[blk]? =some (.cells cs 212 (0,0))):RRow W (.slice (some ⟨blk,0,none⟩) n n) l:=by
 subst hn
 refine ⟨_,_,rfl,fun i x hx=>⟨blk,0,rfl,?_⟩⟩
 have e: ∀k u,(rc x)[k]? =some u→W.cell? ⟨blk,0+i*4+k,none⟩=some u:=fun k u hu=>by
  rw [cell_of_row W blk _ _ _ (0,0) hh,Nat.zero_add,←Array.getElem?_toList,h]
  exact rv_get hx hu
 exact ⟨e 0 _ rfl,e 1 _ rfl,e 2 _ rfl,e 3 _ rfl⟩
theorem putE_sub: ∀{T:List Ent} {s l:List Nat} {e:Ent},e∈putE T s l→e=(s,l)∨e∈T
 | [],s,l,e,h=>by simp [putE] at h;exact .inl h
 |d::T,s,l,e,h=>by
  unfold putE at h
  split at h
  ·rcases List.mem_cons.1 h with rfl|h
   ·exact .inr List.mem_cons_self
   ·exact (putE_sub h).imp id fun h=>List.mem_cons_of_mem _ h
  ·split at h
   ·rcases List.mem_cons.1 h with rfl|h
    ·exact .inl rfl
    ·exact .inr (List.mem_cons_of_mem _ h)
   ·rcases List.mem_cons.1 h with rfl|h
    ·exact .inl rfl
    ·exact .inr h
theorem nest_here (W:World) (o:Obj) (blk:Nat) (h:blk=W.heap.size):(W.alloc o).heap[blk]? =some o:=by rw [h];exact heap_alloc_new W o
theorem nest_there {W:World} {o ob:Obj} {blk:Nat} (hne:blk≠W.heap.size) (h:W.heap[blk]? =some ob):(W.alloc o).heap[blk]? =some ob:=by rw [Ux.alloc_at,if_neg hne];exact h
theorem nest_drew {W:World} {ob:Obj} {blk:Nat} (h:W.heap[blk]? =some ob):W.drew.heap[blk]? =some ob:=h
theorem rv_marked (b m:Nat) (t:Nat) (ht:t=2∨t=8) (hb:b<26) (P K:Int) (hP:P=256+8*(b:Int)) (hK:(markW m:Int)=K) (hm:m∈[768,769,770,771,772,776,778,807]):
 [Value.int .i64 P,.int .i64 32,.int .i64 (t:Int),.bool false,.int .i64 0,.int .i64 K,.int .i64 2,.bool false]=rv [eLetter b t,eMark m]:=by
 obtain ⟨h1,h2,h3,h4⟩:=letter_parts b t hb (by omega)
 have hk:markW m<256:=by unfold markW;split<;>(try split)<;>(try split)<;>(try split)<;>(try split)<;>(try split)<;>(try split)<;>omega
 have g1:eP (eMark m)=0:=by unfold eMark eP eMk;simp;omega
 have g2:eS (eMark m)=markW m:=by unfold eMark eS eMk;simp;omega
 have g3:eT (eMark m)=2:=by unfold eMark eT eMk;simp;omega
 have g4:eV (eMark m)=false:=by unfold eMark eV eMk;simp;omega
 unfold rv rc
 simp only [List.flatMap_cons,List.flatMap_nil,List.append_nil,List.cons_append,List.nil_append]
 rw [h1,h2,h3,h4,g1,g2,g3,g4,hP,←hK]
 simp
set_option maxHeartbeats 8000000 in
set_option maxRecDepth 100000 in
theorem marked_ (v:Value) (T:List Ent) (c b m:Nat) (A:Nat→Prop) (hm:m∈[768,769,770,771,772,776,778,807]) (hb:b<26) (hc:c<100000) (w:World) (hT:RRows w A v T) (hn:T.length≤9000) (hT3: ∀e∈T,1≤e.1.length∧e.1.length≤3) (C B M:Int) (hC:C=c) (hB:B=65+b) (hM:M=m):
 Calls Tryz.prog 121 #[.agg #[v],.int .i64 C,.int .i64 B,.int .i64 M] w fun e w'=> ∃u,e= .returned (.agg #[u])∧RRows w' (fun b=>A b∨w.heap.size+2≤b) u (putE (putE T [c] [eLetter b 8,eMark m]) [c+32] [eLetter b 2,eMark m])∧Ux.Touch (fun _=>False) w w':=by
 have hT':=hT
 obtain ⟨_,a,ca,rfl,_⟩:=hT'
 obtain ⟨n,hnn⟩: ∃n,T.length=n:=⟨_,rfl⟩
 rw [hnn] at hT⊢
 obtain ⟨q,hq⟩: ∃q,w.heap.size=q:=⟨_,rfl⟩
 have HH:=Lib.hid (And.intro hT (And.intro hn (And.intro hT3 (And.intro hnn hq))))
 have b1:65≤B:=by omega
 have b2:B≤90:=by omega
 have c1:0≤C:=by omega
 have c2:C≤100000:=by omega
 have HL:=Lib.hid fun W=>rletterG_ B b1 b2 W
 have HL2:=Lib.hid fun W=>rletterS_ (B+32) (by omega) (by omega) W
 have HM:=Lib.hid fun W=>rmark_ m M hM hm W
 obtain ⟨K,hK⟩: ∃K:Int,(markW m:Int)=K:=⟨_,rfl⟩
 rw [hK] at HM
 have HE:=Lib.hid (And.intro hC (And.intro hB (And.intro hK (And.intro hb (And.intro hc hm)))))
 clear hT hn hT3 hnn hC hB hM hm hK hb hc hq
 go_enter Tryz.func121,Tryz.ntmps121
 have hbox:((w.alloc (Obj.cells #[Value.slice a n ca] 103)).alloc (Obj.cells #[Value.slice none 0 0] 103)).cell? ⟨w.heap.size,0,none⟩=some (.slice a n ca):=by
  have T1:=(Ux.Touch.refl (fun _=>False) (w.alloc (Obj.cells #[Value.slice a n ca] 103))).alloc (Obj.cells #[Value.slice none 0 0] 103)
  exact T1.cell (by rw [Ux.cell_newg];rfl) (fun f=>f)
 have hres:((w.alloc (Obj.cells #[Value.slice a n ca] 103)).alloc (Obj.cells #[Value.slice none 0 0] 103)).heap[w.heap.size+1]? =some (.cells #[.slice none 0 0] 103 (0,0)):=by
  have:=heap_alloc_new (w.alloc (Obj.cells #[Value.slice a n ca] 103)) (Obj.cells #[Value.slice none 0 0] 103)
  simpa using this
 have hbx:((w.alloc (Obj.cells #[Value.slice a n ca] 103)).alloc (Obj.cells #[Value.slice none 0 0] 103)).heap[w.heap.size]? =some (.cells #[.slice a n ca] 103 (0,0)):=by
  have T1:=(Ux.Touch.refl (fun _=>False) (w.alloc (Obj.cells #[Value.slice a n ca] 103))).alloc (Obj.cells #[Value.slice none 0 0] 103)
  exact T1.heap (heap_alloc_new w _) (fun f=>f)
 have hT1:Ux.Touch (fun _=>False) w ((w.alloc (Obj.cells #[Value.slice a n ca] 103)).alloc (Obj.cells #[Value.slice none 0 0] 103)):=((Ux.Touch.refl _ _).alloc _).alloc _
 have hsz:((w.alloc (Obj.cells #[Value.slice a n ca] 103)).alloc (Obj.cells #[Value.slice none 0 0] 103)).heap.size=w.heap.size+2:=by simp
 go_upto_region 1 with (fail)
 generalize (w.alloc (Obj.cells #[Value.slice a n ca] 103)).alloc (Obj.cells #[Value.slice none 0 0] 103)=W2 at hbox hres hbx hT1 hsz⊢
 have HQ:=Lib.hid fun W (T:Ux.Touch (fun _=>False) W2 W)=>T.cell hbox (fun f=>f)
 have H2:=Lib.hid (And.intro hres (And.intro hbx (And.intro hT1 hsz)))
 clear hres hbx hT1 hsz
 have HPUT:Hid (∀(W:World) (vs vl:Value),Ux.Touch (fun _=>False) W2 W→SView W vs [c]→RRow W vl [eLetter b 8,eMark m]→Calls Tryz.prog 118 #[.agg #[.slice a n ca],vs,vl] W fun e w'=> ∃u,e= .returned (.agg #[u])∧RRows w' (fun b=>(A b∧b<w.heap.size)∨W2.heap.size+2≤b) u (putE T [c] [eLetter b 8,eMark m])∧Ux.Touch (fun _=>False) W w'):=Lib.hid fun W vs vl T02 hs hl=>by
  refine (rrput_ (.slice a n ca) vs vl T [c] [eLetter b 8,eMark m] (fun b=>A b∧b<w.heap.size) W (((HH.out.1.mono fun g h1 h2=>⟨h2,h1⟩).touch0 H2.out.2.2.1).touch0 T02) hs hl (by simp) (by simp) (by simp) (by have:=HH.out.2.1;omega) HH.out.2.2.1).mono ?_
  rintro e w' ⟨u,h1,h2,h3⟩
  exact ⟨u,h1,h2.mono fun g _ h=>h.imp id fun h=>by have:=T02.size;omega,h3⟩
 have hp1:=rv_marked b m 8 (.inr rfl) HE.out.2.2.2.1 (256+8*(B-65)) K (by have:=HE.out.2.1;omega) HE.out.2.2.1 HE.out.2.2.2.2.2
 have hp2:=rv_marked b m 2 (.inl rfl) HE.out.2.2.2.1 (256+8*(B+32-97)) K (by have:=HE.out.2.1;omega) HE.out.2.2.1 HE.out.2.2.2.2.2
 have HP:=Lib.hid (And.intro hp1 hp2)
 clear hp1 hp2
 go_cut [] (fun wx=> ∃a1 n1 c1,wx.cell? ⟨w.heap.size,0,none⟩=some (.slice a1 n1 c1)∧Hid (RRows wx (fun b=>(A b∧b<w.heap.size)∨W2.heap.size+2≤b) (.slice a1 n1 c1) (putE T [c] [eLetter b 8,eMark m])∧Ux.Touch (fun _=>False) w wx∧wx.heap[w.heap.size+1]? =some (.cells #[.slice none 0 0] 103 (0,0))∧w.heap.size+2≤wx.heap.size))
 case first=>
  refine Ux.wpr (fun _ w'=>w'.cell? ⟨w.heap.size,0,none⟩=some (.slice a n ca)) (.h false [0] (.q [1,3,5] (.br 2 (.e 4 true false (.e 6 true false (.e 7 true false (.e 8 false false (.line [9]))))) 4 (.br 2 (.e 6 true false (.e 7 true false (.e 8 false false (.line [9])))) 6 (.br 2 (.e 7 true false (.e 8 false false (.line [9]))) 7 (.e 2 true true (.e 8 false false (.line [9])))))))) ?_;repeat ((with_reducible refine Ux.qg ?_);refine Ux.qu ?_)
  refine ⟨?_,?_⟩
  ·go_wp2_with (fail)
   first|refine ⟨⟨HQ.out _ Ux.tq,HQ.out _ Ux.tq⟩,?_⟩|refine ⟨HQ.out _ Ux.tq,?_⟩
   go_wp2_with (go_at_call 119;refine (HL.out _).mono ?_;rintro e w' ⟨rfl,rfl⟩)
   refine ⟨HQ.out _ Ux.tq,?_⟩
   go_wp2_with (go_at_call 120;refine (HM.out _).mono ?_;rintro e w' ⟨rfl,rfl⟩)
   refine ⟨HQ.out _ Ux.tq,?_⟩
   go_wp2_with (fail)
   refine ⟨HQ.out _ Ux.tq,?_⟩
   go_wp2_with (go_at_call 118;fail)
   refine (HPUT.out _ _ _ Ux.tq (iv_rowAt #[.int .i64 C] [c] 1 rfl (by rw [HE.out.1];rfl) (by repeat (first|exact nest_here _ _ _ (by simp [World.size_alloc])|refine nest_drew ?_|refine nest_there (by simp [World.size_alloc]<;>omega) ?_))) (rv_rowAt _ _ 2 rfl HP.out.1 (by repeat (first|exact nest_here _ _ _ (by simp [World.size_alloc])|refine nest_drew ?_|refine nest_there (by simp [World.size_alloc]<;>omega) ?_)))).mono ?_
   rintro e w5 ⟨u,rfl,hR5,hT5⟩
   have hTw:Ux.Touch (fun _=>False) W2 w5:=Ux.Touch.trans Ux.tq hT5 fun _ _ f=>f
   have hsz5:W2.heap.size≤w5.heap.size:=hTw.size
   have hb5:=hTw.heap H2.out.2.1 (fun f=>f)
   have hr5:=hTw.heap H2.out.1 (fun f=>f)
   have hcell5:w5.cell? ⟨w.heap.size,0,none⟩=some (.slice a n ca):=HQ.out _ hTw
   have hfz5:=Ux.frozen_row hb5 0
   have hR6:=hR5
   obtain ⟨_,a5,c5,rfl,_⟩:=hR5
   have H5:=Lib.hid (And.intro hR6 (And.intro hTw (And.intro hb5 hr5)))
   clear hR6 hTw hb5 hr5
   go_wp2_with (fail)
   go_meet
   obtain ⟨hR6,hTw,hb5,hr5⟩:=H5.out
   have hs2:=H2.out.2.2.2
   have T56:Ux.Touch (fun b=>b=w.heap.size) w5 (w5.setCell ⟨w.heap.size,0,none⟩ (.slice a5 (putE T [c] [eLetter b 8,eMark m]).length c5)):=(Ux.Touch.refl (fun b=>b=w.heap.size) w5).setCell (p:=⟨w.heap.size,0,none⟩) (fun _=>rfl) _
   refine ⟨_,_,_,by rw [cell_of_row _ _ 0 _ _ (0,0) (Ux.setCell_row hb5 0 _)];rfl,Lib.hid ⟨hR6.touchB T56 fun g h1 h2 e=>by omega,(H2.out.2.2.1.trans hTw fun _ _ f=>f).setCell (p:=⟨w.heap.size,0,none⟩) (fun h=>absurd h (Nat.lt_irrefl _)) _,T56.heap hr5 (by omega),by have:=hTw.size;have:=T56.size;omega⟩⟩
  ·go_wp2_with (go_at_call 119;refine (HL.out _).mono ?_;rintro e w' ⟨rfl,rfl⟩)
   first|refine ⟨⟨HQ.out _ Ux.tq,HQ.out _ Ux.tq⟩,?_⟩|refine ⟨HQ.out _ Ux.tq,?_⟩
   refine ⟨?_,?_⟩
   ·go_wp2_with (fail)
    first|refine ⟨⟨HQ.out _ Ux.tq,HQ.out _ Ux.tq⟩,?_⟩|refine ⟨HQ.out _ Ux.tq,?_⟩
    go_wp2_with (go_at_call 120;refine (HM.out _).mono ?_;rintro e w' ⟨rfl,rfl⟩)
    refine ⟨HQ.out _ Ux.tq,?_⟩
    go_wp2_with (fail)
    refine ⟨HQ.out _ Ux.tq,?_⟩
    go_wp2_with (go_at_call 118;fail)
    refine (HPUT.out _ _ _ Ux.tq (iv_rowAt #[.int .i64 C] [c] 1 rfl (by rw [HE.out.1];rfl) (by repeat (first|exact nest_here _ _ _ (by simp [World.size_alloc])|refine nest_drew ?_|refine nest_there (by simp [World.size_alloc]<;>omega) ?_))) (rv_rowAt _ _ 2 rfl HP.out.1 (by repeat (first|exact nest_here _ _ _ (by simp [World.size_alloc])|refine nest_drew ?_|refine nest_there (by simp [World.size_alloc]<;>omega) ?_)))).mono ?_
    rintro e w5 ⟨u,rfl,hR5,hT5⟩
    have hTw:Ux.Touch (fun _=>False) W2 w5:=Ux.Touch.trans Ux.tq hT5 fun _ _ f=>f
    have hsz5:W2.heap.size≤w5.heap.size:=hTw.size
    have hb5:=hTw.heap H2.out.2.1 (fun f=>f)
    have hr5:=hTw.heap H2.out.1 (fun f=>f)
    have hcell5:w5.cell? ⟨w.heap.size,0,none⟩=some (.slice a n ca):=HQ.out _ hTw
    have hfz5:=Ux.frozen_row hb5 0
    have hR6:=hR5
    obtain ⟨_,a5,c5,rfl,_⟩:=hR5
    have H5:=Lib.hid (And.intro hR6 (And.intro hTw (And.intro hb5 hr5)))
    clear hR6 hTw hb5 hr5
    go_wp2_with (fail)
    go_meet
    obtain ⟨hR6,hTw,hb5,hr5⟩:=H5.out
    have hs2:=H2.out.2.2.2
    have T56:Ux.Touch (fun b=>b=w.heap.size) w5 (w5.setCell ⟨w.heap.size,0,none⟩ (.slice a5 (putE T [c] [eLetter b 8,eMark m]).length c5)):=(Ux.Touch.refl (fun b=>b=w.heap.size) w5).setCell (p:=⟨w.heap.size,0,none⟩) (fun _=>rfl) _
    refine ⟨_,_,_,by rw [cell_of_row _ _ 0 _ _ (0,0) (Ux.setCell_row hb5 0 _)];rfl,Lib.hid ⟨hR6.touchB T56 fun g h1 h2 e=>by omega,(H2.out.2.2.1.trans hTw fun _ _ f=>f).setCell (p:=⟨w.heap.size,0,none⟩) (fun h=>absurd h (Nat.lt_irrefl _)) _,T56.heap hr5 (by omega),by have:=hTw.size;have:=T56.size;omega⟩⟩
   ·go_wp2_with (go_at_call 120;refine (HM.out _).mono ?_;rintro e w' ⟨rfl,rfl⟩)
    first|refine ⟨⟨HQ.out _ Ux.tq,HQ.out _ Ux.tq⟩,?_⟩|refine ⟨HQ.out _ Ux.tq,?_⟩
    refine ⟨?_,?_⟩
    ·go_wp2_with (fail)
     first|refine ⟨⟨HQ.out _ Ux.tq,HQ.out _ Ux.tq⟩,?_⟩|refine ⟨HQ.out _ Ux.tq,?_⟩
     go_wp2_with (fail)
     refine ⟨HQ.out _ Ux.tq,?_⟩
     go_wp2_with (go_at_call 118;fail)
     refine (HPUT.out _ _ _ Ux.tq (iv_rowAt #[.int .i64 C] [c] 1 rfl (by rw [HE.out.1];rfl) (by repeat (first|exact nest_here _ _ _ (by simp [World.size_alloc])|refine nest_drew ?_|refine nest_there (by simp [World.size_alloc]<;>omega) ?_))) (rv_rowAt _ _ 2 rfl HP.out.1 (by repeat (first|exact nest_here _ _ _ (by simp [World.size_alloc])|refine nest_drew ?_|refine nest_there (by simp [World.size_alloc]<;>omega) ?_)))).mono ?_
     rintro e w5 ⟨u,rfl,hR5,hT5⟩
     have hTw:Ux.Touch (fun _=>False) W2 w5:=Ux.Touch.trans Ux.tq hT5 fun _ _ f=>f
     have hsz5:W2.heap.size≤w5.heap.size:=hTw.size
     have hb5:=hTw.heap H2.out.2.1 (fun f=>f)
     have hr5:=hTw.heap H2.out.1 (fun f=>f)
     have hcell5:w5.cell? ⟨w.heap.size,0,none⟩=some (.slice a n ca):=HQ.out _ hTw
     have hfz5:=Ux.frozen_row hb5 0
     have hR6:=hR5
     obtain ⟨_,a5,c5,rfl,_⟩:=hR5
     have H5:=Lib.hid (And.intro hR6 (And.intro hTw (And.intro hb5 hr5)))
     clear hR6 hTw hb5 hr5
     go_wp2_with (fail)
     go_meet
     obtain ⟨hR6,hTw,hb5,hr5⟩:=H5.out
     have hs2:=H2.out.2.2.2
     have T56:Ux.Touch (fun b=>b=w.heap.size) w5 (w5.setCell ⟨w.heap.size,0,none⟩ (.slice a5 (putE T [c] [eLetter b 8,eMark m]).length c5)):=(Ux.Touch.refl (fun b=>b=w.heap.size) w5).setCell (p:=⟨w.heap.size,0,none⟩) (fun _=>rfl) _
     refine ⟨_,_,_,by rw [cell_of_row _ _ 0 _ _ (0,0) (Ux.setCell_row hb5 0 _)];rfl,Lib.hid ⟨hR6.touchB T56 fun g h1 h2 e=>by omega,(H2.out.2.2.1.trans hTw fun _ _ f=>f).setCell (p:=⟨w.heap.size,0,none⟩) (fun h=>absurd h (Nat.lt_irrefl _)) _,T56.heap hr5 (by omega),by have:=hTw.size;have:=T56.size;omega⟩⟩
    ·go_wp2_with (fail)
     first|refine ⟨⟨HQ.out _ Ux.tq,HQ.out _ Ux.tq⟩,?_⟩|refine ⟨HQ.out _ Ux.tq,?_⟩
     go_wp2_with (fail)
     first|refine ⟨⟨HQ.out _ Ux.tq,HQ.out _ Ux.tq⟩,?_⟩|refine ⟨HQ.out _ Ux.tq,?_⟩
     go_wp2_with (go_at_call 118;fail)
     refine (HPUT.out _ _ _ Ux.tq (iv_rowAt #[.int .i64 C] [c] 1 rfl (by rw [HE.out.1];rfl) (by repeat (first|exact nest_here _ _ _ (by simp [World.size_alloc])|refine nest_drew ?_|refine nest_there (by simp [World.size_alloc]<;>omega) ?_))) (rv_rowAt _ _ 2 rfl HP.out.1 (by repeat (first|exact nest_here _ _ _ (by simp [World.size_alloc])|refine nest_drew ?_|refine nest_there (by simp [World.size_alloc]<;>omega) ?_)))).mono ?_
     rintro e w5 ⟨u,rfl,hR5,hT5⟩
     have hTw:Ux.Touch (fun _=>False) W2 w5:=Ux.Touch.trans Ux.tq hT5 fun _ _ f=>f
     have hsz5:W2.heap.size≤w5.heap.size:=hTw.size
     have hb5:=hTw.heap H2.out.2.1 (fun f=>f)
     have hr5:=hTw.heap H2.out.1 (fun f=>f)
     have hcell5:w5.cell? ⟨w.heap.size,0,none⟩=some (.slice a n ca):=HQ.out _ hTw
     have hfz5:=Ux.frozen_row hb5 0
     have hR6:=hR5
     obtain ⟨_,a5,c5,rfl,_⟩:=hR5
     have H5:=Lib.hid (And.intro hR6 (And.intro hTw (And.intro hb5 hr5)))
     clear hR6 hTw hb5 hr5
     go_wp2_with (fail)
     go_meet
     obtain ⟨hR6,hTw,hb5,hr5⟩:=H5.out
     have hs2:=H2.out.2.2.2
     have T56:Ux.Touch (fun b=>b=w.heap.size) w5 (w5.setCell ⟨w.heap.size,0,none⟩ (.slice a5 (putE T [c] [eLetter b 8,eMark m]).length c5)):=(Ux.Touch.refl (fun b=>b=w.heap.size) w5).setCell (p:=⟨w.heap.size,0,none⟩) (fun _=>rfl) _
     refine ⟨_,_,_,by rw [cell_of_row _ _ 0 _ _ (0,0) (Ux.setCell_row hb5 0 _)];rfl,Lib.hid ⟨hR6.touchB T56 fun g h1 h2 e=>by omega,(H2.out.2.2.1.trans hTw fun _ _ f=>f).setCell (p:=⟨w.heap.size,0,none⟩) (fun h=>absurd h (Nat.lt_irrefl _)) _,T56.heap hr5 (by omega),by have:=hTw.size;have:=T56.size;omega⟩⟩
 obtain ⟨a1,n1,c1,hbox1,H1⟩:=hcut
 have HQ1:=Lib.hid fun W (T:Ux.Touch (fun _=>False) wc W)=>T.cell hbox1 (fun f=>f)
 obtain ⟨T1,hT1⟩: ∃T1,putE T [c] [eLetter b 8,eMark m]=T1:=⟨_,rfl⟩
 rw [hT1] at H1
 have hT1n:T1.length≤9001:=by rw [←hT1];have:=Ux.putE_len T [c] [eLetter b 8,eMark m];have:=HH.out.2.1;omega
 have hT13: ∀e∈T1,1≤e.1.length∧e.1.length≤3:=fun e he=>by
  rw [←hT1] at he
  rcases putE_sub he with h|h
  ·rw [h];simp
  ·exact HH.out.2.2.1 e h
 have HP1:Hid (∀(W:World) (vs vl:Value),Ux.Touch (fun _=>False) wc W→SView W vs [c+32]→RRow W vl [eLetter b 2,eMark m]→Calls Tryz.prog 118 #[.agg #[.slice a1 n1 c1],vs,vl] W fun e w'=> ∃u,e= .returned (.agg #[u])∧RRows w' (fun b=>(A b∧b<w.heap.size)∨W2.heap.size+2≤b) u (putE T1 [c+32] [eLetter b 2,eMark m])∧Ux.Touch (fun _=>False) W w'):=Lib.hid fun W vs vl T02 hs hl=>by
  refine (rrput_ (.slice a1 n1 c1) vs vl T1 [c+32] [eLetter b 2,eMark m] _ W (H1.out.1.touch0 T02) hs hl (by simp) (by simp) (by simp) (by omega) hT13).mono ?_
  rintro e w' ⟨u,h1,h2,h3⟩
  exact ⟨u,h1,h2.mono fun g _ h=>h.elim id fun h=> .inr (by have:=T02.size;have:=H1.out.2.2.2;have:=H2.out.2.2.2;omega),h3⟩
 have hC32:(C+32:Int)=((c+32:Nat):Int):=by have:=HE.out.1;omega
 have HC32:=Lib.hid hC32
 have HT1:=Lib.hid hT1
 clear HPUT hT1 hT1n hT13 hC32
 go_upto_region 2 with (fail)
 refine Ux.wpr (fun _ w'=>w'.cell? ⟨w.heap.size,0,none⟩=some (.slice a1 n1 c1)) (.h false [0] (.q [1,2,4,5,7] (.br 3 (.e 6 true false (.e 8 true false (.e 9 true false (.e 10 false false (.line [11]))))) 6 (.br 3 (.e 8 true false (.e 9 true false (.e 10 false false (.line [11])))) 8 (.br 3 (.e 9 true false (.e 10 false false (.line [11]))) 9 (.e 3 true true (.e 10 false false (.line [11])))))))) ?_;repeat ((with_reducible refine Ux.qg ?_);refine Ux.qu ?_)
 refine ⟨?_,?_⟩
 ·go_wp2_with (fail)
  first|refine ⟨⟨HQ1.out _ Ux.tq,HQ1.out _ Ux.tq⟩,?_⟩|refine ⟨HQ1.out _ Ux.tq,?_⟩
  go_wp2_with (go_at_call 119;refine (HL2.out _).mono ?_;rintro e w' ⟨rfl,rfl⟩)
  refine ⟨HQ1.out _ Ux.tq,?_⟩
  go_wp2_with (go_at_call 120;refine (HM.out _).mono ?_;rintro e w' ⟨rfl,rfl⟩)
  refine ⟨HQ1.out _ Ux.tq,?_⟩
  go_wp2_with (fail)
  refine ⟨HQ1.out _ Ux.tq,?_⟩
  go_wp2_with (go_at_call 118;fail)
  refine (HP1.out _ _ _ Ux.tq (iv_rowAt #[.int .i64 (C+32)] [c+32] 1 rfl (by rw [HC32.out];rfl) (by repeat (first|exact nest_here _ _ _ (by simp [World.size_alloc])|refine nest_drew ?_|refine nest_there (by simp [World.size_alloc]<;>omega) ?_))) (rv_rowAt _ _ 2 rfl HP.out.2 (by repeat (first|exact nest_here _ _ _ (by simp [World.size_alloc])|refine nest_drew ?_|refine nest_there (by simp [World.size_alloc]<;>omega) ?_)))).mono ?_
  rintro e w5 ⟨u,rfl,hR5,hT5⟩
  have hTw:Ux.Touch (fun _=>False) wc w5:=Ux.Touch.trans Ux.tq hT5 fun _ _ f=>f
  have hr5:=hTw.heap H1.out.2.2.1 (fun f=>f)
  have hcell5:w5.cell? ⟨w.heap.size+1,0,none⟩=some (.slice none 0 0):=by rw [cell_of_row w5 _ 0 _ _ (0,0) hr5];rfl
  have hfz5:=Ux.frozen_row hr5 0
  have hR6:=hR5
  obtain ⟨_,a5,c5,rfl,_⟩:=hR5
  have c6:(w5.setCell ⟨w.heap.size+1,0,none⟩ (.slice a5 (putE T1 [c+32] [eLetter b 2,eMark m]).length c5)).cell? ⟨w.heap.size+1,0,none⟩=some (.slice a5 (putE T1 [c+32] [eLetter b 2,eMark m]).length c5):=by
   rw [cell_of_row _ _ 0 _ _ (0,0) (Ux.setCell_row hr5 0 _)]
   rfl
  have H5:=Lib.hid (And.intro hR6 (And.intro hTw hr5))
  clear hR6 hTw hr5
  go_wp2_with (fail)
  refine bodyPost_ret (by simp [results,Tryz.results121,go_sem,c6];try rfl) rfl ?_
  obtain ⟨hR6,hTw,hr5⟩:=H5.out
  have hs2:=H2.out.2.2.2
  have hT1e:=HT1.out
  subst hT1e
  have T56:=fun u=>(Ux.Touch.refl (fun b=>b=w.heap.size+1) w5).setCell (p:=⟨w.heap.size+1,0,none⟩) (fun _=>rfl) u
  exact ⟨_,rfl,(hR6.touchB (T56 _) fun g h1 h2 e=>by omega).mono (fun g h1 h2=>h2.imp (fun h=>h.1) (fun h=>by omega)),(H1.out.2.1.trans hTw fun _ _ f=>f).setCell (p:=⟨w.heap.size+1,0,none⟩) (fun h=>absurd h (by show¬w.heap.size+1<w.heap.size;omega)) _⟩
 ·go_wp2_with (go_at_call 119;refine (HL2.out _).mono ?_;rintro e w' ⟨rfl,rfl⟩)
  first|refine ⟨⟨HQ1.out _ Ux.tq,HQ1.out _ Ux.tq⟩,?_⟩|refine ⟨HQ1.out _ Ux.tq,?_⟩
  refine ⟨?_,?_⟩
  ·go_wp2_with (fail)
   first|refine ⟨⟨HQ1.out _ Ux.tq,HQ1.out _ Ux.tq⟩,?_⟩|refine ⟨HQ1.out _ Ux.tq,?_⟩
   go_wp2_with (go_at_call 120;refine (HM.out _).mono ?_;rintro e w' ⟨rfl,rfl⟩)
   refine ⟨HQ1.out _ Ux.tq,?_⟩
   go_wp2_with (fail)
   refine ⟨HQ1.out _ Ux.tq,?_⟩
   go_wp2_with (go_at_call 118;fail)
   refine (HP1.out _ _ _ Ux.tq (iv_rowAt #[.int .i64 (C+32)] [c+32] 1 rfl (by rw [HC32.out];rfl) (by repeat (first|exact nest_here _ _ _ (by simp [World.size_alloc])|refine nest_drew ?_|refine nest_there (by simp [World.size_alloc]<;>omega) ?_))) (rv_rowAt _ _ 2 rfl HP.out.2 (by repeat (first|exact nest_here _ _ _ (by simp [World.size_alloc])|refine nest_drew ?_|refine nest_there (by simp [World.size_alloc]<;>omega) ?_)))).mono ?_
   rintro e w5 ⟨u,rfl,hR5,hT5⟩
   have hTw:Ux.Touch (fun _=>False) wc w5:=Ux.Touch.trans Ux.tq hT5 fun _ _ f=>f
   have hr5:=hTw.heap H1.out.2.2.1 (fun f=>f)
   have hcell5:w5.cell? ⟨w.heap.size+1,0,none⟩=some (.slice none 0 0):=by rw [cell_of_row w5 _ 0 _ _ (0,0) hr5];rfl
   have hfz5:=Ux.frozen_row hr5 0
   have hR6:=hR5
   obtain ⟨_,a5,c5,rfl,_⟩:=hR5
   have c6:(w5.setCell ⟨w.heap.size+1,0,none⟩ (.slice a5 (putE T1 [c+32] [eLetter b 2,eMark m]).length c5)).cell? ⟨w.heap.size+1,0,none⟩=some (.slice a5 (putE T1 [c+32] [eLetter b 2,eMark m]).length c5):=by
    rw [cell_of_row _ _ 0 _ _ (0,0) (Ux.setCell_row hr5 0 _)]
    rfl
   have H5:=Lib.hid (And.intro hR6 (And.intro hTw hr5))
   clear hR6 hTw hr5
   go_wp2_with (fail)
   refine bodyPost_ret (by simp [results,Tryz.results121,go_sem,c6];try rfl) rfl ?_
   obtain ⟨hR6,hTw,hr5⟩:=H5.out
   have hs2:=H2.out.2.2.2
   have hT1e:=HT1.out
   subst hT1e
   have T56:=fun u=>(Ux.Touch.refl (fun b=>b=w.heap.size+1) w5).setCell (p:=⟨w.heap.size+1,0,none⟩) (fun _=>rfl) u
   exact ⟨_,rfl,(hR6.touchB (T56 _) fun g h1 h2 e=>by omega).mono (fun g h1 h2=>h2.imp (fun h=>h.1) (fun h=>by omega)),(H1.out.2.1.trans hTw fun _ _ f=>f).setCell (p:=⟨w.heap.size+1,0,none⟩) (fun h=>absurd h (by show¬w.heap.size+1<w.heap.size;omega)) _⟩
  ·go_wp2_with (go_at_call 120;refine (HM.out _).mono ?_;rintro e w' ⟨rfl,rfl⟩)
   first|refine ⟨⟨HQ1.out _ Ux.tq,HQ1.out _ Ux.tq⟩,?_⟩|refine ⟨HQ1.out _ Ux.tq,?_⟩
   refine ⟨?_,?_⟩
   ·go_wp2_with (fail)
    first|refine ⟨⟨HQ1.out _ Ux.tq,HQ1.out _ Ux.tq⟩,?_⟩|refine ⟨HQ1.out _ Ux.tq,?_⟩
    go_wp2_with (fail)
    refine ⟨HQ1.out _ Ux.tq,?_⟩
    go_wp2_with (go_at_call 118;fail)
    refine (HP1.out _ _ _ Ux.tq (iv_rowAt #[.int .i64 (C+32)] [c+32] 1 rfl (by rw [HC32.out];rfl) (by repeat (first|exact nest_here _ _ _ (by simp [World.size_alloc])|refine nest_drew ?_|refine nest_there (by simp [World.size_alloc]<;>omega) ?_))) (rv_rowAt _ _ 2 rfl HP.out.2 (by repeat (first|exact nest_here _ _ _ (by simp [World.size_alloc])|refine nest_drew ?_|refine nest_there (by simp [World.size_alloc]<;>omega) ?_)))).mono ?_
    rintro e w5 ⟨u,rfl,hR5,hT5⟩
    have hTw:Ux.Touch (fun _=>False) wc w5:=Ux.Touch.trans Ux.tq hT5 fun _ _ f=>f
    have hr5:=hTw.heap H1.out.2.2.1 (fun f=>f)
    have hcell5:w5.cell? ⟨w.heap.size+1,0,none⟩=some (.slice none 0 0):=by rw [cell_of_row w5 _ 0 _ _ (0,0) hr5];rfl
    have hfz5:=Ux.frozen_row hr5 0
    have hR6:=hR5
    obtain ⟨_,a5,c5,rfl,_⟩:=hR5
    have c6:(w5.setCell ⟨w.heap.size+1,0,none⟩ (.slice a5 (putE T1 [c+32] [eLetter b 2,eMark m]).length c5)).cell? ⟨w.heap.size+1,0,none⟩=some (.slice a5 (putE T1 [c+32] [eLetter b 2,eMark m]).length c5):=by
     rw [cell_of_row _ _ 0 _ _ (0,0) (Ux.setCell_row hr5 0 _)]
     rfl
    have H5:=Lib.hid (And.intro hR6 (And.intro hTw hr5))
    clear hR6 hTw hr5
    go_wp2_with (fail)
    refine bodyPost_ret (by simp [results,Tryz.results121,go_sem,c6];try rfl) rfl ?_
    obtain ⟨hR6,hTw,hr5⟩:=H5.out
    have hs2:=H2.out.2.2.2
    have hT1e:=HT1.out
    subst hT1e
    have T56:=fun u=>(Ux.Touch.refl (fun b=>b=w.heap.size+1) w5).setCell (p:=⟨w.heap.size+1,0,none⟩) (fun _=>rfl) u
    exact ⟨_,rfl,(hR6.touchB (T56 _) fun g h1 h2 e=>by omega).mono (fun g h1 h2=>h2.imp (fun h=>h.1) (fun h=>by omega)),(H1.out.2.1.trans hTw fun _ _ f=>f).setCell (p:=⟨w.heap.size+1,0,none⟩) (fun h=>absurd h (by show¬w.heap.size+1<w.heap.size;omega)) _⟩
   ·go_wp2_with (fail)
    first|refine ⟨⟨HQ1.out _ Ux.tq,HQ1.out _ Ux.tq⟩,?_⟩|refine ⟨HQ1.out _ Ux.tq,?_⟩
    go_wp2_with (fail)
    first|refine ⟨⟨HQ1.out _ Ux.tq,HQ1.out _ Ux.tq⟩,?_⟩|refine ⟨HQ1.out _ Ux.tq,?_⟩
    go_wp2_with (go_at_call 118;fail)
    refine (HP1.out _ _ _ Ux.tq (iv_rowAt #[.int .i64 (C+32)] [c+32] 1 rfl (by rw [HC32.out];rfl) (by repeat (first|exact nest_here _ _ _ (by simp [World.size_alloc])|refine nest_drew ?_|refine nest_there (by simp [World.size_alloc]<;>omega) ?_))) (rv_rowAt _ _ 2 rfl HP.out.2 (by repeat (first|exact nest_here _ _ _ (by simp [World.size_alloc])|refine nest_drew ?_|refine nest_there (by simp [World.size_alloc]<;>omega) ?_)))).mono ?_
    rintro e w5 ⟨u,rfl,hR5,hT5⟩
    have hTw:Ux.Touch (fun _=>False) wc w5:=Ux.Touch.trans Ux.tq hT5 fun _ _ f=>f
    have hr5:=hTw.heap H1.out.2.2.1 (fun f=>f)
    have hcell5:w5.cell? ⟨w.heap.size+1,0,none⟩=some (.slice none 0 0):=by rw [cell_of_row w5 _ 0 _ _ (0,0) hr5];rfl
    have hfz5:=Ux.frozen_row hr5 0
    have hR6:=hR5
    obtain ⟨_,a5,c5,rfl,_⟩:=hR5
    have c6:(w5.setCell ⟨w.heap.size+1,0,none⟩ (.slice a5 (putE T1 [c+32] [eLetter b 2,eMark m]).length c5)).cell? ⟨w.heap.size+1,0,none⟩=some (.slice a5 (putE T1 [c+32] [eLetter b 2,eMark m]).length c5):=by
     rw [cell_of_row _ _ 0 _ _ (0,0) (Ux.setCell_row hr5 0 _)]
     rfl
    have H5:=Lib.hid (And.intro hR6 (And.intro hTw hr5))
    clear hR6 hTw hr5
    go_wp2_with (fail)
    refine bodyPost_ret (by simp [results,Tryz.results121,go_sem,c6];try rfl) rfl ?_
    obtain ⟨hR6,hTw,hr5⟩:=H5.out
    have hs2:=H2.out.2.2.2
    have hT1e:=HT1.out
    subst hT1e
    have T56:=fun u=>(Ux.Touch.refl (fun b=>b=w.heap.size+1) w5).setCell (p:=⟨w.heap.size+1,0,none⟩) (fun _=>rfl) u
    exact ⟨_,rfl,(hR6.touchB (T56 _) fun g h1 h2 e=>by omega).mono (fun g h1 h2=>h2.imp (fun h=>h.1) (fun h=>by omega)),(H1.out.2.1.trans hTw fun _ _ f=>f).setCell (p:=⟨w.heap.size+1,0,none⟩) (fun h=>absurd h (by show¬w.heap.size+1<w.heap.size;omega)) _⟩
end Go.Proofs.YtmnkinaaoifpeaaGreatDoor
