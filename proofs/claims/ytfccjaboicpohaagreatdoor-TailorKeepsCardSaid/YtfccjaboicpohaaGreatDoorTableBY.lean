/- A part of the proof that the statement holds for every input that it names. No other condition. -/
import Derived.Test.YtfccjaboicpohaaGreatDoorUxTabAY
import Derived.Test.YtfccjaboicpohaaGreatDoorTableAY
import Derived.Test.YtfccjaboicpohaaGreatDoorShelf2Y
set_option linter.unusedVariables false
set_option linter.unusedSimpArgs false
namespace Go.Proofs.YtfccjaboicpohaaGreatDoor
open Go.RowKit
open Ux (Ent befE fst0 lexB sv)
def IView (w:World) (v:Value) (s:List Int):Prop:= ∃a c,v= .slice a s.length c∧∀(j:Nat) (x:Int),s[j]? =some x→∃g o,a=some ⟨g,o,none⟩∧w.cell? ⟨g,o+j,none⟩=some (.int .i64 x)
theorem IView.touch0 {w w':World} {v:Value} {s:List Int} (h:IView w v s) (ht:Ux.Touch (fun _=>False) w w'):IView w' v s:=by
 obtain ⟨a,c,rfl,hc⟩:=h
 refine ⟨a,c,rfl,fun j x hx=> ?_⟩
 obtain ⟨g,o,rfl,h1⟩:=hc j x hx
 exact ⟨g,o,rfl,ht.cell h1 (fun f=>f)⟩
theorem SView.i {w:World} {v:Value} {s:List Nat} (h:SView w v s):IView w v (sv s):=by
 obtain ⟨a,c,rfl,hc⟩:=h
 refine ⟨a,c,by rw [Ux.sv_length],fun j x hx=> ?_⟩
 unfold sv at hx
 rw [List.getElem?_map] at hx
 obtain ⟨y,hy,rfl⟩:=Option.map_eq_some_iff.1 hx
 exact hc j y hy
theorem IView.s {w:World} {v:Value} {s:List Nat} (h:IView w v (sv s)):SView w v s:=by
 obtain ⟨a,c,rfl,hc⟩:=h
 refine ⟨a,c,by rw [Ux.sv_length],fun j x hx=> ?_⟩
 exact hc j x (Ux.sv_get hx)
theorem SView.touch0 {w w':World} {v:Value} {s:List Nat} (h:SView w v s) (ht:Ux.Touch (fun _=>False) w w'):SView w' v s:=(h.i.touch0 ht).s
theorem IView.row {w:World} {lo:Nat} {t:TypeId} {v:Value} {s:List Int} (h:Ux.Row w lo t v (Ux.iv s)):IView w v s:=by
 obtain ⟨a,c,rfl,hc⟩:=h.is
 refine ⟨a,c,by rw [Ux.iv_length],fun j x hx=> ?_⟩
 obtain ⟨g,rfl,_,h1⟩:=hc j _ (Ux.iv_get hx)
 exact ⟨g,0,rfl,by rw [Nat.zero_add];exact h1⟩
set_option maxHeartbeats 8000000 in
set_option maxRecDepth 100000 in
theorem sameInts_ (va vb:Value) (la lb:List Int) (w:World) (ha:IView w va la) (hb:IView w vb lb) (h1:la.length≤1000000000) (h2:lb.length≤1000000000):
 Calls Tryz.prog 58 #[va,vb] w fun e w'=>e= .returned (.bool (la==lb))∧Ux.Touch (fun _=>False) w w':=by
 obtain ⟨a,ca,rfl,hca⟩:=ha
 obtain ⟨b,cb,rfl,hcb⟩:=hb
 obtain ⟨n,hn⟩: ∃n,la.length=n:=⟨_,rfl⟩
 obtain ⟨m,hm⟩: ∃m,lb.length=m:=⟨_,rfl⟩
 obtain ⟨R,hR⟩: ∃R,(la==lb)=R:=⟨_,rfl⟩
 rw [hn] at h1⊢
 rw [hm] at h2⊢
 rw [hR]
 have n0:(n:Int)≤1000000000:=by omega
 have m0:(m:Int)≤1000000000:=by omega
 have HH:=Lib.hid (And.intro hca (And.intro hcb (And.intro hn hm)))
 have HR:=Lib.hid hR
 clear hca hcb hn hm hR h1 h2
 go_enter Tryz.func58,Tryz.ntmps58
 by_cases hnm:n=m
 ·subst hnm
  go_wp2
  go_loopg [5] n (fun g s5 wr=> ∃i:Nat,s5= .int .i64 i∧i+g=n∧Hid ((la.drop i==lb.drop i)=R∧Ux.Touch (fun _=>False) w wr))
  case atStart=>exact ⟨0,rfl,by omega,Lib.hid ⟨HR.out,Ux.Touch.refl _ _⟩⟩
  case round=>
   obtain ⟨i,rfl,hig,HI⟩:=hrel
   have p0:(0:Int)≤i:=by omega
   by_cases hlt:i<n
   ·obtain ⟨g',rfl⟩: ∃g',gk=g'+1:=⟨gk-1,by omega⟩
    obtain ⟨x,hx⟩: ∃x,la[i]? =some x:=⟨_,List.getElem?_eq_getElem (by have:=HH.out.2.2.1;omega)⟩
    obtain ⟨y,hy⟩: ∃y,lb[i]? =some y:=⟨_,List.getElem?_eq_getElem (by have:=HH.out.2.2.2;omega)⟩
    obtain ⟨ga,oa,rfl,c0⟩:=HH.out.1 i x hx
    obtain ⟨gb,ob,rfl,c1⟩:=HH.out.2.1 i y hy
    have T:=HI.out.2
    have c0:=T.cell c0 (fun f=>f)
    have c1:=T.cell c1 (fun f=>f)
    have hd:(la.drop i==lb.drop i)=((x==y)&&(la.drop (i+1)==lb.drop (i+1))):=by
     rw [Ux.drop_get hx,Ux.drop_get hy]
     rfl
    have i1:(i:Int)<n:=by omega
    have HD:=Lib.hid hd
    clear hd hx hy hlt T
    go_upto_region 6 with (fail)
    refine Ux.wpr (fun _ w'=>w'.cell? ⟨ga,oa+i,none⟩=some (.int .i64 x)∧w'.cell? ⟨gb,ob+i,none⟩=some (.int .i64 y)) (.q [0,1,2,4,5,6] (.h false [3,7] (.q [8] (.line [])))) ?_;repeat ((with_reducible refine Ux.qg ?_);refine Ux.qu ?_)
    cases hxy:decide (x=y) with
    |true=>
     have hxy:=of_decide_eq_true hxy
     subst hxy
     repeat ((with_reducible refine Ux.qg ?_);refine Ux.qu ?_)
     go_wp2
     go_roundg g'
     case measure=>omega
     case rel=>exact ⟨i+1,by congr 1,by omega,Lib.hid ⟨by have:=HD.out;simp only [beq_self_eq_true,Bool.true_and] at this;rw [←HI.out.1,this],HI.out.2.drew⟩⟩
    |false=>
     have q2:(x !=y)=true:=by have:=of_decide_eq_false hxy;simp;exact this
     have hxy2:(x==y)=false:=by have:=of_decide_eq_false hxy;simp;exact this
     have HXY:=Lib.hid hxy2
     clear hxy hxy2
     repeat ((with_reducible refine Ux.qg ?_);refine Ux.qu ?_)
     go_wp2
     go_ret
     refine ⟨?_,HI.out.2.drew⟩
     rw [←HI.out.1,HD.out,HXY.out]
     rfl
   ·have q1: ¬(i:Int)<n:=by omega
    have hr0:R=true:=by
     rw [←HI.out.1,List.drop_eq_nil_of_le (by have:=HH.out.2.2.1;omega),List.drop_eq_nil_of_le (by have:=HH.out.2.2.2;omega)]
     rfl
    subst hr0
    clear hlt
    go_wp2
    go_ret
    exact ⟨rfl,HI.out.2⟩
 ·have q:((n:Int)==m)=false:=by simp;omega
  clear hnm
  go_wp2
  go_ret
  refine ⟨?_,Ux.Touch.refl _ _⟩
  have:R=false:=by
   rw [←HR.out]
   cases h:la==lb with
   |false=>rfl
   |true=>
    have:=eq_of_beq h
    subst this
    have h1:=HH.out.2.2.1
    have h2:=HH.out.2.2.2
    simp at q
    omega
  rw [this]
  rfl
theorem lexB_drop {la lb:List Nat} {i x y:Nat} (hx:la[i]? =some x) (hy:lb[i]? =some y):lexB (la.drop i) (lb.drop i)=if x=y then lexB (la.drop (i+1)) (lb.drop (i+1)) else decide (x<y):=by
 rw [Ux.drop_get hx,Ux.drop_get hy,lexB]
theorem lexB_end {la lb:List Nat} {i:Nat} (h:la.length≤i):lexB (la.drop i) (lb.drop i)=false:=by
 rw [List.drop_eq_nil_of_le h,lexB]
 intro _ _ _ _ h
 cases h
set_option maxHeartbeats 8000000 in
set_option maxRecDepth 100000 in
theorem before_ (va vb:Value) (la lb:List Nat) (w:World) (ha:SView w va la) (hb:SView w vb lb) (h0:1≤la.length) (h0':1≤lb.length) (h1:la.length≤1000000000) (h2:lb.length≤1000000000):
 Calls Tryz.prog 104 #[va,vb] w fun e w'=>e= .returned (.bool (befE la lb))∧Ux.Touch (fun _=>False) w w':=by
 obtain ⟨a,ca,rfl,hca⟩:=ha
 obtain ⟨b,cb,rfl,hcb⟩:=hb
 obtain ⟨x0,hx0⟩: ∃x,la[0]? =some x:=⟨_,List.getElem?_eq_getElem (by omega)⟩
 obtain ⟨y0,hy0⟩: ∃x,lb[0]? =some x:=⟨_,List.getElem?_eq_getElem (by omega)⟩
 have hbef:befE la lb=if x0≠y0 then decide (x0<y0) else if la.length≠lb.length then decide (la.length<lb.length) else lexB (la.drop 1) (lb.drop 1):=by
  have e1:fst0 la=x0:=by
   cases la with
   |nil=>cases hx0
   |cons z la=>exact Option.some.inj hx0
  have e2:fst0 lb=y0:=by
   cases lb with
   |nil=>cases hy0
   |cons z lb=>exact Option.some.inj hy0
  unfold befE
  rw [e1,e2,List.drop_one,List.drop_one]
 obtain ⟨R,hR⟩: ∃R,befE la lb=R:=⟨_,rfl⟩
 rw [hR] at hbef⊢
 obtain ⟨n,hn⟩: ∃n,la.length=n:=⟨_,rfl⟩
 obtain ⟨m,hm⟩: ∃m,lb.length=m:=⟨_,rfl⟩
 rw [hn,hm] at hbef
 rw [hn] at h1 h0⊢
 rw [hm] at h2 h0'⊢
 have n0:(n:Int)≤1000000000:=by omega
 have m0:(m:Int)≤1000000000:=by omega
 have n1:(0:Int)<n:=by omega
 have m1:(0:Int)<m:=by omega
 obtain ⟨ga,oa,rfl,c0⟩:=hca 0 x0 hx0
 obtain ⟨gb,ob,rfl,d0⟩:=hcb 0 y0 hy0
 rw [Nat.add_zero] at c0 d0
 have HH:=Lib.hid (And.intro hca (And.intro hcb (And.intro hn hm)))
 have HR:=Lib.hid hbef
 have HC:=Lib.hid fun w' (T:Ux.Touch (fun _=>False) w w')=>And.intro (T.cell c0 (fun f=>f)) (T.cell d0 (fun f=>f))
 clear hca hcb hn hm hR h1 h2 hbef hx0 hy0 h0 h0'
 go_enter Tryz.func104,Tryz.ntmps104
 go_upto_region 1 with (fail)
 refine Ux.wpr (fun _ w'=>w'.cell? ⟨ga,oa,none⟩=some (.int .i64 (x0:Int))∧w'.cell? ⟨gb,ob,none⟩=some (.int .i64 (y0:Int))) (.q [0,1,3,4] (.h false [2,5] (.q [6,7] (.line [])))) ?_;repeat ((with_reducible refine Ux.qg ?_);refine Ux.qu ?_)
 clear c0 d0
 cases hxy:decide (x0=y0) with
 |false=>
  have hxy:=of_decide_eq_false hxy
  have q1:((x0:Int) !=y0)=true:=by simp;omega
  have HXY:=Lib.hid hxy
  clear hxy
  repeat ((with_reducible refine Ux.qg ?_);refine Ux.qu ?_)
  go_upto_region 2 with (fail)
  obtain ⟨c0,d0⟩:=HC.out _ (Ux.Touch.refl _ w).drew
  refine Ux.wpr (fun _ w'=>w'.cell? ⟨ga,oa,none⟩=some (.int .i64 (x0:Int))∧w'.cell? ⟨gb,ob,none⟩=some (.int .i64 (y0:Int))) (.q [0,1,3,4] (.h false [2,5] (.q [6] (.line [7])))) ?_;repeat ((with_reducible refine Ux.qg ?_);refine Ux.qu ?_)
  clear c0 d0
  repeat ((with_reducible refine Ux.qg ?_);refine Ux.qu ?_)
  go_wp2
  go_ret
  refine ⟨?_,(Ux.Touch.refl _ w).drew.drew⟩
  have hr:R=decide (x0<y0):=by rw [HR.out,if_pos HXY.out]
  rw [hr]
  rfl
 |true=>
  have hxy:=of_decide_eq_true hxy
  subst hxy
  repeat ((with_reducible refine Ux.qg ?_);refine Ux.qu ?_)
  by_cases hnm:n=m
  ·subst hnm
   have HR2:Hid (R=lexB (_:List Nat) _):=Lib.hid (by have:=HR.out;rw [if_neg (fun e=>e rfl),if_neg (fun e=>e rfl)] at this;exact this)
   go_wp2
   go_loopg [5] n (fun g s5 wr=> ∃i:Nat,s5= .int .i64 i∧i+g=n+1∧1≤i∧Hid (lexB (la.drop i) (lb.drop i)=R∧Ux.Touch (fun _=>False) w wr))
   case atStart=>exact ⟨1,rfl,by omega,by omega,Lib.hid ⟨HR2.out.symm,(Ux.Touch.refl _ _).drew⟩⟩
   case round=>
    obtain ⟨i,rfl,hig,hi1,HI⟩:=hrel
    have p0:(1:Int)≤i:=by omega
    by_cases hlt:i<n
    ·obtain ⟨g',rfl⟩: ∃g',gk=g'+1:=⟨gk-1,by omega⟩
     obtain ⟨x,hx⟩: ∃x,la[i]? =some x:=⟨_,List.getElem?_eq_getElem (by have:=HH.out.2.2.1;omega)⟩
     obtain ⟨y,hy⟩: ∃y,lb[i]? =some y:=⟨_,List.getElem?_eq_getElem (by have:=HH.out.2.2.2;omega)⟩
     obtain ⟨ga',oa',hga,c0⟩:=HH.out.1 i x hx
     obtain ⟨gb',ob',hgb,c1⟩:=HH.out.2.1 i y hy
     cases hga
     cases hgb
     have T:=HI.out.2
     have HC2:=Lib.hid fun w' (T2:Ux.Touch (fun _=>False) wr w')=>And.intro (T2.cell (T.cell c0 (fun f=>f)) (fun f=>f)) (T2.cell (T.cell c1 (fun f=>f)) (fun f=>f))
     clear c0 c1
     obtain ⟨c0,c1⟩:=HC2.out _ (Ux.Touch.refl _ wr)
     have HD:=Lib.hid (lexB_drop hx hy)
     have i1:(i:Int)<n:=by omega
     clear hx hy hlt T
     go_upto_region 8 with (fail)
     refine Ux.wpr (fun _ w'=>w'.cell? ⟨ga,oa+i,none⟩=some (.int .i64 (x:Int))∧w'.cell? ⟨gb,ob+i,none⟩=some (.int .i64 (y:Int))) (.q [0,1,2,4,5,6] (.h false [3,7] (.q [8] (.line [])))) ?_;repeat ((with_reducible refine Ux.qg ?_);refine Ux.qu ?_)
     cases hxy:decide (x=y) with
     |true=>
      have hxy:=of_decide_eq_true hxy
      subst hxy
      repeat ((with_reducible refine Ux.qg ?_);refine Ux.qu ?_)
      go_wp2
      go_roundg g'
      case measure=>omega
      case rel=>exact ⟨i+1,by congr 1,by omega,by omega,Lib.hid ⟨by have:=HD.out;simp only [if_true] at this;rw [←HI.out.1,this],HI.out.2.drew⟩⟩
     |false=>
      have hxy:=of_decide_eq_false hxy
      have q2:((x:Int) !=y)=true:=by simp;omega
      have HXY:=Lib.hid hxy
      clear hxy c0 c1
      repeat ((with_reducible refine Ux.qg ?_);refine Ux.qu ?_)
      go_upto_region 9 with (fail)
      obtain ⟨c0,c1⟩:=HC2.out _ (Ux.Touch.refl _ wr).drew
      refine Ux.wpr (fun _ w'=>w'.cell? ⟨ga,oa+i,none⟩=some (.int .i64 (x:Int))∧w'.cell? ⟨gb,ob+i,none⟩=some (.int .i64 (y:Int))) (.q [0,1,2,4,5,6] (.h false [3,7] (.q [8] (.line [9])))) ?_;repeat ((with_reducible refine Ux.qg ?_);refine Ux.qu ?_)
      repeat ((with_reducible refine Ux.qg ?_);refine Ux.qu ?_)
      go_wp2
      go_ret
      refine ⟨?_,HI.out.2.drew.drew⟩
      have hr:R=decide (x<y):=by rw [←HI.out.1,HD.out,if_neg HXY.out]
      rw [hr]
      rfl
    ·have q1: ¬(i:Int)<n:=by omega
     have hr0:R=false:=by
      rw [←HI.out.1]
      exact lexB_end (by have:=HH.out.2.2.1;omega)
     subst hr0
     clear hlt
     go_wp2
     go_ret
     exact ⟨rfl,HI.out.2⟩
  ·have q:((n:Int) !=m)=true:=by simp;omega
   have HNM:=Lib.hid hnm
   clear hnm
   go_wp2
   go_ret
   refine ⟨?_,(Ux.Touch.refl _ _).drew⟩
   have hr:R=decide (n<m):=by rw [HR.out,if_neg (fun e=>e rfl),if_pos HNM.out]
   rw [hr]
   rfl
end Go.Proofs.YtfccjaboicpohaaGreatDoor
namespace Go.Proofs.YtfccjaboicpohaaGreatDoor
open Go.RowKit
open Ux (Row iv sv Ent k3 kl3 okS okE ev)
open Ux.Sign (cp raw)
def keyOk (s:List Int):Bool:=decide (1≤s.length)&&decide (s.length≤3)&&s.all isI
theorem keyOk_sv {s:List Int} (h:keyOk s=true): ∃t:List Nat,s=sv t∧1≤t.length∧t.length≤3∧∀c∈t,cp c∨raw c:=by
 unfold keyOk at h
 simp only [Bool.and_eq_true,decide_eq_true_eq] at h
 obtain ⟨⟨h1,h2⟩,h3⟩:=h
 have h4: ∀c∈s,isI c=true:=List.all_eq_true.1 h3
 have h0: ∀c∈s,0≤c:=fun c hc=>by have:=h4 c hc;unfold isI at this;simp at this;omega
 have e:s=sv (s.map Int.toNat):=by
  unfold sv
  rw [List.map_map]
  have:s.map ((fun c:Nat=>(c:Int))∘Int.toNat)=s.map id:=List.map_congr_left fun c hc=>by
   have:=h0 c hc
   simp
   omega
  rw [this,List.map_id]
 refine ⟨s.map Int.toNat,e,by simpa using h1,by simpa using h2,fun c hc=> ?_⟩
 obtain ⟨d,hd,rfl⟩:=List.mem_map.1 hc
 have h5:=h4 d hd
 have e:((d.toNat:Nat):Int)=d:=by have:=h0 d hd;omega
 rw [←e,isI_nat] at h5
 exact of_decide_eq_true h5
set_option maxHeartbeats 8000000 in
set_option maxRecDepth 100000 in
theorem keyNo_ (s:List Int) (hk:keyOk s=false) (hl:s.length≤9223372036854775807) (v:Value) (w:World) (hv:IView w v s):
 Calls Tryz.prog 61 #[v] w fun e w'=> ∃x y z:Int,e= .returned (.tuple #[.agg #[.int .i64 x,.int .i64 y,.int .i64 z],.bool false])∧Ux.Touch (fun _=>False) w w':=by
 obtain ⟨a,c,rfl,hcell⟩:=hv
 obtain ⟨n,hn⟩: ∃n,s.length=n:=⟨_,rfl⟩
 rw [hn] at hl⊢
 have nb:(n:Int)≤9223372036854775807:=by omega
 by_cases h1:n<1
 ·have q1:(n:Int)<1:=by omega
  clear h1 hcell hn hk hl
  go_enter Tryz.func61,Tryz.ntmps61
  go_wp2
  go_returns
  all_goals exact ⟨0,0,0,rfl,by first|exact (((Ux.Touch.refl (fun _=>False) w).alloc _).alloc _).setCell (fun h=>by simp at h;omega) _|exact (((Ux.Touch.refl (fun _=>False) w).alloc _).alloc _)⟩
 ·by_cases h3:3<n
  ·have q1: ¬(n:Int)<1:=by omega
   have q2:(3:Int)<n:=by omega
   clear h1 h3 hcell hn hk hl
   go_enter Tryz.func61,Tryz.ntmps61
   go_wp2
   go_returns
   all_goals first
    |exact ⟨0,0,0,rfl,((Ux.Touch.refl (fun _=>False) w).alloc _).alloc _⟩
    |exact ⟨⟨0,0,0,rfl⟩,((Ux.Touch.refl (fun _=>False) w).alloc _).alloc _⟩
    |exact ⟨0,0,0,rfl,(((Ux.Touch.refl (fun _=>False) w).alloc _).alloc _).setCell (fun h=>by simp at h;omega) _⟩
  ·have n1:(1:Int)≤n:=by omega
   have n3:(n:Int)≤3:=by omega
   have hbad:s.all isI=false:=by
    unfold keyOk at hk
    rw [hn,decide_eq_true (by omega),decide_eq_true (by omega)] at hk
    simpa using hk
   have HH:=Lib.hid (And.intro hcell (And.intro hn hbad))
   clear h1 h3 hcell hn hk hl hbad
   go_enter Tryz.func61,Tryz.ntmps61
   obtain ⟨q,hq⟩: ∃q,w.heap.size=q:=⟨_,rfl⟩
   go_wp2
   go_loopg [18] n (fun g s18 wr=> ∃k:Nat,s18= .int .i64 k∧k+g=n∧Hid (wr.heap[q]? =some (.cells #[.int .i64 0,.int .i64 0,.int .i64 0] 105 (0,0))∧(∃L:List Int,L.length=3∧wr.heap[q+1]? =some (.cells (iv L).toArray 105 (0,0)))∧(s.take k).all isI=true∧Ux.Touch (fun _=>False) w wr))
   case atStart=>
    refine ⟨0,rfl,by omega,Lib.hid ⟨?_,⟨[0,0,0],rfl,?_⟩,rfl,((Ux.Touch.refl (fun _=>False) w).alloc _).alloc _⟩⟩
    ·rw [Ux.alloc_at,if_neg (by rw [World.size_alloc];omega),Ux.alloc_at,if_pos hq.symm]
    ·rw [Ux.alloc_at,if_pos (by rw [World.size_alloc];omega)]
     rfl
   case round=>
    obtain ⟨k,rfl,hk,HI⟩:=hrel
    by_cases hkn:k=n
    ·exfalso
     have h1:=HI.out.2.2.1
     rw [List.take_of_length_le (by have:=HH.out.2.1;omega),HH.out.2.2] at h1
     cases h1
    ·obtain ⟨g',rfl⟩: ∃g',gk=g'+1:=⟨gk-1,by omega⟩
     have hkl:k<s.length:=by have:=HH.out.2.1;omega
     have kn:(k:Int)<n:=by omega
     have k0:(0:Int)≤k:=by omega
     obtain ⟨c0,hc0⟩: ∃c,s[k]? =some c:=⟨_,List.getElem?_eq_getElem hkl⟩
     obtain ⟨g4,o4,rfl,hcg⟩:=HH.out.1 k c0 hc0
     have hcg:=HI.out.2.2.2.cell hcg (fun f=>f)
     obtain ⟨L,hL3,hL⟩:=HI.out.2.1
     obtain ⟨u,hu⟩: ∃u,L[k]? =some u:=⟨_,List.getElem?_eq_getElem (by omega)⟩
     have hk0:wr.cell? ⟨q+1,k,none⟩=some (.int .i64 u):=by
      rw [cell_of_row wr (q+1) k _ _ (0,0) hL,List.getElem?_toArray]
      exact Ux.iv_get hu
     have hf0:=Ux.frozen_row hL k
     cases hi:isI c0 with
     |true=>
      have w1: -9223372036854775808≤c0+1:=by unfold isI at hi;simp at hi;omega
      have w2:c0+1≤9223372036854775807:=by unfold isI at hi;simp at hi;omega
      have hall:(s.take (k+1)).all isI=true:=by
       rw [List.take_add_one,hc0,List.all_append,HI.out.2.2.1]
       simp [hi]
      have HU:=Lib.hid fun W=>usign_ c0 W
      rw [hi] at HU
      have HX:=Lib.hid (And.intro hall (And.intro hL3 hL))
      clear hc0 hkl hi hall hL hL3 hu
      go_wp2_with (go_at_call 117;refine (HU.out _).mono ?_;rintro e w' ⟨rfl,rfl⟩)
      go_roundg g'
      case measure=>omega
      case rel=>
       refine ⟨k+1,by congr 1,by omega,Lib.hid ⟨?_,⟨L.set k (c0+1),by simp [HX.out.2.1],?_⟩,HX.out.1,?_⟩⟩
       ·rw [Deep.blk_setCell_other _ _ _ _ (by show q≠q+1;omega)]
        exact HI.out.1
       ·rw [Ux.setCell_row HX.out.2.2]
        unfold iv
        rw [List.map_set,←List.setIfInBounds_toArray]
       ·exact HI.out.2.2.2.setCell (p:=⟨q+1,k,none⟩) (fun h=>by simp only at h;omega) _
     |false=>
      have HU:=Lib.hid fun W=>usign_ c0 W
      rw [hi] at HU
      obtain ⟨x,y,z,rfl⟩: ∃x y z,L= [x,y,z]:=by
       match L,hL3 with
       | [x,y,z],_=>exact ⟨x,y,z,rfl⟩
      obtain ⟨A,hA⟩: ∃A,(iv [x,y,z]).toArray=A:=⟨_,rfl⟩
      have hAx:A= #[.int .i64 x,.int .i64 y,.int .i64 z]:=hA.symm
      have hA3:A.size=3:=by rw [←hA];rfl
      have hA1:A.all (·.oneCell')=true:=by rw [←hA,Array.all_eq_true_iff_forall_mem];exact fun u hu=>Ux.iv_one _ u (by simpa using hu)
      rw [hA] at hL
      have HA:=Lib.hid (And.intro hA3 (And.intro hA1 (And.intro hL hAx)))
      clear hc0 hkl hi hL hL3 hu hk0 hf0 hA hA3 hA1 hAx
      go_wp2_with (first
       |(go_at_call 117;refine (HU.out _).mono ?_;rintro e w' ⟨rfl,hw⟩;obtain rfl:wr=w':=hw.symm)
       |(refine Ux.is_load 105 rfl ?_;refine wpList_load_row rfl 105 _ rfl (q+1) rfl 105 A (0,0) _ HA.out.2.2.1 Tryz.underlying105 rfl (by rw [HA.out.1];kernel_rfl) ?_)
       |(refine Ux.is_store 105 rfl ?_;refine wpList_store_row rfl 105 _ _ rfl q A rfl rfl 105 _ HI.out.1 (by rw [HA.out.1];kernel_rfl) (by rw [HA.out.1];rfl) HA.out.2.1 ?_))
      obtain ⟨wE,hwE⟩: ∃wE,World.setRow wr q A=wE:=⟨_,rfl⟩
      rw [hwE]
      have hE:=setRow_heap wr q _ A _ _ HI.out.1
      have T:Ux.Touch (fun _=>False) w wE:=by rw [←hwE];exact HI.out.2.2.2.setRow (fun h=>by omega) A
      rw [hwE] at hE
      clear hwE
      have hxyz:=HA.out.2.2.2
      have c0:wE.cell? ⟨q,0,none⟩=some (.int .i64 x):=by rw [cell_of_row wE q 0 _ _ (0,0) hE,hxyz];rfl
      have c1:wE.cell? ⟨q,1,none⟩=some (.int .i64 y):=by rw [cell_of_row wE q 1 _ _ (0,0) hE,hxyz];rfl
      have c2:wE.cell? ⟨q,2,none⟩=some (.int .i64 z):=by rw [cell_of_row wE q 2 _ _ (0,0) hE,hxyz];rfl
      refine bodyPost_ret (by simp [results,Tryz.results61,go_sem,c0,c1,c2];try rfl) rfl ?_
      exact ⟨x,y,z,rfl,T⟩
end Go.Proofs.YtfccjaboicpohaaGreatDoor
namespace Go.Proofs.YtfccjaboicpohaaGreatDoor
open Go.RowKit
open Go.RowKit Go.Shelf
open Ux (Row iv sv Ent k3 kl3 okS okE ev setE TabMap Tells)
open Ux.Sign (cp raw)
theorem MapIs.clone {P:Program} {k:TypeId} {w:World} {b n:Nat} {f:Lit→Option Value} (h:Ux.MapIs P k w b n f): ∃es clock,w.heap[b]? =some (.map es clock)∧Ux.MapIs P k (w.alloc (.map es clock)) w.heap.size n f:=by
 obtain ⟨D,⟨es,clock,hb,F,hs,hD⟩,r⟩:=h
 exact ⟨es,clock,hb,D,⟨es,clock,(MapKept.heap_alloc w _).1,F,hs,hD⟩,r⟩
theorem mclone_ (b:Nat) (E:List Ent) (w:World) (hT:TM w b E):Calls Tryz.prog 62 #[.map (some b)] w fun e w'=>e= .returned (.map (some w.heap.size))∧TM w' w.heap.size E∧Ux.Touch (fun _=>False) w w':=by
 obtain ⟨h0,f,h1,h2⟩:=hT
 obtain ⟨es,clock,hb,hm⟩:=MapIs.clone h1
 have hcon:=AnyW.maps_Clone Tryz.cloneT b es clock w hb
 change Calls Tryz.prog 62 _ _ _ at hcon
 refine hcon.mono ?_
 rintro e w' ⟨rfl,rfl⟩
 have ht:Ux.Touch (fun _=>False) w (w.alloc (.map es clock)):=(Ux.Touch.refl _ w).alloc _
 exact ⟨rfl,⟨h0,f,hm,h2.touch ht fun _ _ _ f=>f⟩,ht⟩
set_option maxHeartbeats 8000000 in
set_option maxRecDepth 100000 in
theorem twithNo_ (p:Value) (s:List Int) (vs:Value) (a:Option Addr) (n c:Nat) (w:World) (hs:IView w vs s) (hl:s.length≤9223372036854775807) (hn:n≤1000000000) (hb:keyOk s=false∨8<n):
 Calls Tryz.prog 19 #[p,vs,.slice a n c] w fun e w'=>e= .returned (.tuple #[.pointer none,.int .i64 1])∧Ux.Touch (fun _=>False) w w':=by
 cases hk:keyOk s with
 |false=>
  have HK:=Lib.hid (keyNo_ s hk hl vs w hs)
  clear hs hb hk hl hn
  go_enter Tryz.func19,Tryz.ntmps19
  go_wp2_with (go_at_call 61;fail)
  refine HK.out.mono ?_
  rintro e w1 ⟨x,y,z,rfl,T1⟩
  have T1:=Lib.hid T1
  go_wp2
  go_returns
  all_goals first
   |exact ⟨rfl,T1.out.trans ((Ux.Touch.refl _ w1).alloc _) fun _ _ f=>f⟩
   |exact ⟨rfl,T1.out.trans (((Ux.Touch.refl (fun _=>False) w1).alloc _).setCell (fun h=>by simp at h;omega) _) fun _ _ f=>f⟩
 |true=>
  obtain ⟨t,rfl,h1,h3,hc⟩:=keyOk_sv hk
  have h8:(8:Int)<n:=by
   rcases hb with h|h
   ·rw [hk] at h;cases h
   ·omega
  obtain ⟨x,y,z,hxyz⟩: ∃x y z,k3 t= [x,y,z]:=by
   have:=Ux.k3_len h3
   match k3 t,this with
   | [x,y,z],_=>exact ⟨x,y,z,rfl⟩
  have HK:=Lib.hid (key3_ t ⟨h1,h3,fun c hc'=>by have:=hc c hc';unfold cp raw at this;omega⟩ hc vs w hs.s x y z hxyz)
  clear hs hb hk hl h1 h3 hc hxyz
  go_enter Tryz.func19,Tryz.ntmps19
  go_wp2_with (go_at_call 61;fail)
  refine HK.out.mono ?_
  rintro e w1 ⟨rfl,T1⟩
  have T1:=Lib.hid T1
  go_wp2
  go_returns
  all_goals first
   |exact ⟨rfl,T1.out.trans ((Ux.Touch.refl _ w1).alloc _) fun _ _ f=>f⟩
   |exact ⟨rfl,T1.out.trans (((Ux.Touch.refl (fun _=>False) w1).alloc _).setCell (fun h=>by simp at h;omega) _) fun _ _ f=>f⟩
def WithR (w:World) (lo:Nat) (E:List Ent) (s l:List Nat) (e:Ending):Prop:=
 if 500<(setE E s l).length then e= .returned (.tuple #[.pointer none,.int .i64 65]) else∃B mb,e= .returned (.tuple #[.pointer (some ⟨B,0,none⟩),.int .i64 0])∧lo≤B∧TableAt w B mb (setE E s l)
set_option maxHeartbeats 8000000 in
set_option maxRecDepth 100000 in
theorem twith_ (B mb:Nat) (E:List Ent) (s l:List Nat) (vs vl:Value) (w:World) (hT:TableAt w B mb E) (hs:SView w vs s) (hl:Row w 0 56 vl (ev l)) (hok:okE (s,l)) (hc: ∀c∈s,cp c∨raw c) (hE:E.length≤500):
 Calls Tryz.prog 19 #[.pointer (some ⟨B,0,none⟩),vs,vl] w fun e w'=>WithR w' w.heap.size E s l e∧Ux.Touch (fun _=>False) w w':=by
 obtain ⟨x,y,z,hk3⟩:=k3_is hok.1
 have HK:=Lib.hid (key3_ s hok.1 hc vs w hs x y z hk3)
 have hkey:=keyS hok.1
 rw [hk3] at hkey
 obtain ⟨h1,t,ks,f,h2,h3,h4⟩:=hT
 have HB:=Lib.hid (And.intro h1 (And.intro h2 (And.intro hok (And.intro hE (And.intro hl hkey)))))
 obtain ⟨a,cl,hv,_⟩:=hl.is
 rw [Ux.ev_length] at hv
 subst hv
 obtain ⟨n,hn⟩: ∃n,l.length=n:=⟨_,rfl⟩
 have h8:(n:Int)≤8:=by have:=hok.2.1;simp at this;omega
 have HB:=HB.out
 rw [hn] at HB⊢
 have HB:=Lib.hid HB
 clear h1 h2 h3 h4 hok hE hl hkey hk3 hs hc
 go_enter Tryz.func19,Tryz.ntmps19
 go_wp2_with (go_at_call 61;fail)
 refine HK.out.mono ?_
 rintro e w1 ⟨rfl,T1⟩
 obtain ⟨q,hq⟩: ∃q,w1.heap.size=q:=⟨_,rfl⟩
 have hbB:w1.cell? ⟨B,0,none⟩=some (.map (some mb)):=by
  have:=T1.heap HB.out.2.1 (fun f=>f)
  rw [cell_of_row w1 B 0 _ _ (0,0) this]
  rfl
 have TA:Ux.Touch (fun _=>False) w1 (w1.alloc (.cells #[.int .i64 x,.int .i64 y,.int .i64 z] 105)):=(Ux.Touch.refl _ _).alloc _
 have hbB2:=TA.cell hbB (fun f=>f)
 have hMC:=mclone_ mb E (w1.alloc (.cells #[.int .i64 x,.int .i64 y,.int .i64 z] 105)) ((HB.out.1.touch0 T1).touch0 TA)
 have hd0:(w1.alloc (.cells #[.int .i64 x,.int .i64 y,.int .i64 z] 105)).cell? ⟨q,0,none⟩=some (.int .i64 x):=by rw [←hq,Ux.cell_newg];rfl
 have hd1:(w1.alloc (.cells #[.int .i64 x,.int .i64 y,.int .i64 z] 105)).cell? ⟨q,1,none⟩=some (.int .i64 y):=by rw [←hq,Ux.cell_newg];rfl
 have hd2:(w1.alloc (.cells #[.int .i64 x,.int .i64 y,.int .i64 z] 105)).cell? ⟨q,2,none⟩=some (.int .i64 z):=by rw [←hq,Ux.cell_newg];rfl
 have HT:=Lib.hid (And.intro (T1.trans TA fun _ _ f=>f) (And.intro hd0 (And.intro hd1 hd2)))
 have HMC:=Lib.hid hMC
 clear T1 TA hMC hbB hd0 hd1 hd2
 go_wp2_with (go_at_call 62;fail)
 refine HMC.out.mono ?_
 rintro e w3 ⟨rfl,hTM,T3⟩
 obtain ⟨q3,hq3⟩: ∃q3,(w1.alloc (.cells #[.int .i64 x,.int .i64 y,.int .i64 z] 105)).heap.size=q3:=⟨_,rfl⟩
 rw [hq3] at hTM⊢
 have hqq:q<q3:=by rw [←hq3,←hq];simp
 have e0:=T3.cell HT.out.2.1 (fun f=>f)
 have e1:=T3.cell HT.out.2.2.1 (fun f=>f)
 have e2:=T3.cell HT.out.2.2.2 (fun f=>f)
 have HQ:=Lib.hid fun w' (T:Ux.Touch (fun _=>False) w3 w')=>And.intro (T.cell e0 (fun f=>f)) (And.intro (T.cell e1 (fun f=>f)) (T.cell e2 (fun f=>f)))
 have T03:=HT.out.1.trans T3 fun _ _ f=>f
 have HCE:=Lib.hid (cloneE l ((HB.out.2.2.2.2.1.touch0 T03).touch0 (Ux.Touch.refl _ w3).drew) (by have:=HB.out.2.2.1.2.1;simp at this;omega))
 have HT3:=Lib.hid (And.intro T03 (And.intro hTM (And.intro hq3 (And.intro hq (And.intro hqq T3)))))
 clear hTM T3 T03 hbB2 hqq
 go_upto_region 5 with (fail)
 refine Ux.wpr (fun _ w'=>w'.cell? ⟨q,0,none⟩=some (.int .i64 x)∧w'.cell? ⟨q,1,none⟩=some (.int .i64 y)∧w'.cell? ⟨q,2,none⟩=some (.int .i64 z)) (.q [0,2] (.h false [1] (.e 3 true false (.line [4])))) ?_;repeat ((with_reducible refine Ux.qg ?_);refine Ux.qu ?_)
 clear e0 e1 e2
 go_wp2_with (go_at_call 63;fail)
 refine HCE.out.mono ?_
 rintro e w4 ⟨v',rfl,hr4,T4⟩
 go_wp2_with (fail)
 have T34:=(Ux.Touch.refl (fun _=>False) w3).drew.trans T4 fun _ _ f=>f
 refine ⟨HQ.out _ T34,?_⟩
 have H4:=Lib.hid (And.intro hr4 (And.intro T34 (HT3.out.2.1.touch0 T34)))
 clear hr4 T4 T34
 obtain ⟨h0,F,hM,hTl⟩:=H4.out.2.2
 have HM:=Lib.hid (And.intro h0 (And.intro hM hTl))
 clear h0 hM hTl
 obtain ⟨N,hN⟩: ∃N,(setE E s l).length=N:=⟨_,rfl⟩
 have HS:Hid (∀w5,Ux.MapIs Tryz.prog 105 w5 q3 (E.length+1) (Ux.upd F (kl3 s) v')→Ux.Touch (fun i=>i=q3) w4 w5→TM w5 q3 (setE E s l)∧(∀ty,(Builtin.len_ #[103] ty #[.map (some q3)]).run Tryz.prog w5= .ok (.int .i64 (N:Int)) w5)):=Lib.hid fun w5 hm5 ht5=>by
  have h:=TabMap.set HM.out.1 HM.out.2.1 HM.out.2.2 HB.out.2.2.1 (H4.out.1.mono (Nat.zero_le _)) hm5 ht5 keyedS
  exact ⟨h,fun ty=>by rw [←hN];exact h.len keyedS Tryz.underlying103 ty⟩
 have HN:=Lib.hid hN
 clear hN
 go_wp2_with (at_mapUpdate;refine Ux.wpList_put (key:= .agg #[.int .i64 x,.int .i64 y,.int .i64 z]) (val:=v') rfl _ _ _ 103 rfl rfl rfl rfl HM.out.2.1 keyedS Tryz.underlying103 (by have:=HB.out.2.2.2.1;unfold maxLen;omega) HB.out.2.2.2.2.2 ?_;intro w5 hm5 ht5;obtain ⟨hTM5,hlen⟩:=HS.out w5 hm5 ht5;have hlen:=hlen 3;have H5:=Lib.hid (And.intro hTM5 ht5);clear hm5 ht5 hTM5)
 ·go_returns
  have h1:(500:Int)<N:=by assumption
  have hwq:w.heap.size≤q3:=by have:=HT.out.1.size;omega
  refine ⟨?_,?_⟩
  ·unfold WithR
   rw [HN.out,if_pos (by omega)]
   rfl
  ·exact (HT3.out.1.trans H4.out.2.1 fun _ _ f=>f).trans H5.out.2 fun i hi e=>by omega
 ·have h1: ¬(500:Int)<N:=by omega
  have hwq:w.heap.size≤q3:=by have:=HT.out.1.size;omega
  have T5:=Lib.hid ((HT3.out.1.trans H4.out.2.1 fun _ _ f=>f).trans (R:=fun _=>False) H5.out.2 fun i hi e=>by omega)
  have HW:=Lib.hid (And.intro h1 hwq)
  clear hwq h1 hlen
  go_wp2_with (go_at_call 49;fail)
  refine (tbuild_ q3 (setE E s l) w5 H5.out.1 (by rw [HN.out];have:=HW.out.1;omega)).mono ?_
  rintro e w6 ⟨B',rfl,hB',hT6,T6⟩
  have H6:=Lib.hid (And.intro hB' (And.intro hT6 T6))
  clear hB' hT6 T6
  go_wp2
  go_returns
  refine ⟨?_,T5.out.trans H6.out.2.2 fun _ _ f=>f⟩
  unfold WithR
  rw [HN.out,if_neg (by have:=HW.out.1;omega)]
  exact ⟨B',_,rfl,by have:=H6.out.1;have:=T5.out.size;omega,H6.out.2.1⟩
end Go.Proofs.YtfccjaboicpohaaGreatDoor
