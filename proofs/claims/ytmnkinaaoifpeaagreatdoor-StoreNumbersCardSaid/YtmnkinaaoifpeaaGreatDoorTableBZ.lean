/- A part of the proof that the statement holds for every input that it names. No other condition. -/
import Derived.Test.YtmnkinaaoifpeaaGreatDoorUxTabAZ
import Derived.Test.YtmnkinaaoifpeaaGreatDoorTableAZ
set_option linter.unusedVariables false
set_option linter.unusedSimpArgs false
namespace Go.Proofs.YtmnkinaaoifpeaaGreatDoor
open Go.RowKit
open Ux (Ent befE fst0 lexB sv)
def IView (w:World) (v:Value) (s:List Int):Prop:= ∃a c,v= .slice a s.length c∧∀(j:Nat) (x:Int),s[j]? =some x→∃g o,a=some ⟨g,o,none⟩∧w.cell? ⟨g,o+j,none⟩=some (.int .i64 x)
theorem IView.touch0 {w w':World} {v:Value} {s:List Int} (h:IView w v s) (ht:Ux.Touch (fun _=>False) w w'):IView w' v s:=by
 obtain ⟨a,c,rfl,hc⟩:=h
 refine ⟨a,c,rfl,fun j x hx=> ?_⟩
 obtain ⟨g,o,rfl,h1⟩:=hc j x hx
 exact ⟨g,o,rfl,ht.cell h1 (fun f=>f)⟩
theorem SView.i {w:World} {v:Value} {s:List Nat} (h:SView w v s):IView w v (sv s):=by
 obtain ⟨a,c,rfl,hc⟩:=h
 refine ⟨a,c,by rw [Ux.sv_length],fun j x hx=> ?_⟩
 unfold sv at hx
 rw [List.getElem?_map] at hx
 obtain ⟨y,hy,rfl⟩:=Option.map_eq_some_iff.1 hx
 exact hc j y hy
theorem IView.s {w:World} {v:Value} {s:List Nat} (h:IView w v (sv s)):SView w v s:=by
 obtain ⟨a,c,rfl,hc⟩:=h
 refine ⟨a,c,by rw [Ux.sv_length],fun j x hx=> ?_⟩
 exact hc j x (Ux.sv_get hx)
theorem SView.touch0 {w w':World} {v:Value} {s:List Nat} (h:SView w v s) (ht:Ux.Touch (fun _=>False) w w'):SView w' v s:=(h.i.touch0 ht).s
theorem IView.row {w:World} {lo:Nat} {t:TypeId} {v:Value} {s:List Int} (h:Ux.Row w lo t v (Ux.iv s)):IView w v s:=by
 obtain ⟨a,c,rfl,hc⟩:=h.is
 refine ⟨a,c,by rw [Ux.iv_length],fun j x hx=> ?_⟩
 obtain ⟨g,rfl,_,h1⟩:=hc j _ (Ux.iv_get hx)
 exact ⟨g,0,rfl,by rw [Nat.zero_add];exact h1⟩
set_option maxHeartbeats 8000000 in
set_option maxRecDepth 100000 in
theorem sameInts_ (va vb:Value) (la lb:List Int) (w:World) (ha:IView w va la) (hb:IView w vb lb) (h1:la.length≤1000000000) (h2:lb.length≤1000000000):
 Calls Tryz.prog 161 #[va,vb] w fun e w'=>e= .returned (.bool (la==lb))∧Ux.Touch (fun _=>False) w w':=by
 obtain ⟨a,ca,rfl,hca⟩:=ha
 obtain ⟨b,cb,rfl,hcb⟩:=hb
 obtain ⟨n,hn⟩: ∃n,la.length=n:=⟨_,rfl⟩
 obtain ⟨m,hm⟩: ∃m,lb.length=m:=⟨_,rfl⟩
 obtain ⟨R,hR⟩: ∃R,(la==lb)=R:=⟨_,rfl⟩
 rw [hn] at h1⊢
 rw [hm] at h2⊢
 rw [hR]
 have n0:(n:Int)≤1000000000:=by omega
 have m0:(m:Int)≤1000000000:=by omega
 have HH:=Lib.hid (And.intro hca (And.intro hcb (And.intro hn hm)))
 have HR:=Lib.hid hR
 clear hca hcb hn hm hR h1 h2
 go_enter Tryz.func161,Tryz.ntmps161
 by_cases hnm:n=m
 ·subst hnm
  go_wp2
  go_loopg [5] n (fun g s5 wr=> ∃i:Nat,s5= .int .i64 i∧i+g=n∧Hid ((la.drop i==lb.drop i)=R∧Ux.Touch (fun _=>False) w wr))
  case atStart=>exact ⟨0,rfl,by omega,Lib.hid ⟨HR.out,Ux.Touch.refl _ _⟩⟩
  case round=>
   obtain ⟨i,rfl,hig,HI⟩:=hrel
   have p0:(0:Int)≤i:=by omega
   by_cases hlt:i<n
   ·obtain ⟨g',rfl⟩: ∃g',gk=g'+1:=⟨gk-1,by omega⟩
    obtain ⟨x,hx⟩: ∃x,la[i]? =some x:=⟨_,List.getElem?_eq_getElem (by have:=HH.out.2.2.1;omega)⟩
    obtain ⟨y,hy⟩: ∃y,lb[i]? =some y:=⟨_,List.getElem?_eq_getElem (by have:=HH.out.2.2.2;omega)⟩
    obtain ⟨ga,oa,rfl,c0⟩:=HH.out.1 i x hx
    obtain ⟨gb,ob,rfl,c1⟩:=HH.out.2.1 i y hy
    have T:=HI.out.2
    have c0:=T.cell c0 (fun f=>f)
    have c1:=T.cell c1 (fun f=>f)
    have hd:(la.drop i==lb.drop i)=((x==y)&&(la.drop (i+1)==lb.drop (i+1))):=by
     rw [Ux.drop_get hx,Ux.drop_get hy]
     rfl
    have i1:(i:Int)<n:=by omega
    have HD:=Lib.hid hd
    clear hd hx hy hlt T
    go_upto_region 6 with (fail)
    refine Ux.wpr (fun _ w'=>w'.cell? ⟨ga,oa+i,none⟩=some (.int .i64 x)∧w'.cell? ⟨gb,ob+i,none⟩=some (.int .i64 y)) (.q [0,1,2,4,5,6] (.h false [3,7] (.q [8] (.line [])))) ?_;repeat ((with_reducible refine Ux.qg ?_);refine Ux.qu ?_)
    cases hxy:decide (x=y) with
    |true=>
     have hxy:=of_decide_eq_true hxy
     subst hxy
     repeat ((with_reducible refine Ux.qg ?_);refine Ux.qu ?_)
     go_wp2
     go_roundg g'
     case measure=>omega
     case rel=>exact ⟨i+1,by congr 1,by omega,Lib.hid ⟨by have:=HD.out;simp only [beq_self_eq_true,Bool.true_and] at this;rw [←HI.out.1,this],HI.out.2.drew⟩⟩
    |false=>
     have q2:(x !=y)=true:=by have:=of_decide_eq_false hxy;simp;exact this
     have hxy2:(x==y)=false:=by have:=of_decide_eq_false hxy;simp;exact this
     have HXY:=Lib.hid hxy2
     clear hxy hxy2
     repeat ((with_reducible refine Ux.qg ?_);refine Ux.qu ?_)
     go_wp2
     go_ret
     refine ⟨?_,HI.out.2.drew⟩
     rw [←HI.out.1,HD.out,HXY.out]
     rfl
   ·have q1: ¬(i:Int)<n:=by omega
    have hr0:R=true:=by
     rw [←HI.out.1,List.drop_eq_nil_of_le (by have:=HH.out.2.2.1;omega),List.drop_eq_nil_of_le (by have:=HH.out.2.2.2;omega)]
     rfl
    subst hr0
    clear hlt
    go_wp2
    go_ret
    exact ⟨rfl,HI.out.2⟩
 ·have q:((n:Int)==m)=false:=by simp;omega
  clear hnm
  go_wp2
  go_ret
  refine ⟨?_,Ux.Touch.refl _ _⟩
  have:R=false:=by
   rw [←HR.out]
   cases h:la==lb with
   |false=>rfl
   |true=>
    have:=eq_of_beq h
    subst this
    have h1:=HH.out.2.2.1
    have h2:=HH.out.2.2.2
    simp at q
    omega
  rw [this]
  rfl
theorem lexB_drop {la lb:List Nat} {i x y:Nat} (hx:la[i]? =some x) (hy:lb[i]? =some y):lexB (la.drop i) (lb.drop i)=if x=y then lexB (la.drop (i+1)) (lb.drop (i+1)) else decide (x<y):=by
 rw [Ux.drop_get hx,Ux.drop_get hy,lexB]
theorem lexB_end {la lb:List Nat} {i:Nat} (h:la.length≤i):lexB (la.drop i) (lb.drop i)=false:=by
 rw [List.drop_eq_nil_of_le h,lexB]
 intro _ _ _ _ h
 cases h
set_option maxHeartbeats 8000000 in
set_option maxRecDepth 100000 in
theorem before_ (va vb:Value) (la lb:List Nat) (w:World) (ha:SView w va la) (hb:SView w vb lb) (h0:1≤la.length) (h0':1≤lb.length) (h1:la.length≤1000000000) (h2:lb.length≤1000000000):
 Calls Tryz.prog 160 #[va,vb] w fun e w'=>e= .returned (.bool (befE la lb))∧Ux.Touch (fun _=>False) w w':=by
 obtain ⟨a,ca,rfl,hca⟩:=ha
 obtain ⟨b,cb,rfl,hcb⟩:=hb
 obtain ⟨x0,hx0⟩: ∃x,la[0]? =some x:=⟨_,List.getElem?_eq_getElem (by omega)⟩
 obtain ⟨y0,hy0⟩: ∃x,lb[0]? =some x:=⟨_,List.getElem?_eq_getElem (by omega)⟩
 have hbef:befE la lb=if x0≠y0 then decide (x0<y0) else if la.length≠lb.length then decide (la.length<lb.length) else lexB (la.drop 1) (lb.drop 1):=by
  have e1:fst0 la=x0:=by
   cases la with
   |nil=>cases hx0
   |cons z la=>exact Option.some.inj hx0
  have e2:fst0 lb=y0:=by
   cases lb with
   |nil=>cases hy0
   |cons z lb=>exact Option.some.inj hy0
  unfold befE
  rw [e1,e2,List.drop_one,List.drop_one]
 obtain ⟨R,hR⟩: ∃R,befE la lb=R:=⟨_,rfl⟩
 rw [hR] at hbef⊢
 obtain ⟨n,hn⟩: ∃n,la.length=n:=⟨_,rfl⟩
 obtain ⟨m,hm⟩: ∃m,lb.length=m:=⟨_,rfl⟩
 rw [hn,hm] at hbef
 rw [hn] at h1 h0⊢
 rw [hm] at h2 h0'⊢
 have n0:(n:Int)≤1000000000:=by omega
 have m0:(m:Int)≤1000000000:=by omega
 have n1:(0:Int)<n:=by omega
 have m1:(0:Int)<m:=by omega
 obtain ⟨ga,oa,rfl,c0⟩:=hca 0 x0 hx0
 obtain ⟨gb,ob,rfl,d0⟩:=hcb 0 y0 hy0
 rw [Nat.add_zero] at c0 d0
 have HH:=Lib.hid (And.intro hca (And.intro hcb (And.intro hn hm)))
 have HR:=Lib.hid hbef
 have HC:=Lib.hid fun w' (T:Ux.Touch (fun _=>False) w w')=>And.intro (T.cell c0 (fun f=>f)) (T.cell d0 (fun f=>f))
 clear hca hcb hn hm hR h1 h2 hbef hx0 hy0 h0 h0'
 go_enter Tryz.func160,Tryz.ntmps160
 go_upto_region 1 with (fail)
 refine Ux.wpr (fun _ w'=>w'.cell? ⟨ga,oa,none⟩=some (.int .i64 (x0:Int))∧w'.cell? ⟨gb,ob,none⟩=some (.int .i64 (y0:Int))) (.q [0,1,3,4] (.h false [2,5] (.q [6,7] (.line [])))) ?_;repeat ((with_reducible refine Ux.qg ?_);refine Ux.qu ?_)
 clear c0 d0
 cases hxy:decide (x0=y0) with
 |false=>
  have hxy:=of_decide_eq_false hxy
  have q1:((x0:Int) !=y0)=true:=by simp;omega
  have HXY:=Lib.hid hxy
  clear hxy
  repeat ((with_reducible refine Ux.qg ?_);refine Ux.qu ?_)
  go_upto_region 2 with (fail)
  obtain ⟨c0,d0⟩:=HC.out _ (Ux.Touch.refl _ w).drew
  refine Ux.wpr (fun _ w'=>w'.cell? ⟨ga,oa,none⟩=some (.int .i64 (x0:Int))∧w'.cell? ⟨gb,ob,none⟩=some (.int .i64 (y0:Int))) (.q [0,1,3,4] (.h false [2,5] (.q [6] (.line [7])))) ?_;repeat ((with_reducible refine Ux.qg ?_);refine Ux.qu ?_)
  clear c0 d0
  repeat ((with_reducible refine Ux.qg ?_);refine Ux.qu ?_)
  go_wp2
  go_ret
  refine ⟨?_,(Ux.Touch.refl _ w).drew.drew⟩
  have hr:R=decide (x0<y0):=by rw [HR.out,if_pos HXY.out]
  rw [hr]
  rfl
 |true=>
  have hxy:=of_decide_eq_true hxy
  subst hxy
  repeat ((with_reducible refine Ux.qg ?_);refine Ux.qu ?_)
  by_cases hnm:n=m
  ·subst hnm
   have HR2:Hid (R=lexB (_:List Nat) _):=Lib.hid (by have:=HR.out;rw [if_neg (fun e=>e rfl),if_neg (fun e=>e rfl)] at this;exact this)
   go_wp2
   go_loopg [5] n (fun g s5 wr=> ∃i:Nat,s5= .int .i64 i∧i+g=n+1∧1≤i∧Hid (lexB (la.drop i) (lb.drop i)=R∧Ux.Touch (fun _=>False) w wr))
   case atStart=>exact ⟨1,rfl,by omega,by omega,Lib.hid ⟨HR2.out.symm,(Ux.Touch.refl _ _).drew⟩⟩
   case round=>
    obtain ⟨i,rfl,hig,hi1,HI⟩:=hrel
    have p0:(1:Int)≤i:=by omega
    by_cases hlt:i<n
    ·obtain ⟨g',rfl⟩: ∃g',gk=g'+1:=⟨gk-1,by omega⟩
     obtain ⟨x,hx⟩: ∃x,la[i]? =some x:=⟨_,List.getElem?_eq_getElem (by have:=HH.out.2.2.1;omega)⟩
     obtain ⟨y,hy⟩: ∃y,lb[i]? =some y:=⟨_,List.getElem?_eq_getElem (by have:=HH.out.2.2.2;omega)⟩
     obtain ⟨ga',oa',hga,c0⟩:=HH.out.1 i x hx
     obtain ⟨gb',ob',hgb,c1⟩:=HH.out.2.1 i y hy
     cases hga
     cases hgb
     have T:=HI.out.2
     have HC2:=Lib.hid fun w' (T2:Ux.Touch (fun _=>False) wr w')=>And.intro (T2.cell (T.cell c0 (fun f=>f)) (fun f=>f)) (T2.cell (T.cell c1 (fun f=>f)) (fun f=>f))
     clear c0 c1
     obtain ⟨c0,c1⟩:=HC2.out _ (Ux.Touch.refl _ wr)
     have HD:=Lib.hid (lexB_drop hx hy)
     have i1:(i:Int)<n:=by omega
     clear hx hy hlt T
     go_upto_region 8 with (fail)
     refine Ux.wpr (fun _ w'=>w'.cell? ⟨ga,oa+i,none⟩=some (.int .i64 (x:Int))∧w'.cell? ⟨gb,ob+i,none⟩=some (.int .i64 (y:Int))) (.q [0,1,2,4,5,6] (.h false [3,7] (.q [8] (.line [])))) ?_;repeat ((with_reducible refine Ux.qg ?_);refine Ux.qu ?_)
     cases hxy:decide (x=y) with
     |true=>
      have hxy:=of_decide_eq_true hxy
      subst hxy
      repeat ((with_reducible refine Ux.qg ?_);refine Ux.qu ?_)
      go_wp2
      go_roundg g'
      case measure=>omega
      case rel=>exact ⟨i+1,by congr 1,by omega,by omega,Lib.hid ⟨by have:=HD.out;simp only [if_true] at this;rw [←HI.out.1,this],HI.out.2.drew⟩⟩
     |false=>
      have hxy:=of_decide_eq_false hxy
      have q2:((x:Int) !=y)=true:=by simp;omega
      have HXY:=Lib.hid hxy
      clear hxy c0 c1
      repeat ((with_reducible refine Ux.qg ?_);refine Ux.qu ?_)
      go_upto_region 9 with (fail)
      obtain ⟨c0,c1⟩:=HC2.out _ (Ux.Touch.refl _ wr).drew
      refine Ux.wpr (fun _ w'=>w'.cell? ⟨ga,oa+i,none⟩=some (.int .i64 (x:Int))∧w'.cell? ⟨gb,ob+i,none⟩=some (.int .i64 (y:Int))) (.q [0,1,2,4,5,6] (.h false [3,7] (.q [8] (.line [9])))) ?_;repeat ((with_reducible refine Ux.qg ?_);refine Ux.qu ?_)
      repeat ((with_reducible refine Ux.qg ?_);refine Ux.qu ?_)
      go_wp2
      go_ret
      refine ⟨?_,HI.out.2.drew.drew⟩
      have hr:R=decide (x<y):=by rw [←HI.out.1,HD.out,if_neg HXY.out]
      rw [hr]
      rfl
    ·have q1: ¬(i:Int)<n:=by omega
     have hr0:R=false:=by
      rw [←HI.out.1]
      exact lexB_end (by have:=HH.out.2.2.1;omega)
     subst hr0
     clear hlt
     go_wp2
     go_ret
     exact ⟨rfl,HI.out.2⟩
  ·have q:((n:Int) !=m)=true:=by simp;omega
   have HNM:=Lib.hid hnm
   clear hnm
   go_wp2
   go_ret
   refine ⟨?_,(Ux.Touch.refl _ _).drew⟩
   have hr:R=decide (n<m):=by rw [HR.out,if_neg (fun e=>e rfl),if_pos HNM.out]
   rw [hr]
   rfl
end Go.Proofs.YtmnkinaaoifpeaaGreatDoor
