/- A part of the proof that the statement holds for every input that it names. No other condition. -/
import Derived.Test.YtfccjaboicpohaaGreatDoorUxTabAZ
import Derived.Test.YtfccjaboicpohaaGreatDoorTableBZ
set_option linter.unusedVariables false
set_option linter.unusedSimpArgs false
namespace Go.Proofs.YtfccjaboicpohaaGreatDoor
open Go.RowKit
open Ux (Ent cmpI cmpL sv)
set_option maxHeartbeats 2000000 in
theorem nan_ (x:Int) (w:World):Calls Tryz.prog 161 #[.int .i64 x] w fun e w'=>e= .returned (.bool false)∧w'=w:=by
 go_enter Tryz.func161,Tryz.ntmps161
 have h:(x !=x)=false:=by simp
 go_wp2
 go_ret
 refine ⟨?_,rfl⟩
 first|rfl|simp
set_option maxHeartbeats 2000000 in
theorem cmpInt_ (x y:Int) (w:World):Calls Tryz.prog 112 #[.int .i64 x,.int .i64 y] w fun e w'=>e= .returned (.int .i64 (cmpI x y))∧w'=w:=by
 have hx:x<y∨y<x∨x=y:=by omega
 rcases hx with h|h|rfl
 ·have hc:cmpI x y= -1:=by unfold cmpI;rw [if_pos h]
  rw [hc]
  clear hc
  go_enter Tryz.func112,Tryz.ntmps112
  go_wp2_with (go_at_call 161;refine (nan_ _ _).mono ?_;rintro e w' ⟨rfl,rfl⟩)
  go_ret
  exact ⟨rfl,rfl⟩
 ·have hc:cmpI x y=1:=by unfold cmpI;rw [if_neg (by omega),if_pos h]
  have h2: ¬x<y:=by omega
  rw [hc]
  clear hc
  go_enter Tryz.func112,Tryz.ntmps112
  go_wp2_with (go_at_call 161;refine (nan_ _ _).mono ?_;rintro e w' ⟨rfl,rfl⟩)
  go_ret
  exact ⟨rfl,rfl⟩
 ·have hc:cmpI x x=0:=by unfold cmpI;rw [if_neg (by omega),if_neg (by omega)]
  rw [hc]
  clear hc
  go_enter Tryz.func112,Tryz.ntmps112
  go_wp2_with (go_at_call 161;refine (nan_ _ _).mono ?_;rintro e w' ⟨rfl,rfl⟩)
  go_ret
  exact ⟨rfl,rfl⟩
set_option maxHeartbeats 8000000 in
set_option maxRecDepth 100000 in
theorem cmpS_ (va vb:Value) (la lb:List Int) (w:World) (ha:IView w va la) (hb:IView w vb lb) (h1:la.length≤1000000000) (h2:lb.length≤1000000000):
 Calls Tryz.prog 113 #[va,vb] w fun e w'=>e= .returned (.int .i64 (cmpL la lb))∧w'=w:=by
 obtain ⟨a,ca,rfl,hca⟩:=ha
 obtain ⟨b,cb,rfl,hcb⟩:=hb
 obtain ⟨n,hn⟩: ∃n,la.length=n:=⟨_,rfl⟩
 obtain ⟨m,hm⟩: ∃m,lb.length=m:=⟨_,rfl⟩
 obtain ⟨R,hR⟩: ∃R,cmpL la lb=R:=⟨_,rfl⟩
 rw [hn] at h1⊢
 rw [hm] at h2⊢
 rw [hR]
 have n0:(n:Int)≤1000000000:=by omega
 have m0:(m:Int)≤1000000000:=by omega
 have HH:=Lib.hid (And.intro hca (And.intro hcb (And.intro hn hm)))
 have HR:=Lib.hid hR
 clear hca hcb hn hm hR h1 h2
 go_enter Tryz.func113,Tryz.ntmps113
 go_wp2
 go_loopg [11] n (fun g s11 wr=> ∃i:Nat,s11= .int .i64 i∧i+g=n∧wr=w∧i≤m∧Hid (cmpL (la.drop i) (lb.drop i)=R))
 case atStart=>exact ⟨0,rfl,by omega,rfl,by omega,Lib.hid HR.out⟩
 case round=>
  obtain ⟨i,rfl,hig,rfl,him,HI⟩:=hrel
  have p0:(0:Int)≤i:=by omega
  by_cases hlt:i<n
  ·obtain ⟨g',rfl⟩: ∃g',gk=g'+1:=⟨gk-1,by omega⟩
   have i1:(i:Int)<n:=by omega
   obtain ⟨x,hx⟩: ∃x,la[i]? =some x:=⟨_,List.getElem?_eq_getElem (by have:=HH.out.2.2.1;omega)⟩
   obtain ⟨ga,oa,rfl,c0⟩:=HH.out.1 i x hx
   by_cases hm2:i<m
   ·obtain ⟨y,hy⟩: ∃y,lb[i]? =some y:=⟨_,List.getElem?_eq_getElem (by have:=HH.out.2.2.2;omega)⟩
    obtain ⟨gb,ob,rfl,c1⟩:=HH.out.2.1 i y hy
    have hd:=Ux.cmpL_drop hx hy
    have i2:(i:Int)<m:=by omega
    have HC:=Lib.hid fun W=>cmpInt_ x y W
    obtain ⟨c,hc⟩: ∃c,cmpI x y=c:=⟨_,rfl⟩
    rw [hc] at HC hd
    have HD:=Lib.hid hd
    clear hd hx hy hlt hm2 hc
    by_cases h0:c=0
    ·subst h0
     go_wp2_with (go_at_call 112;refine (HC.out _).mono ?_;rintro e w' ⟨rfl,hw⟩;obtain rfl:wr=w':=hw.symm)
     go_roundg g'
     case measure=>omega
     case rel=>exact ⟨i+1,by congr 1,by omega,rfl,by omega,Lib.hid (by rw [←HI.out,HD.out];simp)⟩
    ·have q:(c !=0)=true:=by simp;exact h0
     have hr:R=c:=by rw [←HI.out,HD.out,if_neg h0]
     subst hr
     clear h0
     go_wp2_with (go_at_call 112;refine (HC.out _).mono ?_;rintro e w' ⟨rfl,hw⟩;obtain rfl:wr=w':=hw.symm)
     go_ret
     exact ⟨rfl,rfl⟩
   ·have hr:R=1:=by rw [←HI.out];exact Ux.cmpL_over hx (by have:=HH.out.2.2.2;omega)
    have i2: ¬(i:Int)<m:=by omega
    subst hr
    clear hx hlt hm2
    go_wp2
    go_ret
    exact ⟨rfl,rfl⟩
  ·have q1: ¬(i:Int)<n:=by omega
   obtain rfl:i=n:=by omega
   have he:=Ux.cmpL_end (a:=la) (b:=lb) (i:=i) HH.out.2.2.1 (by have:=HH.out.2.2.2;omega)
   rw [HI.out,HH.out.2.2.2] at he
   by_cases hm2:i<m
   ·rw [if_pos hm2] at he
    have i2:(i:Int)<m:=by omega
    subst he
    clear hlt hm2 HI
    go_wp2
    go_ret
    exact ⟨rfl,rfl⟩
   ·rw [if_neg hm2] at he
    have i2: ¬(i:Int)<m:=by omega
    subst he
    clear hlt hm2 HI
    go_wp2
    go_ret
    exact ⟨rfl,rfl⟩
end Go.Proofs.YtfccjaboicpohaaGreatDoor
