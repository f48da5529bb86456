/- A part of the proof that the statement holds for every input that it names. No other condition. -/
import Derived.Test.YtikmdhhbamggfaaGreatDoorRcollAZ
set_option linter.unusedVariables false
set_option linter.unusedSimpArgs false
namespace Go.Proofs.YtikmdhhbamggfaaGreatDoor
open Go.RowKit
open Ux (Row iv sv Ent wts wF keepW wt8 eP eS eT eV elemsE okT Grow)
open Ux.Sign (cp raw signs)
set_option maxHeartbeats 8000000 in
theorem rwtsNo_ (kd lv:Int) (sh bk:Bool) (u:Value) (hu: ∃a n c,u= .slice a n c) (b:ByteArray) (L:Int) (w:World) (h:kd≠3∨L<1∨3<L):
 Calls Tryz.prog 23 #[rcV kd lv sh bk u,.string b,.int .i64 L] w fun e w'=>e= .returned (.slice none 0 0)∧Ux.Touch (fun _=>False) w w':=by
 obtain ⟨a,n,c,rfl⟩:=hu
 unfold rcV
 by_cases h3:kd=3
 ·subst h3
  cases h1:decide (L<1) with
  |true=>
   clear h
   go_enter Tryz.func23,Tryz.ntmps23
   go_wp2
   go_returns
   exact ⟨rfl,(Ux.Touch.refl _ _).alloc _⟩
  |false=>
   have h2:decide (3<L)=true:=by
    have:=of_decide_eq_false h1
    simp
    omega
   clear h
   go_enter Tryz.func23,Tryz.ntmps23
   go_wp2
   go_returns
   exact ⟨rfl,(Ux.Touch.refl _ _).alloc _⟩
 ·have q:(kd !=3)=true:=by simpa using h3
  have q2:(kd==3)=false:=by simpa using h3
  clear h h3
  go_enter Tryz.func23,Tryz.ntmps23
  go_wp2
  go_returns
  exact ⟨rfl,(Ux.Touch.refl _ _).alloc _⟩
end Go.Proofs.YtikmdhhbamggfaaGreatDoor
namespace Go.Proofs.YtikmdhhbamggfaaGreatDoor
open Go.RowKit
open Ux (Row iv sv ev Ent wts elemsE okT)
def cwtsV (kd lv:Int) (sh bk:Bool) (tb:Option Addr) (E:List Ent) (b:ByteArray) (L:Int):List Nat:=if kd=3∧okC kd lv tb=true∧1≤L∧L≤3 then wts sh bk L.toNat (elB E b) else []
set_option maxHeartbeats 8000000 in
set_option maxRecDepth 100000 in
theorem cwts_ (kd lv:Int) (sh bk:Bool) (tb:Option Addr) (E:List Ent) (b:ByteArray) (L:Int) (w:World) (hE:CTab w kd tb E) (hT:Tabs w) (hb:b.size≤1000000):
 Calls Tryz.prog 22 #[cV kd lv sh bk tb,.string b,.int .i64 L] w fun e w'=> ∃v,e= .returned v∧IView w' v (sv (cwtsV kd lv sh bk tb E b L))∧Ux.Touch (fun _=>False) w w':=by
 have T0:Ux.Touch (fun _=>False) w (w.alloc (.cells #[.int .i64 kd,.int .i64 lv,.bool sh,.bool bk,.pointer tb] 25)):=(Ux.Touch.refl _ _).alloc _
 have H0:=Lib.hid T0
 by_cases h3:kd=3
 ·subst h3
  have HO:=Lib.hid fun W=>cok_ 3 lv sh bk tb W
  have hC:CAt (w.alloc (.cells #[.int .i64 3,.int .i64 lv,.bool sh,.bool bk,.pointer tb] 25)) w.heap.size 3 lv sh bk tb:=CAt.of (heap_alloc_new w _)
  have HCA:=Lib.hid fun W (T:Ux.Touch (fun _=>False) (w.alloc (.cells #[.int .i64 3,.int .i64 lv,.bool sh,.bool bk,.pointer tb] 25)) W)=>hC.touch T
  obtain ⟨c0,c1,c2,c3,c4⟩:=hC
  cases hok:okC 3 lv tb with
  |false=>
   rw [hok] at HO
   have hv:cwtsV 3 lv sh bk tb E b L= []:=by unfold cwtsV;rw [if_neg (by rw [hok];simp)]
   rw [hv]
   clear hok T0 hE hT hb hv
   unfold cV at HO⊢
   go_enter Tryz.func22,Tryz.ntmps22
   go_wp2_with (go_at_call 19;fail)
   refine (HO.out _).mono ?_
   rintro e w2 ⟨rfl,T2⟩
   have H2:=Lib.hid (H0.out.trans T2 fun _ _ f=>f)
   clear T2 c0 c1 c2 c3 c4
   go_wp2
   go_returns
   exact ⟨_,rfl,IView.nil _,H2.out⟩
  |true=>
   rw [hok] at HO
   by_cases h1:L<1
   ·have hv:cwtsV 3 lv sh bk tb E b L= []:=by unfold cwtsV;rw [if_neg (by omega)]
    rw [hv]
    clear hok T0 hE hT hb hv
    unfold cV at HO⊢
    go_enter Tryz.func22,Tryz.ntmps22
    go_wp2_with (go_at_call 19;fail)
    refine (HO.out _).mono ?_
    rintro e w2 ⟨rfl,T2⟩
    have H2:=Lib.hid (H0.out.trans T2 fun _ _ f=>f)
    clear T2 c0 c1 c2 c3 c4
    go_wp2
    go_returns
    exact ⟨_,rfl,IView.nil _,H2.out⟩
   ·by_cases h4:L>3
    ·have hv:cwtsV 3 lv sh bk tb E b L= []:=by unfold cwtsV;rw [if_neg (by omega)]
     rw [hv]
     clear hok T0 hE hT hb hv
     unfold cV at HO⊢
     go_enter Tryz.func22,Tryz.ntmps22
     go_wp2_with (go_at_call 19;fail)
     refine (HO.out _).mono ?_
     rintro e w2 ⟨rfl,T2⟩
     have H2:=Lib.hid (H0.out.trans T2 fun _ _ f=>f)
     clear T2 c0 c1 c2 c3 c4
     go_wp2
     go_returns
     exact ⟨_,rfl,IView.nil _,H2.out⟩
    ·obtain ⟨x,hx,rfl⟩: ∃x:Nat,(x=1∨x=2∨x=3)∧L=(x:Int):=⟨L.toNat,by omega,by omega⟩
     have hv:cwtsV 3 lv sh bk tb E b x=wts sh bk x (elB E b):=by unfold cwtsV;rw [if_pos ⟨rfl,hok,by omega,by omega⟩,Int.toNat_natCast]
     obtain ⟨p,rfl⟩: ∃p,tb=some p:=by
      cases tb with
      |none=>unfold okC at hok;simp at hok
      |some p=>exact ⟨p,rfl⟩
     obtain ⟨B,mb,rfl,hTA⟩:=hE rfl p rfl
     have hel:=elB_ok hTA.1.1 b
     have HE:=Lib.hid fun W (T:Ux.Touch (fun _=>False) w W)=>elements_ B mb E b W (hTA.touch0 T) (hT.touch T) (by omega)
     have HF:=Lib.hid fun W (u:Value) (hu:Row W 0 100 u (ev (elB E b)))=>cof_ 3 lv sh bk (some ⟨B,0,none⟩) u (elB E b) x hx W hu (by omega) hel.2
     rw [hv]
     have g1:(1:Int)≤x:=by omega
     have g2:(x:Int)≤3:=by omega
     clear hok T0 hE hT hb hv hTA hel hx h1 h4
     unfold cV at HO HF⊢
     go_enter Tryz.func22,Tryz.ntmps22
     go_wp2_with (go_at_call 19;fail)
     refine (HO.out _).mono ?_
     rintro e w2 ⟨rfl,T2⟩
     have H2:=Lib.hid (And.intro (H0.out.trans T2 fun _ _ f=>f) T2)
     clear T2 c0 c1 c2 c3 c4
     go_upto_region 3 with (fail)
     obtain ⟨c0,c1,c2,c3,c4⟩:=HCA.out w2 H2.out.2
     refine Ux.wpr (fun _ w'=>w'.cell? ⟨w.heap.size,0,none⟩=some (.int .i64 3)∧w'.cell? ⟨w.heap.size,1,none⟩=some (.int .i64 lv)∧w'.cell? ⟨w.heap.size,2,none⟩=some (.bool sh)∧w'.cell? ⟨w.heap.size,3,none⟩=some (.bool bk)∧w'.cell? ⟨w.heap.size,4,none⟩=some (.pointer (some ⟨B,0,none⟩))) (.h false [0] (.q [1,3,5] (.h false [2] (.e 4 true false (.e 6 true false (.line [7])))))) ?_;repeat ((with_reducible refine Ux.qg ?_);refine Ux.qu ?_)
     clear c0 c1 c2 c3 c4
     go_wp2_with (go_at_call 66;fail)
     refine (HE.out _ H2.out.1.drew).mono ?_
     rintro e w3 ⟨u,rfl,hu,T3⟩
     have H3:=Lib.hid (And.intro (hu.mono (Nat.zero_le _)) (And.intro (H2.out.1.drew.trans T3 fun _ _ f=>f) (H2.out.2.drew.trans T3 fun _ _ f=>f)))
     obtain ⟨c0,c1,c2,c3,c4⟩:=HCA.out w3 H3.out.2.2
     clear hu T3
     go_wp2_with (fail)
     refine ⟨⟨c0,c1,c2,c3,c4⟩,?_⟩
     repeat ((with_reducible refine Ux.qg ?_);refine Ux.qu ?_)
     clear c0 c1 c2 c3 c4
     go_wp2_with (go_at_call 65;fail)
     refine (HF.out w3 u H3.out.1).mono ?_
     rintro e w4 ⟨v,rfl,hv,T4⟩
     have H4:=Lib.hid (And.intro hv (And.intro (H3.out.2.1.trans T4 fun _ _ f=>f) (H3.out.2.2.trans T4 fun _ _ f=>f)))
     obtain ⟨c0,c1,c2,c3,c4⟩:=HCA.out w4 H4.out.2.2
     clear hv T4
     go_wp2_with (fail)
     refine ⟨⟨c0,c1,c2,c3,c4⟩,?_⟩
     repeat ((with_reducible refine Ux.qg ?_);refine Ux.qu ?_)
     go_wp2
     go_returns
     exact ⟨_,rfl,IView.row H4.out.1,H4.out.2.1⟩
 ·have q:(kd !=3)=true:=by simpa using h3
  have q2:(kd==3)=false:=by simpa using h3
  have hv:cwtsV kd lv sh bk tb E b L= []:=by unfold cwtsV;rw [if_neg (by simp [h3])]
  rw [hv]
  clear h3 T0 hE hT hb hv
  unfold cV
  go_enter Tryz.func22,Tryz.ntmps22
  go_wp2
  go_returns
  exact ⟨_,rfl,IView.nil _,H0.out⟩
end Go.Proofs.YtikmdhhbamggfaaGreatDoor
