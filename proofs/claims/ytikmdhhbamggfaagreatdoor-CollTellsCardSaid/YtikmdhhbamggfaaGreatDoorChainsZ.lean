/- A part of the proof that the statement holds for every input that it names. No other condition. -/
import Derived.Test.YtikmdhhbamggfaaGreatDoorMake9Z
set_option linter.unusedVariables false
set_option linter.unusedSimpArgs false
namespace Go.Proofs.YtikmdhhbamggfaaGreatDoor
open Go.RowKit
open Ux (Ent SameE okT cmpB slt)
theorem cmpStr_vals (X Y:ByteArray):cmpStr X Y= -1∨cmpStr X Y=0∨cmpStr X Y=1:=by
 unfold cmpStr
 cases slt X Y<;>cases slt Y X<;>simp
theorem cmpStr_self (X:ByteArray):cmpStr X X=0:=by
 unfold cmpStr
 rw [Ux.slt_irrefl]
 simp
theorem cmpStr_chain (X Y Z:ByteArray):(cmpStr X Y=0→cmpStr X Z=cmpStr Y Z)∧(cmpStr X Y= -1→cmpStr Y Z≠1→cmpStr X Z= -1):=by
 constructor
 ·intro h
  unfold cmpStr at h
  cases h1:slt X Y with
  |true=>rw [h1] at h;simp at h
  |false=>
   cases h2:slt Y X with
   |true=>rw [h1,h2] at h;simp at h
   |false=>rw [Ux.slt_conn h1 h2]
 ·intro h hq
  have h1:slt X Y=true:=by
   unfold cmpStr at h
   cases h1:slt X Y with
   |true=>rfl
   |false=>
    rw [h1] at h
    cases h2:slt Y X<;>rw [h2] at h<;>simp at h
  have h2:slt Z Y=false:=by
   cases h2:slt Z Y with
   |false=>rfl
   |true=>
    refine absurd ?_ hq
    unfold cmpStr
    rw [Ux.slt_asymm h2,h2]
    simp
  unfold cmpStr
  rw [Ux.slt_of_le' h1 h2]
  simp
set_option maxHeartbeats 4000000 in
theorem chains_big (k lv:Int) (sh bk:Bool) (ru x y z:ByteArray) (w:World) (hT:Tabs w) (h1:x.size≤140737488355328) (h2:y.size≤140737488355328) (h3:z.size≤140737488355328) (h:300<x.size+y.size+z.size):
 Calls Tryz.prog 3 #[.int .i64 k,.int .i64 lv,.bool sh,.bool bk,.string ru,.string x,.string y,.string z] w fun e w'=>e= .returned (.bool true)∧Ux.Touch (fun _=>False) w w':=by
 have AW:=Lib.hid (awake8_ w hT)
 obtain ⟨n1,e1⟩: ∃n,x.size=n:=⟨_,rfl⟩
 obtain ⟨n2,e2⟩: ∃n,y.size=n:=⟨_,rfl⟩
 obtain ⟨n3,e3⟩: ∃n,z.size=n:=⟨_,rfl⟩
 rw [e1,e2,e3] at h
 rw [e1] at h1
 rw [e2] at h2
 rw [e3] at h3
 have g1:(n1:Int)≤140737488355328:=by omega
 have g2:(n2:Int)≤140737488355328:=by omega
 have g3:(n3:Int)≤140737488355328:=by omega
 have g4:((n1:Int)+n2+n3>300):=by omega
 clear hT h1 h2 h3 h
 go_enter Tryz.func3,Tryz.ntmps3
 go_wp2_with (go_at_call 15;fail)
 refine AW.out.mono ?_
 rintro e w7 ⟨rfl,T7⟩
 have H7:=Lib.hid T7
 clear T7
 go_wp2
 go_returns
 exact ⟨rfl,H7.out⟩
set_option maxHeartbeats 16000000 in
set_option maxRecDepth 100000 in
theorem chains_ (k lv:Int) (sh bk:Bool) (ru x y z:ByteArray) (w:World) (hT:Tabs w) (hs:x.size+y.size+z.size≤300):
 Calls Tryz.prog 3 #[.int .i64 k,.int .i64 lv,.bool sh,.bool bk,.string ru,.string x,.string y,.string z] w fun e w'=>e= .returned (.bool true)∧Ux.Touch (fun _=>False) w w':=by
 have AW:=Lib.hid fun W (T:Ux.Touch (fun _=>False) w W)=>awake8_ W (hT.touch T)
 have HM:=Lib.hid (madeC_ k lv sh bk ru w hT)
 have HT:=Lib.hid hT
 obtain ⟨n1,e1⟩: ∃n,x.size=n:=⟨_,rfl⟩
 obtain ⟨n2,e2⟩: ∃n,y.size=n:=⟨_,rfl⟩
 obtain ⟨n3,e3⟩: ∃n,z.size=n:=⟨_,rfl⟩
 have g1:(n1:Int)≤300:=by omega
 have g2:(n2:Int)≤300:=by omega
 have g3:(n3:Int)≤300:=by omega
 have g4: ¬((n1:Int)+n2+n3>300):=by omega
 have HS:=Lib.hid hs
 clear hT hs
 go_enter Tryz.func3,Tryz.ntmps3
 go_wp2_with (go_at_call 16;fail)
 refine HM.out.mono ?_
 rintro e w1 ⟨kd,LN,sh,bk,tb,u,E,T,rfl,hM,T1⟩
 obtain ⟨xa,xn,xc,rfl⟩:=hM.shape
 unfold cV rcV
 obtain ⟨W1,hW1⟩: ∃W,(w1.alloc (.cells #[.int .i64 kd,.int .i64 (LN:Nat),.bool sh,.bool bk,.pointer tb] 25)).alloc (.cells #[.int .i64 kd,.int .i64 (LN:Nat),.bool sh,.bool bk,.slice xa xn xc] 30)=W:=⟨_,rfl⟩
 have t1:Ux.Touch (fun _=>False) w1 W1:=by rw [←hW1];exact ((Ux.Touch.refl _ _).alloc _).alloc _
 obtain ⟨q1,hq1⟩: ∃q,w1.heap.size=q:=⟨_,rfl⟩
 have r1:W1.heap[q1]? =some (.cells #[.int .i64 kd,.int .i64 (LN:Nat),.bool sh,.bool bk,.pointer tb] 25 (0,0)):=by rw [←hW1,←hq1];exact ((Ux.Touch.refl (fun _=>False) _).alloc _).heap (heap_alloc_new w1 _) (fun f=>f)
 have r2:W1.heap[q1+1]? =some (.cells #[.int .i64 kd,.int .i64 (LN:Nat),.bool sh,.bool bk,.slice xa xn xc] 30 (0,0)):=by
  rw [←hW1,←hq1]
  have:=heap_alloc_new (w1.alloc (.cells #[.int .i64 kd,.int .i64 (LN:Nat),.bool sh,.bool bk,.pointer tb] 25)) (.cells #[.int .i64 kd,.int .i64 (LN:Nat),.bool sh,.bool bk,.slice xa xn xc] 30)
  rwa [World.size_alloc] at this
 have TW1:=T1.trans t1 fun _ _ f=>f
 have HCA:=Lib.hid fun W (T:Ux.Touch (fun _=>False) W1 W)=>(CAt.of r1).touch T
 have hM1:=hM.touch t1
 have H1:=Lib.hid TW1
 have HW1:=Lib.hid (And.intro hW1 hq1)
 have HTW:Hid (∀W,Ux.Touch (fun _=>False) W1 W→Tabs W):=Lib.hid fun W t=>HT.out.touch (TW1.trans t fun _ _ f=>f)
 have hsx:x.size≤1000000:=by have:=HS.out;omega
 have hsy:y.size≤1000000:=by have:=HS.out;omega
 have hsz:z.size≤1000000:=by have:=HS.out;omega
 have hcs: ∀a b:ByteArray,cmpC kd (LN:Nat) sh bk tb E a b=cmpStr (keyP kd (LN:Nat) sh bk tb E a) (keyP kd (LN:Nat) sh bk tb E b):=fun a b=>by rw [←hM1.order a b,cmpStr_B]
 have HXY:=Lib.hid fun W (t:Ux.Touch (fun _=>False) W1 W)=>ccmp_ kd (LN:Nat) sh bk tb E x y W (hM1.tab.touch t) (HTW.out W t) hsx hsy
 have HYZ:=Lib.hid fun W (t:Ux.Touch (fun _=>False) W1 W)=>ccmp_ kd (LN:Nat) sh bk tb E y z W (hM1.tab.touch t) (HTW.out W t) hsy hsz
 have HXZ:=Lib.hid fun W (t:Ux.Touch (fun _=>False) W1 W)=>ccmp_ kd (LN:Nat) sh bk tb E x z W (hM1.tab.touch t) (HTW.out W t) hsx hsz
 have HXX:=Lib.hid fun W (t:Ux.Touch (fun _=>False) W1 W)=>ccmp_ kd (LN:Nat) sh bk tb E x x W (hM1.tab.touch t) (HTW.out W t) hsx hsx
 rw [hcs,cmpStr_self] at HXX
 rw [hcs] at HXY HYZ HXZ
 obtain ⟨KX,hKX⟩: ∃K,keyP kd (LN:Nat) sh bk tb E x=K:=⟨_,rfl⟩
 obtain ⟨KY,hKY⟩: ∃K,keyP kd (LN:Nat) sh bk tb E y=K:=⟨_,rfl⟩
 obtain ⟨KZ,hKZ⟩: ∃K,keyP kd (LN:Nat) sh bk tb E z=K:=⟨_,rfl⟩
 rw [hKX,hKY] at HXY
 rw [hKY,hKZ] at HYZ
 rw [hKX,hKZ] at HXZ
 obtain ⟨c1,c2⟩:=cmpStr_chain KX KY KZ
 have v1:=cmpStr_vals KX KY
 have v2:=cmpStr_vals KY KZ
 have v3:=cmpStr_vals KX KZ
 obtain ⟨p,hp⟩: ∃p,cmpStr KX KY=p:=⟨_,rfl⟩
 obtain ⟨q,hq⟩: ∃p,cmpStr KY KZ=p:=⟨_,rfl⟩
 obtain ⟨r,hr⟩: ∃p,cmpStr KX KZ=p:=⟨_,rfl⟩
 rw [hp] at HXY c1 c2 v1
 rw [hq] at HYZ c1 c2 v2
 rw [hr] at HXZ c1 c2 v3
 have HV:=Lib.hid (And.intro c1 (And.intro c2 (And.intro v1 (And.intro v2 v3))))
 unfold cV at HXY HYZ HXZ HXX
 clear hM T1 t1 r1 r2 TW1 hW1 hq1 hM1 hcs hKX hKY hKZ hp hq hr c1 c2 v1 v2 v3 hsx hsy hsz
 go_upto_region 6 with (fail)
 rw [HW1.out.1,HW1.out.2]
 obtain ⟨x0,x1,x2,x3,x4⟩:=HCA.out W1 (Ux.Touch.refl _ _)
 refine Ux.wpr (fun _ w'=>w'.cell? ⟨q1,0,none⟩=some (.int .i64 kd)∧w'.cell? ⟨q1,1,none⟩=some (.int .i64 (LN:Nat))∧w'.cell? ⟨q1,2,none⟩=some (.bool sh)∧w'.cell? ⟨q1,3,none⟩=some (.bool bk)∧w'.cell? ⟨q1,4,none⟩=some (.pointer tb)) (.h false [0,4,8] (.q [1,2,5,6,9,10] (.e 3 true false (.e 7 true false (.e 11 true false (.q [12,13] (.line [14]))))))) ?_;repeat ((with_reducible refine Ux.qg ?_);refine Ux.qu ?_)
 go_wp2_with (go_at_call 17;fail)
 refine (HXY.out _ (by first|exact (Ux.Touch.refl _ _).drew|exact Ux.Touch.refl _ _)).mono ?_
 rintro e w3 ⟨rfl,T3⟩
 have T3w:=Lib.hid (show Ux.Touch (fun _=>False) W1 w3 from ((Ux.Touch.refl (fun _=>False) W1).drew).trans T3 fun _ _ f=>f)
 clear T3 x0 x1 x2 x3 x4
 go_wp2_with (fail)
 refine ⟨HCA.out _ (by first|exact T5w.out|exact T4w.out|exact T3w.out),?_⟩
 go_wp2_with (go_at_call 17;fail)
 refine (HYZ.out w3 T3w.out).mono ?_
 rintro e w4 ⟨rfl,T4⟩
 have T4w:=Lib.hid (T3w.out.trans T4 fun _ _ f=>f)
 clear T4
 go_wp2_with (fail)
 refine ⟨HCA.out _ (by first|exact T5w.out|exact T4w.out|exact T3w.out),?_⟩
 go_wp2_with (go_at_call 17;fail)
 refine (HXZ.out w4 T4w.out).mono ?_
 rintro e w5 ⟨rfl,T5⟩
 have T5w:=Lib.hid (T4w.out.trans T5 fun _ _ f=>f)
 clear T5
 go_wp2_with (fail)
 refine ⟨HCA.out _ (by first|exact T5w.out|exact T4w.out|exact T3w.out),?_⟩
 repeat ((with_reducible refine Ux.qg ?_);refine Ux.qu ?_)
 go_upto_region 7 with (fail)
 obtain ⟨x0,x1,x2,x3,x4⟩:=HCA.out w5 T5w.out
 have hv:(p=0∧r=q∧(q= -1∨q=0∨q=1))∨(p= -1∧q≠1∧r= -1∧(q= -1∨q=0))∨(p= -1∧q=1∧(r= -1∨r=0∨r=1))∨(p=1∧(q= -1∨q=0∨q=1)∧(r= -1∨r=0∨r=1)):=by
  obtain ⟨c1,c2,v1,v2,v3⟩:=HV.out
  rcases v1 with h|h|h
  ·by_cases hq:q=1
   ·exact .inr (.inr (.inl ⟨h,hq,v3⟩))
   ·exact .inr (.inl ⟨h,hq,c2 h hq,by omega⟩)
  ·exact .inl ⟨h,c1 h,v2⟩
  ·exact .inr (.inr (.inr ⟨h,v2,v3⟩))
 clear HV
 rcases hv with ⟨rfl,rfl,hq⟩|⟨rfl,-,rfl,hq⟩|⟨rfl,rfl,hr⟩|⟨rfl,hq,hr⟩
 ·rcases hq with rfl|rfl|rfl
  all_goals
   go_wp2_with (go_at_call 17;fail)
   refine (HXX.out w5 T5w.out).mono ?_
   rintro e w6 ⟨rfl,T6⟩
   have H6:=Lib.hid (H1.out.trans (T5w.out.trans T6 fun _ _ f=>f) fun _ _ f=>f)
   clear T6 x0 x1 x2 x3 x4
   go_wp2_with (go_at_call 15;fail)
   refine (AW.out w6 H6.out).mono ?_
   rintro e w7 ⟨rfl,T7⟩
   have H7:=Lib.hid (H6.out.trans T7 fun _ _ f=>f)
   clear T7
   go_wp2
   go_returns
   exact ⟨rfl,H7.out⟩
 ·rcases hq with rfl|rfl
  all_goals
   go_wp2_with (go_at_call 17;fail)
   refine (HXX.out w5 T5w.out).mono ?_
   rintro e w6 ⟨rfl,T6⟩
   have H6:=Lib.hid (H1.out.trans (T5w.out.trans T6 fun _ _ f=>f) fun _ _ f=>f)
   clear T6 x0 x1 x2 x3 x4
   go_wp2_with (go_at_call 15;fail)
   refine (AW.out w6 H6.out).mono ?_
   rintro e w7 ⟨rfl,T7⟩
   have H7:=Lib.hid (H6.out.trans T7 fun _ _ f=>f)
   clear T7
   go_wp2
   go_returns
   exact ⟨rfl,H7.out⟩
 ·rcases hr with rfl|rfl|rfl
  all_goals
   go_wp2_with (go_at_call 17;fail)
   refine (HXX.out w5 T5w.out).mono ?_
   rintro e w6 ⟨rfl,T6⟩
   have H6:=Lib.hid (H1.out.trans (T5w.out.trans T6 fun _ _ f=>f) fun _ _ f=>f)
   clear T6 x0 x1 x2 x3 x4
   go_wp2_with (go_at_call 15;fail)
   refine (AW.out w6 H6.out).mono ?_
   rintro e w7 ⟨rfl,T7⟩
   have H7:=Lib.hid (H6.out.trans T7 fun _ _ f=>f)
   clear T7
   go_wp2
   go_returns
   exact ⟨rfl,H7.out⟩
 ·rcases hq with rfl|rfl|rfl
  all_goals
   rcases hr with rfl|rfl|rfl
   all_goals
    go_wp2_with (go_at_call 17;fail)
    refine (HXX.out w5 T5w.out).mono ?_
    rintro e w6 ⟨rfl,T6⟩
    have H6:=Lib.hid (H1.out.trans (T5w.out.trans T6 fun _ _ f=>f) fun _ _ f=>f)
    clear T6 x0 x1 x2 x3 x4
    go_wp2_with (go_at_call 15;fail)
    refine (AW.out w6 H6.out).mono ?_
    rintro e w7 ⟨rfl,T7⟩
    have H7:=Lib.hid (H6.out.trans T7 fun _ _ f=>f)
    clear T7
    go_wp2
    go_returns
    exact ⟨rfl,H7.out⟩
theorem chainsLaw_ (k lv:Int) (sh bk:Bool) (ru x y z:ByteArray) (w:World) (hT:Tabs w) (_h0:ru.size≤140737488355328) (h1:x.size≤140737488355328) (h2:y.size≤140737488355328) (h3:z.size≤140737488355328):
 Calls Tryz.prog 3 #[.int .i64 k,.int .i64 lv,.bool sh,.bool bk,.string ru,.string x,.string y,.string z] w fun e w'=>e= .returned (.bool true)∧Ux.Touch (fun _=>False) w w':=by
 by_cases h:300<x.size+y.size+z.size
 ·exact chains_big k lv sh bk ru x y z w hT h1 h2 h3 h
 ·exact chains_ k lv sh bk ru x y z w hT (by omega)
end Go.Proofs.YtikmdhhbamggfaaGreatDoor
