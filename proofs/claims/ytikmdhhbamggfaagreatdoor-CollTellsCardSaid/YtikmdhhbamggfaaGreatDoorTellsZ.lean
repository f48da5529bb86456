/- A part of the proof that the statement holds for every input that it names. No other condition. -/
import Derived.Test.YtikmdhhbamggfaaGreatDoorMake9Z
import Derived.Test.YtikmdhhbamggfaaGreatDoorRcollAX2Z
import Derived.Test.YtikmdhhbamggfaaGreatDoorChainsZ
set_option linter.unusedVariables false
set_option linter.unusedSimpArgs false
namespace Go.Proofs.YtikmdhhbamggfaaGreatDoor
open Go.RowKit
open Ux (Ent SameE okT cmpB slt sv iv Row wts)
theorem cmpStr_neg (X Y:ByteArray):cmpStr Y X= -cmpStr X Y:=by
 unfold cmpStr
 cases h1:slt X Y with
 |true=>rw [Ux.slt_asymm h1];simp
 |false=>cases h2:slt Y X<;>simp
theorem rwtsC_ {w0:World} {lo:Nat} {kd:Int} {LN:Nat} {sh bk:Bool} {tb:Option Addr} {u:Value} {E T:List Ent} (h:MadeC w0 lo kd LN sh bk tb u E T) (b:ByteArray) (L:Int) (hb:b.size≤1000000) (w:World) (t:Ux.Touch (fun _=>False) w0 w):
 Calls Tryz.prog 23 #[rcV kd (LN:Nat) sh bk u,.string b,.int .i64 L] w fun e w'=> ∃v,e= .returned v∧IView w' v (sv (cwtsV kd (LN:Nat) sh bk tb E b L))∧Ux.Touch (fun _=>False) w w':=by
 by_cases hc:kd=3∧1≤L∧L≤3
 ·obtain ⟨rfl,h1,h2⟩:=hc
  obtain ⟨x,hx,rfl⟩: ∃x:Nat,(x=1∨x=2∨x=3)∧L=(x:Int):=⟨L.toNat,by omega,by omega⟩
  have hv:cwtsV 3 (LN:Nat) sh bk tb E b x=wts sh bk x (elB T b):=by unfold cwtsV;rw [if_pos ⟨rfl,h.ok,h1,h2⟩,Int.toNat_natCast,h.el b]
  rw [hv]
  refine (rwtsR_ (LN:Nat) sh bk u T _ b x hx w ((h.rows rfl).1.touch0 t) (h.same.ok h.okE) (h.rows rfl).2 hb).mono ?_
  rintro e w' ⟨v,rfl,hr,T'⟩
  exact ⟨v,rfl,IView.row hr,T'⟩
 ·have hv:cwtsV kd (LN:Nat) sh bk tb E b L= []:=by unfold cwtsV;rw [if_neg (fun hh=>hc ⟨hh.1,hh.2.2⟩)]
  rw [hv]
  refine (rwtsNo_ kd (LN:Nat) sh bk u h.shape b L w (by omega)).mono ?_
  rintro e w' ⟨rfl,T'⟩
  exact ⟨_,rfl,IView.nil _,T'⟩
theorem cwtsV_len {kd lv:Int} {sh bk:Bool} {tb:Option Addr} {E:List Ent} (hE:okT E) (b:ByteArray) (L:Int) (hb:b.size≤1000000):(sv (cwtsV kd lv sh bk tb E b L)).length≤1000000000:=by
 rw [Ux.sv_length]
 unfold cwtsV
 split
 ·have h1:=Ux.wts_len sh bk L.toNat (elB E b)
  have h2:=(elB_ok hE b).1
  omega
 ·simp
set_option maxHeartbeats 4000000 in
theorem tells_big (k lv:Int) (sh bk:Bool) (ru a b:ByteArray) (at':Int) (w:World) (hT:Tabs w) (h1:a.size≤140737488355328) (h2:b.size≤140737488355328) (h:200<a.size∨200<b.size):
 Calls Tryz.prog 5 #[.int .i64 k,.int .i64 lv,.bool sh,.bool bk,.string ru,.string a,.string b,.int .i64 at'] w fun e w'=>e= .returned (.bool true)∧Ux.Touch (fun _=>False) w w':=by
 have AW:=Lib.hid (awake8_ w hT)
 obtain ⟨n1,e1⟩: ∃n,a.size=n:=⟨_,rfl⟩
 obtain ⟨n2,e2⟩: ∃n,b.size=n:=⟨_,rfl⟩
 rw [e1] at h1 h
 rw [e2] at h2 h
 have g1:(n1:Int)≤140737488355328:=by omega
 have g2:(n2:Int)≤140737488355328:=by omega
 have hc:((n1:Int)>200)∨¬((n1:Int)>200)∧((n2:Int)>200):=by omega
 clear hT h1 h2 h
 rcases hc with g3|⟨g3,g4⟩
 all_goals
  go_enter Tryz.func5,Tryz.ntmps5
  go_wp2_with (go_at_call 15;fail)
  refine AW.out.mono ?_
  rintro e w7 ⟨rfl,T7⟩
  have H7:=Lib.hid T7
  clear T7
  go_wp2
  go_returns
  exact ⟨rfl,H7.out⟩
set_option maxHeartbeats 16000000 in
set_option maxRecDepth 100000 in
theorem tells_ (k lv:Int) (sh bk:Bool) (ru a b:ByteArray) (at':Int) (w:World) (hT:Tabs w) (ha:a.size≤200) (hb:b.size≤200):
 Calls Tryz.prog 5 #[.int .i64 k,.int .i64 lv,.bool sh,.bool bk,.string ru,.string a,.string b,.int .i64 at'] w fun e w'=>e= .returned (.bool true)∧Ux.Touch (fun _=>False) w w':=by
 have AW:=Lib.hid fun W (T:Ux.Touch (fun _=>False) w W)=>awake8_ W (hT.touch T)
 have HM:=Lib.hid (madeC_ k lv sh bk ru w hT)
 have HT:=Lib.hid hT
 obtain ⟨n1,e1⟩: ∃n,a.size=n:=⟨_,rfl⟩
 obtain ⟨n2,e2⟩: ∃n,b.size=n:=⟨_,rfl⟩
 have g1: ¬((n1:Int)>200):=by omega
 have g2: ¬((n2:Int)>200):=by omega
 have HS:=Lib.hid (And.intro ha hb)
 clear hT ha hb
 go_enter Tryz.func5,Tryz.ntmps5
 go_wp2_with (go_at_call 16;fail)
 refine HM.out.mono ?_
 rintro e w1 ⟨kd,LN,sh,bk,tb,u,E,T,rfl,hM,T1⟩
 have hsh:=hM.shape
 obtain ⟨xa,xn,xc,rfl⟩:=hsh
 unfold cV rcV
 obtain ⟨W1,hW1⟩: ∃W,(w1.alloc (.cells #[.int .i64 kd,.int .i64 (LN:Nat),.bool sh,.bool bk,.pointer tb] 25)).alloc (.cells #[.int .i64 kd,.int .i64 (LN:Nat),.bool sh,.bool bk,.slice xa xn xc] 30)=W:=⟨_,rfl⟩
 have t1:Ux.Touch (fun _=>False) w1 W1:=by rw [←hW1];exact ((Ux.Touch.refl _ _).alloc _).alloc _
 obtain ⟨q1,hq1⟩: ∃q,w1.heap.size=q:=⟨_,rfl⟩
 have r1:W1.heap[q1]? =some (.cells #[.int .i64 kd,.int .i64 (LN:Nat),.bool sh,.bool bk,.pointer tb] 25 (0,0)):=by rw [←hW1,←hq1];exact ((Ux.Touch.refl (fun _=>False) _).alloc _).heap (heap_alloc_new w1 _) (fun f=>f)
 have r2:W1.heap[q1+1]? =some (.cells #[.int .i64 kd,.int .i64 (LN:Nat),.bool sh,.bool bk,.slice xa xn xc] 30 (0,0)):=by
  rw [←hW1,←hq1]
  have:=heap_alloc_new (w1.alloc (.cells #[.int .i64 kd,.int .i64 (LN:Nat),.bool sh,.bool bk,.pointer tb] 25)) (.cells #[.int .i64 kd,.int .i64 (LN:Nat),.bool sh,.bool bk,.slice xa xn xc] 30)
  rwa [World.size_alloc] at this
 have TW1:=T1.trans t1 fun _ _ f=>f
 have HCA:=Lib.hid fun W (T:Ux.Touch (fun _=>False) W1 W)=>And.intro ((CAt.of r1).touch T) ((RAtG.of r2).touch T)
 have hM1:=hM.touch t1
 have H1:=Lib.hid TW1
 have HW1:=Lib.hid (And.intro hW1 hq1)
 have HTW:Hid (∀W,Ux.Touch (fun _=>False) W1 W→Tabs W):=Lib.hid fun W t=>HT.out.touch (TW1.trans t fun _ _ f=>f)
 have hsa:a.size≤1000000:=by have:=HS.out;omega
 have hsb:b.size≤1000000:=by have:=HS.out;omega
 have HOK:=Lib.hid fun W=>cok_ kd (LN:Nat) sh bk tb W
 rw [hM1.ok] at HOK
 have hcs: ∀a b:ByteArray,cmpC kd (LN:Nat) sh bk tb E a b=cmpStr (keyP kd (LN:Nat) sh bk tb E a) (keyP kd (LN:Nat) sh bk tb E b):=fun a b=>by rw [←hM1.order a b,cmpStr_B]
 have HAB:=Lib.hid fun W (t:Ux.Touch (fun _=>False) W1 W)=>ccmp_ kd (LN:Nat) sh bk tb E a b W (hM1.tab.touch t) (HTW.out W t) hsa hsb
 have HBA:=Lib.hid fun W (t:Ux.Touch (fun _=>False) W1 W)=>ccmp_ kd (LN:Nat) sh bk tb E b a W (hM1.tab.touch t) (HTW.out W t) hsb hsa
 have HSM:=Lib.hid fun W (t:Ux.Touch (fun _=>False) W1 W)=>csame_ kd (LN:Nat) sh bk tb E a b W (hM1.tab.touch t) (HTW.out W t) hsa hsb
 have HRC:=Lib.hid fun W (t:Ux.Touch (fun _=>False) W1 W)=>rcmp_ kd (LN:Nat) (fun e=>by have:=hM1.lv e;omega) sh bk (.slice xa xn xc) T _ a b W ⟨_,_,_,rfl⟩ (fun e=>⟨((hM1.rows e).1).touch0 t,hM1.same.ok hM1.okE,(hM1.rows e).2⟩) hsa hsb
 have HCW:=Lib.hid fun W (t:Ux.Touch (fun _=>False) W1 W)=>cwts_ kd (LN:Nat) sh bk tb E a at' W (hM1.tab.touch t) (HTW.out W t) hsa
 have HRW:=Lib.hid fun W (t:Ux.Touch (fun _=>False) W1 W)=>rwtsC_ hM1 a at' hsa W t
 have hvl:=cwtsV_len (kd:=kd) (lv:=(LN:Nat)) (sh:=sh) (bk:=bk) (tb:=tb) hM1.okE a at' hsa
 rw [←hM1.cmp a b] at HRC
 rw [hcs b a,cmpStr_neg] at HBA
 rw [hcs a b] at HAB HSM HRC
 have hK:=cmpStr_vals (keyP kd (LN:Nat) sh bk tb E a) (keyP kd (LN:Nat) sh bk tb E b)
 obtain ⟨K,hKe⟩: ∃K,cmpStr (keyP kd (LN:Nat) sh bk tb E a) (keyP kd (LN:Nat) sh bk tb E b)=K:=⟨_,rfl⟩
 rw [hKe] at HAB HBA HSM HRC hK
 obtain ⟨VL,hVL⟩: ∃V,sv (cwtsV kd (LN:Nat) sh bk tb E a at')=V:=⟨_,rfl⟩
 rw [hVL] at HCW HRW hvl
 have HVL:=Lib.hid hvl
 unfold cV at HAB HBA HSM HCW HOK
 unfold rcV at HRC HRW
 clear hM T1 t1 r1 r2 TW1 hW1 hq1 hM1 hcs hKe hVL hvl hsa hsb
 go_upto_region 6 with (fail)
 rw [HW1.out.1,HW1.out.2]
 obtain ⟨⟨x0,x1,x2,x3,x4⟩,y0,y1,y2,y3,y4⟩:=HCA.out W1 (Ux.Touch.refl _ _)
 clear x0 x1 x2 x3 x4
 go_wp2_with (go_at_call 18;fail)
 refine (HRC.out W1 (Ux.Touch.refl _ _)).mono ?_
 rintro e w2 ⟨rfl,T2⟩
 have Tk:=Lib.hid T2
 clear T2 y0 y1 y2 y3 y4
 rcases hK with rfl|rfl|rfl
 all_goals
  obtain ⟨⟨x0,x1,x2,x3,x4⟩,y0,y1,y2,y3,y4⟩:=HCA.out w2 Tk.out
  go_upto_region 7 with (fail)
  refine Ux.wpr (fun _ w'=>(w'.cell? ⟨q1,0,none⟩=some (.int .i64 kd)∧w'.cell? ⟨q1,1,none⟩=some (.int .i64 (LN:Nat))∧w'.cell? ⟨q1,2,none⟩=some (.bool sh)∧w'.cell? ⟨q1,3,none⟩=some (.bool bk)∧w'.cell? ⟨q1,4,none⟩=some (.pointer tb))∧w'.cell? ⟨q1+1,0,none⟩=some (.int .i64 kd)∧w'.cell? ⟨q1+1,1,none⟩=some (.int .i64 (LN:Nat))∧w'.cell? ⟨q1+1,2,none⟩=some (.bool sh)∧w'.cell? ⟨q1+1,3,none⟩=some (.bool bk)∧w'.cell? ⟨q1+1,4,none⟩=some (.slice xa xn xc)) (.h false [0] (.e 1 true false (.q [2,4,5,7] (.h false [3] (.e 6 true false (.q [8,9,10,12,13,15,16] (.h false [11] (.e 14 true false (.q [17,18,19,21,22,24,25] (.h false [20] (.e 23 true false (.q [26,27,28,30,31,34,35] (.h false [29,33] (.e 32 true false (.e 36 true false (.e 37 true false (.q [38,39] (.e 40 true false (.q [41] (.line [42])))))))))))))))))))) ?_;repeat ((with_reducible refine Ux.qg ?_);refine Ux.qu ?_)
  clear x0 x1 x2 x3 x4 y0 y1 y2 y3 y4
  go_wp2_with (go_at_call 19;fail)
  refine (HOK.out _).mono ?_
  rintro e w3 ⟨rfl,T3⟩
  have H3:=Lib.hid (Tk.out.drew.trans T3 fun _ _ f=>f)
  clear T3
  have S3:=HCA.out w3 H3.out
  go_wp2_with (fail)
  refine ⟨S3,?_⟩
  clear S3
  repeat ((with_reducible refine Ux.qg ?_);refine Ux.qu ?_)
  go_wp2_with (go_at_call 17;fail)
  refine (HAB.out w3 H3.out).mono ?_
  rintro e w4 ⟨rfl,T4⟩
  have H4:=Lib.hid (H3.out.trans T4 fun _ _ f=>f)
  clear T4
  have S4:=HCA.out w4 H4.out
  go_wp2_with (fail)
  refine ⟨S4,?_⟩
  clear S4
  repeat ((with_reducible refine Ux.qg ?_);refine Ux.qu ?_)
  go_wp2_with (go_at_call 17;fail)
  refine (HBA.out w4 H4.out).mono ?_
  rintro e w5 ⟨rfl,T5⟩
  have H5:=Lib.hid (H4.out.trans T5 fun _ _ f=>f)
  clear T5
  have S5:=HCA.out w5 H5.out
  go_wp2_with (fail)
  refine ⟨S5,?_⟩
  clear S5
  repeat ((with_reducible refine Ux.qg ?_);refine Ux.qu ?_)
  go_wp2_with (go_at_call 20;fail)
  refine (HSM.out w5 H5.out).mono ?_
  rintro e w6 ⟨rfl,T6⟩
  have H6:=Lib.hid (H5.out.trans T6 fun _ _ f=>f)
  clear T6
  have S6:=HCA.out w6 H6.out
  go_wp2_with (fail)
  refine ⟨S6,?_⟩
  clear S6
  repeat ((with_reducible refine Ux.qg ?_);refine Ux.qu ?_)
  go_wp2_with (go_at_call 22;fail)
  refine (HCW.out w6 H6.out).mono ?_
  rintro e w7 ⟨v7,rfl,hv7,T7⟩
  have H7:=Lib.hid (And.intro (H6.out.trans T7 fun _ _ f=>f) hv7)
  clear T7 hv7
  have S7:=HCA.out w7 H7.out.1
  go_wp2_with (fail)
  refine ⟨S7,?_⟩
  clear S7
  repeat ((with_reducible refine Ux.qg ?_);refine Ux.qu ?_)
  go_wp2_with (go_at_call 23;fail)
  refine (HRW.out w7 H7.out.1).mono ?_
  rintro e w8 ⟨v8,rfl,hv8,T8⟩
  have HSI:=Lib.hid (sameInts_ v7 v8 VL VL w8 (H7.out.2.touch0 T8) hv8 HVL.out HVL.out)
  rw [beq_self_eq_true] at HSI
  have H8:=Lib.hid (H7.out.1.trans T8 fun _ _ f=>f)
  clear T8 hv8
  have S8:=HCA.out w8 H8.out
  go_wp2_with (fail)
  refine ⟨S8,?_⟩
  clear S8
  repeat ((with_reducible refine Ux.qg ?_);refine Ux.qu ?_)
  go_wp2_with (go_at_call 21;fail)
  refine HSI.out.mono ?_
  rintro e w9 ⟨rfl,T9⟩
  have H9:=Lib.hid (H8.out.trans T9 fun _ _ f=>f)
  clear T9 HSI
  have S9:=HCA.out w9 H9.out
  go_wp2_with (fail)
  refine ⟨S9,?_⟩
  clear S9
  repeat ((with_reducible refine Ux.qg ?_);refine Ux.qu ?_)
  go_wp2_with (go_at_call 15;fail)
  refine (AW.out w9 (H1.out.trans H9.out fun _ _ f=>f)).mono ?_
  rintro e w10 ⟨rfl,T10⟩
  have HA:=Lib.hid (H9.out.trans T10 fun _ _ f=>f)
  clear T10
  have S10:=HCA.out w10 HA.out
  go_wp2_with (fail)
  refine ⟨S10,?_⟩
  clear S10
  repeat ((with_reducible refine Ux.qg ?_);refine Ux.qu ?_)
  go_wp2
  go_returns
  exact ⟨rfl,H1.out.trans HA.out fun _ _ f=>f⟩
theorem tellsLaw_ (k lv:Int) (sh bk:Bool) (ru a b:ByteArray) (at':Int) (w:World) (hT:Tabs w) (_h0:ru.size≤140737488355328) (h1:a.size≤140737488355328) (h2:b.size≤140737488355328):
 Calls Tryz.prog 5 #[.int .i64 k,.int .i64 lv,.bool sh,.bool bk,.string ru,.string a,.string b,.int .i64 at'] w fun e w'=>e= .returned (.bool true)∧Ux.Touch (fun _=>False) w w':=by
 by_cases h:200<a.size∨200<b.size
 ·exact tells_big k lv sh bk ru a b at' w hT h1 h2 h
 ·exact tells_ k lv sh bk ru a b at' w hT (by omega) (by omega)
end Go.Proofs.YtikmdhhbamggfaaGreatDoor
