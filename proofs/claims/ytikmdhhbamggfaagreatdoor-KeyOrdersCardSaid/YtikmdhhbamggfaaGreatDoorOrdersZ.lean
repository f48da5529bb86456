/- A part of the proof that the statement holds for every input that it names. No other condition. -/
import Derived.Test.YtikmdhhbamggfaaGreatDoorMake9Z
set_option linter.unusedVariables false
set_option linter.unusedSimpArgs false
namespace Go.Proofs.YtikmdhhbamggfaaGreatDoor
open Go.RowKit
open Ux (Ent SameE okT cmpB slt)
set_option maxHeartbeats 4000000 in
theorem order_ (a b:ByteArray) (w:World):Calls Tryz.prog 29 #[.string a,.string b] w fun e w'=>e= .returned (.int .i64 (cmpStr a b))∧w'=w:=by
 unfold cmpStr
 cases h1:slt a b with
 |true=>
  have q1:Op.bytesLess a.toList b.toList=true:=h1
  clear h1
  rw [if_pos rfl]
  go_enter Tryz.func29,Tryz.ntmps29
  go_wp2
  go_returns
  exact ⟨rfl,rfl⟩
 |false=>
  have q1:Op.bytesLess a.toList b.toList=false:=h1
  rw [if_neg (by simp)]
  cases h2:slt b a with
  |true=>
   have q2:(a.toList==b.toList)=false:=by
    cases h:a.toList==b.toList with
    |false=>rfl
    |true=>
     have e:=Ux.ba_ext (eq_of_beq h)
     subst e
     rw [Ux.slt_irrefl] at h2
     cases h2
   clear h1 h2
   rw [if_pos rfl]
   go_enter Tryz.func29,Tryz.ntmps29
   go_wp2
   go_returns
   exact ⟨rfl,rfl⟩
  |false=>
   obtain rfl:=Ux.slt_conn h1 h2
   have q2:(a.toList==a.toList)=true:=by simp
   clear h1 h2
   rw [if_neg (by simp)]
   go_enter Tryz.func29,Tryz.ntmps29
   go_wp2
   go_returns
   exact ⟨rfl,rfl⟩
set_option maxHeartbeats 4000000 in
theorem orders_big (k lv:Int) (sh bk:Bool) (ru a b:ByteArray) (w:World) (hT:Tabs w) (h1:a.size≤140737488355328) (h2:b.size≤140737488355328) (h:200<a.size∨200<b.size):
 Calls Tryz.prog 7 #[.int .i64 k,.int .i64 lv,.bool sh,.bool bk,.string ru,.string a,.string b] w fun e w'=>e= .returned (.bool true)∧Ux.Touch (fun _=>False) w w':=by
 have AW:=Lib.hid (awake9_ w hT)
 obtain ⟨n1,e1⟩: ∃n,a.size=n:=⟨_,rfl⟩
 obtain ⟨n2,e2⟩: ∃n,b.size=n:=⟨_,rfl⟩
 rw [e1] at h1 h
 rw [e2] at h2 h
 have g1:(n1:Int)≤140737488355328:=by omega
 have g2:(n2:Int)≤140737488355328:=by omega
 have hc:((n1:Int)>200)∨¬((n1:Int)>200)∧((n2:Int)>200):=by omega
 clear hT h1 h2 h
 rcases hc with g3|⟨g3,g4⟩
 all_goals
  go_enter Tryz.func7,Tryz.ntmps7
  go_wp2_with (go_at_call 24;fail)
  refine AW.out.mono ?_
  rintro e w7 ⟨rfl,T7⟩
  have H7:=Lib.hid T7
  clear T7
  go_wp2
  go_returns
  exact ⟨rfl,H7.out⟩
set_option maxHeartbeats 16000000 in
set_option maxRecDepth 100000 in
theorem orders_ (k lv:Int) (sh bk:Bool) (ru a b:ByteArray) (w:World) (hT:Tabs w) (ha:a.size≤200) (hb:b.size≤200):
 Calls Tryz.prog 7 #[.int .i64 k,.int .i64 lv,.bool sh,.bool bk,.string ru,.string a,.string b] w fun e w'=>e= .returned (.bool true)∧Ux.Touch (fun _=>False) w w':=by
 have AW:=Lib.hid fun W (T:Ux.Touch (fun _=>False) w W)=>awake9_ W (hT.touch T)
 have HM:=Lib.hid (madeC_ k lv sh bk ru w hT)
 have HT:=Lib.hid hT
 obtain ⟨n1,e1⟩: ∃n,a.size=n:=⟨_,rfl⟩
 obtain ⟨n2,e2⟩: ∃n,b.size=n:=⟨_,rfl⟩
 have g1: ¬((n1:Int)>200):=by omega
 have g2: ¬((n2:Int)>200):=by omega
 have HS:=Lib.hid (And.intro ha hb)
 clear hT ha hb
 go_enter Tryz.func7,Tryz.ntmps7
 go_wp2_with (go_at_call 16;fail)
 refine HM.out.mono ?_
 rintro e w1 ⟨kd,LN,sh,bk,tb,u,E,T,rfl,hM,T1⟩
 obtain ⟨xa,xn,xc,rfl⟩:=hM.shape
 unfold cV rcV
 obtain ⟨W1,hW1⟩: ∃W,(w1.alloc (.cells #[.int .i64 kd,.int .i64 (LN:Nat),.bool sh,.bool bk,.pointer tb] 25)).alloc (.cells #[.int .i64 kd,.int .i64 (LN:Nat),.bool sh,.bool bk,.slice xa xn xc] 30)=W:=⟨_,rfl⟩
 have t1:Ux.Touch (fun _=>False) w1 W1:=by rw [←hW1];exact ((Ux.Touch.refl _ _).alloc _).alloc _
 obtain ⟨q1,hq1⟩: ∃q,w1.heap.size=q:=⟨_,rfl⟩
 have r1:W1.heap[q1]? =some (.cells #[.int .i64 kd,.int .i64 (LN:Nat),.bool sh,.bool bk,.pointer tb] 25 (0,0)):=by rw [←hW1,←hq1];exact ((Ux.Touch.refl (fun _=>False) _).alloc _).heap (heap_alloc_new w1 _) (fun f=>f)
 have r2:W1.heap[q1+1]? =some (.cells #[.int .i64 kd,.int .i64 (LN:Nat),.bool sh,.bool bk,.slice xa xn xc] 30 (0,0)):=by
  rw [←hW1,←hq1]
  have:=heap_alloc_new (w1.alloc (.cells #[.int .i64 kd,.int .i64 (LN:Nat),.bool sh,.bool bk,.pointer tb] 25)) (.cells #[.int .i64 kd,.int .i64 (LN:Nat),.bool sh,.bool bk,.slice xa xn xc] 30)
  rwa [World.size_alloc] at this
 have TW1:=T1.trans t1 fun _ _ f=>f
 have HCA:=Lib.hid fun W (T:Ux.Touch (fun _=>False) W1 W)=>(CAt.of r1).touch T
 have HRA:=Lib.hid fun W (T:Ux.Touch (fun _=>False) W1 W)=>(RAtG.of r2).touch T
 have hM1:=hM.touch t1
 have H1:=Lib.hid (And.intro TW1 hM1)
 have HW1:=Lib.hid (And.intro hW1 hq1)
 have hka:=hM1.keylen a (by have:=HS.out;omega)
 have hkb:=hM1.keylen b (by have:=HS.out;omega)
 have HTW:Hid (∀W,Ux.Touch (fun _=>False) W1 W→Tabs W):=Lib.hid fun W t=>HT.out.touch (TW1.trans t fun _ _ f=>f)
 have HKA:=Lib.hid fun W (t:Ux.Touch (fun _=>False) W1 W)=>skey_ kd (LN:Nat) sh bk tb E a W (by have:=HS.out;omega) (HTW.out W t) (hM1.tab.touch t) hka
 have HKB:=Lib.hid fun W (t:Ux.Touch (fun _=>False) W1 W)=>skey_ kd (LN:Nat) sh bk tb E b W (by have:=HS.out;omega) (HTW.out W t) (hM1.tab.touch t) hkb
 have HKC:=Lib.hid fun W (t:Ux.Touch (fun _=>False) W1 W)=>kcmp_ kd (LN:Nat) sh bk tb E a b W (by have:=HS.out;omega) (by have:=HS.out;omega) (HTW.out W t) (hM1.tab.touch t) hka hkb
 have HCC:=Lib.hid fun W (t:Ux.Touch (fun _=>False) W1 W)=>ccmp_ kd (LN:Nat) sh bk tb E a b W (hM1.tab.touch t) (HTW.out W t) (by have:=HS.out;omega) (by have:=HS.out;omega)
 have HRC:=Lib.hid fun W (t:Ux.Touch (fun _=>False) W1 W)=>rcmp_ kd (LN:Nat) (fun e=>by have:=hM1.lv e;omega) sh bk (.slice xa xn xc) T _ a b W ⟨_,_,_,rfl⟩ (fun e=>⟨((hM1.rows e).1).touch0 t,hM1.same.ok hM1.okE,(hM1.rows e).2⟩) (by have:=HS.out;omega) (by have:=HS.out;omega)
 rw [←hM1.cmp a b] at HRC
 have hord:=hM1.order a b
 rw [hord] at HKC
 rw [cmpStr_B] at hord
 obtain ⟨KA,hKA⟩: ∃KA,keyP kd (LN:Nat) sh bk tb E a=KA:=⟨_,rfl⟩
 obtain ⟨KB,hKB⟩: ∃KB,keyP kd (LN:Nat) sh bk tb E b=KB:=⟨_,rfl⟩
 obtain ⟨K,hK⟩: ∃K,cmpC kd (LN:Nat) sh bk tb E a b=K:=⟨_,rfl⟩
 rw [hKA] at HKA hord
 rw [hKB] at HKB hord
 rw [hK] at HKC HCC HRC hord
 have HOR:=Lib.hid fun W=>order_ KA KB W
 rw [hord] at HOR
 unfold cV at HKA HKB HKC HCC
 unfold rcV at HRC
 clear hM T1 t1 r1 r2 TW1 hW1 hq1 hM1 hka hkb hord hKA hKB hK
 go_upto_region 6 with (fail)
 rw [HW1.out.1,HW1.out.2]
 obtain ⟨x0,x1,x2,x3,x4⟩:=HRA.out W1 (Ux.Touch.refl _ _)
 go_wp2_with (go_at_call 18;fail)
 refine (HRC.out W1 (Ux.Touch.refl _ _)).mono ?_
 rintro e w2 ⟨rfl,T2⟩
 have Tk:=Lib.hid T2
 clear T2 x0 x1 x2 x3 x4
 obtain ⟨x0,x1,x2,x3,x4⟩:=HCA.out w2 Tk.out
 go_upto_region 7 with (fail)
 refine Ux.wpr (fun _ w'=>w'.cell? ⟨q1,0,none⟩=some (.int .i64 kd)∧w'.cell? ⟨q1,1,none⟩=some (.int .i64 (LN:Nat))∧w'.cell? ⟨q1,2,none⟩=some (.bool sh)∧w'.cell? ⟨q1,3,none⟩=some (.bool bk)∧w'.cell? ⟨q1,4,none⟩=some (.pointer tb)) (.h false [0,3] (.q [1,4,7] (.e 2 true false (.e 5 true false (.e 6 true false (.q [8,9,11,12,14] (.h false [10] (.e 13 true false (.q [15,16,17,19,20,22] (.h false [18] (.e 21 true false (.q [23,24,25] (.e 26 true false (.q [27] (.line [28]))))))))))))))) ?_;repeat ((with_reducible refine Ux.qg ?_);refine Ux.qu ?_)
 go_wp2_with (go_at_call 26;fail)
 refine (HKA.out _ (by first|exact Tk.out|exact Tk.out.drew)).mono ?_
 rintro e w4 ⟨rfl,T4⟩
 have T4w:=Lib.hid (show Ux.Touch (fun _=>False) W1 w4 from Tk.out.drew.trans T4 fun _ _ f=>f)
 clear T4 x0 x1 x2 x3 x4
 go_wp2_with (fail)
 refine ⟨HCA.out _ (by first|exact T8w.out|exact T7w.out|exact T6w.out|exact T5w.out|exact T4w.out),?_⟩
 go_wp2_with (go_at_call 26;fail)
 refine (HKB.out w4 T4w.out).mono ?_
 rintro e w5 ⟨rfl,T5⟩
 have T5w:=Lib.hid (T4w.out.trans T5 fun _ _ f=>f)
 clear T5
 go_wp2_with (fail)
 refine ⟨HCA.out _ (by first|exact T8w.out|exact T7w.out|exact T6w.out|exact T5w.out|exact T4w.out),?_⟩
 go_wp2_with (go_at_call 29;fail)
 refine (HOR.out w5).mono ?_
 rintro e w6 ⟨rfl,hw6⟩
 have T6w:Hid (Ux.Touch (fun _=>False) W1 w6):=by rw [hw6];exact T5w
 clear hw6
 go_wp2_with (fail)
 refine ⟨HCA.out _ (by first|exact T8w.out|exact T7w.out|exact T6w.out|exact T5w.out|exact T4w.out),?_⟩
 repeat ((with_reducible refine Ux.qg ?_);refine Ux.qu ?_)
 repeat ((with_reducible refine Ux.qg ?_);refine Ux.qu ?_)
 go_wp2_with (go_at_call 30;fail)
 refine (HKC.out w6 T6w.out).mono ?_
 rintro e w7 ⟨rfl,T7⟩
 have T7w:=Lib.hid (T6w.out.trans T7 fun _ _ f=>f)
 clear T7
 go_wp2_with (fail)
 refine ⟨HCA.out _ (by first|exact T8w.out|exact T7w.out|exact T6w.out|exact T5w.out|exact T4w.out),?_⟩
 repeat ((with_reducible refine Ux.qg ?_);refine Ux.qu ?_)
 repeat ((with_reducible refine Ux.qg ?_);refine Ux.qu ?_)
 go_wp2_with (go_at_call 17;fail)
 refine (HCC.out w7 T7w.out).mono ?_
 rintro e w8 ⟨rfl,T8⟩
 have T8w:=Lib.hid (T7w.out.trans T8 fun _ _ f=>f)
 clear T8
 go_wp2_with (fail)
 refine ⟨HCA.out _ (by first|exact T8w.out|exact T7w.out|exact T6w.out|exact T5w.out|exact T4w.out),?_⟩
 repeat ((with_reducible refine Ux.qg ?_);refine Ux.qu ?_)
 go_wp2_with (go_at_call 24;fail)
 refine (AW.out w8 (H1.out.1.trans T8w.out fun _ _ f=>f)).mono ?_
 rintro e w9 ⟨rfl,T9⟩
 have H9:=Lib.hid ((H1.out.1.trans T8w.out fun _ _ f=>f).trans T9 fun _ _ f=>f)
 have T8w:=Lib.hid (T8w.out.trans T9 fun _ _ f=>f)
 clear T9
 go_wp2_with (fail)
 refine ⟨HCA.out _ (by first|exact T8w.out|exact T7w.out|exact T6w.out|exact T5w.out|exact T4w.out),?_⟩
 repeat ((with_reducible refine Ux.qg ?_);refine Ux.qu ?_)
 go_wp2
 go_returns
 exact ⟨rfl,H9.out⟩
theorem ordersLaw_ (k lv:Int) (sh bk:Bool) (ru a b:ByteArray) (w:World) (hT:Tabs w) (_h0:ru.size≤140737488355328) (h1:a.size≤140737488355328) (h2:b.size≤140737488355328):
 Calls Tryz.prog 7 #[.int .i64 k,.int .i64 lv,.bool sh,.bool bk,.string ru,.string a,.string b] w fun e w'=>e= .returned (.bool true)∧Ux.Touch (fun _=>False) w w':=by
 by_cases h:200<a.size∨200<b.size
 ·exact orders_big k lv sh bk ru a b w hT h1 h2 h
 ·exact orders_ k lv sh bk ru a b w hT (by omega) (by omega)
end Go.Proofs.YtikmdhhbamggfaaGreatDoor
