/- A part of the proof that the statement holds for every input that it names. No other condition. -/
import Derived.Test.YtikmdhhbamggfaaGreatDoorMake9Z
import Derived.Test.YtikmdhhbamggfaaGreatDoorMadeAX1Z
import Derived.Test.YtikmdhhbamggfaaGreatDoorCalmZ
set_option linter.unusedVariables false
set_option linter.unusedSimpArgs false
namespace Go.Proofs.YtikmdhhbamggfaaGreatDoor
open Go.RowKit
open Ux (Ent SameE okT cmpB slt)
set_option maxHeartbeats 4000000 in
theorem keyis_big (k lv:Int) (sh bk:Bool) (ru a:ByteArray) (w:World) (hT:Tabs w) (h1:a.size≤140737488355328) (h:200<a.size):
 Calls Tryz.prog 6 #[.int .i64 k,.int .i64 lv,.bool sh,.bool bk,.string ru,.string a] w fun e w'=>e= .returned (.bool true)∧Ux.Touch (fun _=>False) w w':=by
 have AW:=Lib.hid (awake9_ w hT)
 obtain ⟨n1,e1⟩: ∃n,a.size=n:=⟨_,rfl⟩
 have g1:(n1:Int)≤140737488355328:=by omega
 have g3:((n1:Int)>200):=by omega
 clear hT h1 h
 go_enter Tryz.func6,Tryz.ntmps6
 go_wp2_with (go_at_call 24;fail)
 refine AW.out.mono ?_
 rintro e w7 ⟨rfl,T7⟩
 have H7:=Lib.hid T7
 clear T7
 go_wp2
 go_returns
 exact ⟨rfl,H7.out⟩
set_option maxHeartbeats 16000000 in
set_option maxRecDepth 100000 in
theorem keyis_ (k lv:Int) (sh bk:Bool) (ru a:ByteArray) (w:World) (hT:Tabs w) (ha:a.size≤200):
 Calls Tryz.prog 6 #[.int .i64 k,.int .i64 lv,.bool sh,.bool bk,.string ru,.string a] w fun e w'=>e= .returned (.bool true)∧Ux.Touch (fun _=>False) w w':=by
 have AW:=Lib.hid fun W (T:Ux.Touch (fun _=>False) w W)=>awake9_ W (hT.touch T)
 have HM:=Lib.hid (madeC_ k lv sh bk ru w hT)
 have HT:=Lib.hid hT
 obtain ⟨n1,e1⟩: ∃n,a.size=n:=⟨_,rfl⟩
 have g1: ¬((n1:Int)>200):=by omega
 have HS:=Lib.hid ha
 clear hT ha
 go_enter Tryz.func6,Tryz.ntmps6
 go_wp2_with (go_at_call 16;fail)
 refine HM.out.mono ?_
 rintro e w1 ⟨kd,LN,sh,bk,tb,u,E,T,rfl,hM,T1⟩
 obtain ⟨xa,xn,xc,rfl⟩:=hM.shape
 unfold cV rcV
 obtain ⟨W1,hW1⟩: ∃W,(w1.alloc (.cells #[.int .i64 kd,.int .i64 (LN:Nat),.bool sh,.bool bk,.pointer tb] 25)).alloc (.cells #[.int .i64 kd,.int .i64 (LN:Nat),.bool sh,.bool bk,.slice xa xn xc] 30)=W:=⟨_,rfl⟩
 have t1:Ux.Touch (fun _=>False) w1 W1:=by rw [←hW1];exact ((Ux.Touch.refl _ _).alloc _).alloc _
 obtain ⟨q1,hq1⟩: ∃q,w1.heap.size=q:=⟨_,rfl⟩
 have r1:W1.heap[q1]? =some (.cells #[.int .i64 kd,.int .i64 (LN:Nat),.bool sh,.bool bk,.pointer tb] 25 (0,0)):=by rw [←hW1,←hq1];exact ((Ux.Touch.refl (fun _=>False) _).alloc _).heap (heap_alloc_new w1 _) (fun f=>f)
 have r2:W1.heap[q1+1]? =some (.cells #[.int .i64 kd,.int .i64 (LN:Nat),.bool sh,.bool bk,.slice xa xn xc] 30 (0,0)):=by
  rw [←hW1,←hq1]
  have:=heap_alloc_new (w1.alloc (.cells #[.int .i64 kd,.int .i64 (LN:Nat),.bool sh,.bool bk,.pointer tb] 25)) (.cells #[.int .i64 kd,.int .i64 (LN:Nat),.bool sh,.bool bk,.slice xa xn xc] 30)
  rwa [World.size_alloc] at this
 have TW1:=T1.trans t1 fun _ _ f=>f
 have hM1:=hM.touch t1
 obtain ⟨S,hS⟩: ∃S,W1.heap.size=S:=⟨_,rfl⟩
 have hqS:q1+1<S:=by rw [←hS];exact Ux.lt_of_heap r2
 have HCA:=Lib.hid fun W (T:Ux.Touch (fun b=>b=S+1) W1 W)=>And.intro (CAt.of (T.heap r1 (fun e=>by omega))) (RAtG.of (T.heap r2 (fun e=>by omega)))
 have H1:=Lib.hid (And.intro TW1 (And.intro hM1 (show w.heap.size≤S by rw [←hS];exact TW1.size)))
 have HW1:=Lib.hid (And.intro hW1 hq1)
 have hka:=hM1.keylen a (by have:=HS.out;omega)
 have HTF:Hid (∀W,Ux.Touch (fun b=>b=S+1) W1 W→Ux.Touch (fun _=>False) w W):=Lib.hid fun W t=>TW1.trans (R:=fun _=>False) t fun b hb e=>by have:=TW1.size;omega
 have HKA:=Lib.hid fun W (t:Ux.Touch (fun _=>False) W1 W)=>skey_ kd (LN:Nat) sh bk tb E a W (by have:=HS.out;omega) (HT.out.touch (TW1.trans t fun _ _ f=>f)) (hM1.tab.touch t) hka
 have HTX:=Lib.hid fun W (t:Ux.Touch (fun _=>False) W1 W) (hst:StrAt W S (S+1) kd (LN:Nat) sh bk tb a)=>text9_ kd (LN:Nat) sh bk tb E a W S (S+1) hst (by have:=HS.out;omega) (HT.out.touch (TW1.trans t fun _ _ f=>f)) (hM1.tab.touch t) hka
 have HRK:=Lib.hid fun W (t:Ux.Touch (fun b=>b=S+1) W1 W)=>rkey_ kd (LN:Nat) (fun e=>by have:=hM1.lv e;omega) sh bk (.slice xa xn xc) T _ a W ⟨_,_,_,rfl⟩ (fun e=>⟨((hM1.rows e).1).touchB t (fun g hg _ h=>by omega),hM1.same.ok hM1.okE,(hM1.rows e).2⟩) (by have:=HS.out;omega)
 have HST:=Lib.hid fun W=>stream_ kd (LN:Nat) sh bk tb a W
 rw [←hM1.key a] at HRK
 obtain ⟨KA,hKA⟩: ∃KA,keyP kd (LN:Nat) sh bk tb E a=KA:=⟨_,rfl⟩
 rw [hKA] at HKA HTX HRK
 unfold cV at HKA HST
 unfold rcV at HRK
 have hnn:=neq_nil
 have q0:(KA.toList==KA.toList)=true:=by simp
 have HSS:=Lib.hid hS
 clear hM T1 t1 r1 r2 TW1 hW1 hq1 hM1 hka hKA hS hqS
 go_upto_region 6 with (fail)
 rw [HW1.out.1,HW1.out.2]
 obtain ⟨⟨x0,x1,x2,x3,x4⟩,-⟩:=HCA.out W1 (Ux.Touch.refl _ _)
 go_wp2_with (go_at_call 25;fail)
 refine (HST.out W1).mono ?_
 rintro e w4 ⟨rfl,hw4⟩
 have hst:StrAt w4 S (S+1) kd (LN:Nat) sh bk tb a:=by rw [hw4,←HSS.out];exact StrAt.made _ _ _ _ _ _ _
 have T4w:=Lib.hid (show Ux.Touch (fun _=>False) W1 w4 by rw [hw4];exact ((Ux.Touch.refl _ _).alloc _).alloc _)
 rw [HSS.out]
 have H4:=Lib.hid hst
 clear hst hw4 x0 x1 x2 x3 x4
 unfold strV
 obtain ⟨⟨x0,x1,x2,x3,x4⟩,⟨y0,y1,y2,y3,y4⟩⟩:=HCA.out w4 (T4w.out.mono fun _ _ f=>f.elim)
 go_upto_region 9 with (fail)
 refine Ux.wpr (fun _ w'=>(w'.cell? ⟨q1,0,none⟩=some (.int .i64 kd)∧w'.cell? ⟨q1,1,none⟩=some (.int .i64 (LN:Nat))∧w'.cell? ⟨q1,2,none⟩=some (.bool sh)∧w'.cell? ⟨q1,3,none⟩=some (.bool bk)∧w'.cell? ⟨q1,4,none⟩=some (.pointer tb))∧(w'.cell? ⟨q1+1,0,none⟩=some (.int .i64 kd)∧w'.cell? ⟨q1+1,1,none⟩=some (.int .i64 (LN:Nat))∧w'.cell? ⟨q1+1,2,none⟩=some (.bool sh)∧w'.cell? ⟨q1+1,3,none⟩=some (.bool bk)∧w'.cell? ⟨q1+1,4,none⟩=some (.slice xa xn xc))) (.h false [0,3] (.q [1,4] (.e 2 true false (.e 5 true false (.q [6,7,8,11] (.h false [10] (.e 9 true false (.e 12 true false (.q [13,14,15] (.e 16 true false (.q [17] (.line [18])))))))))))) ?_;repeat ((with_reducible refine Ux.qg ?_);refine Ux.qu ?_)
 go_wp2_with (go_at_call 26;fail)
 refine (HKA.out _ (by first|exact T4w.out.drew|exact T4w.out)).mono ?_
 rintro e w5 ⟨rfl,T5⟩
 have T5w:=Lib.hid (show Ux.Touch (fun _=>False) W1 w5 from T4w.out.drew.trans T5 fun _ _ f=>f)
 have T45:=Lib.hid (show Ux.Touch (fun _=>False) w4 w5 from ((Ux.Touch.refl (fun _=>False) w4).drew).trans T5 fun _ _ f=>f)
 clear T5 x0 x1 x2 x3 x4 y0 y1 y2 y3 y4
 go_wp2_with (fail)
 refine ⟨HCA.out _ (by first|exact T9w.out|exact T8w.out|exact T7w.out|exact T6w.out.mono (fun _ _ f=>f.elim)|exact T5w.out.mono (fun _ _ f=>f.elim)),?_⟩
 go_wp2_with (go_at_call 27;fail)
 refine (HRK.out w5 (T5w.out.mono fun _ _ f=>f.elim)).mono ?_
 rintro e w6 ⟨rfl,T6⟩
 have T6w:=Lib.hid (T5w.out.trans T6 fun _ _ f=>f)
 have T46:=Lib.hid (T45.out.trans T6 fun _ _ f=>f)
 clear T6
 go_wp2_with (fail)
 refine ⟨HCA.out _ (by first|exact T9w.out|exact T8w.out|exact T7w.out|exact T6w.out.mono (fun _ _ f=>f.elim)|exact T5w.out.mono (fun _ _ f=>f.elim)),?_⟩
 repeat ((with_reducible refine Ux.qg ?_);refine Ux.qu ?_)
 repeat ((with_reducible refine Ux.qg ?_);refine Ux.qu ?_)
 go_wp2_with (go_at_call 28;fail)
 refine (HTX.out w6 T6w.out ⟨T46.out.heap H4.out.c (fun f=>f),let ⟨x,h1,h2⟩:=H4.out.b;⟨x,T46.out.heap h1 (fun f=>f),h2⟩⟩).mono ?_
 rintro e w7 ⟨rfl,_,T7⟩
 have T7w:=Lib.hid ((T6w.out.mono (fun _ _ f=>f.elim):Ux.Touch (fun b=>b=S+1) W1 w6).trans T7 fun _ _ e=>e)
 clear T7
 go_wp2_with (fail)
 refine ⟨HCA.out _ (by first|exact T9w.out|exact T8w.out|exact T7w.out|exact T6w.out.mono (fun _ _ f=>f.elim)|exact T5w.out.mono (fun _ _ f=>f.elim)),?_⟩
 go_wp2_with (go_at_call 27;fail)
 refine (HRK.out w7 T7w.out).mono ?_
 rintro e w8 ⟨rfl,T8⟩
 have T8w:=Lib.hid (T7w.out.trans T8 fun _ _ f=>f.elim)
 clear T8
 go_wp2_with (fail)
 refine ⟨HCA.out _ (by first|exact T9w.out|exact T8w.out|exact T7w.out|exact T6w.out.mono (fun _ _ f=>f.elim)|exact T5w.out.mono (fun _ _ f=>f.elim)),?_⟩
 repeat ((with_reducible refine Ux.qg ?_);refine Ux.qu ?_)
 go_wp2_with (go_at_call 24;fail)
 refine (AW.out w8 (HTF.out w8 T8w.out)).mono ?_
 rintro e w9 ⟨rfl,T9⟩
 have T9w:=Lib.hid (T8w.out.trans T9 fun _ _ f=>f.elim)
 clear T9
 go_wp2_with (fail)
 refine ⟨HCA.out _ (by first|exact T9w.out|exact T8w.out|exact T7w.out|exact T6w.out.mono (fun _ _ f=>f.elim)|exact T5w.out.mono (fun _ _ f=>f.elim)),?_⟩
 repeat ((with_reducible refine Ux.qg ?_);refine Ux.qu ?_)
 go_wp2
 go_returns
 exact ⟨rfl,HTF.out _ T9w.out⟩
theorem keyisLaw_ (k lv:Int) (sh bk:Bool) (ru a:ByteArray) (w:World) (hT:Tabs w) (_h0:ru.size≤140737488355328) (h1:a.size≤140737488355328):
 Calls Tryz.prog 6 #[.int .i64 k,.int .i64 lv,.bool sh,.bool bk,.string ru,.string a] w fun e w'=>e= .returned (.bool true)∧Ux.Touch (fun _=>False) w w':=by
 by_cases h:200<a.size
 ·exact keyis_big k lv sh bk ru a w hT h1 h
 ·exact keyis_ k lv sh bk ru a w hT (by omega)
end Go.Proofs.YtikmdhhbamggfaaGreatDoor
