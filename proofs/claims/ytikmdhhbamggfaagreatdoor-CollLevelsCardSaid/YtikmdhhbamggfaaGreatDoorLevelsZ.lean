/- A part of the proof that the statement holds for every input that it names. No other condition. -/
import Derived.Test.YtikmdhhbamggfaaGreatDoorMake9Z
set_option linter.unusedVariables false
set_option linter.unusedSimpArgs false
namespace Go.Proofs.YtikmdhhbamggfaaGreatDoor
open Go.RowKit
open Ux (Ent SameE okT wghC)
theorem wghC_step (sh bk:Bool) (a b:List Nat): ∀(n lv:Nat),wghC sh bk a b lv n≠0→wghC sh bk a b lv (n+1)=wghC sh bk a b lv n
 |0,lv,h=>absurd rfl h
 |n+1,lv,h=>by
  conv=>lhs;unfold wghC
  conv=>rhs;unfold wghC
  by_cases hc:Ux.cmpL (Ux.sv (Ux.wts sh bk lv a)) (Ux.sv (Ux.wts sh bk lv b))≠0
  ·rw [if_pos hc,if_pos hc]
  ·rw [if_neg hc,if_neg hc]
   refine wghC_step sh bk a b n (lv+1) fun h0=>h ?_
   unfold wghC
   rw [if_neg hc]
   exact h0
theorem lvN_is {i:Nat} (h:i<3):lvN (i:Int)=i+1:=by
 have hc:i=0∨i=1∨i=2:=by omega
 rcases hc with rfl|rfl|rfl<;>(unfold lvN;decide+kernel)
set_option maxHeartbeats 4000000 in
theorem levels_big (sh:Bool) (ru a b:ByteArray) (w:World) (hT:Tabs w) (h1:a.size≤140737488355328) (h2:b.size≤140737488355328) (h:300<a.size+b.size):
 Calls Tryz.prog 4 #[.string ru,.bool sh,.string a,.string b] w fun e w'=>e= .returned (.bool true)∧Ux.Touch (fun _=>False) w w':=by
 have AW:=Lib.hid (awake8_ w hT)
 obtain ⟨n1,e1⟩: ∃n,a.size=n:=⟨_,rfl⟩
 obtain ⟨n2,e2⟩: ∃n,b.size=n:=⟨_,rfl⟩
 rw [e1,e2] at h
 rw [e1] at h1
 rw [e2] at h2
 have g1:(n1:Int)≤140737488355328:=by omega
 have g2:(n2:Int)≤140737488355328:=by omega
 have g4:((n1:Int)+n2>300):=by omega
 clear hT h1 h2 h
 go_enter Tryz.func4,Tryz.ntmps4
 go_wp2_with (go_at_call 15;fail)
 refine AW.out.mono ?_
 rintro e w7 ⟨rfl,T7⟩
 have H7:=Lib.hid T7
 clear T7
 go_wp2
 go_returns
 exact ⟨rfl,H7.out⟩
set_option maxHeartbeats 16000000 in
set_option maxRecDepth 100000 in
theorem levels_ (sh:Bool) (ru a b:ByteArray) (w:World) (hT:Tabs w) (hs:a.size+b.size≤300):
 Calls Tryz.prog 4 #[.string ru,.bool sh,.string a,.string b] w fun e w'=>e= .returned (.bool true)∧Ux.Touch (fun _=>False) w w':=by
 have AW:=Lib.hid fun W (T:Ux.Touch (fun _=>False) w W)=>awake8_ W (hT.touch T)
 have HT:=Lib.hid hT
 obtain ⟨n1,e1⟩: ∃n,a.size=n:=⟨_,rfl⟩
 obtain ⟨n2,e2⟩: ∃n,b.size=n:=⟨_,rfl⟩
 have g1:(n1:Int)≤300:=by omega
 have g2:(n2:Int)≤300:=by omega
 have g4: ¬((n1:Int)+n2>300):=by omega
 have HS:=Lib.hid hs
 obtain ⟨KF,hKF⟩: ∃KF:Nat→Int,wghC sh false (elB (tabOf ru) a) (elB (tabOf ru) b) 1=KF:=⟨_,rfl⟩
 have HKF:=Lib.hid hKF
 have hk0:KF 0=0:=by rw [←hKF];rfl
 have hkst: ∀i,KF i≠0→KF (i+1)=KF i:=fun i h=>by
  rw [←hKF] at h⊢
  exact wghC_step _ _ _ _ _ _ h
 have HKS:=Lib.hid (And.intro hk0 hkst)
 clear hT hs hKF hk0 hkst
 go_enter Tryz.func4,Tryz.ntmps4
 go_wp2_with (fail)
 go_loopg [9,10] 3 (fun gk s9 s10 wr=> ∃(i:Nat) (z:Int),s10= .int .i64 i∧s9= .int .i64 z∧i+gk=3∧Hid (z=KF i∧Ux.Touch (fun _=>False) w wr))
 case atStart=>exact ⟨0,0,rfl,rfl,rfl,Lib.hid ⟨HKS.out.1.symm,Ux.Touch.refl _ _⟩⟩
 case round=>
  obtain ⟨i,z,rfl,rfl,hig,HI⟩:=hrel
  have i0:(0:Int)≤i:=by omega
  by_cases hin:i<3
  ·obtain ⟨g',rfl⟩: ∃g',gk=g'+1:=⟨gk-1,by omega⟩
   have i1:(i:Int)<3:=by omega
   have hm:=make9_ 3 (i:Int) (by decide) sh false ru wr (HT.out.touch HI.out.2)
   rw [lvN_is hin] at hm
   have HM:=Lib.hid hm
   clear hm hin
   go_wp2_with (go_at_call 16;fail)
   refine HM.out.mono ?_
   rintro e w1 ⟨B,mb,u,E,rfl,hTA,hSE,hTL,hR,T1⟩
   obtain ⟨_,xa,xc,hu,_⟩:=hR
   obtain ⟨xn,hxn⟩: ∃n,(tabOf ru).length=n:=⟨_,rfl⟩
   rw [hxn] at hu
   subst hu
   obtain ⟨LN,hLN⟩: ∃n,i+1=n:=⟨_,rfl⟩
   rw [hLN]
   unfold cV rcV
   obtain ⟨W1,hW1⟩: ∃W,(w1.alloc (.cells #[.int .i64 3,.int .i64 (LN:Nat),.bool sh,.bool false,.pointer (some ⟨B,0,none⟩)] 25)).alloc (.cells #[.int .i64 3,.int .i64 (LN:Nat),.bool sh,.bool false,.slice xa xn xc] 30)=W:=⟨_,rfl⟩
   have t1:Ux.Touch (fun _=>False) w1 W1:=by rw [←hW1];exact ((Ux.Touch.refl _ _).alloc _).alloc _
   obtain ⟨q1,hq1⟩: ∃q,w1.heap.size=q:=⟨_,rfl⟩
   have r1:W1.heap[q1]? =some (.cells #[.int .i64 3,.int .i64 (LN:Nat),.bool sh,.bool false,.pointer (some ⟨B,0,none⟩)] 25 (0,0)):=by rw [←hW1,←hq1];exact ((Ux.Touch.refl (fun _=>False) _).alloc _).heap (heap_alloc_new w1 _) (fun f=>f)
   have TW1:=HI.out.2.trans (T1.trans t1 fun _ _ f=>f) fun _ _ f=>f
   have hcc:=ccmp_ 3 (LN:Nat) sh false (some ⟨B,0,none⟩) E a b W1 (fun _ p hp=>by cases hp;exact ⟨B,mb,rfl,hTA.touch0 t1⟩) (HT.out.touch TW1) (by have:=HS.out;omega) (by have:=HS.out;omega)
   have hel: ∀x,elB E x=elB (tabOf ru) x:=fun x=>by
    unfold elB
    exact Ux.elemsE_congr (Ux.findE_perm hTA.1.1.1 hSE.1) _
   have hcv:cmpC 3 (LN:Nat) sh false (some ⟨B,0,none⟩) E a b=KF LN:=by
    unfold cmpC
    rw [ok3 LN (by omega) _,if_pos rfl,if_pos rfl,hel a,hel b,Int.toNat_natCast]
    exact congrFun HKF.out LN
   rw [hcv,←hLN] at hcc
   obtain ⟨z',hz'⟩: ∃z,KF (i+1)=z:=⟨_,rfl⟩
   rw [hz'] at hcc
   have HCC:=Lib.hid hcc
   have HZ:=Lib.hid (And.intro hz' hLN)
   have H1:=Lib.hid TW1
   have HW1:=Lib.hid (And.intro hW1 hq1)
   obtain ⟨x0,x1,x2,x3,x4⟩:=CAt.of r1
   clear hTA hSE hTL T1 t1 r1 TW1 hW1 hq1 hcc hel hcv hxn hz' hLN
   have HCC2:=HCC.out
   rw [HZ.out.2] at HCC2
   unfold cV at HCC2
   have HC:=Lib.hid HCC2
   clear HCC HCC2
   go_upto_region 10 with (fail)
   rw [HW1.out.1,HW1.out.2]
   go_wp2_with (go_at_call 17;fail)
   refine HC.out.mono ?_
   rintro e w2 ⟨rfl,T2⟩
   have H2:=Lib.hid (H1.out.trans T2 fun _ _ f=>f)
   clear T2 x0 x1 x2 x3 x4
   by_cases h0:z=0
   ·subst h0
    go_wp2_with (fail)
    go_roundg g'
    case measure=>omega
    case rel=>exact ⟨i+1,z',rfl,rfl,by omega,Lib.hid ⟨HZ.out.1.symm,H2.out⟩⟩
   ·have hzz:z'=z:=by
     rw [←HZ.out.1,HI.out.1]
     exact HKS.out.2 i (by rw [←HI.out.1];exact h0)
    subst hzz
    have k0:(z'==0)=false:=beq_false_of_ne h0
    have k1:(z' !=0)=true:=by show (!(z'==0))=true;rw [k0];rfl
    have k2:(z' !=z')=false:=by simp
    clear h0
    go_wp2_with (fail)
    go_roundg g'
    case measure=>omega
    case rel=>exact ⟨i+1,z',rfl,rfl,by omega,Lib.hid ⟨HZ.out.1.symm,H2.out⟩⟩
  ·have i1: ¬((i:Int)<3):=by omega
   clear hin
   go_wp2_with (go_at_call 15;fail)
   refine (AW.out wr HI.out.2).mono ?_
   rintro e w7 ⟨rfl,T7⟩
   have H7:=Lib.hid (HI.out.2.trans T7 fun _ _ f=>f)
   clear T7
   go_wp2_with (fail)
   go_returns
   exact ⟨rfl,H7.out⟩
theorem levelsLaw_ (ru:ByteArray) (sh:Bool) (a b:ByteArray) (w:World) (hT:Tabs w) (_h0:ru.size≤140737488355328) (h1:a.size≤140737488355328) (h2:b.size≤140737488355328):
 Calls Tryz.prog 4 #[.string ru,.bool sh,.string a,.string b] w fun e w'=>e= .returned (.bool true)∧Ux.Touch (fun _=>False) w w':=by
 by_cases h:300<a.size+b.size
 ·exact levels_big sh ru a b w hT h1 h2 h
 ·exact levels_ sh ru a b w hT (by omega)
end Go.Proofs.YtikmdhhbamggfaaGreatDoor
