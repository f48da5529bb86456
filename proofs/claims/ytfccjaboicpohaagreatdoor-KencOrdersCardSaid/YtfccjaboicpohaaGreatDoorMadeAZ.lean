/- A part of the proof that the statement holds for every input that it names. No other condition. -/
import Derived.Test.YtfccjaboicpohaaGreatDoorUxKeyAZ
import Derived.Lib.OwnKind
import Derived.Test.YtfccjaboicpohaaGreatDoorRcollAZ
import Derived.Test.YtfccjaboicpohaaGreatDoorStrmAZ
set_option linter.unusedVariables false
set_option linter.unusedSimpArgs false
namespace Go.Proofs.YtfccjaboicpohaaGreatDoor
open Go.RowKit
open Ux (Row iv sv bv Ent wts okT Grow encW sepW keyL)
theorem row_apart {w:World} {lo lo':Nat} {v1 v2:Value} {xs ys:List Value} (h1:Grow w lo 5 v1 xs) (h2:Row w lo' 3 v2 ys): ∀b,lo'≤b→v2.ownBlock=some b→¬(lo≤b∧v1.ownBlock=some b):=fun b _ hb ⟨_,hb1⟩=>by
 obtain ⟨c,fz,hc⟩:=Go.Lib.ownsRow_kind h1.1 b hb1
 rcases h2 with ⟨rfl,_⟩|⟨g,cap,cur,rfl,_,hr,_⟩
 ·cases hb
 ·cases hb
  rw [hr] at hc
  cases hc
def rkeyC (kd lv:Int) (sh bk:Bool) (T:List Ent) (b:ByteArray):ByteArray:=
 if kd=2 then ftB b else if kd=3 then ⟨(keyL sh bk (elB T b) lv.toNat).toArray⟩ else b
set_option maxHeartbeats 8000000 in
set_option maxRecDepth 100000 in
theorem rkey_ (kd LI:Int) (hlv:kd=3→0≤LI∧LI≤3) (sh bk:Bool) (u:Value) (T:List Ent) (A:Nat→Prop) (b:ByteArray) (w:World) (hu: ∃x n c,u= .slice x n c) (hT:kd=3→RRows w A u T∧okT T∧T.length≤1000) (hb:b.size≤1000000):
 Calls Tryz.prog 90 #[rcV kd LI sh bk u,.string b] w fun e w'=>e= .returned (.string (rkeyC kd LI sh bk T b))∧Ux.Touch (fun _=>False) w w':=by
 obtain ⟨xu,nu,cu,rfl⟩:=hu
 obtain ⟨q,hq⟩: ∃q,w.heap.size=q:=⟨_,rfl⟩
 have hb1:(w.alloc (.cells #[.int .i64 kd,.int .i64 LI,.bool sh,.bool bk,.slice xu nu cu] 68)).heap[q]? =some (.cells #[.int .i64 kd,.int .i64 LI,.bool sh,.bool bk,.slice xu nu cu] 68 (0,0)):=by rw [←hq];exact heap_alloc_new w _
 have T1:Ux.Touch (fun _=>False) w (w.alloc (.cells #[.int .i64 kd,.int .i64 LI,.bool sh,.bool bk,.slice xu nu cu] 68)):=(Ux.Touch.refl _ _).alloc _
 obtain ⟨W1,hW1⟩: ∃W,w.alloc (.cells #[.int .i64 kd,.int .i64 LI,.bool sh,.bool bk,.slice xu nu cu] 68)=W:=⟨_,rfl⟩
 rw [hW1] at hb1 T1
 have cells: ∀W,Ux.Touch (fun _=>False) W1 W→W.cell? ⟨q,0,none⟩=some (.int .i64 kd)∧W.cell? ⟨q,1,none⟩=some (.int .i64 LI)∧W.cell? ⟨q,2,none⟩=some (.bool sh)∧W.cell? ⟨q,3,none⟩=some (.bool bk)∧W.cell? ⟨q,4,none⟩=some (.slice xu nu cu):=fun W TW=>by
  have h:=TW.heap hb1 (fun f=>f)
  refine ⟨?_,?_,?_,?_,?_⟩
  ·rw [cell_of_row W q 0 _ _ (0,0) h];rfl
  ·rw [cell_of_row W q 1 _ _ (0,0) h];rfl
  ·rw [cell_of_row W q 2 _ _ (0,0) h];rfl
  ·rw [cell_of_row W q 3 _ _ (0,0) h];rfl
  ·rw [cell_of_row W q 4 _ _ (0,0) h];rfl
 have HC:=Lib.hid cells
 have HW:=Lib.hid (And.intro hW1 hq)
 have H1:=Lib.hid T1
 clear hb1 T1 cells hW1 hq
 unfold rkeyC rcV
 by_cases k2:kd=2
 ·subst k2
  rw [if_pos rfl]
  have HA:=Lib.hid fun W=>rft_ b W (by omega)
  have ha2:(⟨(Ux.Sign.foldText b.data.toList).toArray⟩:ByteArray)=ftB b:=rfl
  rw [ha2] at HA
  clear hT hb ha2 hlv
  obtain ⟨c0,-⟩:=HC.out W1 (Ux.Touch.refl _ _)
  go_enter Tryz.func90,Tryz.ntmps90
  go_upto_region 1 with (fail)
  rw [HW.out.1,HW.out.2]
  go_wp2_with (go_at_call 128;fail)
  refine (HA.out W1).mono ?_
  rintro e w2 ⟨rfl,T2⟩
  have H2:=Lib.hid (H1.out.trans T2 fun _ _ f=>f)
  clear T2 c0
  go_wp2
  go_returns
  exact ⟨rfl,H2.out⟩
 ·rw [if_neg k2]
  have q2:(kd==2)=false:=by simpa using k2
  by_cases k3:kd=3
  ·subst k3
   rw [if_pos rfl]
   obtain ⟨hR,hok,hn⟩:=hT rfl
   have hlv3:=hlv rfl
   obtain ⟨lv,hlvN⟩: ∃lv:Nat,LI.toNat=lv:=⟨_,rfl⟩
   have hLI:(lv:Int)=LI:=by omega
   have hlv:lv≤3:=by omega
   rw [hlvN]
   have HWT:=Lib.hid fun (k:Nat) (hk:k=1∨k=2∨k=3) W (TW:Ux.Touch (fun _=>False) w W)=>rwtsR_ LI sh bk (.slice xu nu cu) T A b k hk W (hR.touch0 TW) hok hn hb
   have HLN:Hid (∀(x:Nat),(wts sh bk x (elB T b)).length≤10000000):=Lib.hid fun x=>by
    have:=Ux.wts_len sh bk x (elB T b)
    have:=(elB_ok hok b).1
    omega
   have HLE:Hid ((elB T b).length≤10000000):=Lib.hid (by have:=(elB_ok hok b).1;omega)
   have HS:=Lib.hid (And.intro hlv hLI)
   have l3:LI≤3:=by omega
   have l0:0≤LI:=by omega
   clear hT hR hok hn hb hLI k2 q2 hlv3 hlvN hlv
   unfold rcV at HWT
   obtain ⟨c0,c1,-⟩:=HC.out W1 (Ux.Touch.refl _ _)
   go_enter Tryz.func90,Tryz.ntmps90
   go_upto_region 1 with (fail)
   rw [HW.out.1,HW.out.2]
   go_upto_region 5 with (fail)
   clear c0
   go_wp2_with (fail)
   go_loopg [5,6] lv (fun gk s5 s6 wr=> ∃k:Nat,s6= .int .i64 (k+1:Nat)∧k+gk=lv∧wr.cell? ⟨q,1,none⟩=some (.int .i64 LI)∧Hid (Grow wr W1.heap.size 5 s5 (bv (keyL sh bk (elB T b) k))∧Ux.Touch (fun _=>False) W1 wr))
   case atStart=>exact ⟨0,rfl,by omega,c1,Lib.hid ⟨Grow.nil _ _ _,Ux.Touch.refl _ _⟩⟩
   case round=>
    clear c1
    obtain ⟨k,rfl,hkg,c1,HI⟩:=hrel
    have p0:(0:Int)≤k:=by omega
    have pc:((k+1:Nat):Int)=(k:Int)+1:=by omega
    rw [pc]
    by_cases hle:k<lv
    ·obtain ⟨g',rfl⟩: ∃g',gk=g'+1:=⟨gk-1,by omega⟩
     have p1:(k:Int)+1≤LI:=by have:=HS.out.2;omega
     have HK:Hid (k+1=1∨k+1=2∨k+1=3):=Lib.hid (by have:=HS.out.1;omega)
     obtain ⟨B2,hB2⟩: ∃B,((k:Int)+1==2)=B:=⟨_,rfl⟩
     obtain ⟨B3,hB3⟩: ∃B,((k:Int)+1==3)=B:=⟨_,rfl⟩
     obtain ⟨B1,hB1⟩: ∃B,((k:Int)+1==1)=B:=⟨_,rfl⟩
     have hse:sepW (k+1)=(if B2=true then [0,0] else [])++(if B3=true then [0] else []):=by
      have hk3:=HK.out
      rw [←hB2,←hB3]
      rcases hk3 with h|h|h
      ·obtain rfl:k=0:=by omega
       rfl
      ·obtain rfl:k=1:=by omega
       rfl
      ·obtain rfl:k=2:=by omega
       rfl
     have hec: ∀x:Nat,encW (k+1) x=(if B1=true then [UInt8.ofNat (x/256)] else [])++ [UInt8.ofNat x]:=by
      have hk3:=HK.out
      intro x
      rw [←hB1]
      rcases hk3 with h|h|h
      ·obtain rfl:k=0:=by omega
       rfl
      ·obtain rfl:k=1:=by omega
       rfl
      ·obtain rfl:k=2:=by omega
       rfl
     have HSE:=Lib.hid (And.intro hse hec)
     have HKL:Hid ((keyL sh bk (elB T b) k).length≤100000000):=Lib.hid (by
      have h1:=Ux.keyL_len sh bk (elB T b) k
      have h2:=HLE.out
      have h3:=HS.out.1
      have h4:k*(2+2*(elB T b).length)≤3*(2+2*(elB T b).length):=Nat.mul_le_mul_right _ (by omega)
      omega)
     obtain ⟨r2,w2,run2,hG2,t2⟩:=appB HI.out.1 2 [.int .u8 0,.int .u8 0] rfl (by simp [Value.oneCell']) HI.out.2.size (by rw [Ux.bv_length];have:=HKL.out;omega)
     have R2:=Lib.hid run2
     have HG2:=Lib.hid (And.intro hG2 t2)
     obtain ⟨a5,n5,m5,rfl,_⟩:=HI.out.1.is
     clear hle hse hec run2 hG2 t2
     go_upto_if 24 with (fail)
     go_cut [5] (fun s5' wx=>Hid (Grow wx W1.heap.size 5 s5' (bv (keyL sh bk (elB T b) k++(if B2=true then [0,0] else [])))∧Ux.Touch (fun _=>False) W1 wx))
     case first=>
      cases B2 with
      |false=>
       go_wp2_with (fail)
       go_meet
       exact Lib.hid ⟨by rw [if_neg (by simp),List.append_nil];exact HI.out.1,HI.out.2⟩
      |true=>
       go_wp2_with (at_builtin;refine Ux.wpList_app (v1:= .slice a5 n5 m5) (x1:= .slice (some ⟨_,0,none⟩) 2 2) rfl _ _ _ _ rfl rfl rfl (R2.out _) ?_)
       go_meet
       refine Lib.hid ⟨?_,Ux.Touch.own HI.out.2 (Nat.le_refl _) HG2.out.2⟩
       rw [Ux.bv_append]
       first|rw [if_pos rfl]|rw [if_pos trivial]
       exact HG2.out.1
     obtain ⟨w3,hw3⟩: ∃W,wc=W:=⟨_,rfl⟩
     rw [hw3] at hcut⊢
     clear hw3 R2 HG2
     have H3:=Lib.hid hcut
     obtain ⟨r4,w4,run4,hG4,t4⟩:=appB hcut.out.1 1 [.int .u8 0] rfl (by simp [Value.oneCell']) hcut.out.2.size (by rw [Ux.bv_length,List.length_append];have:=HKL.out;have h2:(if B2=true then ([0,0]:List UInt8) else []).length≤2:=(by split<;>simp);omega)
     have R4:=Lib.hid run4
     have HG4:=Lib.hid (And.intro hG4 t4)
     obtain ⟨a6,n6,m6,rfl,_⟩:=hcut.out.1.is
     clear hcut run4 hG4 t4
     go_upto_if 29 with (fail)
     go_cut [5] (fun s5' wx=>Hid (Grow wx W1.heap.size 5 s5' (bv (keyL sh bk (elB T b) k++sepW (k+1)))∧Ux.Touch (fun _=>False) W1 wx))
     case first=>
      cases B3 with
      |false=>
       go_wp2_with (fail)
       go_meet
       exact Lib.hid ⟨by rw [HSE.out.1,if_neg (c:=false=true) (by simp),List.append_nil];exact H3.out.out.1,H3.out.out.2⟩
      |true=>
       go_wp2_with (at_builtin;refine Ux.wpList_app (v1:= .slice a6 n6 m6) (x1:= .slice (some ⟨_,0,none⟩) 1 1) rfl _ _ _ _ rfl rfl rfl (R4.out _) ?_)
       go_meet
       refine Lib.hid ⟨?_,Ux.Touch.own H3.out.out.2 (Nat.le_refl _) HG4.out.2⟩
       rw [HSE.out.1,←List.append_assoc,Ux.bv_append (_++_)]
       first|rw [if_pos (c:=true=true) rfl]|rw [if_pos (c:=True) trivial]|skip
       exact HG4.out.1
     obtain ⟨w5,hw5⟩: ∃W,wc=W:=⟨_,rfl⟩
     rw [hw5] at hcut⊢
     clear hw5 R4 HG4 H3
     obtain ⟨a7,n7,m7,rfl,_⟩:=hcut.out.1.is
     have H5:=Lib.hid hcut.out
     clear hcut
     obtain ⟨c0,c1,c2,c3,c4⟩:=HC.out _ H5.out.2
     go_wp2_with (go_at_call 130;fail)
     have hWR:=HWT.out (k+1) HK.out w5 (H1.out.trans H5.out.2 fun _ _ f=>f)
     rw [pc] at hWR
     refine hWR.mono ?_
     rintro e w6 ⟨v6,rfl,hv6,T6⟩
     obtain ⟨ws,hws⟩: ∃ws,wts sh bk (k+1) (elB T b)=ws:=⟨_,rfl⟩
     rw [hws] at hv6
     have hwl:ws.length≤10000000:=by rw [←hws];exact HLN.out _
     obtain ⟨P,hP⟩: ∃P,keyL sh bk (elB T b) k++sepW (k+1)=P:=⟨_,rfl⟩
     have hkn:keyL sh bk (elB T b) (k+1)=P++ws.flatMap (encW (k+1)):=by rw [←hP,←hws];rfl
     rw [hP] at H5
     have hv6':=hv6
     obtain ⟨a8,c8,rfl,_⟩:=hv6.is
     rw [Ux.iv_length,Ux.sv_length] at hv6'⊢
     obtain ⟨n,hn⟩: ∃n,ws.length=n:=⟨_,rfl⟩
     rw [hn] at hv6' hwl⊢
     have H6:=Lib.hid (And.intro hv6' (And.intro (H5.out.1.touch0 T6) (H5.out.2.trans T6 fun _ _ f=>f)))
     have HN:=Lib.hid (And.intro hn (And.intro hkn hP))
     have hn8:(n:Int)≤10000000:=by omega
     clear hWR hv6' T6 hws hwl hkn hP hn c0 c1 c2 c3 c4
     go_wp2_with (fail)
     go_loopg [5,8] n (fun gj s5 s8 wx=> ∃i:Nat,s8= .int .i64 i∧i+gj=n∧Hid (Grow wx W1.heap.size 5 s5 (bv (P++(ws.take i).flatMap (encW (k+1))))∧Row wx w5.heap.size 3 (.slice a8 n c8) (iv (sv ws))∧Ux.Touch (fun _=>False) W1 wx))
     case atStart=>exact ⟨0,rfl,by omega,Lib.hid ⟨by rw [List.take_zero,List.flatMap_nil,List.append_nil];exact H6.out.2.1,H6.out.1,H6.out.2.2⟩⟩
     case round=>
      obtain ⟨i,rfl,hig,HJ⟩:=hrel
      have i0:(0:Int)≤i:=by omega
      by_cases hlt:i<n
      ·obtain ⟨j',rfl⟩: ∃j',gk=j'+1:=⟨gk-1,by omega⟩
       have i1:(i:Int)<n:=by omega
       obtain ⟨x,hx⟩: ∃x,ws[i]? =some x:=⟨_,List.getElem?_eq_getElem (by have:=HN.out.1;omega)⟩
       obtain ⟨gv,rfl,_,hcv⟩:=HJ.out.2.1.at (Ux.iv_get (Ux.sv_get hx))
       obtain ⟨Y,hY⟩: ∃Y,P++(ws.take i).flatMap (encW (k+1))=Y:=⟨_,rfl⟩
       have hYl:Y.length≤200000000:=by
        have h1:=Ux.flat_len (k+1) (ws.take i)
        have h2:=HKL.out
        have h3:=Ux.sepW_len (k+1)
        rw [←hY,←HN.out.2.2,List.length_append,List.length_append]
        rw [List.length_take] at h1
        omega
       rw [hY] at HJ
       have HX:=Lib.hid (And.intro (And.intro hx (Ux.flat_take (L:=k+1) hx)) (And.intro hY hYl))
       obtain ⟨a9,n9,c9,rfl,_⟩:=HJ.out.1.is
       have hv1:=Ux.high8 x
       obtain ⟨r1,w1,run1,hG1,t1⟩:=appB HJ.out.1 1 [.int .u8 (wrap64 ((x:Int)/256) % 256)] rfl (by simp [Value.oneCell']) HJ.out.2.2.size (by rw [Ux.bv_length];omega)
       rw [hv1] at hG1
       have R1:=Lib.hid run1
       have HG1:=Lib.hid (And.intro hG1 (And.intro (HJ.out.2.1.touch t1 (row_apart HJ.out.1 HJ.out.2.1)) (Ux.Touch.own HJ.out.2.2 (Nat.le_refl _) t1)))
       clear hx hY hYl hlt run1 hG1 t1 hv1
       go_upto_if 44 with (fail)
       go_cut [5] (fun s5' wy=>Hid (Grow wy W1.heap.size 5 s5' (bv (Y++(if B1=true then [UInt8.ofNat (x/256)] else [])))∧Row wy w5.heap.size 3 (.slice (some ⟨gv,0,none⟩) n c8) (iv (sv ws))∧Ux.Touch (fun _=>False) W1 wy))
       case first=>
        cases B1 with
        |false=>
         go_wp2_with (fail)
         go_meet
         exact Lib.hid ⟨by rw [if_neg (by simp),List.append_nil];exact HJ.out.1,HJ.out.2.1,HJ.out.2.2⟩
        |true=>
         go_wp2_with (at_builtin;refine Ux.wpList_app (v1:= .slice a9 n9 c9) (x1:= .slice (some ⟨_,0,none⟩) 1 1) rfl _ _ _ _ rfl rfl rfl (R1.out _) ?_)
         go_meet
         refine Lib.hid ⟨?_,HG1.out.2⟩
         rw [Ux.bv_append]
         first|rw [if_pos (c:=true=true) rfl]|rw [if_pos (c:=True) trivial]|skip
         exact HG1.out.1
       obtain ⟨wd,hwd⟩: ∃W,wc=W:=⟨_,rfl⟩
       rw [hwd] at hcut⊢
       clear hwd R1 HG1 hcv
       obtain ⟨ge,e8,_,hcv⟩:=hcut.out.2.1.at (Ux.iv_get (Ux.sv_get HX.out.1.1))
       cases e8
       have hv2:(x:Int) % 256=((UInt8.ofNat x).toNat:Int):=by rw [UInt8.toNat_ofNat'];omega
       have hYz:(Y++(if B1=true then [UInt8.ofNat (x/256)] else [])).length≤200000001:=by
        rw [List.length_append]
        have:=HX.out.2.2
        have h2:(if B1=true then [UInt8.ofNat (x/256)] else []).length≤1:=by (split<;>simp)
        omega
       obtain ⟨r1,w1,run1,hG1,t1⟩:=appB hcut.out.1 1 [.int .u8 ((x:Int) % 256)] rfl (by simp [Value.oneCell']) hcut.out.2.2.size (by rw [Ux.bv_length];omega)
       rw [hv2] at hG1
       have R1:=Lib.hid run1
       have HG1:=Lib.hid (And.intro hG1 (And.intro (hcut.out.2.1.touch t1 (row_apart hcut.out.1 hcut.out.2.1)) (Ux.Touch.own hcut.out.2.2 (Nat.le_refl _) t1)))
       obtain ⟨a10,n10,c10,rfl,_⟩:=hcut.out.1.is
       clear run1 hG1 t1 hv2 hYz hcut
       go_wp2_with (at_builtin;refine Ux.wpList_app (v1:= .slice a10 n10 c10) (x1:= .slice (some ⟨_,0,none⟩) 1 1) rfl _ _ _ _ rfl rfl rfl (R1.out _) ?_)
       go_roundg j'
       case measure=>omega
       case rel=>
        refine ⟨i+1,by congr 1,by omega,Lib.hid ⟨?_,HG1.out.2⟩⟩
        rw [HX.out.1.2,←List.append_assoc,HX.out.2.1,HSE.out.2,←List.append_assoc,Ux.bv_append (_++_)]
        exact HG1.out.1
      ·obtain rfl:n=i:=by omega
       have c1:=(HC.out _ HJ.out.2.2).2.1
       have HC1:=Lib.hid c1
       clear c1 hlt
       go_wp2
       go_roundg g'
       case measure=>omega
       case rel=>
        refine ⟨k+1,by congr 1,by omega,HC1.out,Lib.hid ⟨?_,HJ.out.2.2⟩⟩
        have h:=HJ.out.1
        rw [List.take_of_length_le (by have:=HN.out.1;omega),←HN.out.2.1] at h
        exact h
    ·obtain rfl:k=lv:=by omega
     have p1: ¬(k:Int)+1≤LI:=by have:=HS.out.2;omega
     obtain ⟨a5,n5,m5,rfl,_⟩:=HI.out.1.is
     have hcv:=convB HI.out.1.row
     clear hle
     go_wp2
     go_returns
     exact ⟨rfl,H1.out.trans HI.out.2 fun _ _ f=>f⟩
  ·rw [if_neg k3]
   have q3:(kd==3)=false:=by simpa using k3
   clear hT hb k2 k3 hlv
   obtain ⟨c0,-⟩:=HC.out W1 (Ux.Touch.refl _ _)
   go_enter Tryz.func90,Tryz.ntmps90
   go_upto_region 1 with (fail)
   rw [HW.out.1,HW.out.2]
   go_wp2
   go_returns
   exact ⟨rfl,H1.out⟩
end Go.Proofs.YtfccjaboicpohaaGreatDoor
namespace Go.Proofs.YtfccjaboicpohaaGreatDoor
open Go.RowKit
open Ux (Ent rootE rootT)
set_option maxHeartbeats 8000000 in
set_option maxRecDepth 100000 in
theorem make12_ (k lv:Int) (hk:k=1∨k=2) (sh bk:Bool) (s:ByteArray) (w:World):
 Calls Tryz.prog 26 #[.int .i64 k,.int .i64 lv,.bool sh,.bool bk,.string s] w fun e w'=>e= .returned (.tuple #[cV k 0 false false none,rcV k 0 false false (.slice none 0 0),.bool true])∧Ux.Touch (fun _=>False) w w':=by
 obtain ⟨q,hq⟩: ∃q,w.heap.size=q:=⟨_,rfl⟩
 have hb1:(w.alloc (.cells #[.int .i64 0,.int .i64 0,.bool false,.bool false,.pointer none] 66)).heap[q]? =some (.cells #[.int .i64 0,.int .i64 0,.bool false,.bool false,.pointer none] 66 (0,0)):=by rw [←hq];exact heap_alloc_new w _
 have T1:Ux.Touch (fun _=>False) w (w.alloc (.cells #[.int .i64 0,.int .i64 0,.bool false,.bool false,.pointer none] 66)):=(Ux.Touch.refl _ _).alloc _
 have hs1:(w.alloc (.cells #[.int .i64 0,.int .i64 0,.bool false,.bool false,.pointer none] 66)).heap.size=q+1:=by rw [World.size_alloc,hq]
 obtain ⟨W1,hW1⟩: ∃W,w.alloc (.cells #[.int .i64 0,.int .i64 0,.bool false,.bool false,.pointer none] 66)=W:=⟨_,rfl⟩
 rw [hW1] at hb1 T1 hs1
 have hb2:(W1.alloc (.cells #[.int .i64 0,.int .i64 0,.bool false,.bool false,.slice none 0 0] 68)).heap[q+1]? =some (.cells #[.int .i64 0,.int .i64 0,.bool false,.bool false,.slice none 0 0] 68 (0,0)):=by rw [←hs1];exact heap_alloc_new W1 _
 have T2:Ux.Touch (fun _=>False) W1 (W1.alloc (.cells #[.int .i64 0,.int .i64 0,.bool false,.bool false,.slice none 0 0] 68)):=(Ux.Touch.refl _ _).alloc _
 have hb1':=T2.heap hb1 (fun f=>f)
 obtain ⟨W2,hW2⟩: ∃W,W1.alloc (.cells #[.int .i64 0,.int .i64 0,.bool false,.bool false,.slice none 0 0] 68)=W:=⟨_,rfl⟩
 rw [hW2] at hb2 T2 hb1'
 have HW:=Lib.hid (And.intro hW1 (And.intro hW2 (And.intro hq hs1)))
 have H2:=Lib.hid (And.intro (T1.trans T2 fun _ _ f=>f) (And.intro hb1' hb2))
 clear hb1 T1 hs1 hb2 T2 hb1' hW1 hW2 hq
 have hk1:(k==1)=true∨(k==1)=false∧(k==2)=true:=by
  rcases hk with rfl|rfl
  ·exact .inl rfl
  ·exact .inr ⟨rfl,rfl⟩
 clear hk
 go_enter Tryz.func26,Tryz.ntmps26
 go_upto_region 1 with (fail)
 rw [HW.out.1,HW.out.2.1,HW.out.2.2.1]
 rcases hk1 with hk1|⟨hk1,hk2⟩
 all_goals
  go_upto_region 2 with (fail)
  go_wp2_with (first
   |(refine Ux.is_store 66 rfl ?_
     refine wpList_store_mid rfl 66 _ _ rfl q 0 #[.int .i64 k,.int .i64 0,.bool false,.bool false,.pointer none] rfl rfl (by have h:=there_row H2.out.2.1;exact h) (by kernel_rfl) (by simp [Value.oneCell']) ?_
     obtain ⟨W6,hW6⟩: ∃W,set5 W2 q (.int .i64 k) (.int .i64 0) (.bool false) (.bool false) (.pointer none)=W:=⟨_,rfl⟩
     have T6:Ux.Touch (fun b=>b=q) W2 W6:=by rw [←hW6];exact set5_touch W2 q _ _ _ _ _
     have hr6:W6.heap[q]? =some (.cells #[.int .i64 k,.int .i64 0,.bool false,.bool false,.pointer none] 66 (0,0)):=by rw [←hW6];exact set5_row (w:=W2) H2.out.2.1 _ _ _ _ _
     have hq16:=T6.heap H2.out.2.2 (by omega)
     unfold set5 at hW6
     simp only [World.setCells] at hW6⊢
     rw [hW6]
     have HW6:=Lib.hid (And.intro T6 (And.intro hr6 hq16))
     clear hW6 T6 hr6 hq16)
   |(refine Ux.is_store 68 rfl ?_
     refine wpList_store_mid rfl 68 _ _ rfl (q+1) 0 #[.int .i64 k,.int .i64 0,.bool false,.bool false,.slice none 0 0] rfl rfl (by have h:=there_row HW6.out.2.2;exact h) (by kernel_rfl) (by simp [Value.oneCell']) ?_
     obtain ⟨W7,hW7⟩: ∃W,set5 W6 (q+1) (.int .i64 k) (.int .i64 0) (.bool false) (.bool false) (.slice none 0 0)=W:=⟨_,rfl⟩
     have T7:Ux.Touch (fun b=>b=q+1) W6 W7:=by rw [←hW7];exact set5_touch W6 (q+1) _ _ _ _ _
     have hr7:W7.heap[q+1]? =some (.cells #[.int .i64 k,.int .i64 0,.bool false,.bool false,.slice none 0 0] 68 (0,0)):=by rw [←hW7];exact set5_row HW6.out.2.2 _ _ _ _ _
     have hr67:=T7.heap HW6.out.2.1 (by omega)
     unfold set5 at hW7
     simp only [World.setCells] at hW7⊢
     rw [hW7]
     have x0:=cell_of_row W7 q 0 _ _ (0,0) hr67
     have y0:=cell_of_row W7 (q+1) 0 _ _ (0,0) hr7
     have x1:=cell_of_row W7 q 1 _ _ (0,0) hr67
     have y1:=cell_of_row W7 (q+1) 1 _ _ (0,0) hr7
     have x2:=cell_of_row W7 q 2 _ _ (0,0) hr67
     have y2:=cell_of_row W7 (q+1) 2 _ _ (0,0) hr7
     have x3:=cell_of_row W7 q 3 _ _ (0,0) hr67
     have y3:=cell_of_row W7 (q+1) 3 _ _ (0,0) hr7
     have x4:=cell_of_row W7 q 4 _ _ (0,0) hr67
     have y4:=cell_of_row W7 (q+1) 4 _ _ (0,0) hr7
     simp at x0 y0 x1 y1 x2 y2 x3 y3 x4 y4
     have HW7:=Lib.hid T7
     clear hW7 T7 hr7 hr67))
  refine bodyPost_ret (by simp [results,Tryz.results26,go_sem,x0,x1,x2,x3,x4,y0,y1,y2,y3,y4];try rfl) rfl ?_
  refine ⟨rfl,?_⟩
  have hq:=HW.out.2.2.1
  exact (H2.out.1.trans (R:=fun _=>False) HW6.out.1 fun b hb h=>by omega).trans (R:=fun _=>False) HW7.out fun b hb h=>by omega
end Go.Proofs.YtfccjaboicpohaaGreatDoor
namespace Go.Proofs.YtfccjaboicpohaaGreatDoor
open Go.RowKit
open Ux (Ent rootE rootT SameE okT wghC keyL cmpB eLetter)
open Ux.Sign (cp raw signs)
def RAtG (w:World) (q:Nat) (kd lv:Int) (sh bk:Bool) (u:Value):Prop:=
 w.cell? ⟨q,0,none⟩=some (.int .i64 kd)∧w.cell? ⟨q,1,none⟩=some (.int .i64 lv)∧w.cell? ⟨q,2,none⟩=some (.bool sh)∧w.cell? ⟨q,3,none⟩=some (.bool bk)∧w.cell? ⟨q,4,none⟩=some u
theorem RAtG.of {w:World} {q:Nat} {kd lv:Int} {sh bk:Bool} {u:Value} (h:w.heap[q]? =some (.cells #[.int .i64 kd,.int .i64 lv,.bool sh,.bool bk,u] 68 (0,0))):RAtG w q kd lv sh bk u:=by
 refine ⟨?_,?_,?_,?_,?_⟩
 ·rw [cell_of_row w q 0 _ _ (0,0) h];rfl
 ·rw [cell_of_row w q 1 _ _ (0,0) h];rfl
 ·rw [cell_of_row w q 2 _ _ (0,0) h];rfl
 ·rw [cell_of_row w q 3 _ _ (0,0) h];rfl
 ·rw [cell_of_row w q 4 _ _ (0,0) h];rfl
theorem RAtG.touch {w w':World} {q:Nat} {kd lv:Int} {sh bk:Bool} {u:Value} (h:RAtG w q kd lv sh bk u) (T:Ux.Touch (fun _=>False) w w'):RAtG w' q kd lv sh bk u:=
 ⟨T.cell h.1 (fun f=>f),T.cell h.2.1 (fun f=>f),T.cell h.2.2.1 (fun f=>f),T.cell h.2.2.2.1 (fun f=>f),T.cell h.2.2.2.2 (fun f=>f)⟩
structure MadeC (w:World) (lo:Nat) (kd:Int) (LN:Nat) (sh bk:Bool) (tb:Option Addr) (u:Value) (E T:List Ent):Prop where
 kind:kd=1∨kd=2∨kd=3
 lv:kd=3→1≤LN∧LN≤3
 ok:okC kd LN tb=true
 tab:CTab w kd tb E
 shape: ∃x n c,u= .slice x n c
 rows:kd=3→RRows w (fun b=>lo≤b) u T∧T.length≤1000
 okE:okT E
 same:SameE E T
theorem MadeC.touch {w w':World} {lo:Nat} {kd:Int} {LN:Nat} {sh bk:Bool} {tb:Option Addr} {u:Value} {E T:List Ent} (h:MadeC w lo kd LN sh bk tb u E T) (t:Ux.Touch (fun _=>False) w w'):MadeC w' lo kd LN sh bk tb u E T:=
 ⟨h.kind,h.lv,h.ok,h.tab.touch t,h.shape,fun e=>⟨(h.rows e).1.touch0 t,(h.rows e).2⟩,h.okE,h.same⟩
theorem MadeC.el {w:World} {lo:Nat} {kd:Int} {LN:Nat} {sh bk:Bool} {tb:Option Addr} {u:Value} {E T:List Ent} (h:MadeC w lo kd LN sh bk tb u E T) (a:ByteArray):elB E a=elB T a:=by
 unfold elB
 exact Ux.elemsE_congr (Ux.findE_perm h.okE.1 h.same.1) _
theorem MadeC.cmp {w:World} {lo:Nat} {kd:Int} {LN:Nat} {sh bk:Bool} {tb:Option Addr} {u:Value} {E T:List Ent} (h:MadeC w lo kd LN sh bk tb u E T) (a b:ByteArray):cmpC kd LN sh bk tb E a b=rcmpC kd LN sh bk T a b:=by
 unfold cmpC rcmpC
 rw [h.ok,if_pos rfl,h.el a,h.el b]
 by_cases h3:kd=3
 ·subst h3
  rw [if_pos rfl,if_neg (by decide),if_pos rfl]
 ·rw [if_neg h3,if_neg h3]
theorem MadeC.key {w:World} {lo:Nat} {kd:Int} {LN:Nat} {sh bk:Bool} {tb:Option Addr} {u:Value} {E T:List Ent} (h:MadeC w lo kd LN sh bk tb u E T) (a:ByteArray):keyP kd LN sh bk tb E a=rkeyC kd LN sh bk T a:=by
 unfold keyP rkeyC
 rw [h.ok,if_pos rfl,h.el a]
 by_cases h3:kd=3
 ·subst h3
  rw [if_pos rfl,if_neg (by decide),if_pos rfl]
 ·rw [if_neg h3,if_neg h3]
theorem cmpStr_B (a b:ByteArray):cmpB a.data.toList b.data.toList=cmpStr a b:=by
 rw [Ux.cmpB_less]
 unfold cmpStr Ux.slt
 rw [Lib.toList_data,Lib.toList_data]
theorem MadeC.order {w:World} {lo:Nat} {kd:Int} {LN:Nat} {sh bk:Bool} {tb:Option Addr} {u:Value} {E T:List Ent} (h:MadeC w lo kd LN sh bk tb u E T) (a b:ByteArray):cmpB (keyP kd LN sh bk tb E a).data.toList (keyP kd LN sh bk tb E b).data.toList=cmpC kd LN sh bk tb E a b:=by
 unfold keyP cmpC
 rw [h.ok,if_pos rfl,if_pos rfl,if_pos rfl]
 by_cases h3:kd=3
 ·subst h3
  rw [if_pos rfl,if_pos rfl,if_pos rfl,Int.toNat_natCast]
  exact Ux.key_order sh bk _ _ (elB_ok h.okE a).2 (elB_ok h.okE b).2 LN (h.lv rfl).1 (h.lv rfl).2
 ·rw [if_neg h3,if_neg h3,if_neg h3]
  by_cases h2:kd=2
  ·rw [if_pos h2,if_pos h2,if_pos h2,cmpStr_B]
  ·rw [if_neg h2,if_neg h2,if_neg h2,cmpStr_B]
theorem rootE_okT:okT rootE:=⟨Ux.rootE_nodup,Ux.rootE_ok⟩
theorem madeC0_ (k lv:Int) (sh bk:Bool) (w:World) (hT:Tabs w):Calls Tryz.prog 26 #[.int .i64 k,.int .i64 lv,.bool sh,.bool bk,.string ⟨#[]⟩] w fun e w'=> ∃kd LN sh' bk' tb u,
 e= .returned (.tuple #[cV kd (LN:Nat) sh' bk' tb,rcV kd (LN:Nat) sh' bk' u,.bool true])∧MadeC w' w.heap.size kd LN sh' bk' tb u rootE (rootT 132)∧Ux.Touch (fun _=>False) w w':=by
 by_cases hk:k=1∨k=2
 ·refine (make12_ k lv hk sh bk ⟨#[]⟩ w).mono ?_
  rintro e w' ⟨rfl,T⟩
  refine ⟨k,0,false,false,none,.slice none 0 0,rfl,?_,T⟩
  rcases hk with rfl|rfl
  ·exact ⟨.inl rfl,fun h=>(by cases h),rfl,fun h=>(by cases h),⟨_,_,_,rfl⟩,fun h=>(by cases h),rootE_okT,Ux.same_root⟩
  ·exact ⟨.inr (.inl rfl),fun h=>(by cases h),rfl,fun h=>(by cases h),⟨_,_,_,rfl⟩,fun h=>(by cases h),rootE_okT,Ux.same_root⟩
 ·have h1:k≠1∧k≠2:=⟨fun e=>hk (.inl e),fun e=>hk (.inr e)⟩
  refine (make3_ k lv h1 sh bk w hT).mono ?_
  rintro e w' ⟨B,mb,u,rfl,hTA,hR,T⟩
  have hR':=hR
  obtain ⟨_,a,c,hu,_⟩:=hR
  exact ⟨3,lvN lv,sh,bk,some ⟨B,0,none⟩,u,rfl,⟨.inr (.inr rfl),fun _=>lvN_le lv,ok3 _ (lvN_le lv) _,fun _ p hp=>by cases hp;exact ⟨B,mb,rfl,hTA⟩,⟨a,_,c,hu⟩,fun _=>⟨hR',by have:=Ux.rootT_len 132;omega⟩,rootE_okT,Ux.same_root⟩,T⟩
end Go.Proofs.YtfccjaboicpohaaGreatDoor
