/- A part of the proof that the statement holds for every input that it names. No other condition. -/
import Derived.Test.YtikmdhhbamggfaaGreatDoorRtailCZ
import Derived.Test.YtikmdhhbamggfaaGreatDoorTableAX1Z
import Derived.Test.YtikmdhhbamggfaaGreatDoorEntsAX1Z
import Derived.Test.YtikmdhhbamggfaaGreatDoorAwake7Z
set_option linter.unusedVariables false
set_option linter.unusedSimpArgs false
namespace Go.Proofs.YtikmdhhbamggfaaGreatDoor
open Go.RowKit
open Ux (Ent rootT SameE okT)
open Ux.Sign (cp raw signs)
open Ux.Rules (Rul okRuls parseS posB)
set_option maxHeartbeats 4000000 in
theorem treads_big (s:ByteArray) (w:World) (hT:Tabs w) (h1:s.size≤140737488355328) (h:300<s.size):
 Calls Tryz.prog 10 #[.string s] w fun e w'=>e= .returned (.bool true)∧Ux.Touch (fun _=>False) w w':=by
 have AW:=Lib.hid (awake7_ w hT)
 obtain ⟨n1,e1⟩: ∃n,s.size=n:=⟨_,rfl⟩
 rw [e1] at h1 h
 have g1:(n1:Int)≤140737488355328:=by omega
 have g3:((n1:Int)>300):=by omega
 clear hT h1 h
 go_enter Tryz.func10,Tryz.ntmps10
 go_wp2_with (go_at_call 41;fail)
 refine AW.out.mono ?_
 rintro e w7 ⟨rfl,T7⟩
 have H7:=Lib.hid T7
 clear T7
 go_wp2
 go_returns
 exact ⟨rfl,H7.out⟩
set_option maxHeartbeats 8000000 in
set_option maxRecDepth 100000 in
theorem treads_no (s:ByteArray) (at' C:Nat) (h0:C≠0) (w:World) (hT:Tabs w) (hs:s.size≤300)
 (HP:Calls Tryz.prog 42 #[.string s] w fun e w'=>e= .returned (.tuple #[.pointer none,.int .i64 (at':Int),.int .i64 (C:Int)])∧Ux.Touch (fun _=>False) w w')
 (HD: ∀W,Calls Tryz.prog 43 #[.string s] W fun e w'=>(∃x m c,e= .returned (.tuple #[.agg #[.slice x m c],.int .i64 (at':Int),.int .i64 (C:Int)]))∧Ux.Touch (fun _=>False) W w'):
 Calls Tryz.prog 10 #[.string s] w fun e w'=>e= .returned (.bool true)∧Ux.Touch (fun _=>False) w w':=by
 have AW:=Lib.hid fun W (T:Ux.Touch (fun _=>False) w W)=>awake7_ W (hT.touch T)
 obtain ⟨n1,e1⟩: ∃n,s.size=n:=⟨_,rfl⟩
 have g1: ¬((n1:Int)>300):=by omega
 have HP:=Lib.hid HP
 have HD:=Lib.hid HD
 have k9:((C:Int)==0)=false:=beq_false_of_ne (by omega)
 have k0:((C:Int) !=0)=true:=by show (!((C:Int)==0))=true;rw [k9];rfl
 have k1:((C:Int) !=C)=false:=by simp
 have k2:((at':Int) !=at')=false:=by simp
 clear hT hs h0
 go_enter Tryz.func10,Tryz.ntmps10
 go_wp2_with (go_at_call 42;fail)
 refine HP.out.mono ?_
 rintro e w1 ⟨rfl,T1⟩
 have H1:=Lib.hid T1
 clear T1
 go_wp2_with (go_at_call 43;fail)
 refine (HD.out w1).mono ?_
 rintro e w2 ⟨⟨x,m,c,rfl⟩,T2⟩
 have T3:Ux.Touch (fun _=>False) w2 (w2.alloc (.cells #[.slice x m c] 28)):=(Ux.Touch.refl _ _).alloc _
 obtain ⟨W3,hW3⟩: ∃W,w2.alloc (.cells #[.slice x m c] 28)=W:=⟨_,rfl⟩
 rw [hW3] at T3
 have HW3:=Lib.hid hW3
 have H3:=Lib.hid ((H1.out.trans T2 fun _ _ f=>f).trans T3 fun _ _ f=>f)
 clear T2 T3 hW3
 go_upto_region 5 with (fail)
 rw [HW3.out]
 go_wp2_with (go_at_call 41;fail)
 refine (AW.out W3 H3.out).mono ?_
 rintro e w4 ⟨rfl,T4⟩
 have H4:=Lib.hid (H3.out.trans T4 fun _ _ f=>f)
 clear T4
 go_wp2
 go_returns
 exact ⟨rfl,H4.out⟩
set_option maxHeartbeats 8000000 in
set_option maxRecDepth 100000 in
theorem treads_yes (s:ByteArray) (T:List Ent) (w:World) (hT:Tabs w) (hs:s.size≤300) (hl:T.length≤1000) (hsg: ∀e∈T,∀c∈e.1,cp c∨raw c) (hck:checkE T=true)
 (HP:Calls Tryz.prog 42 #[.string s] w fun e w'=>(∃B mb E,e= .returned (.tuple #[.pointer (some ⟨B,0,none⟩),.int .i64 0,.int .i64 0])∧TableAt w' B mb E∧SameE E T)∧Ux.Touch (fun _=>False) w w')
 (HD: ∀W,Calls Tryz.prog 43 #[.string s] W fun e w'=>(∃x m c,e= .returned (.tuple #[.agg #[.slice x m c],.int .i64 0,.int .i64 0])∧RRows w' (fun b=>W.heap.size≤b) (.slice x m c) T)∧Ux.Touch (fun _=>False) W w'):
 Calls Tryz.prog 10 #[.string s] w fun e w'=>e= .returned (.bool true)∧Ux.Touch (fun _=>False) w w':=by
 have AW:=Lib.hid fun W (T:Ux.Touch (fun _=>False) w W)=>awake7_ W (hT.touch T)
 obtain ⟨n1,e1⟩: ∃n,s.size=n:=⟨_,rfl⟩
 have g1: ¬((n1:Int)>300):=by omega
 have HP:=Lib.hid HP
 have HD:=Lib.hid HD
 have HL:=Lib.hid (And.intro hl (And.intro hsg hck))
 clear hT hs hl hsg hck
 go_enter Tryz.func10,Tryz.ntmps10
 go_wp2_with (go_at_call 42;fail)
 refine HP.out.mono ?_
 rintro e w1 ⟨⟨B,mb,E,rfl,hTA,hS⟩,T1⟩
 have H1:=Lib.hid (And.intro T1 (And.intro hTA hS))
 clear T1 hTA hS
 go_wp2_with (go_at_call 43;fail)
 refine (HD.out w1).mono ?_
 rintro e w2 ⟨⟨x,m,c,rfl,hR⟩,T2⟩
 have T3:Ux.Touch (fun _=>False) w2 (w2.alloc (.cells #[.slice x m c] 28)):=(Ux.Touch.refl _ _).alloc _
 obtain ⟨q,hq⟩: ∃q,w2.heap.size=q:=⟨_,rfl⟩
 have r3:(w2.alloc (.cells #[.slice x m c] 28)).heap[q]? =some (.cells #[.slice x m c] 28 (0,0)):=by rw [←hq];exact heap_alloc_new w2 _
 obtain ⟨W3,hW3⟩: ∃W,w2.alloc (.cells #[.slice x m c] 28)=W:=⟨_,rfl⟩
 rw [hW3] at T3 r3
 have HW3:=Lib.hid (And.intro hW3 hq)
 have hR3:=hR.touch0 T3
 have T13:=T2.trans T3 fun _ _ f=>f
 have hTA3:=H1.out.2.1.touch0 T13
 have hE:E.length≤1000:=by have:=H1.out.2.2.1.length_eq;have:=HL.out.1;omega
 have HLK:=Lib.hid (like_ B mb E T (.slice x m c) _ W3 hTA3 hE H1.out.2.2 hR3)
 have HCK:=Lib.hid fun W (t:Ux.Touch (fun _=>False) W3 W)=>check_ B mb E W (hTA3.touch0 t) (fun e he=>HL.out.2.1 e (H1.out.2.2.1.mem_iff.1 he))
 rw [checkE_perm hTA3.1.1.1 H1.out.2.2.1,HL.out.2.2] at HCK
 have H3:=Lib.hid (H1.out.1.trans T13 fun _ _ f=>f)
 have c0:W3.cell? ⟨q,0,none⟩=some (.slice x m c):=by rw [cell_of_row _ q 0 _ _ (0,0) r3];rfl
 clear T2 T3 T13 hW3 hq r3 hR hR3 hTA3 hE
 go_upto_region 5 with (fail)
 rw [HW3.out.1,HW3.out.2]
 go_wp2_with (go_at_call 44;fail)
 refine HLK.out.mono ?_
 rintro e w4 ⟨rfl,T4⟩
 have H4:=Lib.hid T4
 clear T4 c0
 go_wp2_with (go_at_call 45;fail)
 refine (HCK.out w4 H4.out).mono ?_
 rintro e w5 ⟨rfl,T5⟩
 have H5:=Lib.hid (H3.out.trans (H4.out.trans T5 fun _ _ f=>f) fun _ _ f=>f)
 clear T5
 go_wp2_with (go_at_call 41;fail)
 refine (AW.out w5 H5.out).mono ?_
 rintro e w6 ⟨rfl,T6⟩
 have H6:=Lib.hid (H5.out.trans T6 fun _ _ f=>f)
 clear T6
 go_wp2
 go_returns
 exact ⟨rfl,H6.out⟩
theorem treadsLaw_ (s:ByteArray) (w:World) (hT:Tabs w) (h1:s.size≤140737488355328):
 Calls Tryz.prog 10 #[.string s] w fun e w'=>e= .returned (.bool true)∧Ux.Touch (fun _=>False) w w':=by
 by_cases h:300<s.size
 ·exact treads_big s w hT h1 h
 have HP:=readR_ s w (by omega) hT
 have HD:=fun W=>rread_ s W (by omega)
 have hok:=Ux.Rules.parseS_ok (P:=fun c=>cp c∨raw c) (l:=signs s.data.toList) (fun c hc=>Ux.Sign.good_all (Ux.Sign.good_signs s.data.toList) c hc)
 unfold ReadR at HP
 unfold RReadR at HD
 obtain ⟨⟨rs,o⟩,hp⟩: ∃p,parseS (signs s.data.toList)=p:=⟨_,rfl⟩
 simp only [hp] at HP HD hok
 cases o with
 |some r=>exact treads_no s (posB s.size r) 10 (by decide) w hT (by omega) HP fun W=>(HD W).mono fun e w' ⟨h,t⟩=>⟨⟨_,_,_,h⟩,t⟩
 |none=>
  by_cases h40:40<rs.length
  ·simp only [if_pos h40] at HP HD
   exact treads_no s 0 65 (by decide) w hT (by omega) HP fun W=>(HD W).mono fun e w' ⟨h,t⟩=>⟨⟨_,_,_,h⟩,t⟩
  ·simp only [if_neg h40] at HP HD
   by_cases h0:(applyT (rootT 132) [] rs).1=0
   ·have hin:=applyT_ok rs InvT.root hok.1 h0
    refine treads_yes s (applyT (rootT 132) [] rs).2 w hT (by omega) (by have:=hin.1.len;omega) hin.1.sig hin.2 (HP.mono fun e w' ⟨h,t⟩=>⟨?_,t⟩) fun W=>(HD W).mono fun e w' ⟨⟨x,m,c,h,hr⟩,t⟩=>⟨⟨x,m,c,?_,hr h0⟩,t⟩
    ·rcases h with ⟨h1,_⟩|⟨_,h2⟩
     ·exact absurd h0 h1
     ·exact h2
    ·rw [h0] at h
     exact h
   ·refine treads_no s 0 (applyT (rootT 132) [] rs).1 h0 w hT (by omega) (HP.mono fun e w' ⟨h,t⟩=>⟨?_,t⟩) fun W=>(HD W).mono fun e w' ⟨⟨x,m,c,h,_⟩,t⟩=>⟨⟨x,m,c,h⟩,t⟩
    rcases h with ⟨_,h2⟩|⟨h1,_⟩
    ·exact h2
    ·exact absurd h1 h0
end Go.Proofs.YtikmdhhbamggfaaGreatDoor
