/- A part of the proof that the statement holds for every input that it names. No other condition. -/
import Derived.Test.YtfccjaboicpohaaGreatDoorKord0Z
set_option linter.unusedVariables false
set_option linter.unusedSimpArgs false
namespace Go.Proofs.YtfccjaboicpohaaGreatDoor
open Go.RowKit
open Ux (cmpI rootE rootT)
set_option maxHeartbeats 4000000 in
theorem rints_ (a b:Int) (w:World):Calls Tryz.prog 82 #[.int .i64 a,.int .i64 b] w fun e w'=>e= .returned (.int .i64 (cmpI a b))∧w'=w:=by
 unfold cmpI
 by_cases h:a<b
 ·rw [if_pos h]
  go_enter Tryz.func82,Tryz.ntmps82
  go_wp2
  go_returns
  exact ⟨rfl,rfl⟩
 ·rw [if_neg h]
  by_cases h2:b<a
  ·rw [if_pos h2]
   have h3:a>b:=h2
   go_enter Tryz.func82,Tryz.ntmps82
   go_wp2
   go_returns
   exact ⟨rfl,rfl⟩
  ·rw [if_neg h2]
   have h3: ¬a>b:=h2
   go_enter Tryz.func82,Tryz.ntmps82
   go_wp2
   go_returns
   exact ⟨rfl,rfl⟩
theorem clV_nm (k n:Int) (s:ByteArray):clV k n s= .agg #[.int .i64 (nmV k n s).1,.int .i64 (nmV k n s).2.1,.string (nmV k n s).2.2]:=by
 unfold clV nmV vV
 split<;>rfl
theorem nm_size (k n:Int) (s:ByteArray) (h:s.size≤1000000):(nmV k n s).2.2.size≤1000000:=by
 unfold nmV
 split
 ·exact h
 ·show (⟨#[]⟩:ByteArray).size≤_
  decide
theorem set3_row {w:World} {q:Nat} {c0 c1 c2:Value} {t:TypeId} (h:w.heap[q]? =some (.cells #[c0,c1,c2] t (0,0))) (v0 v1 v2:Value):(((w.setCell ⟨q,0,none⟩ v0).setCell ⟨q,1,none⟩ v1).setCell ⟨q,2,none⟩ v2).heap[q]? =some (.cells #[v0,v1,v2] t (0,0)):=
 Ux.setCell_row (Ux.setCell_row (Ux.setCell_row h 0 v0) 1 v1) 2 v2
theorem set3_touch (w:World) (q:Nat) (v0 v1 v2:Value):Ux.Touch (fun b=>b=q) w (((w.setCell ⟨q,0,none⟩ v0).setCell ⟨q,1,none⟩ v1).setCell ⟨q,2,none⟩ v2):=
 (((Ux.Touch.refl (fun b=>b=q) w).setCell (p:=⟨q,0,none⟩) (fun _=>rfl) _).setCell (p:=⟨q,1,none⟩) (fun _=>rfl) _).setCell (p:=⟨q,2,none⟩) (fun _=>rfl) _
theorem cells3 {w:World} {q:Nat} {c0 c1 c2:Value} {t:TypeId} (h:w.heap[q]? =some (.cells #[c0,c1,c2] t (0,0))):w.cell? ⟨q,0,none⟩=some c0∧w.cell? ⟨q,1,none⟩=some c1∧w.cell? ⟨q,2,none⟩=some c2:=by
 refine ⟨?_,?_,?_⟩
 ·rw [cell_of_row w q 0 _ _ (0,0) h];rfl
 ·rw [cell_of_row w q 1 _ _ (0,0) h];rfl
 ·rw [cell_of_row w q 2 _ _ (0,0) h];rfl
set_option maxHeartbeats 8000000 in
set_option maxRecDepth 100000 in
theorem rorder_ (p:PI) (a b:Int×Int×ByteArray) (lo:Nat) (w:World) (ha:a.2.2.size<200) (hb:b.2.2.size<200) (h:PIok w lo p):
 Calls Tryz.prog 34 #[.agg #[.int .i64 a.1,.int .i64 a.2.1,.string a.2.2],.agg #[.int .i64 b.1,.int .i64 b.2.1,.string b.2.2],.agg #[.int .i64 p.kd,.int .i64 (p.LN:Nat),.bool p.sh,.bool p.bk,.slice p.ua p.un p.uc]] w fun e w'=>
  e= .returned (.int .i64 (ordN (pK p) (nmV a.1 a.2.1 a.2.2) (nmV b.1 b.2.1 b.2.2)))∧Ux.Touch (fun _=>False) w w':=by
 obtain ⟨v0,v1,v2⟩:=a
 obtain ⟨u0,u1,u2⟩:=b
 dsimp only at ha hb⊢
 have c1:=fun W=>vclean_ v0 v1 v2 W
 have c2:=fun W=>vclean_ u0 u1 u2 W
 rw [clV_nm] at c1 c2
 have z1:=nm_size v0 v1 v2 (by omega)
 have z2:=nm_size u0 u1 u2 (by omega)
 obtain ⟨⟨k1,n1,s1⟩,h1⟩: ∃N,nmV v0 v1 v2=N:=⟨_,rfl⟩
 obtain ⟨⟨k2,n2,s2⟩,h2⟩: ∃N,nmV u0 u1 u2=N:=⟨_,rfl⟩
 rw [h1] at c1 z1⊢
 rw [h2] at c2 z2⊢
 dsimp only at c1 c2 z1 z2
 have HR:=Lib.hid fun W (T:Ux.Touch (fun _=>False) w W)=>rcmp_ p.kd (p.LN:Nat) (fun e=>by have:=MadeC.lv h e;omega) p.sh p.bk (.slice p.ua p.un p.uc) (rootT 132) (fun b=>lo≤b) s1 s2 W ⟨_,_,_,rfl⟩ (fun e=>⟨(MadeC.rows h e).1.touch0 T,(MadeC.same h).ok (MadeC.okE h),(MadeC.rows h e).2⟩) z1 z2
 have hcs:rcmpC p.kd (p.LN:Nat) p.sh p.bk (rootT 132) s1 s2=cmpStr (pK p s1) (pK p s2):=by
  rw [←MadeC.cmp h,←MadeC.order h,cmpStr_B]
  rfl
 rw [hcs] at HR
 unfold ordN
 dsimp only
 unfold vV at c1 c2
 unfold rcV at HR
 obtain ⟨kd,LN,sh,bk,tb,ua,un,uc,d⟩:=p
 dsimp only at HR⊢
 obtain ⟨R,hRR⟩: ∃R,(if k1≠k2 then cmpI k1 k2 else if k1=3 then cmpStr (pK ⟨kd,LN,sh,bk,tb,ua,un,uc,d⟩ s1) (pK ⟨kd,LN,sh,bk,tb,ua,un,uc,d⟩ s2) else cmpI n1 n2)=R:=⟨_,rfl⟩
 rw [hRR]
 have HRR:=Lib.hid hRR
 clear hRR
 have C1:=Lib.hid c1
 have C2:=Lib.hid c2
 have CI:=Lib.hid rints_
 obtain ⟨B,hB⟩: ∃B,w.heap.size=B:=⟨_,rfl⟩
 obtain ⟨w1,hw1⟩: ∃W,((w.alloc (.cells #[.int .i64 v0,.int .i64 v1,.string v2] 84)).alloc (.cells #[.int .i64 u0,.int .i64 u1,.string u2] 84)).alloc (.cells #[.int .i64 kd,.int .i64 (LN:Nat),.bool sh,.bool bk,.slice ua un uc] 68)=W:=⟨_,rfl⟩
 have T1:Ux.Touch (fun _=>False) w w1:=by rw [←hw1];exact (((Ux.Touch.refl _ _).alloc _).alloc _).alloc _
 have a1:w1.heap[B]? =some (.cells #[.int .i64 v0,.int .i64 v1,.string v2] 84 (0,0)):=by
  rw [←hw1,←hB]
  exact (((Ux.Touch.refl (fun _=>False) _).alloc _).alloc _).heap (heap_alloc_new w _) (fun f=>f)
 have b1:w1.heap[B+1]? =some (.cells #[.int .i64 u0,.int .i64 u1,.string u2] 84 (0,0)):=by
  rw [←hw1,←hB]
  have:=heap_alloc_new (w.alloc (.cells #[.int .i64 v0,.int .i64 v1,.string v2] 84)) (.cells #[.int .i64 u0,.int .i64 u1,.string u2] 84)
  rw [World.size_alloc] at this
  exact ((Ux.Touch.refl (fun _=>False) _).alloc _).heap this (fun f=>f)
 have d1:w1.heap[B+2]? =some (.cells #[.int .i64 kd,.int .i64 (LN:Nat),.bool sh,.bool bk,.slice ua un uc] 68 (0,0)):=by
  rw [←hw1,←hB]
  have:=heap_alloc_new ((w.alloc (.cells #[.int .i64 v0,.int .i64 v1,.string v2] 84)).alloc (.cells #[.int .i64 u0,.int .i64 u1,.string u2] 84)) (.cells #[.int .i64 kd,.int .i64 (LN:Nat),.bool sh,.bool bk,.slice ua un uc] 68)
  rwa [World.size_alloc,World.size_alloc] at this
 have HB:=Lib.hid (And.intro hB (And.intro T1 (And.intro a1 (And.intro b1 d1))))
 have HW1:=Lib.hid hw1
 clear c1 c2 z1 z2 h1 h2 hcs h ha hb T1 a1 b1 d1
 go_enter Tryz.func34,Tryz.ntmps34
 go_upto_region 1 with (fail)
 clear hB hw1
 obtain ⟨x0,x1,x2⟩:=cells3 HB.out.2.2.1
 go_wp2_with (go_at_call 81;fail)
 refine (C1.out _).mono ?_
 rintro e w2 ⟨rfl,T2⟩
 have a2:=T2.heap HB.out.2.2.1 (fun f=>f)
 have b2:=T2.heap HB.out.2.2.2.1 (fun f=>f)
 have d2:=T2.heap HB.out.2.2.2.2 (fun f=>f)
 have H2:=Lib.hid (And.intro (HB.out.2.1.trans T2 fun _ _ f=>f) (And.intro a2 (And.intro b2 d2)))
 clear x0 x1 x2 T2
 obtain ⟨x0,x1,x2⟩:=cells3 a2
 have f0:=Ux.frozen_row a2 0
 have f1:=Ux.frozen_row a2 1
 have f2:=Ux.frozen_row a2 2
 clear a2 b2 d2
 go_upto_region 2 with (fail)
 obtain ⟨w3,hw3⟩: ∃W,((w2.setCell ⟨B,0,none⟩ (.int .i64 k1)).setCell ⟨B,1,none⟩ (.int .i64 n1)).setCell ⟨B,2,none⟩ (.string s1)=W:=⟨_,rfl⟩
 rw [hw3]
 have T3:=set3_touch w2 B (.int .i64 k1) (.int .i64 n1) (.string s1)
 have a3:=set3_row H2.out.2.1 (.int .i64 k1) (.int .i64 n1) (.string s1)
 rw [hw3] at T3 a3
 have b3:=T3.heap H2.out.2.2.1 (by omega)
 have d3:=T3.heap H2.out.2.2.2 (by omega)
 have H3:=Lib.hid (And.intro (H2.out.1.trans T3 fun b hb e=>by have:=HB.out.1;omega) (And.intro a3 (And.intro b3 d3)))
 clear x0 x1 x2 f0 f1 f2 hw3 T3
 obtain ⟨x0,x1,x2⟩:=cells3 b3
 clear a3 b3 d3
 go_wp2_with (go_at_call 81;fail)
 refine (C2.out _).mono ?_
 rintro e w4 ⟨rfl,T4⟩
 have a4:=T4.heap H3.out.2.1 (fun f=>f)
 have b4:=T4.heap H3.out.2.2.1 (fun f=>f)
 have d4:=T4.heap H3.out.2.2.2 (fun f=>f)
 have H4:=Lib.hid (And.intro (H3.out.1.trans T4 fun _ _ f=>f) (And.intro a4 (And.intro b4 d4)))
 clear x0 x1 x2 T4
 obtain ⟨x0,x1,x2⟩:=cells3 b4
 have f0:=Ux.frozen_row b4 0
 have f1:=Ux.frozen_row b4 1
 have f2:=Ux.frozen_row b4 2
 clear a4 b4 d4
 go_upto_region 3 with (fail)
 obtain ⟨w5,hw5⟩: ∃W,((w4.setCell ⟨B+1,0,none⟩ (.int .i64 k2)).setCell ⟨B+1,1,none⟩ (.int .i64 n2)).setCell ⟨B+1,2,none⟩ (.string s2)=W:=⟨_,rfl⟩
 rw [hw5]
 have T5:=set3_touch w4 (B+1) (.int .i64 k2) (.int .i64 n2) (.string s2)
 have b5:=set3_row H4.out.2.2.1 (.int .i64 k2) (.int .i64 n2) (.string s2)
 rw [hw5] at T5 b5
 have a5:=T5.heap H4.out.2.1 (by omega)
 have d5:=T5.heap H4.out.2.2.2 (by omega)
 have H5:=Lib.hid (H4.out.1.trans T5 fun b hb e=>by have:=HB.out.1;omega)
 clear x0 x1 x2 f0 f1 f2 hw5 T5 H4 H3 H2
 obtain ⟨x0,x1,x2⟩:=cells3 a5
 obtain ⟨y0,y1,y2⟩:=cells3 b5
 obtain ⟨e0,e1,e2,e3,e4⟩:=RAtG.of d5
 clear a5 b5 d5 HB
 by_cases hk:k1=k2
 ·subst hk
  have q1:(k1==k1)=true:=by simp
  by_cases h3:k1=3
  ·subst h3
   have hR2:cmpStr (pK ⟨kd,LN,sh,bk,tb,ua,un,uc,d⟩ s1) (pK ⟨kd,LN,sh,bk,tb,ua,un,uc,d⟩ s2)=R:=by rw [←HRR.out,if_neg (fun k=>k rfl),if_pos rfl]
   rw [hR2] at HR
   clear hR2
   go_wp2_with (go_at_call 83;fail)
   refine (HR.out _ H5.out).mono ?_
   rintro e w6 ⟨rfl,T6⟩
   have H6:=Lib.hid (H5.out.trans T6 fun _ _ f=>f)
   clear T6 x0 x1 x2 y0 y1 y2 e0 e1 e2 e3 e4
   go_wp2
   go_returns
   exact ⟨rfl,H6.out⟩
  ·have hR2:cmpI n1 n2=R:=by rw [←HRR.out,if_neg (fun k=>k rfl),if_neg h3]
   have q2:(k1==3)=false:=beq_false_of_ne h3
   have CJ:=Lib.hid fun W=>hR2▸CI.out n1 n2 W
   clear h3 hR2
   go_wp2_with (go_at_call 82;fail)
   refine (CJ.out _).mono ?_
   rintro e w6 ⟨rfl,hw6⟩
   obtain rfl:w5=w6:=hw6.symm
   go_wp2
   go_returns
   exact ⟨rfl,H5.out⟩
 ·have hR2:cmpI k1 k2=R:=by rw [←HRR.out,if_pos hk]
  have q1:(k1==k2)=false:=beq_false_of_ne hk
  have CJ:=Lib.hid fun W=>hR2▸CI.out k1 k2 W
  clear hk hR2
  go_wp2_with (go_at_call 82;fail)
  refine (CJ.out _).mono ?_
  rintro e w6 ⟨rfl,hw6⟩
  obtain rfl:w5=w6:=hw6.symm
  go_wp2
  go_returns
  exact ⟨rfl,H5.out⟩
end Go.Proofs.YtfccjaboicpohaaGreatDoor
