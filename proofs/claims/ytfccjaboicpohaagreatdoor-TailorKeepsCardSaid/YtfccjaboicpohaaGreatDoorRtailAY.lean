/- A part of the proof that the statement holds for every input that it names. No other condition. -/
import Derived.Test.YtfccjaboicpohaaGreatDoorUxRulAY
import Derived.Test.YtfccjaboicpohaaGreatDoorRefBY
import Derived.Test.YtfccjaboicpohaaGreatDoorTailAY
set_option linter.unusedVariables false
set_option linter.unusedSimpArgs false
namespace Go.Proofs.YtfccjaboicpohaaGreatDoor
open Go.RowKit
open Ux (Ent KGrow eP eS eT eV wt8 incW raise lastW newK fullT)
def rwq (L p s t:Nat):Nat:=if L=1 then p else if L=2 then s else t
set_option maxHeartbeats 4000000 in
theorem rweight0_ (L p s t:Nat) (v:Bool) (hL:L=1∨L=2∨L=3) (w:World):Calls Tryz.prog 106 #[.agg #[.int .i64 (p:Int),.int .i64 (s:Int),.int .i64 (t:Int),.bool v],.int .i64 (L:Int)] w fun e w'=>e= .returned (.int .i64 (rwq L p s t:Nat))∧Ux.Touch (fun _=>False) w w':=by
 rcases hL with rfl|rfl|rfl
 all_goals
  unfold rwq
  go_enter Tryz.func106,Tryz.ntmps106
  go_wp2
  go_returns
  exact ⟨rfl,(Ux.Touch.refl _ w).alloc _⟩
theorem rweight_ (L x:Nat) (hL:L=1∨L=2∨L=3) (w:World):Calls Tryz.prog 106 #[.agg #[.int .i64 (eP x:Nat),.int .i64 (eS x:Nat),.int .i64 (eT x:Nat),.bool (eV x)],.int .i64 (L:Int)] w fun e w'=>e= .returned (.int .i64 (wt8 L x:Nat))∧Ux.Touch (fun _=>False) w w':=rweight0_ L _ _ _ _ hL w
def rsq (L p s t:Nat) (v:Bool) (w b:Nat):Value:=if rwq L p s t≤w∨b≤rwq L p s t then .agg #[.int .i64 (p:Int),.int .i64 (s:Int),.int .i64 (t:Int),.bool v]
 else if L=1 then .agg #[.int .i64 ((p:Int)+1),.int .i64 (s:Int),.int .i64 (t:Int),.bool v] else if L=2 then .agg #[.int .i64 (p:Int),.int .i64 ((s:Int)+1),.int .i64 (t:Int),.bool v] else .agg #[.int .i64 (p:Int),.int .i64 (s:Int),.int .i64 ((t:Int)+1),.bool v]
def set4 (w:World) (q:Nat) (v0 v1 v2 v3:Value):World:=(((w.setCell ⟨q,0,none⟩ v0).setCell ⟨q,1,none⟩ v1).setCell ⟨q,2,none⟩ v2).setCell ⟨q,3,none⟩ v3
theorem set4_row {w:World} {q:Nat} {c0 c1 c2 c3:Value} {t:TypeId} (h:w.heap[q]? =some (.cells #[c0,c1,c2,c3] t (0,0))) (v0 v1 v2 v3:Value):(set4 w q v0 v1 v2 v3).heap[q]? =some (.cells #[v0,v1,v2,v3] t (0,0)):=
 Ux.setCell_row (Ux.setCell_row (Ux.setCell_row (Ux.setCell_row h 0 v0) 1 v1) 2 v2) 3 v3
theorem set4_touch (w:World) (q:Nat) (v0 v1 v2 v3:Value):Ux.Touch (fun b=>b=q) w (set4 w q v0 v1 v2 v3):=
 ((((Ux.Touch.refl (fun b=>b=q) w).setCell (p:=⟨q,0,none⟩) (fun _=>rfl) _).setCell (p:=⟨q,1,none⟩) (fun _=>rfl) _).setCell (p:=⟨q,2,none⟩) (fun _=>rfl) _).setCell (p:=⟨q,3,none⟩) (fun _=>rfl) _
theorem rows4 {w:World} {q:Nat} {c0 c1 c2 c3:Value} {t:TypeId} (h:w.heap[q]? =some (.cells #[c0,c1,c2,c3] t (0,0))):w.cell? ⟨q,0,none⟩=some c0∧w.cell? ⟨q,1,none⟩=some c1∧w.cell? ⟨q,2,none⟩=some c2∧w.cell? ⟨q,3,none⟩=some c3:=by
 refine ⟨?_,?_,?_,?_⟩
 ·rw [cell_of_row w q 0 _ _ (0,0) h];rfl
 ·rw [cell_of_row w q 1 _ _ (0,0) h];rfl
 ·rw [cell_of_row w q 2 _ _ (0,0) h];rfl
 ·rw [cell_of_row w q 3 _ _ (0,0) h];rfl
set_option maxHeartbeats 16000000 in
set_option maxRecDepth 100000 in
theorem rraised0_ (L p s t:Nat) (v:Bool) (W0 b:Nat) (hL:L=1∨L=2∨L=3) (hp:p<65536) (hs:s<65536) (ht:t<65536) (w:World):
 Calls Tryz.prog 158 #[.agg #[.int .i64 (p:Int),.int .i64 (s:Int),.int .i64 (t:Int),.bool v],.int .i64 (L:Int),.int .i64 (W0:Int),.int .i64 (b:Int)] w fun e w'=>e= .returned (rsq L p s t v W0 b)∧Ux.Touch (fun _=>False) w w':=by
 obtain ⟨X,hX⟩: ∃X,rwq L p s t=X:=⟨_,rfl⟩
 have hw:=fun W=>rweight0_ L p s t v hL W
 rw [hX] at hw
 have HWT:=Lib.hid hw
 have hrs:rsq L p s t v W0 b=if X≤W0∨b≤X then .agg #[.int .i64 (p:Int),.int .i64 (s:Int),.int .i64 (t:Int),.bool v]
  else if L=1 then .agg #[.int .i64 ((p:Int)+1),.int .i64 (s:Int),.int .i64 (t:Int),.bool v] else if L=2 then .agg #[.int .i64 (p:Int),.int .i64 ((s:Int)+1),.int .i64 (t:Int),.bool v] else .agg #[.int .i64 (p:Int),.int .i64 (s:Int),.int .i64 ((t:Int)+1),.bool v]:=by unfold rsq;rw [hX]
 obtain ⟨RES,hRES⟩: ∃r,rsq L p s t v W0 b=r:=⟨_,rfl⟩
 rw [hRES] at hrs⊢
 obtain ⟨q,hq⟩: ∃q,w.heap.size=q:=⟨_,rfl⟩
 have T1:Ux.Touch (fun _=>False) w (w.alloc (.cells #[.int .i64 (p:Int),.int .i64 (s:Int),.int .i64 (t:Int),.bool v] 121)):=(Ux.Touch.refl _ _).alloc _
 have b1:(w.alloc (.cells #[.int .i64 (p:Int),.int .i64 (s:Int),.int .i64 (t:Int),.bool v] 121)).heap[q]? =some (.cells #[.int .i64 (p:Int),.int .i64 (s:Int),.int .i64 (t:Int),.bool v] 121 (0,0)):=by rw [←hq];exact heap_alloc_new w _
 have s1:(w.alloc (.cells #[.int .i64 (p:Int),.int .i64 (s:Int),.int .i64 (t:Int),.bool v] 121)).heap.size=q+1:=by rw [World.size_alloc,hq]
 obtain ⟨W1,hW1⟩: ∃W,w.alloc (.cells #[.int .i64 (p:Int),.int .i64 (s:Int),.int .i64 (t:Int),.bool v] 121)=W:=⟨_,rfl⟩
 rw [hW1] at T1 b1 s1
 have T2:Ux.Touch (fun _=>False) W1 (W1.alloc (.cells #[.int .i64 0,.int .i64 0,.int .i64 0,.bool false] 121)):=(Ux.Touch.refl _ _).alloc _
 have b2:(W1.alloc (.cells #[.int .i64 0,.int .i64 0,.int .i64 0,.bool false] 121)).heap[q+1]? =some (.cells #[.int .i64 0,.int .i64 0,.int .i64 0,.bool false] 121 (0,0)):=by rw [←s1];exact heap_alloc_new W1 _
 have b1':=T2.heap b1 (fun f=>f)
 obtain ⟨W2,hW2⟩: ∃W,W1.alloc (.cells #[.int .i64 0,.int .i64 0,.int .i64 0,.bool false] 121)=W:=⟨_,rfl⟩
 rw [hW2] at T2 b2 b1'
 have T02:=T1.trans T2 fun _ _ f=>f
 have HW:=Lib.hid (And.intro hW1 (And.intro hW2 (And.intro s1 (And.intro hq hrs))))
 have H2:=Lib.hid (And.intro T02 (And.intro b1' b2))
 obtain ⟨c0,c1,c2,c3⟩:=rows4 b1'
 have hend: ∀W,Ux.Touch (fun b=>b=q) W2 W→W.heap[q+1]? =some (.cells #[.int .i64 0,.int .i64 0,.int .i64 0,.bool false] 121 (0,0)):=fun W T=>T.heap b2 (by omega)
 have HE:=Lib.hid hend
 clear T1 b1 s1 hW1 T2 b2 b1' hW2 T02 hw hX hq hrs hend hRES
 go_enter Tryz.func158,Tryz.ntmps158
 go_upto_region 1 with (fail)
 rw [HW.out.1,HW.out.2.1,HW.out.2.2.2.1]
 by_cases hA:X≤W0∨b≤X
 ·have hr:=HW.out.2.2.2.2
  rw [if_pos hA] at hr
  subst hr
  by_cases hA1:X≤W0
  ·have k1:(X:Int)≤W0:=by omega
   go_wp2_with (go_at_call 106;fail)
   refine (HWT.out _).mono ?_
   rintro e w3 ⟨rfl,T3⟩
   have b3:=T3.heap H2.out.2.1 (fun f=>f)
   have f3:=T3.heap H2.out.2.2 (fun f=>f)
   have H3:=Lib.hid (And.intro T3 (And.intro f3 b3))
   clear c0 c1 c2 c3 T3
   obtain ⟨c0,c1,c2,c3⟩:=rows4 b3
   obtain ⟨d0,d1,d2,d3⟩:=rows4 f3
   have z0:=Ux.frozen_row f3 0
   have z1:=Ux.frozen_row f3 1
   have z2:=Ux.frozen_row f3 2
   have z3:=Ux.frozen_row f3 3
   clear b3 f3
   go_wp2
   have hx:=set4_row H3.out.2.1 (.int .i64 (p:Int)) (.int .i64 (s:Int)) (.int .i64 (t:Int)) (.bool v)
   have T5:=set4_touch w3 (q+1) (.int .i64 (p:Int)) (.int .i64 (s:Int)) (.int .i64 (t:Int)) (.bool v)
   unfold set4 at hx T5
   have e0:=cell_of_row _ (q+1) 0 _ _ (0,0) hx
   have e1:=cell_of_row _ (q+1) 1 _ _ (0,0) hx
   have e2:=cell_of_row _ (q+1) 2 _ _ (0,0) hx
   have e3:=cell_of_row _ (q+1) 3 _ _ (0,0) hx
   have TT:Ux.Touch (fun _=>False) w ((((w3.setCell ⟨q+1,0,none⟩ (.int .i64 (p:Int))).setCell ⟨q+1,1,none⟩ (.int .i64 (s:Int))).setCell ⟨q+1,2,none⟩ (.int .i64 (t:Int))).setCell ⟨q+1,3,none⟩ (.bool v)):=(H2.out.1.trans (H3.out.1) fun b hb e=>by have:=HW.out.2.2.2.1;omega).trans (R:=fun _=>False) T5 fun b hb e=>by have:=HW.out.2.2.2.1;omega
   generalize (((w3.setCell ⟨q+1,0,none⟩ (.int .i64 (p:Int))).setCell ⟨q+1,1,none⟩ (.int .i64 (s:Int))).setCell ⟨q+1,2,none⟩ (.int .i64 (t:Int))).setCell ⟨q+1,3,none⟩ (.bool v)=W9 at e0 e1 e2 e3 TT⊢
   simp at e0 e1 e2 e3
   refine bodyPost_ret (by simp [results,Tryz.results158,go_sem,e0,e1,e2,e3];try rfl) rfl ?_
   exact ⟨rfl,TT⟩
  ·have k1: ¬((X:Int)≤W0):=by omega
   have k2:(X:Int)≥b:=by omega
   have k3:(b:Int)≤X:=by omega
   go_wp2_with (go_at_call 106;fail)
   refine (HWT.out _).mono ?_
   rintro e w3 ⟨rfl,T3⟩
   have b3:=T3.heap H2.out.2.1 (fun f=>f)
   have f3:=T3.heap H2.out.2.2 (fun f=>f)
   have H3:=Lib.hid (And.intro T3 (And.intro f3 b3))
   clear c0 c1 c2 c3 T3
   obtain ⟨c0,c1,c2,c3⟩:=rows4 b3
   clear b3 f3
   go_wp2_with (go_at_call 106;fail)
   refine (HWT.out _).mono ?_
   rintro e w4 ⟨rfl,T4⟩
   have b4:=T4.heap H3.out.2.2 (fun f=>f)
   have f4:=T4.heap H3.out.2.1 (fun f=>f)
   have H4:=Lib.hid (And.intro (H3.out.1.trans T4 fun _ _ f=>f) (And.intro f4 b4))
   clear c0 c1 c2 c3 T4
   obtain ⟨c0,c1,c2,c3⟩:=rows4 b4
   obtain ⟨d0,d1,d2,d3⟩:=rows4 f4
   have z0:=Ux.frozen_row f4 0
   have z1:=Ux.frozen_row f4 1
   have z2:=Ux.frozen_row f4 2
   have z3:=Ux.frozen_row f4 3
   clear b4 f4
   go_wp2
   have hx:=set4_row H4.out.2.1 (.int .i64 (p:Int)) (.int .i64 (s:Int)) (.int .i64 (t:Int)) (.bool v)
   have T5:=set4_touch w4 (q+1) (.int .i64 (p:Int)) (.int .i64 (s:Int)) (.int .i64 (t:Int)) (.bool v)
   unfold set4 at hx T5
   have e0:=cell_of_row _ (q+1) 0 _ _ (0,0) hx
   have e1:=cell_of_row _ (q+1) 1 _ _ (0,0) hx
   have e2:=cell_of_row _ (q+1) 2 _ _ (0,0) hx
   have e3:=cell_of_row _ (q+1) 3 _ _ (0,0) hx
   have TT:Ux.Touch (fun _=>False) w ((((w4.setCell ⟨q+1,0,none⟩ (.int .i64 (p:Int))).setCell ⟨q+1,1,none⟩ (.int .i64 (s:Int))).setCell ⟨q+1,2,none⟩ (.int .i64 (t:Int))).setCell ⟨q+1,3,none⟩ (.bool v)):=(H2.out.1.trans (H4.out.1) fun b hb e=>by have:=HW.out.2.2.2.1;omega).trans (R:=fun _=>False) T5 fun b hb e=>by have:=HW.out.2.2.2.1;omega
   generalize (((w4.setCell ⟨q+1,0,none⟩ (.int .i64 (p:Int))).setCell ⟨q+1,1,none⟩ (.int .i64 (s:Int))).setCell ⟨q+1,2,none⟩ (.int .i64 (t:Int))).setCell ⟨q+1,3,none⟩ (.bool v)=W9 at e0 e1 e2 e3 TT⊢
   simp at e0 e1 e2 e3
   refine bodyPost_ret (by simp [results,Tryz.results158,go_sem,e0,e1,e2,e3];try rfl) rfl ?_
   exact ⟨rfl,TT⟩
 ·have hr:=HW.out.2.2.2.2
  rw [if_neg hA] at hr
  have k1: ¬((X:Int)≤W0):=by omega
  have HR:=Lib.hid (And.intro hr (And.intro hA (And.intro hp (And.intro hs ht))))
  clear hr hA hp hs ht
  go_wp2_with (go_at_call 106;fail)
  refine (HWT.out _).mono ?_
  rintro e w3 ⟨rfl,T3⟩
  have b3:=T3.heap H2.out.2.1 (fun f=>f)
  have f3:=T3.heap H2.out.2.2 (fun f=>f)
  have H3:=Lib.hid (And.intro T3 (And.intro f3 b3))
  clear c0 c1 c2 c3 T3
  obtain ⟨c0,c1,c2,c3⟩:=rows4 b3
  clear b3 f3
  go_wp2_with (go_at_call 106;fail)
  refine (HWT.out _).mono ?_
  rintro e w4 ⟨rfl,T4⟩
  have b4:=T4.heap H3.out.2.2 (fun f=>f)
  have f4:=T4.heap H3.out.2.1 (fun f=>f)
  have H4:=Lib.hid (And.intro (H3.out.1.trans T4 fun _ _ f=>f) (And.intro f4 b4))
  clear c0 c1 c2 c3 T4
  obtain ⟨c0,c1,c2,c3⟩:=rows4 b4
  have hA:=HR.out.2.1
  have hp:=HR.out.2.2.1
  have hs:=HR.out.2.2.2.1
  have ht:=HR.out.2.2.2.2
  have k3: ¬((b:Int)≤X):=by omega
  have p0:(p:Int)≤70000:=by omega
  have s0:(s:Int)≤70000:=by omega
  have t0:(t:Int)≤70000:=by omega
  have p1:(0:Int)≤p:=by omega
  have s1:(0:Int)≤s:=by omega
  have t1:(0:Int)≤t:=by omega
  have hr:=HR.out.1
  clear hA hp hs ht
  rcases hL with rfl|rfl|rfl
  ·have hr:RES= .agg #[.int .i64 ((p:Int)+1),.int .i64 (s:Int),.int .i64 (t:Int),.bool v]:=hr
   subst hr
   have y:=Ux.frozen_row b4 0
   have b5:(w4.setCell ⟨q,0,none⟩ (.int .i64 ((p:Int)+1))).heap[q]? =some (.cells #[.int .i64 ((p:Int)+1),.int .i64 (s:Int),.int .i64 (t:Int),.bool v] 121 (0,0)):=Ux.setCell_row b4 0 (.int .i64 ((p:Int)+1))
   have t5:Ux.Touch (fun b=>b=q) w4 (w4.setCell ⟨q,0,none⟩ (.int .i64 ((p:Int)+1))):=(Ux.Touch.refl (fun b=>b=q) w4).setCell (p:=⟨q,0,none⟩) (fun _=>rfl) _
   obtain ⟨W5,hW5⟩: ∃W,w4.setCell ⟨q,0,none⟩ (.int .i64 ((p:Int)+1))=W:=⟨_,rfl⟩
   rw [hW5] at b5 t5
   have f5:=t5.heap f4 (by omega)
   have H5:=Lib.hid (And.intro f5 (show Ux.Touch (fun b=>b=q) W2 W5 from (H4.out.1.mono (fun _ _ f=>f.elim):Ux.Touch (fun b=>b=q) W2 w4).trans t5 fun b _ e=>e))
   obtain ⟨x0,x1,x2,x3⟩:=rows4 b5
   obtain ⟨d0,d1,d2,d3⟩:=rows4 f5
   have z0:=Ux.frozen_row f5 0
   have z1:=Ux.frozen_row f5 1
   have z2:=Ux.frozen_row f5 2
   have z3:=Ux.frozen_row f5 3
   clear b4 f4 b5 t5 f5
   go_upto_region 9 with (fail)
   clear c0 c1 c2 c3 y hW5
   generalize hp':(p:Int)+1=p' at x0⊢
   go_wp2
   subst hp'
   have hx:=set4_row H5.out.1 (.int .i64 ((p:Int)+1)) (.int .i64 (s:Int)) (.int .i64 (t:Int)) (.bool v)
   have T5:=set4_touch W5 (q+1) (.int .i64 ((p:Int)+1)) (.int .i64 (s:Int)) (.int .i64 (t:Int)) (.bool v)
   unfold set4 at hx T5
   have e0:=cell_of_row _ (q+1) 0 _ _ (0,0) hx
   have e1:=cell_of_row _ (q+1) 1 _ _ (0,0) hx
   have e2:=cell_of_row _ (q+1) 2 _ _ (0,0) hx
   have e3:=cell_of_row _ (q+1) 3 _ _ (0,0) hx
   have TT:Ux.Touch (fun _=>False) w ((((W5.setCell ⟨q+1,0,none⟩ (.int .i64 ((p:Int)+1))).setCell ⟨q+1,1,none⟩ (.int .i64 (s:Int))).setCell ⟨q+1,2,none⟩ (.int .i64 (t:Int))).setCell ⟨q+1,3,none⟩ (.bool v)):=(H2.out.1.trans (H5.out.2) fun b hb e=>by have:=HW.out.2.2.2.1;omega).trans (R:=fun _=>False) T5 fun b hb e=>by have:=HW.out.2.2.2.1;omega
   generalize (((W5.setCell ⟨q+1,0,none⟩ (.int .i64 ((p:Int)+1))).setCell ⟨q+1,1,none⟩ (.int .i64 (s:Int))).setCell ⟨q+1,2,none⟩ (.int .i64 (t:Int))).setCell ⟨q+1,3,none⟩ (.bool v)=W9 at e0 e1 e2 e3 TT⊢
   simp at e0 e1 e2 e3
   refine bodyPost_ret (by simp [results,Tryz.results158,go_sem,e0,e1,e2,e3];try rfl) rfl ?_
   exact ⟨rfl,TT⟩
  ·have hr:RES= .agg #[.int .i64 (p:Int),.int .i64 ((s:Int)+1),.int .i64 (t:Int),.bool v]:=hr
   subst hr
   have y:=Ux.frozen_row b4 1
   have b5:(w4.setCell ⟨q,1,none⟩ (.int .i64 ((s:Int)+1))).heap[q]? =some (.cells #[.int .i64 (p:Int),.int .i64 ((s:Int)+1),.int .i64 (t:Int),.bool v] 121 (0,0)):=Ux.setCell_row b4 1 (.int .i64 ((s:Int)+1))
   have t5:Ux.Touch (fun b=>b=q) w4 (w4.setCell ⟨q,1,none⟩ (.int .i64 ((s:Int)+1))):=(Ux.Touch.refl (fun b=>b=q) w4).setCell (p:=⟨q,1,none⟩) (fun _=>rfl) _
   obtain ⟨W5,hW5⟩: ∃W,w4.setCell ⟨q,1,none⟩ (.int .i64 ((s:Int)+1))=W:=⟨_,rfl⟩
   rw [hW5] at b5 t5
   have f5:=t5.heap f4 (by omega)
   have H5:=Lib.hid (And.intro f5 (show Ux.Touch (fun b=>b=q) W2 W5 from (H4.out.1.mono (fun _ _ f=>f.elim):Ux.Touch (fun b=>b=q) W2 w4).trans t5 fun b _ e=>e))
   obtain ⟨x0,x1,x2,x3⟩:=rows4 b5
   obtain ⟨d0,d1,d2,d3⟩:=rows4 f5
   have z0:=Ux.frozen_row f5 0
   have z1:=Ux.frozen_row f5 1
   have z2:=Ux.frozen_row f5 2
   have z3:=Ux.frozen_row f5 3
   clear b4 f4 b5 t5 f5
   go_upto_region 9 with (fail)
   clear c0 c1 c2 c3 y hW5
   generalize hp':(s:Int)+1=p' at x1⊢
   go_wp2
   subst hp'
   have hx:=set4_row H5.out.1 (.int .i64 (p:Int)) (.int .i64 ((s:Int)+1)) (.int .i64 (t:Int)) (.bool v)
   have T5:=set4_touch W5 (q+1) (.int .i64 (p:Int)) (.int .i64 ((s:Int)+1)) (.int .i64 (t:Int)) (.bool v)
   unfold set4 at hx T5
   have e0:=cell_of_row _ (q+1) 0 _ _ (0,0) hx
   have e1:=cell_of_row _ (q+1) 1 _ _ (0,0) hx
   have e2:=cell_of_row _ (q+1) 2 _ _ (0,0) hx
   have e3:=cell_of_row _ (q+1) 3 _ _ (0,0) hx
   have TT:Ux.Touch (fun _=>False) w ((((W5.setCell ⟨q+1,0,none⟩ (.int .i64 (p:Int))).setCell ⟨q+1,1,none⟩ (.int .i64 ((s:Int)+1))).setCell ⟨q+1,2,none⟩ (.int .i64 (t:Int))).setCell ⟨q+1,3,none⟩ (.bool v)):=(H2.out.1.trans (H5.out.2) fun b hb e=>by have:=HW.out.2.2.2.1;omega).trans (R:=fun _=>False) T5 fun b hb e=>by have:=HW.out.2.2.2.1;omega
   generalize (((W5.setCell ⟨q+1,0,none⟩ (.int .i64 (p:Int))).setCell ⟨q+1,1,none⟩ (.int .i64 ((s:Int)+1))).setCell ⟨q+1,2,none⟩ (.int .i64 (t:Int))).setCell ⟨q+1,3,none⟩ (.bool v)=W9 at e0 e1 e2 e3 TT⊢
   simp at e0 e1 e2 e3
   refine bodyPost_ret (by simp [results,Tryz.results158,go_sem,e0,e1,e2,e3];try rfl) rfl ?_
   exact ⟨rfl,TT⟩
  ·have hr:RES= .agg #[.int .i64 (p:Int),.int .i64 (s:Int),.int .i64 ((t:Int)+1),.bool v]:=hr
   subst hr
   have y:=Ux.frozen_row b4 2
   have b5:(w4.setCell ⟨q,2,none⟩ (.int .i64 ((t:Int)+1))).heap[q]? =some (.cells #[.int .i64 (p:Int),.int .i64 (s:Int),.int .i64 ((t:Int)+1),.bool v] 121 (0,0)):=Ux.setCell_row b4 2 (.int .i64 ((t:Int)+1))
   have t5:Ux.Touch (fun b=>b=q) w4 (w4.setCell ⟨q,2,none⟩ (.int .i64 ((t:Int)+1))):=(Ux.Touch.refl (fun b=>b=q) w4).setCell (p:=⟨q,2,none⟩) (fun _=>rfl) _
   obtain ⟨W5,hW5⟩: ∃W,w4.setCell ⟨q,2,none⟩ (.int .i64 ((t:Int)+1))=W:=⟨_,rfl⟩
   rw [hW5] at b5 t5
   have f5:=t5.heap f4 (by omega)
   have H5:=Lib.hid (And.intro f5 (show Ux.Touch (fun b=>b=q) W2 W5 from (H4.out.1.mono (fun _ _ f=>f.elim):Ux.Touch (fun b=>b=q) W2 w4).trans t5 fun b _ e=>e))
   obtain ⟨x0,x1,x2,x3⟩:=rows4 b5
   obtain ⟨d0,d1,d2,d3⟩:=rows4 f5
   have z0:=Ux.frozen_row f5 0
   have z1:=Ux.frozen_row f5 1
   have z2:=Ux.frozen_row f5 2
   have z3:=Ux.frozen_row f5 3
   clear b4 f4 b5 t5 f5
   go_upto_region 9 with (fail)
   clear c0 c1 c2 c3 y hW5
   generalize hp':(t:Int)+1=p' at x2⊢
   go_wp2
   subst hp'
   have hx:=set4_row H5.out.1 (.int .i64 (p:Int)) (.int .i64 (s:Int)) (.int .i64 ((t:Int)+1)) (.bool v)
   have T5:=set4_touch W5 (q+1) (.int .i64 (p:Int)) (.int .i64 (s:Int)) (.int .i64 ((t:Int)+1)) (.bool v)
   unfold set4 at hx T5
   have e0:=cell_of_row _ (q+1) 0 _ _ (0,0) hx
   have e1:=cell_of_row _ (q+1) 1 _ _ (0,0) hx
   have e2:=cell_of_row _ (q+1) 2 _ _ (0,0) hx
   have e3:=cell_of_row _ (q+1) 3 _ _ (0,0) hx
   have TT:Ux.Touch (fun _=>False) w ((((W5.setCell ⟨q+1,0,none⟩ (.int .i64 (p:Int))).setCell ⟨q+1,1,none⟩ (.int .i64 (s:Int))).setCell ⟨q+1,2,none⟩ (.int .i64 ((t:Int)+1))).setCell ⟨q+1,3,none⟩ (.bool v)):=(H2.out.1.trans (H5.out.2) fun b hb e=>by have:=HW.out.2.2.2.1;omega).trans (R:=fun _=>False) T5 fun b hb e=>by have:=HW.out.2.2.2.1;omega
   generalize (((W5.setCell ⟨q+1,0,none⟩ (.int .i64 (p:Int))).setCell ⟨q+1,1,none⟩ (.int .i64 (s:Int))).setCell ⟨q+1,2,none⟩ (.int .i64 ((t:Int)+1))).setCell ⟨q+1,3,none⟩ (.bool v)=W9 at e0 e1 e2 e3 TT⊢
   simp at e0 e1 e2 e3
   refine bodyPost_ret (by simp [results,Tryz.results158,go_sem,e0,e1,e2,e3];try rfl) rfl ?_
   exact ⟨rfl,TT⟩
end Go.Proofs.YtfccjaboicpohaaGreatDoor
namespace Go.Proofs.YtfccjaboicpohaaGreatDoor
open Go.RowKit
open Ux (Ent KGrow eP eS eT eV wt8 incW raise lastW newK fullT)
def bnd (L:Nat):Nat:=if L=1 then 64256 else 1048576
theorem eP_le {x:Nat} (hx:x<4294967296):eP x≤65535:=by unfold eP;omega
theorem eS_le (x:Nat):eS x≤255:=by unfold eS;omega
theorem eT_le (x:Nat):eT x≤127:=by unfold eT;omega
theorem rsq_raise {L x W0:Nat} (hL:L=1∨L=2∨L=3) (hx:x<4294967296) (hr:L≠1→wt8 L x<lastW L):
 rsq L (eP x) (eS x) (eT x) (eV x) W0 (bnd L)= .agg #[.int .i64 (eP (raise L W0 x):Nat),.int .i64 (eS (raise L W0 x):Nat),.int .i64 (eT (raise L W0 x):Nat),.bool (eV (raise L W0 x))]:=by
 have hp:=eP_le hx
 have hs:=eS_le x
 have ht:=eT_le x
 have hq:rwq L (eP x) (eS x) (eT x)=wt8 L x:=rfl
 unfold rsq
 rw [hq]
 by_cases hA:wt8 L x≤W0∨bnd L≤wt8 L x
 ·rw [if_pos hA]
  have he:raise L W0 x=x:=by
   unfold raise
   rw [if_neg]
   rintro ⟨h1,h2⟩
   rcases hA with hA|hA
   ·omega
   ·unfold bnd wt8 at*
    rcases hL with rfl|rfl|rfl<;>simp at hA h2<;>omega
  rw [he]
 ·rw [if_neg hA]
  have he:raise L W0 x=incW L x:=by
   unfold raise
   rw [if_pos]
   refine ⟨by omega,?_⟩
   unfold bnd wt8 at*
   rcases hL with rfl|rfl|rfl
   ·right
    simp at hA⊢
    omega
   ·left;omega
   ·left;omega
  rw [he]
  rcases hL with rfl|rfl|rfl
  ·have h1:eP x<65535:=by
    unfold bnd wt8 at hA
    simp at hA
    omega
   obtain ⟨a,b,c,d⟩:=Ux.inc_1 x h1
   rw [if_pos rfl,a,b,c,d]
   rfl
  ·have h1:eS x<255:=by
    have:=hr (by decide)
    unfold wt8 lastW at this
    simpa using this
   obtain ⟨a,b,c,d⟩:=Ux.inc_2 x h1
   rw [if_neg (by decide),if_pos rfl,a,b,c,d]
   rfl
  ·have h1:eT x<127:=by
    have:=hr (by decide)
    unfold wt8 lastW at this
    simpa using this
   obtain ⟨a,b,c,d⟩:=Ux.inc_3 x h1
   rw [if_neg (by decide),if_neg (by decide),a,b,c,d]
   rfl
theorem rv_snoc (l:List Nat) (y:Nat):rv (l++ [y])=rv l++ [Value.int .i64 (eP y:Nat),.int .i64 (eS y:Nat),.int .i64 (eT y:Nat),.bool (eV y)]:=by
 unfold rv
 rw [List.flatMap_append]
 rfl
set_option maxHeartbeats 16000000 in
set_option maxRecDepth 100000 in
theorem rlist_ (L W0:Nat) (v:Value) (l:List Nat) (hL:L=1∨L=2∨L=3) (w:World) (hv:RRow w v l) (hl:l.length≤100000) (hx: ∀x∈l,x<4294967296) (hr: ∀x∈l,L≠1→wt8 L x<lastW L):
 Calls Tryz.prog 108 #[v,.int .i64 (L:Int),.int .i64 (W0:Int),.int .i64 (bnd L:Nat)] w fun e w'=> ∃a c,e= .returned (.slice a l.length c)∧KGrow w' w.heap.size 121 4 (.slice a l.length c) l.length (rv (l.map (raise L W0)))∧Ux.Touch (fun _=>False) w w':=by
 obtain ⟨al,cl,rfl,hc⟩:=hv
 obtain ⟨n,hn⟩: ∃n,l.length=n:=⟨_,rfl⟩
 rw [hn] at hl⊢
 have n0:(n:Int)≤100000:=by omega
 obtain ⟨bd,hbd⟩: ∃bd,bnd L=bd:=⟨_,rfl⟩
 have HH:=Lib.hid (And.intro hc (And.intro hn (And.intro hx hr)))
 have HRA:Hid (∀(x:Nat),x∈l→∀W,Calls Tryz.prog 158 #[.agg #[.int .i64 (eP x:Nat),.int .i64 (eS x:Nat),.int .i64 (eT x:Nat),.bool (eV x)],.int .i64 (L:Int),.int .i64 (W0:Int),.int .i64 (bd:Int)] W fun e w'=>e= .returned (.agg #[.int .i64 (eP (raise L W0 x):Nat),.int .i64 (eS (raise L W0 x):Nat),.int .i64 (eT (raise L W0 x):Nat),.bool (eV (raise L W0 x))])∧Ux.Touch (fun _=>False) W w'):=Lib.hid fun x hm W=>by
  have h:=rraised0_ L (eP x) (eS x) (eT x) (eV x) W0 bd hL (by have:=eP_le (hx x hm);omega) (by have:=eS_le x;omega) (by have:=eT_le x;omega) W
  rw [←hbd,rsq_raise hL (hx x hm) (hr x hm),hbd] at h
  exact h
 rw [hbd]
 clear hc hn hx hr hl hL hbd
 go_enter Tryz.func108,Tryz.ntmps108
 go_wp2
 go_loopg [9,10] n (fun gk s9 s10 wr=> ∃i:Nat,s10= .int .i64 i∧i+gk=n∧Hid (KGrow wr w.heap.size 121 4 s9 i (rv ((l.take i).map (raise L W0)))∧Ux.Touch (fun _=>False) w wr))
 case atStart=>exact ⟨0,rfl,by omega,Lib.hid ⟨KGrow.nil _ _ _ _,Ux.Touch.refl _ _⟩⟩
 case round=>
  obtain ⟨i,rfl,hig,HI⟩:=hrel
  have i0:(0:Int)≤i:=by omega
  obtain ⟨a9,c9,rfl,_⟩:=HI.out.1.is
  by_cases hin:i<n
  ·obtain ⟨g',rfl⟩: ∃g',gk=g'+1:=⟨gk-1,by omega⟩
   have i1:(i:Int)<n:=by omega
   obtain ⟨x,hx⟩: ∃x,l[i]? =some x:=⟨_,List.getElem?_eq_getElem (by have:=HH.out.2.1;omega)⟩
   obtain ⟨g,o,rfl,d1,d2,d3,d4⟩:=HH.out.1 i x hx
   have d1:=HI.out.2.cell d1 (fun f=>f)
   have d2:=HI.out.2.cell d2 (fun f=>f)
   have d3:=HI.out.2.cell d3 (fun f=>f)
   have d4:=HI.out.2.cell d4 (fun f=>f)
   have HC:=Lib.hid (HRA.out x (List.mem_of_getElem? hx) wr)
   obtain ⟨y,hy⟩: ∃y,raise L W0 x=y:=⟨_,rfl⟩
   rw [hy] at HC
   have hlen:(l.take (i+1)).map (raise L W0)=(l.take i).map (raise L W0)++ [y]:=by
    rw [List.take_add_one,hx,List.map_append]
    simp [hy]
   have HLN:=Lib.hid hlen
   obtain ⟨p,hp⟩: ∃p,eP x=p:=⟨_,rfl⟩
   obtain ⟨s,hs⟩: ∃s,eS x=s:=⟨_,rfl⟩
   obtain ⟨t,ht⟩: ∃t,eT x=t:=⟨_,rfl⟩
   obtain ⟨ve,hve⟩: ∃t,eV x=t:=⟨_,rfl⟩
   rw [hp,hs,ht,hve] at HC
   rw [hp] at d1
   rw [hs] at d2
   rw [ht] at d3
   rw [hve] at d4
   clear hx hy hlen hp hs ht hve
   go_wp2_with (go_at_call 158;fail)
   refine HC.out.mono ?_
   rintro e w8 ⟨rfl,T8⟩
   have tB:Ux.Touch (fun _=>False) w8 (w8.alloc (.cells [Value.int .i64 (eP y:Nat),.int .i64 (eS y:Nat),.int .i64 (eT y:Nat),.bool (eV y)].toArray 121)):=(Ux.Touch.refl _ _).alloc _
   obtain ⟨r,w10,hrun,hG2,hT10⟩:=((HI.out.1.touch0 T8).touch0 tB).app (P:=Tryz.prog) 50 32 _ Tryz.underlying50 infoRE rfl (by omega) (.slice (some ⟨w8.heap.size,0,none⟩) 1 1) 1 [Value.int .i64 (eP y:Nat),.int .i64 (eS y:Nat),.int .i64 (eT y:Nat),.bool (eV y)] (Ux.src_new Tryz.underlying50 w8 4 1 _ rfl (fun u hu=>by
    simp only [List.mem_cons,List.not_mem_nil,or_false] at hu
    rcases hu with rfl|rfl|rfl|rfl<;>rfl)) (by have:=HI.out.2.size;have:=T8.size;have:=tB.size;omega) (by simp only [maxLen];omega) (by omega)
   obtain ⟨ar,cr,rfl,_⟩:=hG2.is
   have HR:=Lib.hid (And.intro hrun (And.intro hG2 (((HI.out.2.trans T8 fun _ _ f=>f).trans tB fun _ _ f=>f).trans (R:=fun _=>False) hT10 fun b hb hh=>by have:=hh.1;omega)))
   clear T8 tB hrun hG2 hT10 d1 d2 d3 d4
   go_wp2_with (at_builtin;refine Ux.wpList_app (v1:= .slice a9 i c9) (x1:= .slice (some ⟨w8.heap.size,0,none⟩) 1 1) rfl _ _ _ _ rfl rfl rfl (HR.out.1 _) ?_)
   go_roundg g'
   case measure=>omega
   case rel=>
    refine ⟨i+1,rfl,by omega,Lib.hid ⟨?_,HR.out.2.2⟩⟩
    rw [HLN.out,rv_snoc]
    exact HR.out.2.1
  ·have i1: ¬((i:Int)<n):=by omega
   have hi:i=n:=by omega
   subst hi
   go_wp2
   go_returns
   refine ⟨a9,c9,rfl,?_,HI.out.2⟩
   have h:=HI.out.1
   rw [List.take_of_length_le (by have:=HH.out.2.1;omega)] at h
   exact h
theorem anyR_drop {α:Type} {l:List α} {i:Nat} {p:α} (h:l[i]? =some p) (f:α→Bool):(l.drop i).any f=(f p||(l.drop (i+1)).any f):=by
 obtain ⟨hi,e⟩:=List.getElem?_eq_some_iff.1 h
 rw [List.drop_eq_getElem_cons hi,e]
 rfl
set_option maxHeartbeats 16000000 in
set_option maxRecDepth 100000 in
theorem rfull_ (L:Nat) (v:Value) (T:List Ent) (A:Nat→Prop) (w:World) (hT:RRows w A v T) (hL:L=1∨L=2∨L=3) (h1:T.length≤10000) (h8: ∀e∈T,e.2.length≤1000):
 Calls Tryz.prog 107 #[.agg #[v],.int .i64 (L:Int)] w fun e w'=>e= .returned (.bool (fullT L T))∧Ux.Touch (fun _=>False) w w':=by
 obtain ⟨_,a,ca,rfl,_,hca⟩:=hT
 obtain ⟨n,hn⟩: ∃n,T.length=n:=⟨_,rfl⟩
 rw [hn] at h1⊢
 have n0:(n:Int)≤10000:=by omega
 obtain ⟨RES,hRES⟩: ∃r,fullT L T=r:=⟨_,rfl⟩
 rw [hRES]
 obtain ⟨F,hF⟩: ∃F:Nat→Bool,(fun x=>wt8 L x==lastW L)=F:=⟨_,rfl⟩
 have hfull:(T.any fun e=>e.2.any F)=RES:=by rw [←hF];exact hRES
 obtain ⟨lw,hlw⟩: ∃k,lastW L=k:=⟨_,rfl⟩
 have hlw2:L=1∧lw=64255∨L=2∧lw=255∨L=3∧lw=127:=by
  rw [←hlw]
  rcases hL with rfl|rfl|rfl
  ·exact .inl ⟨rfl,rfl⟩
  ·exact .inr (.inl ⟨rfl,rfl⟩)
  ·exact .inr (.inr ⟨rfl,rfl⟩)
 have hFx: ∀x,F x=((wt8 L x:Int)==(lw:Int)):=fun x=>by
  rw [←hF,←hlw]
  dsimp only
  rw [Bool.eq_iff_iff]
  simp only [beq_iff_eq]
  omega
 have HW:=Lib.hid fun x W=>rweight_ L x hL W
 have HH:=Lib.hid (And.intro hca (And.intro hn (And.intro h8 (And.intro hfull (And.intro hFx hlw2)))))
 clear hca hn h1 h8 hfull hFx hF hL hlw hRES
 obtain ⟨q,hq⟩: ∃q,w.heap.size=q:=⟨_,rfl⟩
 have T1:Ux.Touch (fun _=>False) w (w.alloc (.cells #[.slice a n ca] 36)):=(Ux.Touch.refl _ _).alloc _
 have b1:(w.alloc (.cells #[.slice a n ca] 36)).cell? ⟨q,0,none⟩=some (.slice a n ca):=by rw [←hq,Ux.cell_newg];rfl
 obtain ⟨W1,hW1⟩: ∃W,w.alloc (.cells #[.slice a n ca] 36)=W:=⟨_,rfl⟩
 rw [hW1] at T1 b1
 have H1:=Lib.hid (And.intro T1 (And.intro b1 (And.intro hW1 hq)))
 clear T1 hW1 hq
 go_enter Tryz.func107,Tryz.ntmps107
 go_upto_region 1 with (fail)
 rw [H1.out.2.2.1,H1.out.2.2.2]
 go_cut [5] (fun s5 wx=>s5= .int .i64 (lw:Int)∧Ux.Touch (fun _=>False) W1 wx)
 case first=>
  have tA:Ux.Touch (fun _=>False) W1 (W1.alloc (.cells #[.int .i64 64255,.int .i64 255,.int .i64 127] 3)):=(Ux.Touch.refl _ _).alloc _
  have HA:=Lib.hid tA
  have hlw2:=HH.out.2.2.2.2.2
  rcases hlw2 with ⟨rfl,rfl⟩|⟨rfl,rfl⟩|⟨rfl,rfl⟩
  all_goals
   clear tA
   go_wp2_with (fail)
   go_meet
   exact ⟨rfl,HA.out⟩
 obtain ⟨rfl,T2⟩:=hcut
 have b2:=T2.cell b1 (fun f=>f)
 have H2:=Lib.hid (H1.out.1.trans T2 fun _ _ f=>f)
 clear b1 T2
 go_wp2_with (fail)
 go_loopg [6] n (fun gk s6 wr=> ∃i:Nat,s6= .int .i64 i∧i+gk=n∧wr.cell? ⟨q,0,none⟩=some (.slice a n ca)∧Hid ((T.drop i).any (fun e=>e.2.any F)=RES∧Ux.Touch (fun _=>False) w wr))
 case atStart=>exact ⟨0,rfl,by omega,b2,Lib.hid ⟨HH.out.2.2.2.1,H2.out⟩⟩
 case round=>
  clear b2
  obtain ⟨i,rfl,hig,hbox,HI⟩:=hrel
  have i0:(0:Int)≤i:=by omega
  by_cases hin:i<n
  ·obtain ⟨g',rfl⟩: ∃g',gk=g'+1:=⟨gk-1,by omega⟩
   have i1:(i:Int)<n:=by omega
   obtain ⟨e,he⟩: ∃x,T[i]? =some x:=⟨_,List.getElem?_eq_getElem (by have:=HH.out.2.1;omega)⟩
   obtain ⟨g0,o,x,y,rfl,c1,c2,hE⟩:=HH.out.1 i e he
   obtain ⟨a2,k2,rfl,hc4⟩:=hE.1.2
   obtain ⟨m2,hm2⟩: ∃m,e.2.length=m:=⟨_,rfl⟩
   have q1:=HH.out.2.2.1 e (List.mem_of_getElem? he)
   rw [hm2] at c2 q1
   have m20:(m2:Int)≤1000:=by omega
   have hst:=anyR_drop he (fun e=>e.2.any F)
   rw [HI.out.1] at hst
   have HX:=Lib.hid (And.intro hst (And.intro hm2 (And.intro hc4 c2)))
   have c2:=HI.out.2.cell c2 (fun f=>f)
   clear he c1 hE hm2 q1 hst hc4 hin
   obtain ⟨W3,hW3⟩: ∃W,W=wr:=⟨_,rfl⟩
   go_wp2_with (fail)
   go_loopg [7] m2 (fun gk s7 wr=> ∃j:Nat,s7= .int .i64 j∧j+gk=m2∧wr.cell? ⟨q,0,none⟩=some (.slice (some ⟨g0,o,none⟩) n ca)∧Hid (((e.2.drop j).any F||(T.drop (i+1)).any (fun e=>e.2.any F))=RES∧Ux.Touch (fun _=>False) w wr))
   case atStart=>exact ⟨0,rfl,by omega,hbox,Lib.hid ⟨HX.out.1.symm,HI.out.2⟩⟩
   case round=>
    clear hbox c2
    obtain ⟨j,rfl,hjg,hbox,HJ⟩:=hrel
    have j0:(0:Int)≤j:=by omega
    have c2:=HJ.out.2.cell HX.out.2.2.2 (fun f=>f)
    by_cases hj:j<m2
    ·obtain ⟨h',rfl⟩: ∃h',gk=h'+1:=⟨gk-1,by omega⟩
     have j1:(j:Int)<m2:=by omega
     obtain ⟨x,hx⟩: ∃x,e.2[j]? =some x:=⟨_,List.getElem?_eq_getElem (by have:=HX.out.2.1;omega)⟩
     obtain ⟨g2,o2,rfl,d1,d2,d3,d4⟩:=HX.out.2.2.1 j x hx
     have d1:=HJ.out.2.cell d1 (fun f=>f)
     have d2:=HJ.out.2.cell d2 (fun f=>f)
     have d3:=HJ.out.2.cell d3 (fun f=>f)
     have d4:=HJ.out.2.cell d4 (fun f=>f)
     have hst:=anyR_drop hx F
     have hJ:=HJ.out.1
     rw [hst,HH.out.2.2.2.2.1 x] at hJ
     have HC:=Lib.hid (HW.out x wr)
     obtain ⟨X,hX⟩: ∃X,wt8 L x=X:=⟨_,rfl⟩
     rw [hX] at HC hJ
     obtain ⟨b,hb⟩: ∃b,((X:Int)==(lw:Int))=b:=⟨_,rfl⟩
     rw [hb] at hJ
     have HK:=Lib.hid hJ
     clear hst hJ hX hx
     go_wp2_with (go_at_call 106;fail)
     refine HC.out.mono ?_
     rintro e4 w4 ⟨rfl,T4⟩
     have hbox4:=T4.cell hbox (fun f=>f)
     have H4:=Lib.hid (HJ.out.2.trans T4 fun _ _ f=>f)
     clear T4 hbox c2 d1 d2 d3 d4
     cases b with
     |true=>
      have hr:RES=true:=by rw [←HK.out];rfl
      subst hr
      go_wp2_with (fail)
      go_returns
      exact ⟨rfl,H4.out⟩
     |false=>
      go_wp2_with (fail)
      go_roundg h'
      case measure=>omega
      case rel=>exact ⟨j+1,rfl,by omega,hbox4,Lib.hid ⟨by rw [←HK.out];rfl,H4.out⟩⟩
    ·have j1: ¬((j:Int)<m2):=by omega
     have hnil:e.2.drop j= []:=List.drop_eq_nil_of_le (by have:=HX.out.2.1;omega)
     have hJ:=HJ.out.1
     rw [hnil] at hJ
     have HK:=Lib.hid hJ
     clear hnil hJ hj
     go_wp2_with (fail)
     go_roundg g'
     case measure=>omega
     case rel=>exact ⟨i+1,rfl,by omega,hbox,Lib.hid ⟨by rw [←HK.out];rfl,HJ.out.2⟩⟩
  ·have i1: ¬((i:Int)<n):=by omega
   have hnil:T.drop i= []:=List.drop_eq_nil_of_le (by have:=HH.out.2.1;omega)
   have hI:=HI.out.1
   rw [hnil] at hI
   have hr:RES=false:=hI.symm
   subst hr
   clear hnil hI hin
   go_wp2_with (fail)
   go_returns
   exact ⟨rfl,HI.out.2⟩
end Go.Proofs.YtfccjaboicpohaaGreatDoor
namespace Go.Proofs.YtfccjaboicpohaaGreatDoor
open Go.RowKit
open Ux (Ent KGrow Ents eP eS eT eV wt8 incW raise lastW newK fullT lastN mapE stepA)
theorem rc_len (x:Nat):(rc x).length=4:=rfl
theorem rv_cons (x:Nat) (l:List Nat):rv (x::l)=rc x++rv l:=rfl
theorem rv_set: ∀(l:List Nat) (k y:Nat),k<l.length→rv (l.set k y)=((((rv l).set (k*4) (.int .i64 (eP y:Nat))).set (k*4+1) (.int .i64 (eS y:Nat))).set (k*4+2) (.int .i64 (eT y:Nat))).set (k*4+3) (.bool (eV y))
 | [],k,y,h=>by simp at h
 |x::l,0,y,h=>rfl
 |x::l,k+1,y,h=>by
  have ih:=rv_set l k y (by simpa using h)
  have e0:(k+1)*4=(rc x).length+(k*4):=by rw [rc_len];omega
  have e1:(k+1)*4+1=(rc x).length+(k*4+1):=by rw [rc_len];omega
  have e2:(k+1)*4+2=(rc x).length+(k*4+2):=by rw [rc_len];omega
  have e3:(k+1)*4+3=(rc x).length+(k*4+3):=by rw [rc_len];omega
  have hs: ∀(a b:List Value) (i:Nat) (v:Value),(a++b).set (a.length+i) v=a++b.set i v:=fun a b i v=>by
   rw [List.set_append_right _ _ (by omega),Nat.add_sub_cancel_left]
  rw [List.set_cons_succ,rv_cons,rv_cons,ih,e3,e2,e1,e0,hs,hs,hs,hs]
theorem KGrow.setc {w:World} {lo:Nat} {t:TypeId} {g n c m sz:Nat} {xs:List Value} (h:KGrow w lo t sz (.slice (some ⟨g,0,none⟩) m c) n xs) (j:Nat) (v:Value):
 KGrow (w.setCell ⟨g,j,none⟩ v) lo t sz (.slice (some ⟨g,0,none⟩) m c) n (xs.set j v)∧Ux.Touch (fun b=>b=g) w (w.setCell ⟨g,j,none⟩ v):=by
 have T:Ux.Touch (fun b=>b=g) w (w.setCell ⟨g,j,none⟩ v):=(Ux.Touch.refl (fun b=>b=g) w).setCell (p:=⟨g,j,none⟩) (fun _=>rfl) _
 refine ⟨?_,T⟩
 obtain ⟨⟨h1,h2⟩,h3⟩:=h
 rcases h2 with ⟨hv,_⟩|⟨g',cap,cur,hv,hg,hh,a1,a2,a3,a4⟩
 ·cases hv
 ·cases hv
  refine ⟨⟨by rw [List.length_set];exact h1,.inr ⟨g,c,cur.setIfInBounds j v,rfl,hg,Ux.setCell_row hh j v,a1,a2,by rw [Array.size_setIfInBounds];exact a3,?_⟩⟩,h3⟩
  rw [Array.toList_setIfInBounds,List.take_set,a4]
theorem KGrow.cells4 {w:World} {lo:Nat} {t:TypeId} {a:Option Addr} {n c:Nat} {l:List Nat} (h:KGrow w lo t 4 (.slice a n c) n (rv l)) {k x:Nat} (hx:l[k]? =some x): ∃g,a=some ⟨g,0,none⟩∧w.cell? ⟨g,k*4,none⟩=some (.int .i64 (eP x:Nat))∧w.cell? ⟨g,k*4+1,none⟩=some (.int .i64 (eS x:Nat))∧w.cell? ⟨g,k*4+2,none⟩=some (.int .i64 (eT x:Nat))∧w.cell? ⟨g,k*4+3,none⟩=some (.bool (eV x)):=by
 obtain ⟨a',c',e,hc⟩:=h.is
 cases e
 obtain ⟨g,rfl,_,c0⟩:=hc _ _ (rv_get (k:=0) hx rfl)
 obtain ⟨_,h1,_,c1⟩:=hc _ _ (rv_get (k:=1) hx rfl)
 cases h1
 obtain ⟨_,h1,_,c2⟩:=hc _ _ (rv_get (k:=2) hx rfl)
 cases h1
 obtain ⟨_,h1,_,c3⟩:=hc _ _ (rv_get (k:=3) hx rfl)
 cases h1
 exact ⟨g,rfl,c0,c1,c2,c3⟩
theorem KGrow.frozen {w:World} {lo:Nat} {t:TypeId} {sz g m c n:Nat} {xs:List Value} (h:KGrow w lo t sz (.slice (some ⟨g,0,none⟩) m c) n xs) (j:Nat):w.frozen? ⟨g,j,none⟩=false:=by
 rcases h.1.2 with ⟨hv,h0⟩|⟨g',cap,cur,hv,_,hh,_⟩
 ·cases hv
 ·cases hv
  exact Ux.frozen_row hh j
def RStepR (w:World) (A:Nat→Prop) (r:Nat×List Ent×List Nat) (e:Ending):Prop:=
 (r.1≠0∧∃x n c,e= .returned (.tuple #[.agg #[.slice x n c],.slice none 0 0,.int .i64 (r.1:Nat)]))∨
 (r.1=0∧∃u b,e= .returned (.tuple #[.agg #[u],b,.int .i64 0])∧RRows w A u r.2.1∧RRow w b r.2.2∧capOk b∧∀g,b.ownBlock=some g→A g∧g<w.heap.size)
theorem lastN_none {L:Nat} {a:List Nat} {m:Nat} (h:wt8 L (a.getD m 0)=0):lastN L a (m+1)=lastN L a m:=by
 conv=>lhs;unfold lastN
 rw [if_pos h]
theorem lastN_some {L:Nat} {a:List Nat} {m:Nat} (h:wt8 L (a.getD m 0)≠0):lastN L a (m+1)=some m:=by
 conv=>lhs;unfold lastN
 rw [if_neg h]
theorem stepA_0 {T:List Ent} {a:List Nat} {L:Nat} (h:lastN L a a.length=none):stepA T a L=(1,T,a):=by unfold stepA;rw [h]
theorem stepA_1 {T:List Ent} {a:List Nat} {L k:Nat} (h:lastN L a a.length=some k) (h1:L=1∧64256≤eP (a.getD k 0)):stepA T a L=(1,T,a):=by unfold stepA;rw [h];dsimp only;rw [if_pos h1]
theorem stepA_2 {T:List Ent} {a:List Nat} {L k:Nat} (h:lastN L a a.length=some k) (h1: ¬(L=1∧64256≤eP (a.getD k 0))) (h2:fullT L T=true):stepA T a L=(60,T,a):=by unfold stepA;rw [h];dsimp only;rw [if_neg h1,if_pos h2]
theorem stepA_3 {T:List Ent} {a:List Nat} {L k:Nat} (h:lastN L a a.length=some k) (h1: ¬(L=1∧64256≤eP (a.getD k 0))) (h2:fullT L T=false):stepA T a L=(0,mapE (raise L (wt8 L (a.getD k 0))) T,((a.take (k+1)).map (raise L (wt8 L (a.getD k 0)))).set k (newK L (a.getD k 0))):=by unfold stepA;rw [h];dsimp only;rw [if_neg h1,if_neg (by rw [h2];simp)]
theorem getD_get {a:List Nat} {k x:Nat} (h:a[k]? =some x):a.getD k 0=x:=by rw [List.getD_eq_getElem?_getD,h];rfl
theorem newK_parts {T:List Ent} {a:List Nat} (ha:Ux.anchorOk T a) {L k x:Nat} (hL:L=1∨L=2∨L=3) (hk:a[k]? =some x) (hf:fullT L T=false):
 (L=1∧eP (newK L x)=wt8 L x+1∧eS (newK L x)=32∧eT (newK L x)=2∧eV (newK L x)=false)∨(L=2∧eP (newK L x)=eP x∧eS (newK L x)=wt8 L x+1∧eT (newK L x)=2∧eV (newK L x)=eV x)∨(L=3∧eP (newK L x)=eP x∧eS (newK L x)=eS x∧eT (newK L x)=wt8 L x+1∧eV (newK L x)=eV x):=by
 have hm:=List.mem_of_getElem? hk
 rcases hL with rfl|rfl|rfl
 ·exact .inl ⟨rfl,Ux.new_1 x⟩
 ·have h:=Ux.anchor_room ha (.inl rfl) hf hm
  have h2:eS x<255:=by unfold wt8 lastW at h;simpa using h
  exact .inr (.inl ⟨rfl,Ux.new_2 x h2⟩)
 ·have h:=Ux.anchor_room ha (.inr rfl) hf hm
  have h2:eT x<127:=by unfold wt8 lastW at h;simpa using h
  rw [Ux.new_3]
  obtain ⟨a1,a2,a3,a4⟩:=Ux.inc_3 x h2
  exact .inr (.inr ⟨rfl,a1,a2,a3,a4⟩)
theorem raise_self (L x:Nat):raise L (wt8 L x) x=x:=by
 unfold raise
 rw [if_neg (fun h=>Nat.lt_irrefl _ h.1)]
theorem set_same {xs:List Value} {j:Nat} {v:Value} (h:xs[j]? =some v):xs.set j v=xs:=by
 apply List.ext_getElem?
 intro i
 rw [List.getElem?_set]
 by_cases e:j=i
 ·subst e
  rw [if_pos rfl,h,if_pos (List.getElem?_eq_some_iff.1 h).1]
 ·rw [if_neg e]
theorem rv_set2 {l:List Nat} {k x y:Nat} (hx:l[k]? =some x) (hP:eP y=eP x) (hV:eV y=eV x):rv (l.set k y)=((rv l).set (k*4+1) (.int .i64 (eS y:Nat))).set (k*4+2) (.int .i64 (eT y:Nat)):=by
 rw [rv_set l k y (List.getElem?_eq_some_iff.1 hx).1,set_same (j:=k*4) (by rw [hP];exact rv_get (k:=0) hx rfl),set_same (j:=k*4+3)]
 rw [List.getElem?_set_ne (by omega),List.getElem?_set_ne (by omega),hV]
 exact rv_get (k:=3) hx rfl
theorem rv_set3 {l:List Nat} {k x y:Nat} (hx:l[k]? =some x) (hP:eP y=eP x) (hS:eS y=eS x) (hV:eV y=eV x):rv (l.set k y)=(rv l).set (k*4+2) (.int .i64 (eT y:Nat)):=by
 rw [rv_set2 hx hP hV,set_same (j:=k*4+1)]
 rw [hS]
 exact rv_get (k:=1) hx rfl
def OutE (w:World) (lo q12:Nat) (A1:Nat→Prop) (v:Value) (n:Nat) (xs:List Value) (T:List Ent):Prop:=
 KGrow w lo 133 2 v n xs∧Ents (EntV w (fun b=>v.ownBlock≠some b∧b≠q12∧A1 b)) xs T∧w.heap[q12]? =some (.cells #[v] 36 (0,0))
theorem OutE.touch0 {w w':World} {lo q12:Nat} {A1:Nat→Prop} {v:Value} {n:Nat} {xs:List Value} {T:List Ent} (h:OutE w lo q12 A1 v n xs T) (t:Ux.Touch (fun _=>False) w w'):OutE w' lo q12 A1 v n xs T:=
 ⟨h.1.touch0 t,h.2.1.mono fun a b e h=>EntV.touch0 t a b e h,t.heap h.2.2 (fun f=>f)⟩
theorem outE_step {w w1:World} {lo q12:Nat} {A1:Nat→Prop} {a9:Option Addr} {i c9:Nat} {xs:List Value} {T:List Ent} (h:OutE w lo q12 A1 (.slice a9 i c9) i xs T) (T0:Ux.Touch (fun _=>False) w w1) (hq:q12<lo) (hlo:lo≤w.heap.size) (hi:i≤100000) {x u:Value} {e:Ent}
 (hx:EntV w1 (fun b=>(Value.slice a9 i c9).ownBlock≠some b∧b≠q12∧A1 b) x u e):
 ∃ar cr w2,(∀ty,(Builtin.append_ #[34,34] ty #[.slice a9 i c9,.slice (some ⟨w1.heap.size,0,none⟩) 1 1]).run Tryz.prog (w1.alloc (.cells #[x,u] 133))= .ok (.slice ar (i+1:Nat) cr) w2)∧w2.cell? ⟨q12,0,none⟩=some (.slice a9 i c9)∧w2.frozen? ⟨q12,0,none⟩=false∧Ux.Touch (fun b=>lo≤b) w1 w2∧
  OutE (w2.setCell ⟨q12,0,none⟩ (.slice ar (i+1:Nat) cr)) lo q12 A1 (.slice ar (i+1:Nat) cr) (i+1) (xs++ [x,u]) (T++ [e])∧Ux.Touch (fun b=>b=q12∨lo≤b) w1 (w2.setCell ⟨q12,0,none⟩ (.slice ar (i+1:Nat) cr)):=by
 obtain ⟨hG,hEn,hres⟩:=h
 have hG1:=hG.touch0 T0
 have hres1:=T0.heap hres (fun f=>f)
 have hone:=EntV.one x u e hx
 have hs1:=T0.size
 have tB:Ux.Touch (fun _=>False) w1 (w1.alloc (.cells [x,u].toArray 133)):=(Ux.Touch.refl _ _).alloc _
 obtain ⟨r,w2,hrun,hG2,hT2,hB2⟩:=(hG1.touch0 tB).app' (P:=Tryz.prog) 34 48 _ Tryz.underlying34 infoRT rfl (by omega) (.slice (some ⟨w1.heap.size,0,none⟩) 1 1) 1 [x,u] (Ux.src_new Tryz.underlying34 w1 2 1 _ rfl (fun y hy=>by
  simp only [List.mem_cons,List.not_mem_nil,or_false] at hy
  rcases hy with rfl|rfl
  ·exact hone.1
  ·exact hone.2)) (by have:=tB.size;omega) (by simp only [maxLen];omega) (by omega)
 obtain ⟨ar,cr,rfl,_⟩:=hG2.is
 have hts:=tB.size
 have ho9: ∀b,(Value.slice ar (i+1) cr).ownBlock=some b→(Value.slice a9 i c9).ownBlock=some b∨(w1.alloc (.cells [x,u].toArray 133)).heap.size≤b:=fun b hb=>by
  rcases hB2 with h|⟨g,h,hg⟩
  ·exact .inl (by rw [←h];exact hb)
  ·rw [h] at hb
   cases hb
   exact .inr hg
 have hres2:=hT2.heap (tB.heap hres1 (fun f=>f)) (fun hh=>by have:=hh.1;omega)
 have ts:Ux.Touch (fun b=>b=q12) w2 (w2.setCell ⟨q12,0,none⟩ (.slice ar (i+1) cr)):=(Ux.Touch.refl (fun b=>b=q12) _).setCell (p:=⟨q12,0,none⟩) (fun _=>rfl) _
 refine ⟨ar,cr,w2,hrun,by rw [cell_of_row _ q12 0 _ _ (0,0) hres2];rfl,Ux.frozen_row hres2 0,(tB.mono (fun _ _ f=>f.elim):Ux.Touch (fun b=>lo≤b) w1 _).trans hT2 fun b _ hh=>hh.1,⟨hG2.touch ts (fun b h1 h2=>by omega),?_,Ux.setCell_row hres2 0 _⟩,?_⟩
 ·have hold:Ents (EntV w1 (fun b=>((Value.slice a9 i c9).ownBlock≠some b∧b≠q12∧A1 b)∧(Value.slice ar (i+1) cr).ownBlock≠some b)) xs T:=hEn.mono fun a b e h=>(EntV.mono (A':=fun b=>((Value.slice a9 i c9).ownBlock≠some b∧b≠q12∧A1 b)∧(Value.slice ar (i+1) cr).ownBlock≠some b) (fun g hg hA=>⟨hA,fun h9=>by
   rcases ho9 g h9 with h|h
   ·exact hA.1 h
   ·omega⟩) a b e h).touch0 T0
  have hnew:EntV w1 (fun b=>((Value.slice a9 i c9).ownBlock≠some b∧b≠q12∧A1 b)∧(Value.slice ar (i+1) cr).ownBlock≠some b) x u e:=EntV.mono (fun g hg hA=>⟨hA,fun h9=>by
   rcases ho9 g h9 with h|h
   ·exact hA.1 h
   ·omega⟩) x u e hx
  exact ((((hold.append (show Ents (EntV w1 _) [x,u] [e] from ⟨hnew,trivial⟩)).mono fun a b e h=>EntV.touch0 tB a b e h).mono fun a b e h=>EntV.touchB hT2 (fun g _ hA h=>hA.1.1 h.2) a b e h).mono fun a b e h=>EntV.touchB ts (fun g _ hA h=>hA.1.2.1 h) a b e h).mono fun a b e h=>EntV.mono (fun g _ hA=>⟨hA.2,hA.1.2.1,hA.1.2.2⟩) a b e h
 ·exact ((tB.mono (fun _ _ f=>f.elim):Ux.Touch (fun b=>b=q12∨lo≤b) w1 _).trans hT2 fun b _ hh=> .inr hh.1).trans ts fun b _ e=> .inl e
end Go.Proofs.YtfccjaboicpohaaGreatDoor
