/- A part of the proof that the statement holds for every input that it names. No other condition. -/
import Derived.Test.YtmnkinaaoifpeaaGreatDoorTableAZ
import Derived.Test.YtmnkinaaoifpeaaGreatDoorRroot2Z
import Derived.Test.YtmnkinaaoifpeaaGreatDoorMapsAZ
set_option linter.unusedVariables false
set_option linter.unusedSimpArgs false
namespace Go.Proofs.YtmnkinaaoifpeaaGreatDoor
open Go.RowKit
open Ux (Ent)
theorem cellIn {w:World} {b j:Nat} {cs:Array Value} {t:TypeId} {u:Value} (h:w.heap[b]? =some (.cells cs t (0,0))) (hc:w.cell? ⟨b,j,none⟩=some u):u∈cs.toList:=by
 rw [cell_of_row w b j _ _ (0,0) h] at hc
 exact List.mem_of_getElem? (by rw [Array.getElem?_toList];exact hc)
theorem TableAt.touchK {R:Nat→Prop} {w w':World} {B mb:Nat} {E:List Ent} (h:TableAt w B mb E) (ht:Ux.Touch R w w')
 (hR: ∀b,R b→∃cs t,w.heap[b]? =some (.cells cs t (0,0))∧t≠202∧t≠274∧∀u∈cs.toList,(∀m,u≠.map m)∧∀z,u≠.int .i32 z):TableAt w' B mb E:=by
 obtain ⟨h1,t,ks,f,h2,⟨bb,c,am,G,g1,g2,g3,g4,g5⟩,h4⟩:=h
 have nm: ∀(b:Nat) (n:Nat) (F:Lit→Option Value) (k:TypeId),Ux.MapIs Tryz.prog k w b n F→¬R b:=fun b n F k hm hb=>by
  obtain ⟨cs,t,e,_,_⟩:=hR b hb
  obtain ⟨D,⟨es,clock,h1,_⟩,_⟩:=hm
  rw [h1] at e
  cases e
 have nB: ¬R B:=fun hb=>by
  obtain ⟨cs,t,e,_,h3,_⟩:=hR B hb
  rw [h2] at e
  cases e
  exact h3 rfl
 have nt: ¬R t:=fun hb=>by
  obtain ⟨cs,t',e,_,_,hs⟩:=hR t hb
  exact (hs _ (cellIn e g2)).1 _ rfl
 refine ⟨h1.touch ht ?_ ?_,t,ks,f,ht.heap h2 nB,⟨bb,c,am,G,ht.cell g1 nt,ht.cell g2 nt,fun j v hv=>ht.cell (g3 j v hv) ?_,g4.touch ht (nm _ _ _ _ g4),g5⟩,h4⟩
 ·obtain ⟨_,F,hm,_⟩:=h1
  exact nm _ _ _ _ hm
 ·intro g cs hg hb
  obtain ⟨cs',t',e,hne,_⟩:=hR g hb
  rw [hg] at e
  cases e
  exact hne rfl
 ·intro hb
  obtain ⟨cs,t',e,_,_,hs⟩:=hR bb hb
  have hm:=List.mem_of_getElem? hv
  unfold blCells at hm
  obtain ⟨x,_,hx⟩:=List.mem_flatMap.1 hm
  obtain ⟨z,_,rfl⟩:=List.mem_map.1 hx
  exact (hs _ (cellIn e (g3 j _ hv))).2 z rfl
end Go.Proofs.YtmnkinaaoifpeaaGreatDoor
namespace Go.Proofs.YtmnkinaaoifpeaaGreatDoor
open Go.RowKit
open Ux (Row iv sv Ent rootE rootT)
open Ux.Sign (cp raw signs)
set_option maxHeartbeats 4000000 in
theorem signEnd_ (q:Nat) (a:Option Addr) (c:Nat) (w:World) (h0:w.cell? ⟨q,0,none⟩=some (.slice a 0 c)) (h2:w.cell? ⟨q,2,none⟩=some (.int .i64 0)):
 Calls Tryz.prog 145 #[.pointer (some ⟨q,0,none⟩)] w fun e w'=>e= .returned (.int .i64 (-1))∧Ux.Touch (fun _=>False) w w':=by
 go_enter Tryz.func145,Tryz.ntmps145
 go_upto_region 1 with (fail)
 refine Ux.wpr (fun _ w'=>w'.cell? ⟨q,0,none⟩=some (.slice a 0 c)∧w'.cell? ⟨q,2,none⟩=some (.int .i64 0)) (.q [0,1,2,4,5,6] (.h false [3,7] (.q [8,9] (.line [])))) ?_;repeat ((with_reducible refine Ux.qg ?_);refine Ux.qu ?_)
 go_wp2
 go_returns
 exact ⟨rfl,(Ux.Touch.refl _ w).drew⟩
set_option maxHeartbeats 4000000 in
theorem blankEnd_ (q:Nat) (a:Option Addr) (c:Nat) (w:World) (h0:w.cell? ⟨q,0,none⟩=some (.slice a 0 c)) (h2:w.cell? ⟨q,2,none⟩=some (.int .i64 0)):
 Calls Tryz.prog 144 #[.pointer (some ⟨q,0,none⟩)] w fun e w'=>e= .returned (.tuple #[])∧Ux.Touch (fun _=>False) w w':=by
 have HS:=Lib.hid (signEnd_ q a c w h0 h2)
 clear h0 h2
 go_enter Tryz.func144,Tryz.ntmps144
 go_wp2_with (go_at_call 145;fail)
 refine HS.out.mono ?_
 rintro e w2 ⟨rfl,T2⟩
 have H2:=Lib.hid T2
 clear T2
 go_wp2_with (fail)
 refine wp_loop_rounds 2 ?_
 rw [rounds_succ]
 go_wp2
 go_returns
 exact ⟨rfl,H2.out⟩
theorem signs_nil:signs (⟨#[]⟩:ByteArray).data.toList= []:=by
 show signs []= []
 unfold signs
 rfl
theorem clipR_none (w:World):Calls Tryz.prog 147 #[.slice none 0 0] w fun e w'=>e= .returned (.slice none 0 0)∧w'=w:=by
 go_enter Tryz.func147,Tryz.ntmps147
 go_wp2
 go_ret
 exact ⟨rfl,rfl⟩
set_option maxHeartbeats 8000000 in
set_option maxRecDepth 100000 in
theorem parse0_ (w:World) (hT:Tabs w):Calls Tryz.prog 109 #[.string ⟨#[]⟩] w fun e w'=>e= .returned (.tuple #[.slice none 0 0,.int .i64 0,.int .i64 0])∧Ux.Touch (fun _=>False) w w':=by
 have HS:=Lib.hid (signs_ ⟨#[]⟩ w (by decide) hT)
 clear hT
 go_enter Tryz.func109,Tryz.ntmps109
 go_wp2_with (go_at_call 142;fail)
 refine HS.out.mono ?_
 rintro e w2 ⟨u,rfl,hu,T2⟩
 rw [signs_nil] at hu
 obtain ⟨a,c,hu1,_⟩:=hu.is
 have hu1:u= .slice a 0 c:=hu1
 subst hu1
 obtain ⟨q,hq⟩: ∃q,w2.heap.size=q:=⟨_,rfl⟩
 have hb:(w2.alloc (.cells #[.slice a 0 c,.slice none 0 0,.int .i64 0] 242)).heap[q]? =some (.cells #[.slice a 0 c,.slice none 0 0,.int .i64 0] 242 (0,0)):=by rw [←hq];exact heap_alloc_new w2 _
 have T3:Ux.Touch (fun _=>False) w2 (w2.alloc (.cells #[.slice a 0 c,.slice none 0 0,.int .i64 0] 242)):=(Ux.Touch.refl _ _).alloc _
 obtain ⟨W3,hW3⟩: ∃W3,w2.alloc (.cells #[.slice a 0 c,.slice none 0 0,.int .i64 0] 242)=W3:=⟨_,rfl⟩
 rw [hW3] at hb T3
 have b0:W3.cell? ⟨q,0,none⟩=some (.slice a 0 c):=by rw [cell_of_row _ q 0 _ _ (0,0) hb];rfl
 have b1:W3.cell? ⟨q,1,none⟩=some (.slice none 0 0):=by rw [cell_of_row _ q 1 _ _ (0,0) hb];rfl
 have z1:=Ux.frozen_row hb 1
 obtain ⟨r,w4,hrun,hG2,hT4⟩:=appI (Ux.Grow.nil W3 W3.heap.size 3) 1 [Value.int .i64 0] rfl (fun u hu=>by rw [List.mem_singleton.1 hu];rfl) (Nat.le_refl _) (by simp)
 have tA:Ux.Touch (fun _=>False) W3 w4:=hT4.mono fun b hb h=>by have:=h.2;cases this
 have hb4:=tA.heap hb (fun f=>f)
 obtain ⟨ar,nr,cr,rfl,_⟩:=hG2.is
 have d0:w4.cell? ⟨q,0,none⟩=some (.slice a 0 c):=by rw [cell_of_row _ q 0 _ _ (0,0) hb4];rfl
 have d1:w4.cell? ⟨q,1,none⟩=some (.slice none 0 0):=by rw [cell_of_row _ q 1 _ _ (0,0) hb4];rfl
 have y1:=Ux.frozen_row hb4 1
 have hb5:=Ux.setCell_row hb4 1 (.slice ar nr cr)
 have T5:Ux.Touch (fun b=>b=q) w4 (w4.setCell ⟨q,1,none⟩ (.slice ar nr cr)):=(Ux.Touch.refl (fun b=>b=q) w4).setCell (p:=⟨q,1,none⟩) (fun _=>rfl) _
 have TT:Ux.Touch (fun _=>False) w (w4.setCell ⟨q,1,none⟩ (.slice ar nr cr)):=((T2.trans T3 fun _ _ f=>f).trans tA fun _ _ f=>f).trans (R:=fun _=>False) T5 fun b hb h=>by have:=T2.size;omega
 have e0:(w4.setCell ⟨q,1,none⟩ (.slice ar nr cr)).cell? ⟨q,0,none⟩=some (.slice a 0 c):=by rw [cell_of_row _ q 0 _ _ (0,0) hb5];rfl
 have e2:(w4.setCell ⟨q,1,none⟩ (.slice ar nr cr)).cell? ⟨q,2,none⟩=some (.int .i64 0):=by rw [cell_of_row _ q 2 _ _ (0,0) hb5];rfl
 have H5:=Lib.hid (And.intro TT (And.intro e0 e2))
 have HR:=Lib.hid hrun
 have HW:=Lib.hid hW3
 clear hb T3 hG2 hT4 tA hb4 hb5 T5 TT hrun hu T2 e0 e2 hW3
 go_wp2_with (fail)
 rw [HW.out]
 clear HW
 refine wp_loop_rounds 2 ?_
 rw [rounds_succ]
 go_wp2_with (at_builtin;refine Ux.wpList_app (v1:= .slice none 0 0) (x1:= .slice (some ⟨W3.heap.size,0,none⟩) 1 1) rfl _ _ _ _ rfl rfl rfl (HR.out _) ?_)
 clear b0 b1 z1 d0 d1 y1
 obtain ⟨e0,e2⟩:=H5.out.2
 have HB:=Lib.hid (blankEnd_ q a c _ e0 e2)
 go_wp2_with (go_at_call 144;fail)
 refine HB.out.mono ?_
 rintro e w6 ⟨rfl,T6⟩
 have f0:=T6.cell e0 (fun f=>f)
 have f2:=T6.cell e2 (fun f=>f)
 have H6:=Lib.hid (H5.out.1.trans T6 fun _ _ f=>f)
 have HS6:=Lib.hid (signEnd_ q a c w6 f0 f2)
 clear T6 HB e0 e2 f0 f2
 go_wp2_with (fail)
 refine wp_loop_rounds 2 ?_
 rw [rounds_succ]
 go_wp2_with (go_at_call 145;fail)
 refine HS6.out.mono ?_
 rintro e w7 ⟨rfl,T7⟩
 have H7:=Lib.hid (H6.out.trans T7 fun _ _ f=>f)
 clear T7
 go_wp2_with (go_at_call 147;refine (clipR_none _).mono ?_;rintro e w' ⟨rfl,rfl⟩)
 go_returns
 exact ⟨rfl,H7.out⟩
set_option maxHeartbeats 4000000 in
theorem apply0_ (B mb:Nat) (E:List Ent) (w:World) (hT:TableAt w B mb E) (hsig: ∀e∈E,∀c∈e.1,cp c∨raw c) (hck:checkE E=true):
 Calls Tryz.prog 110 #[.pointer (some ⟨B,0,none⟩),.slice none 0 0] w fun e w'=>e= .returned (.tuple #[.pointer (some ⟨B,0,none⟩),.int .i64 0])∧Ux.Touch (fun _=>False) w w':=by
 obtain ⟨q,hq⟩: ∃q,w.heap.size=q:=⟨_,rfl⟩
 have hb:(w.alloc (.cells #[.pointer (some ⟨B,0,none⟩),.slice none 0 0] 251)).heap[q]? =some (.cells #[.pointer (some ⟨B,0,none⟩),.slice none 0 0] 251 (0,0)):=by rw [←hq];exact heap_alloc_new w _
 have T0:Ux.Touch (fun _=>False) w (w.alloc (.cells #[.pointer (some ⟨B,0,none⟩),.slice none 0 0] 251)):=(Ux.Touch.refl _ _).alloc _
 have hck':=check_ B mb E _ (hT.touch0 T0) hsig
 obtain ⟨W,hW⟩: ∃W,w.alloc (.cells #[.pointer (some ⟨B,0,none⟩),.slice none 0 0] 251)=W:=⟨_,rfl⟩
 rw [hW] at hb T0 hck'
 rw [hck,if_pos rfl] at hck'
 have b0:W.cell? ⟨q,0,none⟩=some (.pointer (some ⟨B,0,none⟩)):=by rw [cell_of_row _ q 0 _ _ (0,0) hb];rfl
 have HC:=Lib.hid hck'
 have H0:=Lib.hid T0
 have HW:=Lib.hid hW
 clear hT hsig hck hb T0 hW hck'
 go_enter Tryz.func110,Tryz.ntmps110
 go_wp2_with (fail)
 rw [HW.out]
 clear HW
 refine wp_loop_rounds 2 ?_
 rw [rounds_succ]
 go_wp2_with (go_at_call 149;fail)
 refine HC.out.mono ?_
 rintro e w2 ⟨rfl,T2⟩
 have b0:=T2.cell b0 (fun f=>f)
 have H2:=Lib.hid (H0.out.trans T2 fun _ _ f=>f)
 clear T2
 go_wp2
 go_returns
 exact ⟨rfl,H2.out⟩
set_option maxHeartbeats 4000000 in
theorem read0_ (w:World) (hT:Tabs w):Calls Tryz.prog 80 #[.string ⟨#[]⟩] w fun e w'=> ∃B mb,e= .returned (.tuple #[.pointer (some ⟨B,0,none⟩),.int .i64 0,.int .i64 0])∧TableAt w' B mb rootE∧Ux.Touch (fun _=>False) w w':=by
 have HP:=Lib.hid (parse0_ w hT)
 clear hT
 go_enter Tryz.func80,Tryz.ntmps80
 go_wp2_with (go_at_call 109;fail)
 refine HP.out.mono ?_
 rintro e w2 ⟨rfl,T2⟩
 have H2:=Lib.hid T2
 clear T2
 go_wp2_with (go_at_call 82;fail)
 refine (rootT_ _).mono ?_
 rintro e w3 ⟨B,mb,rfl,hTA,_,T3⟩
 have HA:=Lib.hid (apply0_ B mb rootE w3 hTA rootE_sig rootE_check)
 have H3:=Lib.hid (And.intro hTA (H2.out.trans T3 fun _ _ f=>f))
 clear hTA T3
 go_wp2_with (go_at_call 110;fail)
 refine HA.out.mono ?_
 rintro e w4 ⟨rfl,T4⟩
 have H4:=Lib.hid T4
 clear T4
 go_wp2
 go_returns
 exact ⟨B,mb,rfl,H3.out.1.touch0 H4.out,H3.out.2.trans H4.out fun _ _ f=>f⟩
set_option maxHeartbeats 4000000 in
theorem rblank0_ (q:Nat) (w:World) (h0:w.cell? ⟨q,0,none⟩=some (.string ⟨#[]⟩)) (h1:w.cell? ⟨q,1,none⟩=some (.int .i64 0)):
 Calls Tryz.prog 150 #[.pointer (some ⟨q,0,none⟩)] w fun e w'=>e= .returned (.tuple #[])∧Ux.Touch (fun _=>False) w w':=by
 go_enter Tryz.func150,Tryz.ntmps150
 go_wp2_with (fail)
 refine wp_loop_rounds 2 ?_
 rw [rounds_succ]
 go_upto_region 0 with (fail)
 refine Ux.wpr (fun _ w'=>w'.cell? ⟨q,0,none⟩=some (.string ⟨#[]⟩)∧w'.cell? ⟨q,1,none⟩=some (.int .i64 0)) (.q [0,1,2,4,5,6] (.h false [3,7] (.q [8,9,10,11,12,13,15,16,17] (.h false [14,18] (.q [19,20,21,22,23,24,26,27,28] (.h false [25,29] (.q [30,31,32,33] (.line [])))))))) ?_;repeat ((with_reducible refine Ux.qg ?_);refine Ux.qu ?_)
 go_wp2
 go_returns
 exact ⟨rfl,(Ux.Touch.refl _ w).drew⟩
set_option maxHeartbeats 8000000 in
theorem rparse0_ (w:World):Calls Tryz.prog 111 #[.string ⟨#[]⟩] w fun e w'=>e= .returned (.agg #[.slice none 0 0,.int .i64 0,.int .i64 0])∧Ux.Touch (fun _=>False) w w':=by
 obtain ⟨q2,hq2⟩: ∃q2,w.heap.size=q2:=⟨_,rfl⟩
 have hb2:(w.alloc (.cells #[.slice none 0 0,.int .i64 0,.int .i64 0] 192)).heap[q2]? =some (.cells #[.slice none 0 0,.int .i64 0,.int .i64 0] 192 (0,0)):=by rw [←hq2];exact heap_alloc_new w _
 have T1:Ux.Touch (fun _=>False) w (w.alloc (.cells #[.slice none 0 0,.int .i64 0,.int .i64 0] 192)):=(Ux.Touch.refl _ _).alloc _
 have hs1:(w.alloc (.cells #[.slice none 0 0,.int .i64 0,.int .i64 0] 192)).heap.size=q2+1:=by rw [World.size_alloc,hq2]
 obtain ⟨W1,hW1⟩: ∃W,w.alloc (.cells #[.slice none 0 0,.int .i64 0,.int .i64 0] 192)=W:=⟨_,rfl⟩
 rw [hW1] at hb2 T1 hs1
 have hb3:(W1.alloc (.cells #[.string ⟨#[]⟩,.int .i64 0] 255)).heap[q2+1]? =some (.cells #[.string ⟨#[]⟩,.int .i64 0] 255 (0,0)):=by rw [←hs1];exact heap_alloc_new W1 _
 have T2:Ux.Touch (fun _=>False) W1 (W1.alloc (.cells #[.string ⟨#[]⟩,.int .i64 0] 255)):=(Ux.Touch.refl _ _).alloc _
 have hb2':=T2.heap hb2 (fun f=>f)
 obtain ⟨W2,hW2⟩: ∃W,W1.alloc (.cells #[.string ⟨#[]⟩,.int .i64 0] 255)=W:=⟨_,rfl⟩
 rw [hW2] at hb3 T2 hb2'
 have HW:=Lib.hid (And.intro hW1 (And.intro hW2 (And.intro hs1 hq2)))
 have H2:=Lib.hid (And.intro (T1.trans T2 fun _ _ f=>f) (And.intro hb2' hb3))
 clear hb2 T1 hs1 hb3 T2 hb2' hW1 hW2 hq2
 go_enter Tryz.func111,Tryz.ntmps111
 go_wp2_with (fail)
 rw [HW.out.1,HW.out.2.1,HW.out.2.2.2]
 have b0:W2.cell? ⟨q2+1,0,none⟩=some (.string ⟨#[]⟩):=by rw [cell_of_row _ (q2+1) 0 _ _ (0,0) H2.out.2.2];rfl
 have b1:W2.cell? ⟨q2+1,1,none⟩=some (.int .i64 0):=by rw [cell_of_row _ (q2+1) 1 _ _ (0,0) H2.out.2.2];rfl
 refine wp_loop_rounds 2 ?_
 rw [rounds_succ]
 have HB:=Lib.hid (rblank0_ (q2+1) W2 b0 b1)
 go_wp2_with (go_at_call 150;fail)
 refine HB.out.mono ?_
 rintro e w3 ⟨rfl,T3⟩
 have c0:=T3.cell b0 (fun f=>f)
 have c1:=T3.cell b1 (fun f=>f)
 have hb2:=T3.drew.heap H2.out.2.1 (fun f=>f)
 have H3:=Lib.hid (H2.out.1.trans T3.drew fun _ _ f=>f)
 clear T3 b0 b1 HB
 go_upto_region 4 with (fail)
 refine Ux.wpr (fun _ w'=>w'.cell? ⟨q2+1,0,none⟩=some (.string ⟨#[]⟩)∧w'.cell? ⟨q2+1,1,none⟩=some (.int .i64 0)) (.q [0,1,2,4,5,6] (.h false [3,7] (.q [8,9] (.line [])))) ?_;repeat ((with_reducible refine Ux.qg ?_);refine Ux.qu ?_)
 clear c0 c1
 obtain ⟨W4,hW4⟩: ∃W,w3.drew=W:=⟨_,rfl⟩
 rw [hW4] at hb2 H3⊢
 have HB2:=Lib.hid hb2
 have d0:W4.cell? ⟨q2,0,none⟩=some (.slice none 0 0):=by rw [cell_of_row _ q2 0 _ _ (0,0) hb2];rfl
 have d1:W4.cell? ⟨q2,1,none⟩=some (.int .i64 0):=by rw [cell_of_row _ q2 1 _ _ (0,0) hb2];rfl
 have d2:W4.cell? ⟨q2,2,none⟩=some (.int .i64 0):=by rw [cell_of_row _ q2 2 _ _ (0,0) hb2];rfl
 have z0:=Ux.frozen_row hb2 0
 have z1:=Ux.frozen_row hb2 1
 have z2:=Ux.frozen_row hb2 2
 clear hb2 hW4
 go_wp2
 have hx:=Ux.setCell_row (Ux.setCell_row (Ux.setCell_row HB2.out 0 (.slice none 0 0)) 1 (.int .i64 0)) 2 (.int .i64 0)
 have e0:=cell_of_row _ q2 0 _ _ (0,0) hx
 have e1:=cell_of_row _ q2 1 _ _ (0,0) hx
 have e2:=cell_of_row _ q2 2 _ _ (0,0) hx
 have T5:Ux.Touch (fun b=>b=q2) W4 (((W4.setCell ⟨q2,0,none⟩ (.slice none 0 0)).setCell ⟨q2,1,none⟩ (.int .i64 0)).setCell ⟨q2,2,none⟩ (.int .i64 0)):=(((Ux.Touch.refl (fun b=>b=q2) W4).setCell (p:=⟨q2,0,none⟩) (fun _=>rfl) _).setCell (p:=⟨q2,1,none⟩) (fun _=>rfl) _).setCell (p:=⟨q2,2,none⟩) (fun _=>rfl) _
 have TT:Ux.Touch (fun _=>False) w (((W4.setCell ⟨q2,0,none⟩ (.slice none 0 0)).setCell ⟨q2,1,none⟩ (.int .i64 0)).setCell ⟨q2,2,none⟩ (.int .i64 0)):=H3.out.trans (R:=fun _=>False) T5 fun b hb h=>by have:=HW.out.2.2.2;omega
 generalize ((W4.setCell ⟨q2,0,none⟩ (.slice none 0 0)).setCell ⟨q2,1,none⟩ (.int .i64 0)).setCell ⟨q2,2,none⟩ (.int .i64 0)=W5 at e0 e1 e2 TT⊢
 simp at e0 e1 e2
 refine bodyPost_ret (by simp [results,Tryz.results111,go_sem,e0,e1,e2];try rfl) rfl ?_
 exact ⟨rfl,TT⟩
end Go.Proofs.YtmnkinaaoifpeaaGreatDoor
namespace Go.Proofs.YtmnkinaaoifpeaaGreatDoor
open Go.RowKit
open Ux (Row iv sv Ent rootE rootT)
open Ux.Sign (cp raw signs)
set_option maxHeartbeats 8000000 in
theorem rapply0_ (v:Value) (T:List Ent) (A:Nat→Prop) (w:World) (hT:RRows w A v T) (hn:T.length≤1000) (h8: ∀e∈T,e.2.length≤1000) (h3: ∀e∈T,1≤e.1.length∧e.1.length≤3) (hck:checkE T=true):
 Calls Tryz.prog 112 #[.agg #[v],.slice none 0 0] w fun e w'=>e= .returned (.tuple #[.agg #[v],.int .i64 0])∧Ux.Touch (fun _=>False) w w':=by
 have HCK:=Lib.hid fun W (T1:Ux.Touch (fun _=>False) w W)=>rcheck_ v T A W (hT.touch0 T1) (by omega) h8 h3
 rw [hck,if_pos rfl] at HCK
 obtain ⟨_,a,ca,rfl,_,_⟩:=hT
 obtain ⟨n,hnn⟩: ∃n,T.length=n:=⟨_,rfl⟩
 rw [hnn] at HCK⊢
 obtain ⟨q,hq⟩: ∃q,w.heap.size=q:=⟨_,rfl⟩
 have hb1:(w.alloc (.cells #[.slice a n ca] 103)).heap[q]? =some (.cells #[.slice a n ca] 103 (0,0)):=by rw [←hq];exact heap_alloc_new w _
 have hs1:(w.alloc (.cells #[.slice a n ca] 103)).heap.size=q+1:=by rw [World.size_alloc,hq]
 have T1:Ux.Touch (fun _=>False) w (w.alloc (.cells #[.slice a n ca] 103)):=(Ux.Touch.refl _ _).alloc _
 obtain ⟨W1,hW1⟩: ∃W,w.alloc (.cells #[.slice a n ca] 103)=W:=⟨_,rfl⟩
 rw [hW1] at hb1 hs1 T1
 have hb2:(W1.alloc (.cells #[.slice none 0 0] 103)).heap[q+1]? =some (.cells #[.slice none 0 0] 103 (0,0)):=by rw [←hs1];exact heap_alloc_new W1 _
 have T2:Ux.Touch (fun _=>False) W1 (W1.alloc (.cells #[.slice none 0 0] 103)):=(Ux.Touch.refl _ _).alloc _
 have hb1':=T2.heap hb1 (fun f=>f)
 obtain ⟨W2,hW2⟩: ∃W,W1.alloc (.cells #[.slice none 0 0] 103)=W:=⟨_,rfl⟩
 rw [hW2] at hb2 T2 hb1'
 have HW:=Lib.hid (And.intro hW1 (And.intro hW2 hq))
 have H2:=Lib.hid (And.intro (T1.trans T2 fun _ _ f=>f) (And.intro hb1' hb2))
 have b0:W2.cell? ⟨q,0,none⟩=some (.slice a n ca):=by rw [cell_of_row _ q 0 _ _ (0,0) hb1'];rfl
 clear hb1 hs1 T1 hb2 T2 hb1' hW1 hW2 hq hn h8 h3 hck hnn
 go_enter Tryz.func112,Tryz.ntmps112
 go_wp2_with (fail)
 rw [HW.out.1,HW.out.2.1,HW.out.2.2]
 refine wp_loop_rounds 2 ?_
 rw [rounds_succ]
 go_wp2_with (go_at_call 156;fail)
 refine (HCK.out W2 H2.out.1).mono ?_
 rintro e w3 ⟨rfl,T3⟩
 have b0:=T3.cell b0 (fun f=>f)
 have hb2:=T3.heap H2.out.2.2 (fun f=>f)
 have HB2:=Lib.hid hb2
 have d0:w3.cell? ⟨q+1,0,none⟩=some (.slice none 0 0):=by rw [cell_of_row _ (q+1) 0 _ _ (0,0) hb2];rfl
 have z0:=Ux.frozen_row hb2 0
 have H3:=Lib.hid (H2.out.1.trans T3 fun _ _ f=>f)
 clear T3 hb2
 go_wp2
 have hx:=Ux.setCell_row HB2.out 0 (.slice a n ca)
 have e0:=cell_of_row _ (q+1) 0 _ _ (0,0) hx
 have T5:Ux.Touch (fun b=>b=q+1) w3 (w3.setCell ⟨q+1,0,none⟩ (.slice a n ca)):=(Ux.Touch.refl (fun b=>b=q+1) w3).setCell (p:=⟨q+1,0,none⟩) (fun _=>rfl) _
 have TT:Ux.Touch (fun _=>False) w (w3.setCell ⟨q+1,0,none⟩ (.slice a n ca)):=H3.out.trans (R:=fun _=>False) T5 fun b hb h=>by have:=HW.out.2.2;omega
 generalize w3.setCell ⟨q+1,0,none⟩ (.slice a n ca)=W5 at e0 TT⊢
 simp at e0
 refine bodyPost_ret (by simp [results,Tryz.results112,go_sem,e0];try rfl) rfl ?_
 exact ⟨rfl,TT⟩
set_option maxHeartbeats 16000000 in
set_option maxRecDepth 100000 in
theorem rread0_ (w:World):Calls Tryz.prog 81 #[.string ⟨#[]⟩] w fun e w'=> ∃u,e= .returned (.tuple #[.agg #[u],.int .i64 0,.int .i64 0])∧RRows w' (fun b=>w.heap.size≤b) u (rootT 132)∧Ux.Touch (fun _=>False) w w':=by
 have hst:=Ux.same_root
 have hkE:=Ux.rootE_nodup
 have hokT:=hst.ok ⟨hkE,Ux.rootE_ok⟩
 have hckT:checkE (rootT 132)=true:=by
  rw [←checkE_perm hkE hst.1]
  exact rootE_check
 have HAP:=Lib.hid fun W (u:Value) (A:Nat→Prop) (hR:RRows W A u (rootT 132))=>rapply0_ u (rootT 132) A W hR (by rw [←hst.1.length_eq,Ux.rootE_len];decide) (fun e he=>by have:=(hokT.2 e he).2.1;omega) (fun e he=>⟨(hokT.2 e he).1.1,(hokT.2 e he).1.2.1⟩) hckT
 clear hst hokT hckT hkE
 obtain ⟨n6,hn6⟩: ∃n6,(rootT 132).length=n6:=⟨_,rfl⟩
 have HN6:=Lib.hid hn6
 clear hn6
 obtain ⟨q,hq⟩: ∃q,w.heap.size=q:=⟨_,rfl⟩
 have hb1:(w.alloc (.cells #[.slice none 0 0] 103)).heap[q]? =some (.cells #[.slice none 0 0] 103 (0,0)):=by rw [←hq];exact heap_alloc_new w _
 have T1:Ux.Touch (fun _=>False) w (w.alloc (.cells #[.slice none 0 0] 103)):=(Ux.Touch.refl _ _).alloc _
 have hs1:(w.alloc (.cells #[.slice none 0 0] 103)).heap.size=q+1:=by rw [World.size_alloc,hq]
 obtain ⟨W1,hW1⟩: ∃W,w.alloc (.cells #[.slice none 0 0] 103)=W:=⟨_,rfl⟩
 rw [hW1] at hb1 T1 hs1
 have HW:=Lib.hid (And.intro hW1 (And.intro hq hs1))
 have H1:=Lib.hid (And.intro T1 hb1)
 clear hb1 T1 hW1 hs1 hq
 go_enter Tryz.func81,Tryz.ntmps81
 go_wp2_with (go_at_call 111;fail)
 rw [HW.out.1]
 refine (rparse0_ W1).mono ?_
 rintro e w2 ⟨rfl,T2⟩
 obtain ⟨q5,hq5⟩: ∃q5,w2.heap.size=q5:=⟨_,rfl⟩
 have hb5:(w2.alloc (.cells #[.slice none 0 0,.int .i64 0,.int .i64 0] 192)).heap[q5]? =some (.cells #[.slice none 0 0,.int .i64 0,.int .i64 0] 192 (0,0)):=by rw [←hq5];exact heap_alloc_new w2 _
 have T3:Ux.Touch (fun _=>False) w2 (w2.alloc (.cells #[.slice none 0 0,.int .i64 0,.int .i64 0] 192)):=(Ux.Touch.refl _ _).alloc _
 obtain ⟨W3,hW3⟩: ∃W,w2.alloc (.cells #[.slice none 0 0,.int .i64 0,.int .i64 0] 192)=W:=⟨_,rfl⟩
 rw [hW3] at hb5 T3
 have b0:W3.cell? ⟨q5,0,none⟩=some (.slice none 0 0):=by rw [cell_of_row _ q5 0 _ _ (0,0) hb5];rfl
 have b2:W3.cell? ⟨q5,2,none⟩=some (.int .i64 0):=by rw [cell_of_row _ q5 2 _ _ (0,0) hb5];rfl
 have HW3:=Lib.hid (And.intro hW3 hq5)
 have H3:=Lib.hid (And.intro (H1.out.1.trans (T2.trans T3 fun _ _ f=>f) fun _ _ f=>f) (T2.trans T3 fun _ _ f=>f))
 have HC:=Lib.hid fun W (T:Ux.Touch (fun _=>False) W3 W)=>T.cell b0 (fun f=>f)
 clear hb5 T2 T3 hW3 hq5
 go_upto_region 4 with (fail)
 rw [HW3.out.1,HW3.out.2]
 go_cut [6,7] (fun s6 s7 wx=> ∃(q6:Nat) (a9:Option Addr) (n9 c9:Nat),s6= .pointer (some ⟨q6,0,none⟩)∧s7= .int .i64 0∧wx.cell? ⟨q6,0,none⟩=some (.slice a9 n9 c9)∧Hid (RRows wx (fun b=>q+1≤b) (.slice a9 n9 c9) (rootT 132)∧Ux.Touch (fun _=>False) W3 wx))
 case first=>
  clear b2
  refine Ux.wpr (fun _ w'=>w'.cell? ⟨q5,0,none⟩=some (.slice none 0 0)) (.q [1] (.h false [2] (.br 0 (.br 3 (.q [4,5,6] (.e 7 true false (.e 8 false false (.line [9])))) 7 (.e 3 true true (.q [4,5,6] (.e 8 false false (.line [9]))))) 7 (.e 0 true true (.e 3 true true (.q [4,5,6] (.e 8 false false (.line [9])))))))) ?_;repeat ((with_reducible refine Ux.qg ?_);refine Ux.qu ?_)
  refine ⟨?_,?_⟩
  ·go_wp2_with (go_at_call 83;fail)
   refine (rroot_ _).mono ?_
   rintro e w6 ⟨u6,rfl,hR6,T6⟩
   have T6w:Ux.Touch (fun _=>False) W3 w6:=Ux.Touch.trans Ux.tq T6 fun _ _ f=>f
   have hR7:=hR6.mono (A':=fun b=>W3.heap.size+1≤b) fun g h1 h2=>by
    first
     |(have h2:W3.heap.size+2≤g:=h2;omega)
     |(have h2:(W3.alloc (Obj.cells #[.slice none 0 0] 103)).heap.size+2≤g:=h2
       rw [World.size_alloc] at h2
       omega)
   obtain ⟨_,a6,c6,hu6,_⟩:=hR6
   subst hu6
   rw [HN6.out] at hR7⊢
   try (
    have hb13:w6.heap[W3.heap.size]? =some (.cells #[.slice none 0 0] 103 (0,0)):=T6.heap (heap_alloc_new _ _) (fun f=>f)
    have HB13:=Lib.hid hb13
    clear hb13)
   have H6:=Lib.hid hR7
   clear hR7 T6
   go_wp2_with (fail)
   first|refine ⟨⟨HC.out _ (by repeat (first|exact Ux.Touch.refl _ _|exact T7w|exact T6w|refine Ux.Touch.drew ?_|refine Ux.Touch.alloc ?_ _)),HC.out _ (by repeat (first|exact Ux.Touch.refl _ _|exact T7w|exact T6w|refine Ux.Touch.drew ?_|refine Ux.Touch.alloc ?_ _))⟩,?_⟩|refine ⟨HC.out _ (by repeat (first|exact Ux.Touch.refl _ _|exact T7w|exact T6w|refine Ux.Touch.drew ?_|refine Ux.Touch.alloc ?_ _)),?_⟩
   refine ⟨?_,?_⟩
   ·go_wp2_with (go_at_call 112;fail)
    refine (HAP.out _ _ _ (H6.out.touch0 Ux.tq)).mono ?_
    rintro e w7 ⟨rfl,T7⟩
    have T67:Ux.Touch (fun _=>False) w6 w7:=Ux.Touch.trans Ux.tq T7 fun _ _ f=>f
    have T7w:Ux.Touch (fun _=>False) W3 w7:=T6w.trans T67 fun _ _ f=>f
    try (
     have hb14:w7.heap[w6.heap.size]? =some (.cells #[.slice none 0 0] 103 (0,0)):=T7.heap (heap_alloc_new _ _) (fun f=>f)
     have f14:w7.cell? ⟨w6.heap.size,0,none⟩=some (.slice none 0 0):=by
      rw [cell_of_row _ w6.heap.size 0 _ _ (0,0) hb14]
      rfl
     have z14:=Ux.frozen_row hb14 0
     have HB14:=Lib.hid hb14
     clear hb14)
    try (
     have hb15:w7.heap[W3.heap.size]? =some (.cells #[.slice none 0 0] 103 (0,0)):=T67.heap HB13.out (fun f=>f)
     have f15:w7.cell? ⟨W3.heap.size,0,none⟩=some (.slice none 0 0):=by
      rw [cell_of_row _ W3.heap.size 0 _ _ (0,0) hb15]
      rfl
     have z15:=Ux.frozen_row hb15 0
     have HB15:=Lib.hid hb15
     clear hb15)
    have H7:=Lib.hid T67
    clear T7 T67
    go_wp2_with (fail)
    first|refine ⟨⟨HC.out _ (by repeat (first|exact Ux.Touch.refl _ _|exact T7w|exact T6w|refine Ux.Touch.drew ?_|refine Ux.Touch.alloc ?_ _)),HC.out _ (by repeat (first|exact Ux.Touch.refl _ _|exact T7w|exact T6w|refine Ux.Touch.drew ?_|refine Ux.Touch.alloc ?_ _))⟩,?_⟩|refine ⟨HC.out _ (by repeat (first|exact Ux.Touch.refl _ _|exact T7w|exact T6w|refine Ux.Touch.drew ?_|refine Ux.Touch.alloc ?_ _)),?_⟩
    repeat ((with_reducible refine Ux.qg ?_);refine Ux.qu ?_)
    go_wp2_with (fail)
    refine ⟨HC.out _ (by repeat (first|exact Ux.Touch.refl _ _|exact T7w|exact T6w|refine Ux.Touch.drew ?_|refine Ux.Touch.alloc ?_ _)),?_⟩
    go_wp2_with (fail)
    go_wp2_with (fail)
    go_meet
    have hR8:=H6.out.touch0 H7.out
    have hw3:q+1≤W3.heap.size:=by have:=HW.out.2.2;have:=H3.out.2.size;omega
    have hw6:=T6w.size
    first
     |(have tA:Ux.Touch (fun _=>False) w7 (w7.alloc (.cells #[.slice a6 n6 c6] 103)):=(Ux.Touch.refl _ _).alloc _
       exact ⟨_,_,_,_,rfl,rfl,by rw [Ux.cell_newg];rfl,Lib.hid ⟨(hR8.mono (A':=fun b=>q+1≤b) fun g h1 h2=>by omega).touch0 tA,T7w.trans tA fun _ _ f=>f⟩⟩)
     |(have tB:Ux.Touch (fun b=>b=W3.heap.size) w7 (w7.setCell ⟨W3.heap.size,0,none⟩ (.slice a6 n6 c6)):=(Ux.Touch.refl (fun b=>b=W3.heap.size) w7).setCell (p:=⟨W3.heap.size,0,none⟩) (fun _=>rfl) _
       exact ⟨_,_,_,_,rfl,rfl,by rw [cell_of_row _ W3.heap.size 0 _ _ (0,0) (Ux.setCell_row HB15.out 0 (.slice a6 n6 c6))];rfl,Lib.hid ⟨(hR8.touchB tB fun g _ h e=>by omega).mono fun g h1 h2=>by omega,T7w.trans (R:=fun _=>False) tB fun b hb h=>by omega⟩⟩)
     |(have tB:Ux.Touch (fun b=>b=w6.heap.size) w7 (w7.setCell ⟨w6.heap.size,0,none⟩ (.slice a6 n6 c6)):=(Ux.Touch.refl (fun b=>b=w6.heap.size) w7).setCell (p:=⟨w6.heap.size,0,none⟩) (fun _=>rfl) _
       have hR9:=(H6.out.mono (A':=fun b=>q+1≤b∧b≠w6.heap.size) fun g h1 h2=>⟨by omega,by omega⟩).touch0 H7.out
       exact ⟨_,_,_,_,rfl,rfl,by rw [cell_of_row _ w6.heap.size 0 _ _ (0,0) (Ux.setCell_row HB14.out 0 (.slice a6 n6 c6))];rfl,Lib.hid ⟨(hR9.touchB tB fun g _ h e=>h.2 e).mono fun g h1 h2=>h2.1,T7w.trans (R:=fun _=>False) tB fun b hb h=>by omega⟩⟩)
   ·go_wp2_with (fail)
    first|refine ⟨⟨HC.out _ (by repeat (first|exact Ux.Touch.refl _ _|exact T7w|exact T6w|refine Ux.Touch.drew ?_|refine Ux.Touch.alloc ?_ _)),HC.out _ (by repeat (first|exact Ux.Touch.refl _ _|exact T7w|exact T6w|refine Ux.Touch.drew ?_|refine Ux.Touch.alloc ?_ _))⟩,?_⟩|refine ⟨HC.out _ (by repeat (first|exact Ux.Touch.refl _ _|exact T7w|exact T6w|refine Ux.Touch.drew ?_|refine Ux.Touch.alloc ?_ _)),?_⟩
    go_wp2_with (go_at_call 112;fail)
    refine (HAP.out _ _ _ (H6.out.touch0 Ux.tq)).mono ?_
    rintro e w7 ⟨rfl,T7⟩
    have T67:Ux.Touch (fun _=>False) w6 w7:=Ux.Touch.trans Ux.tq T7 fun _ _ f=>f
    have T7w:Ux.Touch (fun _=>False) W3 w7:=T6w.trans T67 fun _ _ f=>f
    try (
     have hb14:w7.heap[w6.heap.size]? =some (.cells #[.slice none 0 0] 103 (0,0)):=T7.heap (heap_alloc_new _ _) (fun f=>f)
     have f14:w7.cell? ⟨w6.heap.size,0,none⟩=some (.slice none 0 0):=by
      rw [cell_of_row _ w6.heap.size 0 _ _ (0,0) hb14]
      rfl
     have z14:=Ux.frozen_row hb14 0
     have HB14:=Lib.hid hb14
     clear hb14)
    try (
     have hb15:w7.heap[W3.heap.size]? =some (.cells #[.slice none 0 0] 103 (0,0)):=T67.heap HB13.out (fun f=>f)
     have f15:w7.cell? ⟨W3.heap.size,0,none⟩=some (.slice none 0 0):=by
      rw [cell_of_row _ W3.heap.size 0 _ _ (0,0) hb15]
      rfl
     have z15:=Ux.frozen_row hb15 0
     have HB15:=Lib.hid hb15
     clear hb15)
    have H7:=Lib.hid T67
    clear T7 T67
    go_wp2_with (fail)
    first|refine ⟨⟨HC.out _ (by repeat (first|exact Ux.Touch.refl _ _|exact T7w|exact T6w|refine Ux.Touch.drew ?_|refine Ux.Touch.alloc ?_ _)),HC.out _ (by repeat (first|exact Ux.Touch.refl _ _|exact T7w|exact T6w|refine Ux.Touch.drew ?_|refine Ux.Touch.alloc ?_ _))⟩,?_⟩|refine ⟨HC.out _ (by repeat (first|exact Ux.Touch.refl _ _|exact T7w|exact T6w|refine Ux.Touch.drew ?_|refine Ux.Touch.alloc ?_ _)),?_⟩
    repeat ((with_reducible refine Ux.qg ?_);refine Ux.qu ?_)
    go_wp2_with (fail)
    go_wp2_with (fail)
    go_meet
    have hR8:=H6.out.touch0 H7.out
    have hw3:q+1≤W3.heap.size:=by have:=HW.out.2.2;have:=H3.out.2.size;omega
    have hw6:=T6w.size
    first
     |(have tA:Ux.Touch (fun _=>False) w7 (w7.alloc (.cells #[.slice a6 n6 c6] 103)):=(Ux.Touch.refl _ _).alloc _
       exact ⟨_,_,_,_,rfl,rfl,by rw [Ux.cell_newg];rfl,Lib.hid ⟨(hR8.mono (A':=fun b=>q+1≤b) fun g h1 h2=>by omega).touch0 tA,T7w.trans tA fun _ _ f=>f⟩⟩)
     |(have tB:Ux.Touch (fun b=>b=W3.heap.size) w7 (w7.setCell ⟨W3.heap.size,0,none⟩ (.slice a6 n6 c6)):=(Ux.Touch.refl (fun b=>b=W3.heap.size) w7).setCell (p:=⟨W3.heap.size,0,none⟩) (fun _=>rfl) _
       exact ⟨_,_,_,_,rfl,rfl,by rw [cell_of_row _ W3.heap.size 0 _ _ (0,0) (Ux.setCell_row HB15.out 0 (.slice a6 n6 c6))];rfl,Lib.hid ⟨(hR8.touchB tB fun g _ h e=>by omega).mono fun g h1 h2=>by omega,T7w.trans (R:=fun _=>False) tB fun b hb h=>by omega⟩⟩)
     |(have tB:Ux.Touch (fun b=>b=w6.heap.size) w7 (w7.setCell ⟨w6.heap.size,0,none⟩ (.slice a6 n6 c6)):=(Ux.Touch.refl (fun b=>b=w6.heap.size) w7).setCell (p:=⟨w6.heap.size,0,none⟩) (fun _=>rfl) _
       have hR9:=(H6.out.mono (A':=fun b=>q+1≤b∧b≠w6.heap.size) fun g h1 h2=>⟨by omega,by omega⟩).touch0 H7.out
       exact ⟨_,_,_,_,rfl,rfl,by rw [cell_of_row _ w6.heap.size 0 _ _ (0,0) (Ux.setCell_row HB14.out 0 (.slice a6 n6 c6))];rfl,Lib.hid ⟨(hR9.touchB tB fun g _ h e=>h.2 e).mono fun g h1 h2=>h2.1,T7w.trans (R:=fun _=>False) tB fun b hb h=>by omega⟩⟩)
  ·go_wp2_with (fail)
   first|refine ⟨⟨HC.out _ (by repeat (first|exact Ux.Touch.refl _ _|exact T7w|exact T6w|refine Ux.Touch.drew ?_|refine Ux.Touch.alloc ?_ _)),HC.out _ (by repeat (first|exact Ux.Touch.refl _ _|exact T7w|exact T6w|refine Ux.Touch.drew ?_|refine Ux.Touch.alloc ?_ _))⟩,?_⟩|refine ⟨HC.out _ (by repeat (first|exact Ux.Touch.refl _ _|exact T7w|exact T6w|refine Ux.Touch.drew ?_|refine Ux.Touch.alloc ?_ _)),?_⟩
   go_wp2_with (go_at_call 83;fail)
   refine (rroot_ _).mono ?_
   rintro e w6 ⟨u6,rfl,hR6,T6⟩
   have T6w:Ux.Touch (fun _=>False) W3 w6:=Ux.Touch.trans Ux.tq T6 fun _ _ f=>f
   have hR7:=hR6.mono (A':=fun b=>W3.heap.size+1≤b) fun g h1 h2=>by
    first
     |(have h2:W3.heap.size+2≤g:=h2;omega)
     |(have h2:(W3.alloc (Obj.cells #[.slice none 0 0] 103)).heap.size+2≤g:=h2
       rw [World.size_alloc] at h2
       omega)
   obtain ⟨_,a6,c6,hu6,_⟩:=hR6
   subst hu6
   rw [HN6.out] at hR7⊢
   try (
    have hb13:w6.heap[W3.heap.size]? =some (.cells #[.slice none 0 0] 103 (0,0)):=T6.heap (heap_alloc_new _ _) (fun f=>f)
    have HB13:=Lib.hid hb13
    clear hb13)
   have H6:=Lib.hid hR7
   clear hR7 T6
   go_wp2_with (fail)
   first|refine ⟨⟨HC.out _ (by repeat (first|exact Ux.Touch.refl _ _|exact T7w|exact T6w|refine Ux.Touch.drew ?_|refine Ux.Touch.alloc ?_ _)),HC.out _ (by repeat (first|exact Ux.Touch.refl _ _|exact T7w|exact T6w|refine Ux.Touch.drew ?_|refine Ux.Touch.alloc ?_ _))⟩,?_⟩|refine ⟨HC.out _ (by repeat (first|exact Ux.Touch.refl _ _|exact T7w|exact T6w|refine Ux.Touch.drew ?_|refine Ux.Touch.alloc ?_ _)),?_⟩
   go_wp2_with (go_at_call 112;fail)
   refine (HAP.out _ _ _ (H6.out.touch0 Ux.tq)).mono ?_
   rintro e w7 ⟨rfl,T7⟩
   have T67:Ux.Touch (fun _=>False) w6 w7:=Ux.Touch.trans Ux.tq T7 fun _ _ f=>f
   have T7w:Ux.Touch (fun _=>False) W3 w7:=T6w.trans T67 fun _ _ f=>f
   try (
    have hb14:w7.heap[w6.heap.size]? =some (.cells #[.slice none 0 0] 103 (0,0)):=T7.heap (heap_alloc_new _ _) (fun f=>f)
    have f14:w7.cell? ⟨w6.heap.size,0,none⟩=some (.slice none 0 0):=by
     rw [cell_of_row _ w6.heap.size 0 _ _ (0,0) hb14]
     rfl
    have z14:=Ux.frozen_row hb14 0
    have HB14:=Lib.hid hb14
    clear hb14)
   try (
    have hb15:w7.heap[W3.heap.size]? =some (.cells #[.slice none 0 0] 103 (0,0)):=T67.heap HB13.out (fun f=>f)
    have f15:w7.cell? ⟨W3.heap.size,0,none⟩=some (.slice none 0 0):=by
     rw [cell_of_row _ W3.heap.size 0 _ _ (0,0) hb15]
     rfl
    have z15:=Ux.frozen_row hb15 0
    have HB15:=Lib.hid hb15
    clear hb15)
   have H7:=Lib.hid T67
   clear T7 T67
   go_wp2_with (fail)
   first|refine ⟨⟨HC.out _ (by repeat (first|exact Ux.Touch.refl _ _|exact T7w|exact T6w|refine Ux.Touch.drew ?_|refine Ux.Touch.alloc ?_ _)),HC.out _ (by repeat (first|exact Ux.Touch.refl _ _|exact T7w|exact T6w|refine Ux.Touch.drew ?_|refine Ux.Touch.alloc ?_ _))⟩,?_⟩|refine ⟨HC.out _ (by repeat (first|exact Ux.Touch.refl _ _|exact T7w|exact T6w|refine Ux.Touch.drew ?_|refine Ux.Touch.alloc ?_ _)),?_⟩
   repeat ((with_reducible refine Ux.qg ?_);refine Ux.qu ?_)
   go_wp2_with (fail)
   go_wp2_with (fail)
   go_meet
   have hR8:=H6.out.touch0 H7.out
   have hw3:q+1≤W3.heap.size:=by have:=HW.out.2.2;have:=H3.out.2.size;omega
   have hw6:=T6w.size
   first
    |(have tA:Ux.Touch (fun _=>False) w7 (w7.alloc (.cells #[.slice a6 n6 c6] 103)):=(Ux.Touch.refl _ _).alloc _
      exact ⟨_,_,_,_,rfl,rfl,by rw [Ux.cell_newg];rfl,Lib.hid ⟨(hR8.mono (A':=fun b=>q+1≤b) fun g h1 h2=>by omega).touch0 tA,T7w.trans tA fun _ _ f=>f⟩⟩)
    |(have tB:Ux.Touch (fun b=>b=W3.heap.size) w7 (w7.setCell ⟨W3.heap.size,0,none⟩ (.slice a6 n6 c6)):=(Ux.Touch.refl (fun b=>b=W3.heap.size) w7).setCell (p:=⟨W3.heap.size,0,none⟩) (fun _=>rfl) _
      exact ⟨_,_,_,_,rfl,rfl,by rw [cell_of_row _ W3.heap.size 0 _ _ (0,0) (Ux.setCell_row HB15.out 0 (.slice a6 n6 c6))];rfl,Lib.hid ⟨(hR8.touchB tB fun g _ h e=>by omega).mono fun g h1 h2=>by omega,T7w.trans (R:=fun _=>False) tB fun b hb h=>by omega⟩⟩)
    |(have tB:Ux.Touch (fun b=>b=w6.heap.size) w7 (w7.setCell ⟨w6.heap.size,0,none⟩ (.slice a6 n6 c6)):=(Ux.Touch.refl (fun b=>b=w6.heap.size) w7).setCell (p:=⟨w6.heap.size,0,none⟩) (fun _=>rfl) _
      have hR9:=(H6.out.mono (A':=fun b=>q+1≤b∧b≠w6.heap.size) fun g h1 h2=>⟨by omega,by omega⟩).touch0 H7.out
      exact ⟨_,_,_,_,rfl,rfl,by rw [cell_of_row _ w6.heap.size 0 _ _ (0,0) (Ux.setCell_row HB14.out 0 (.slice a6 n6 c6))];rfl,Lib.hid ⟨(hR9.touchB tB fun g _ h e=>h.2 e).mono fun g h1 h2=>h2.1,T7w.trans (R:=fun _=>False) tB fun b hb h=>by omega⟩⟩)
 obtain ⟨q6,a9,n9,c9,rfl,rfl,hc6,HK⟩:=hcut
 have Tc:=H3.out.2.trans HK.out.2 fun _ _ f=>f
 have hbq:=Tc.heap H1.out.2 (fun f=>f)
 have HQ:=Lib.hid hbq
 have d0:wc.cell? ⟨q,0,none⟩=some (.slice none 0 0):=by rw [cell_of_row _ q 0 _ _ (0,0) hbq];rfl
 have z0:=Ux.frozen_row hbq 0
 rw [HW.out.2.1]
 clear hbq Tc b2 b0
 go_wp2
 have hx:=Ux.setCell_row HQ.out 0 (.slice a9 n9 c9)
 have e0:=cell_of_row _ q 0 _ _ (0,0) hx
 have T5:Ux.Touch (fun b=>b=q) wc (wc.setCell ⟨q,0,none⟩ (.slice a9 n9 c9)):=(Ux.Touch.refl (fun b=>b=q) wc).setCell (p:=⟨q,0,none⟩) (fun _=>rfl) _
 have TT:Ux.Touch (fun _=>False) w (wc.setCell ⟨q,0,none⟩ (.slice a9 n9 c9)):=(H3.out.1.trans HK.out.2 fun _ _ f=>f).trans (R:=fun _=>False) T5 fun b hb h=>by have:=HW.out.2.1;omega
 have hR9:=(HK.out.1.touchB T5 fun g _ h e=>by omega).mono (A':=fun b=>w.heap.size≤b) fun g h1 h2=>by have:=HW.out.2.1;omega
 generalize wc.setCell ⟨q,0,none⟩ (.slice a9 n9 c9)=W5 at e0 TT hR9⊢
 simp at e0
 refine bodyPost_ret (by simp [results,Tryz.results81,go_sem,e0];try rfl) rfl ?_
 exact ⟨_,rfl,hR9,TT⟩
end Go.Proofs.YtmnkinaaoifpeaaGreatDoor
