/- A part of the proof that the statement holds for every input that it names. No other condition. -/
import Derived.Test.YtfccjaboicpohaaGreatDoorQAY
import Derived.Test.YtfccjaboicpohaaGreatDoorRtail5Y
set_option linter.unusedVariables false
set_option linter.unusedSimpArgs false
namespace Go.Proofs.YtfccjaboicpohaaGreatDoor
open Go.RowKit
open Ux (Row Ent KGrow Ents stepA elemsE iv sv)
open Ux.Sign (cp raw)
set_option maxHeartbeats 32000000 in
set_option maxRecDepth 100000 in
theorem rapplyQ_ (v vl:Value) (T:List Ent) (l:List RulI) (A:Nat→Prop) (w:World) (hT:RRows w A v T) (hi:InvT T []) (hl:RulesV w vl l) (hok: ∀x∈l,okI x) (hlen:l.length≤40):
 Calls Tryz.prog 14 #[.agg #[v],vl] w fun e w'=>RApplyR w' (fun b=>A b∨w.heap.size≤b) (applyQ T [] false l) e∧Ux.Touch (fun _=>False) w w':=by
 have hTT:=hT
 obtain ⟨_,x0,cx,rfl,_,_⟩:=hT
 obtain ⟨al,cl,rfl,hcel⟩:=hl
 obtain ⟨N,hN⟩: ∃n,T.length=n:=⟨_,rfl⟩
 obtain ⟨n,hn⟩: ∃n,l.length=n:=⟨_,rfl⟩
 rw [hN] at hTT⊢
 rw [hn] at hlen⊢
 have n0:(n:Int)≤40:=by omega
 obtain ⟨RES,hRES⟩: ∃r,applyQ T [] false l=r:=⟨_,rfl⟩
 rw [hRES]
 obtain ⟨q,hq⟩: ∃q,w.heap.size=q:=⟨_,rfl⟩
 have T1:Ux.Touch (fun _=>False) w (w.alloc (.cells #[.slice x0 N cx] 36)):=(Ux.Touch.refl _ _).alloc _
 have b1:(w.alloc (.cells #[.slice x0 N cx] 36)).heap[q]? =some (.cells #[.slice x0 N cx] 36 (0,0)):=by rw [←hq];exact heap_alloc_new w _
 have s1:(w.alloc (.cells #[.slice x0 N cx] 36)).heap.size=q+1:=by rw [World.size_alloc,hq]
 obtain ⟨W1,hW1⟩: ∃W,w.alloc (.cells #[.slice x0 N cx] 36)=W:=⟨_,rfl⟩
 rw [hW1] at T1 b1 s1
 have T2:Ux.Touch (fun _=>False) W1 (W1.alloc (.cells #[.slice none 0 0] 36)):=(Ux.Touch.refl _ _).alloc _
 have b2:(W1.alloc (.cells #[.slice none 0 0] 36)).heap[q+1]? =some (.cells #[.slice none 0 0] 36 (0,0)):=by rw [←s1];exact heap_alloc_new W1 _
 have s2:(W1.alloc (.cells #[.slice none 0 0] 36)).heap.size=q+2:=by rw [World.size_alloc,s1]
 have b1':=T2.heap b1 (fun f=>f)
 obtain ⟨W2,hW2⟩: ∃W,W1.alloc (.cells #[.slice none 0 0] 36)=W:=⟨_,rfl⟩
 rw [hW2] at T2 b2 s2 b1'
 have T02:=T1.trans T2 fun _ _ f=>f
 obtain ⟨A1,hA1⟩: ∃A1:Nat→Prop,(fun b=>(A b∧b<q)∨q+2≤b)=A1:=⟨_,rfl⟩
 have hAq: ¬A1 q:=by rw [←hA1];intro h;rcases h with h|h<;>omega
 have hAq1: ¬A1 (q+1):=by rw [←hA1];intro h;rcases h with h|h<;>omega
 have hAn: ∀b,q+2≤b→A1 b:=fun b hb=>by rw [←hA1];exact .inr hb
 have hAo: ∀b,A1 b→A b∨w.heap.size≤b:=fun b hb=>by
  rw [←hA1] at hb
  rcases hb with h|h
  ·exact .inl h.1
  ·exact .inr (by omega)
 have hst:ApSt W2 q A1 x0 N cx T (.slice none 0 0) []:=⟨b1',(hTT.mono (A':=A1) fun g h1 h2=>by rw [←hA1];exact .inl ⟨h2,by omega⟩).touch0 T02,RRow.nil _,Nat.le_refl _,fun g hg=>by cases hg⟩
 have HW:=Lib.hid (And.intro hW1 (And.intro hW2 (And.intro s2 hq)))
 have H2:=Lib.hid (And.intro T02 (And.intro b2 hst))
 have HAA:=Lib.hid (And.intro hAq (And.intro hAq1 (And.intro hAn hAo)))
 have HH:=Lib.hid (And.intro hcel (And.intro hok (And.intro hn (And.intro hRES hi))))
 clear hTT hcel hok hn hRES hi T1 b1 s1 hW1 T2 b2 s2 b1' hW2 T02 hq hN hlen hst hAq hAq1 hAn hAo hA1
 go_enter Tryz.func14,Tryz.ntmps14
 go_upto_region 1 with (fail)
 rw [HW.out.1,HW.out.2.1,HW.out.2.2.2]
 go_wp2_with (fail)
 go_loopg [6,7,8] n (fun gk s6 s7 s8 wr=> ∃(i:Nat) (T1:List Ent) (a1:List Nat) (bb:Bool) (x1:Option Addr) (n1 c1:Nat) (ax:Option Addr) (an ac:Nat),s8= .int .i64 i∧s7= .bool bb∧s6= .slice ax an ac∧i+gk=n∧Hid (ApSt wr q A1 x1 n1 c1 T1 (.slice ax an ac) a1∧InvT T1 a1∧applyQ T1 a1 bb (l.drop i)=RES∧Ux.Touch (fun b=>b=q) W2 wr))
 case atStart=>exact ⟨0,T,[],false,x0,N,cx,none,0,0,rfl,rfl,rfl,by omega,Lib.hid ⟨H2.out.2.2,HH.out.2.2.2.2,HH.out.2.2.2.1,Ux.Touch.refl _ _⟩⟩
 case round=>
  obtain ⟨i,T1,a1,bb,x1,n1,c1,ax,an,ac,rfl,rfl,rfl,hig,HI⟩:=hrel
  have i0:(0:Int)≤i:=by omega
  have TW:Ux.Touch (fun _=>False) w wr:=H2.out.1.trans (R:=fun _=>False) HI.out.2.2.2 fun b hb e=>by have:=HW.out.2.2.2;omega
  have hsz:q+2≤wr.heap.size:=by have h1:=HI.out.2.2.2.size;have h2:=HW.out.2.2.1;omega
  have HTW:=Lib.hid (And.intro TW hsz)
  clear TW hsz
  by_cases hin:i<n
  ·obtain ⟨g',rfl⟩: ∃g',gk=g'+1:=⟨gk-1,by omega⟩
   have i1:(i:Int)<n:=by omega
   obtain ⟨x,hx⟩: ∃x,l[i]? =some x:=⟨_,List.getElem?_eq_getElem (by have:=HH.out.2.2.1;omega)⟩
   obtain ⟨g,o,v1,v2,rfl,r0,r1,r2,⟨p1,p1c⟩,p2,p2c⟩:=HH.out.1 i x hx
   have p1k:=p1
   have p2k:=p2
   obtain ⟨b1,e1,rfl,_⟩:=p1k
   obtain ⟨b2,e2,rfl,_⟩:=p2k
   obtain ⟨m1,hm1⟩: ∃m,x.seq.length=m:=⟨_,rfl⟩
   obtain ⟨m2,hm2⟩: ∃m,x.exp.length=m:=⟨_,rfl⟩
   rw [hm1] at r1 p1 p1c
   rw [hm2] at r2 p2 p2c
   have r0:=HTW.out.1.cell r0 (fun f=>f)
   have r1:=HTW.out.1.cell r1 (fun f=>f)
   have r2:=HTW.out.1.cell r2 (fun f=>f)
   have hxok:=HH.out.2.1 x (List.mem_of_getElem? hx)
   have hap:applyQ T1 a1 bb (l.drop i)=if relOk bb x.rel=false then (1,T1) else if (ruleQ T1 a1 x).1≠0 then ((ruleQ T1 a1 x).1,T1) else applyQ (ruleQ T1 a1 x).2.1 (ruleQ T1 a1 x).2.2 true (l.drop (i+1)):=by rw [Ux.drop_get hx];rfl
   rw [HI.out.2.2.1] at hap
   obtain ⟨rl,hrl⟩: ∃r,x.rel=r:=⟨_,rfl⟩
   have hrb:=hxok.1
   rw [hrl] at hrb r0 hap
   obtain ⟨q9,hq9⟩: ∃k,wr.heap.size=k:=⟨_,rfl⟩
   obtain ⟨W4,hW4⟩: ∃W,wr.alloc (.cells #[.int .i64 rl,.slice b1 m1 e1,.slice b2 m2 e2] 25)=W:=⟨_,rfl⟩
   have t4:Ux.Touch (fun _=>False) wr W4:=by rw [←hW4];exact (Ux.Touch.refl _ _).alloc _
   have hb4:W4.heap[q9]? =some (.cells #[.int .i64 rl,.slice b1 m1 e1,.slice b2 m2 e2] 25 (0,0)):=by rw [←hW4,←hq9];exact heap_alloc_new wr _
   have y0:W4.cell? ⟨q9,0,none⟩=some (.int .i64 rl):=by rw [cell_of_row W4 q9 0 _ _ (0,0) hb4];rfl
   have y1:W4.cell? ⟨q9,1,none⟩=some (.slice b1 m1 e1):=by rw [cell_of_row W4 q9 1 _ _ (0,0) hb4];rfl
   have hST4:=HI.out.1.touch0 t4
   have H4:=Lib.hid (And.intro hST4 (And.intro hb4 (And.intro (HI.out.2.2.2.trans t4 fun _ _ f=>f.elim) (And.intro (HTW.out.1.trans t4 fun _ _ f=>f) (show q<q9 by have:=HTW.out.2;omega)))))
   have hs1: ∀W,Ux.Touch (fun _=>False) w W→IView W (.slice b1 m1 e1) x.seq:=fun W t=>p1.touch0 t
   have hs2: ∀W,Ux.Touch (fun _=>False) w W→IView W (.slice b2 m2 e2) x.exp:=fun W t=>p2.touch0 t
   have hc1:capOk (.slice b1 m1 e1):=p1c
   have hc2:capOk (.slice b2 m2 e2):=p2c
   have HX:=Lib.hid (And.intro hap (And.intro hxok (And.intro hrl (And.intro hs1 (And.intro hs2 (And.intro hc1 hc2))))))
   have HWX:=Lib.hid (And.intro hW4 hq9)
   obtain ⟨c0,f0⟩:=hST4.cell
   clear hx p1 p2 p1c p2c hm1 hm2 hxok hap t4 hb4 hin hrl hST4 hs1 hs2 hc1 hc2
   go_upto_region 7 with (fail)
   by_cases hr1:rl=1
   ·have k1:(rl==1)=true:=by rw [hr1];rfl
    have hrk:relOk bb rl=true:=by rw [hr1];cases bb<;>rfl
    have HRK:=Lib.hid hrk
    have hru:ruleQ T1 a1 x=if 8<(elemsQ T1 x.seq).length then (1,T1,a1) else (0,T1,elemsQ T1 x.seq):=by
     unfold ruleQ
     rw [if_pos (by rw [HX.out.2.2.1];exact hr1)]
    have HRU:=Lib.hid hru
    have HOF:=Lib.hid (rofsq_ (.slice x1 n1 c1) (.slice b1 m1 e1) T1 x.seq A1 W4 H4.out.1.rows (HX.out.2.2.2.1 W4 H4.out.2.2.2.1) HX.out.2.2.2.2.2.1 HI.out.2.1.ok (by have:=HI.out.2.1.len;omega) (by have:=HX.out.2.1.2.1.1;omega))
    clear hru hr1 hrk
    go_wp2_with (go_at_call 55;fail)
    refine HOF.out.mono ?_
    rintro e w5 ⟨u,rfl,⟨hu,hcu,hul⟩,hou,T5⟩
    have hu':=hu
    obtain ⟨au,cu,hu0,_⟩:=hu
    obtain ⟨nu,hnu⟩: ∃k,(elemsQ T1 x.seq).length=k:=⟨_,rfl⟩
    rw [hnu] at hu0
    subst hu0
    have nu0:(nu:Int)≤1000:=by
     have:=(elemsQ_ok HI.out.2.1.ok x.seq).1
     have:=HX.out.2.1.2.1.1
     omega
    have H5:=Lib.hid (And.intro (H4.out.1.touch0 T5) (And.intro hu' (And.intro hcu (And.intro hou (And.intro T5 (And.intro hnu hul))))))
    clear T5 c0 f0 y0 y1 r0 r1 r2 hu' hcu hou hnu hul
    by_cases h8:8<nu
    ·have k8:(nu:Int)>8:=by omega
     have HE:=Lib.hid (show ruleQ T1 a1 x=(1,T1,a1) by rw [HRU.out,if_pos (by rw [H5.out.2.2.2.2.2.1];exact h8)])
     have T25:Ux.Touch (fun b=>b=q) W2 w5:=H4.out.2.2.1.trans H5.out.2.2.2.2.1 fun _ _ f=>f.elim
     have HT25:=Lib.hid T25
     have b22:=T25.heap H2.out.2.1 (by omega)
     clear h8 T25
     have z0:=Ux.frozen_row b22 0
     have y0z:w5.cell? ⟨q+1,0,none⟩=some (.slice none 0 0):=by rw [cell_of_row _ (q+1) 0 _ _ (0,0) b22];rfl
     have HB2:=Lib.hid b22
     clear b22
     go_wp2
     have hx:=Ux.setCell_row HB2.out 0 (.slice none 0 0)
     have e0:=cell_of_row _ (q+1) 0 _ _ (0,0) hx
     have T5:Ux.Touch (fun b=>b=q+1) w5 (w5.setCell ⟨q+1,0,none⟩ (.slice none 0 0)):=(Ux.Touch.refl (fun b=>b=q+1) w5).setCell (p:=⟨q+1,0,none⟩) (fun _=>rfl) _
     have TT:Ux.Touch (fun _=>False) w (w5.setCell ⟨q+1,0,none⟩ (.slice none 0 0)):=(H2.out.1.trans (R:=fun _=>False) (HT25.out) fun b hb e=>by have:=HW.out.2.2.2;omega).trans (R:=fun _=>False) T5 fun b hb e=>by have:=HW.out.2.2.2;omega
     generalize w5.setCell ⟨q+1,0,none⟩ (.slice none 0 0)=W9 at e0 TT⊢
     simp at e0
     refine bodyPost_ret (by simp [results,Tryz.results14,go_sem,e0];try rfl) rfl ?_
     have h:=HX.out.1
     rw [HRK.out,if_neg (by simp),HE.out,if_pos (by simp)] at h
     rw [h]
     exact ⟨.inl ⟨by simp,rfl⟩,TT⟩
    ·have k8: ¬((nu:Int)>8):=by omega
     have HE:=Lib.hid (show ruleQ T1 a1 x=(0,T1,elemsQ T1 x.seq) by rw [HRU.out,if_neg (by rw [H5.out.2.2.2.2.2.1];exact h8)])
     clear h8
     go_wp2_with (fail)
     go_roundg g'
     case measure=>omega
     case rel=>
      have h:=HX.out.1
      rw [HRK.out,if_neg (by simp),HE.out,if_neg (by simp)] at h
      have hin:=ruleQ_ok HI.out.2.1 x (by rw [HE.out])
      rw [HE.out] at hin
      have hs:=HTW.out.2
      have h4s:=H4.out.2.2.1.size
      have h2s:=HW.out.2.2.1
      have h45:wr.heap.size≤W4.heap.size:=by rw [←HWX.out.1];simp
      exact ⟨i+1,T1,_,true,x1,n1,c1,_,_,_,rfl,rfl,rfl,by omega,Lib.hid ⟨⟨H5.out.1.blk,H5.out.1.rows,H5.out.2.1,H5.out.2.2.1,fun g hg=>⟨HAA.out.2.2.1 g (by have:=H5.out.2.2.2.1 g hg;omega),H5.out.2.2.2.2.2.2 g hg⟩⟩,hin,h.symm,H4.out.2.2.1.trans H5.out.2.2.2.2.1 fun _ _ f=>f.elim⟩⟩
   ·by_cases hg:bb=true∧2≤rl∧rl≤5
    rotate_left
    ·have hk:relOk bb rl=false:=by
      unfold relOk
      cases bb with
      |false=>simp [hr1]
      |true=>
       by_cases h1:1≤rl
       ·rw [decide_eq_false (fun h5=>hg ⟨rfl,by omega,h5⟩)]
        simp
       ·rw [decide_eq_false h1]
        simp
     have HK:=Lib.hid hk
     have T24:Ux.Touch (fun b=>b=q) W2 W4:=H4.out.2.2.1
     have HT24:=Lib.hid T24
     have b22:=T24.heap H2.out.2.1 (by omega)
     have k1:(rl==1)=false:=beq_false_of_ne hr1
     have HG:=Lib.hid hg
     clear hg hk hr1 T24 c0 f0 r0 r1 r2
     have z0:=Ux.frozen_row b22 0
     have y0z:W4.cell? ⟨q+1,0,none⟩=some (.slice none 0 0):=by rw [cell_of_row _ (q+1) 0 _ _ (0,0) b22];rfl
     have HB2:=Lib.hid b22
     clear b22
     have HFIN:Hid (RApplyR (W4.setCell ⟨q+1,0,none⟩ (.slice none 0 0)) (fun b=>A b∨w.heap.size≤b) RES (.returned (.tuple #[.agg #[.slice none 0 0],.int .i64 1]))∧Ux.Touch (fun _=>False) w (W4.setCell ⟨q+1,0,none⟩ (.slice none 0 0))∧(W4.setCell ⟨q+1,0,none⟩ (.slice none 0 0)).cell? ⟨q+1,0,none⟩=some (.slice none 0 0)):=by
      have hx:=Ux.setCell_row HB2.out 0 (.slice none 0 0)
      have e0:=cell_of_row _ (q+1) 0 _ _ (0,0) hx
      have T5:Ux.Touch (fun b=>b=q+1) W4 (W4.setCell ⟨q+1,0,none⟩ (.slice none 0 0)):=(Ux.Touch.refl (fun b=>b=q+1) W4).setCell (p:=⟨q+1,0,none⟩) (fun _=>rfl) _
      have TT:Ux.Touch (fun _=>False) w (W4.setCell ⟨q+1,0,none⟩ (.slice none 0 0)):=(H2.out.1.trans (R:=fun _=>False) (HT24.out) fun b hb e=>by have:=HW.out.2.2.2;omega).trans (R:=fun _=>False) T5 fun b hb e=>by have:=HW.out.2.2.2;omega
      have h:=HX.out.1
      rw [HK.out,if_pos rfl] at h
      rw [h]
      exact Lib.hid ⟨.inl ⟨by simp,rfl⟩,TT,by rw [e0];rfl⟩
     cases bb with
     |false=>
      go_wp2
      have e0:=HFIN.out.2.2
      have hF:=And.intro HFIN.out.1 HFIN.out.2.1
      generalize W4.setCell ⟨q+1,0,none⟩ (.slice none 0 0)=W9 at e0 hF⊢
      exact bodyPost_ret (by simp [results,Tryz.results14,go_sem,e0];try rfl) rfl hF
     |true=>
      by_cases k2:rl<1
      ·go_wp2
       have e0:=HFIN.out.2.2
       have hF:=And.intro HFIN.out.1 HFIN.out.2.1
       generalize W4.setCell ⟨q+1,0,none⟩ (.slice none 0 0)=W9 at e0 hF⊢
       exact bodyPost_ret (by simp [results,Tryz.results14,go_sem,e0];try rfl) rfl hF
      ·have k3:rl>5:=by
        rcases Int.lt_or_le 5 rl with h|h
        ·exact h
        ·have:=beq_eq_false_iff_ne.1 k1
         exact absurd ⟨rfl,by omega,h⟩ HG.out
       go_wp2
       have e0:=HFIN.out.2.2
       have hF:=And.intro HFIN.out.1 HFIN.out.2.1
       generalize W4.setCell ⟨q+1,0,none⟩ (.slice none 0 0)=W9 at e0 hF⊢
       exact bodyPost_ret (by simp [results,Tryz.results14,go_sem,e0];try rfl) rfl hF
    obtain ⟨rfl,g2,g5⟩:=hg
    have hrk:relOk true rl=true:=by unfold relOk;rw [decide_eq_true (by omega:1≤rl),decide_eq_true g5];rfl
    have HRK:=Lib.hid hrk
    clear hrk
    obtain ⟨rl,rfl⟩: ∃r:Nat,rl=(r:Int):=⟨rl.toNat,by omega⟩
    have hge:2≤rl∧rl≤5:=by omega
    have k1:((rl:Int)==1)=false:=beq_false_of_ne (by omega)
    have j1: ¬((rl:Int)<1):=by omega
    have j2: ¬((rl:Int)>5):=by omega
    have hrul:ruleQ T1 a1 x=if (goT T1 a1 rl).1≠0 then ((goT T1 a1 rl).1,T1,a1) else if codeE (goT T1 a1 rl).2.1 x.seq ((goT T1 a1 rl).2.2++elemsQ (goT T1 a1 rl).2.1 x.exp)≠0 then (codeE (goT T1 a1 rl).2.1 x.seq ((goT T1 a1 rl).2.2++elemsQ (goT T1 a1 rl).2.1 x.exp),T1,a1) else (0,Ux.putE (goT T1 a1 rl).2.1 (x.seq.map Int.toNat) ((goT T1 a1 rl).2.2++elemsQ (goT T1 a1 rl).2.1 x.exp),(goT T1 a1 rl).2.2):=by
     unfold ruleQ
     rw [HX.out.2.2.1,if_neg hr1,Int.toNat_natCast]
    have HRU:=Lib.hid (And.intro hrul hge)
    clear hrul hge hr1 g2 g5 r0 r1 r2
    go_upto_if 52 with (fail)
    go_cut [6] (fun s6 wx=> ∃(bx:Option Addr) (bn bc:Nat) (x2:Option Addr) (n2 c2:Nat),s6= .slice bx bn bc∧Hid ((goT T1 a1 rl).1=0∧ApSt wx q A1 x2 n2 c2 (goT T1 a1 rl).2.1 (.slice bx bn bc) (goT T1 a1 rl).2.2∧Ux.Touch (fun b=>b=q) W4 wx))
    case first=>
     by_cases h5:rl<5
     ·have k5:(rl:Int)<5:=by omega
      obtain ⟨L,hL⟩: ∃L,rl=L+1:=⟨rl-1,by have:=HRU.out.2;omega⟩
      have hL3:L=1∨L=2∨L=3:=by have:=HRU.out.2;omega
      have hg:goT T1 a1 rl=stepA T1 a1 L:=by unfold goT;rw [if_pos h5,hL];rfl
      have HSP:=Lib.hid (rstep_ L (.slice x1 n1 c1) (.slice ax an ac) T1 a1 A1 W4 H4.out.1.rows H4.out.1.row H4.out.1.cap HI.out.2.1 hL3)
      have HG:=Lib.hid hg
      have e1':(rl:Int)-1=(L:Int):=by omega
      have r1':(rl:Int)≤5:=by omega
      have r2':(2:Int)≤rl:=by have:=HRU.out.2;omega
      clear h5 hL hL3 hg
      go_wp2_with (go_at_call 56;fail)
      refine HSP.out.mono ?_
      rintro e w5 ⟨hR,T5⟩
      rcases hR with ⟨hne,xe,ne,ce,rfl⟩|⟨hz,u,b,rfl,hRR,hRW,hcp,hown⟩
      ·obtain ⟨SC,hSC⟩: ∃k,(stepA T1 a1 L).1=k:=⟨_,rfl⟩
       rw [hSC] at hne⊢
       have k0:((SC:Int) !=0)=true:=by
        have:((SC:Int)==0)=false:=beq_false_of_ne (by omega)
        show (!((SC:Int)==0))=true
        rw [this]
        rfl
       have k9:((SC:Int)==0)=false:=beq_false_of_ne (by omega)
       obtain ⟨W6,hW6⟩: ∃W,w5.alloc (.cells #[.slice xe ne ce] 36)=W:=⟨_,rfl⟩
       have t6:Ux.Touch (fun _=>False) w5 W6:=by rw [←hW6];exact (Ux.Touch.refl _ _).alloc _
       have T26:Ux.Touch (fun b=>b=q) W2 W6:=H4.out.2.2.1.trans (T5.trans t6 fun _ _ f=>f) fun _ _ f=>f.elim
       have HT26:=Lib.hid T26
       have b22:=T26.heap H2.out.2.1 (by omega)
       have HE:=Lib.hid (show ruleQ T1 a1 x=(SC,T1,a1) by rw [HRU.out.1,HG.out,if_pos (by rw [hSC];exact hne),hSC])
       have HNE:=Lib.hid hne
       clear hne hSC t6 T26 T5
       have z0:=Ux.frozen_row b22 0
       have y0z:W6.cell? ⟨q+1,0,none⟩=some (.slice none 0 0):=by rw [cell_of_row _ (q+1) 0 _ _ (0,0) b22];rfl
       have HB2:=Lib.hid b22
       clear b22
       go_wp2
       have hx:=Ux.setCell_row HB2.out 0 (.slice none 0 0)
       have e0:=cell_of_row _ (q+1) 0 _ _ (0,0) hx
       have T5:Ux.Touch (fun b=>b=q+1) W6 (W6.setCell ⟨q+1,0,none⟩ (.slice none 0 0)):=(Ux.Touch.refl (fun b=>b=q+1) W6).setCell (p:=⟨q+1,0,none⟩) (fun _=>rfl) _
       have TT:Ux.Touch (fun _=>False) w (W6.setCell ⟨q+1,0,none⟩ (.slice none 0 0)):=(H2.out.1.trans (R:=fun _=>False) (HT26.out) fun b hb e=>by have:=HW.out.2.2.2;omega).trans (R:=fun _=>False) T5 fun b hb e=>by have:=HW.out.2.2.2;omega
       generalize W6.setCell ⟨q+1,0,none⟩ (.slice none 0 0)=W9 at e0 TT⊢
       simp at e0
       refine bodyPost_ret (by simp [results,Tryz.results14,go_sem,e0];try rfl) rfl ?_
       have h:=HX.out.1
       rw [HRK.out,if_neg (by simp),HE.out,if_pos (HNE.out)] at h
       rw [h]
       exact ⟨.inl ⟨HNE.out,rfl⟩,TT⟩
      ·have hRR':=hRR
       obtain ⟨_,x2,c2,hu0,_⟩:=hRR
       obtain ⟨n2,hn2⟩: ∃k,(stepA T1 a1 L).2.1.length=k:=⟨_,rfl⟩
       rw [hn2] at hu0
       subst hu0
       have hRW':=hRW
       obtain ⟨bx,bc,hb0,_⟩:=hRW
       obtain ⟨bn,hbn⟩: ∃k,(stepA T1 a1 L).2.2.length=k:=⟨_,rfl⟩
       rw [hbn] at hb0
       subst hb0
       obtain ⟨q6,hq6⟩: ∃k,w5.heap.size=k:=⟨_,rfl⟩
       obtain ⟨W6,hW6⟩: ∃W,w5.alloc (.cells #[.slice x2 n2 c2] 36)=W:=⟨_,rfl⟩
       have t6:Ux.Touch (fun _=>False) w5 W6:=by rw [←hW6];exact (Ux.Touch.refl _ _).alloc _
       have c6:W6.cell? ⟨q6,0,none⟩=some (.slice x2 n2 c2):=by rw [←hW6,←hq6,Ux.cell_newg];rfl
       have hs4:q+2≤W4.heap.size:=by have h1:=H4.out.2.2.1.size;have h2:=HW.out.2.2.1;omega
       have hA4: ∀b,(A1 b∨W4.heap.size≤b)→A1 b:=fun b hb=>by
        rcases hb with h|h
        ·exact h
        ·exact HAA.out.2.2.1 b (by omega)
       have hst6:=H4.out.1.touch0 (T5.trans t6 fun _ _ f=>f)
       obtain ⟨hst7,t7⟩:=hst6.put HAA.out.1 ((hRR'.mono (A':=A1) fun g _ h=>hA4 g h).touch0 t6) (hRW'.touch0 t6) hcp (fun g hg=>⟨hA4 g (hown g hg).1,Nat.lt_of_lt_of_le (hown g hg).2 t6.size⟩)
       have HF:=Lib.hid (And.intro hz (And.intro hst7 ((T5.trans t6 fun _ _ f=>f).mono (fun _ _ f=>f.elim)|>.trans t7 fun _ _ e=>e:Ux.Touch (fun b=>b=q) W4 _)))
       have c0':=hst6.cell.1
       have f0':=hst6.cell.2
       clear hRR' hn2 hRW' hbn t6 hs4 hA4 hst6 hst7 t7 hcp hown T5 c0 f0
       go_wp2_with (fail)
       go_meet
       refine ⟨_,_,_,x2,n2,c2,rfl,?_⟩
       rw [HG.out]
       exact HF
     ·have k5: ¬((rl:Int)<5):=by omega
      have hg:goT T1 a1 rl=(0,T1,a1):=by unfold goT;rw [if_neg h5]
      have HG:=Lib.hid hg
      clear hg h5
      go_wp2_with (fail)
      go_meet
      refine ⟨_,_,_,x1,n1,c1,rfl,?_⟩
      rw [HG.out]
      exact Lib.hid ⟨rfl,H4.out.1,Ux.Touch.refl _ _⟩
    obtain ⟨W5,rfl⟩: ∃W,W=wc:=⟨_,rfl⟩
    obtain ⟨bx,bn,bc,x2,n2,c2,rfl,hcut⟩:=hcut
    obtain ⟨hz0,hst5,T45⟩:=hcut.out
    obtain ⟨g1,g2,g3,g4,g5⟩:=goT_ok HI.out.2.1 hz0
    have hrul:=HRU.out.1
    rw [if_neg (fun h=>h hz0)] at hrul
    obtain ⟨U,hU⟩: ∃t,(goT T1 a1 rl).2.1=t:=⟨_,rfl⟩
    obtain ⟨a2,ha2⟩: ∃t,(goT T1 a1 rl).2.2=t:=⟨_,rfl⟩
    rw [hU] at hst5 hrul g1 g2 g3
    rw [ha2] at hst5 hrul g4 g5
    obtain ⟨EX,hEX⟩: ∃t,elemsQ U x.exp=t:=⟨_,rfl⟩
    rw [hEX] at hrul
    have hexl:EX.length≤500:=by
     rw [←hEX]
     have h1:=(elemsQ_ok g1 x.exp).1
     have h2:=HX.out.2.1.2.2.1
     omega
    obtain ⟨C,hC⟩: ∃k,codeE U x.seq (a2++EX)=k:=⟨_,rfl⟩
    rw [hC] at hrul
    have hbn:bn=a2.length:=by obtain ⟨_,_,e,_⟩:=hst5.row;cases e;rfl
    obtain ⟨ne,hne⟩: ∃k,EX.length=k:=⟨_,rfl⟩
    have hTW5:Ux.Touch (fun _=>False) w W5:=H4.out.2.2.2.1.trans (R:=fun _=>False) T45 fun b hb e=>by have:=HW.out.2.2.2;omega
    have hs5:q+2≤W5.heap.size:=by have h1:=T45.size;have h2:=H4.out.2.2.1.size;have h3:=HW.out.2.2.1;omega
    have hb5:=T45.heap H4.out.2.1 (fun e=>by have:=H4.out.2.2.2.2;omega)
    have y1:W5.cell? ⟨q9,1,none⟩=some (.slice b1 m1 e1):=by rw [cell_of_row W5 q9 1 _ _ (0,0) hb5];rfl
    have y2:W5.cell? ⟨q9,2,none⟩=some (.slice b2 m2 e2):=by rw [cell_of_row W5 q9 2 _ _ (0,0) hb5];rfl
    have c0:=hst5.cell.1
    have HKS:=Lib.hid fun W (t:Ux.Touch (fun _=>False) W5 W)=>And.intro (t.cell c0 (fun f=>f)) (And.intro (t.cell y1 (fun f=>f)) (t.cell y2 (fun f=>f)))
    have HRW:=Lib.hid fun W (t:Ux.Touch (fun _=>False) W5 W)=>hst5.row.touch0 t
    have HOF:Hid (∀W,Ux.Touch (fun _=>False) W5 W→Calls Tryz.prog 55 #[.agg #[.slice x2 n2 c2],.slice b2 m2 e2] W fun e w'=> ∃au cu,e= .returned (.slice au ne cu)∧RRow w' (.slice au ne cu) EX∧Ux.Touch (fun _=>False) W w'):=Lib.hid fun W t=>by
     have h:=rofsq_ (.slice x2 n2 c2) (.slice b2 m2 e2) U x.exp A1 W (hst5.rows.touch0 t) (HX.out.2.2.2.2.1 W (hTW5.trans t fun _ _ f=>f)) HX.out.2.2.2.2.2.2 g1 (by omega) (by have:=HX.out.2.1.2.2.1;omega)
     rw [hEX] at h
     refine h.mono ?_
     rintro e w' ⟨u,rfl,⟨hu,_,_⟩,_,t'⟩
     have hu':=hu
     obtain ⟨au,cu,rfl,_⟩:=hu
     rw [hne] at hu'⊢
     exact ⟨au,cu,rfl,hu',t'⟩
    have HWI:Hid (∀W (a10:Option Addr) (c10:Nat),Ux.Touch (fun _=>False) W5 W→KGrow W W5.heap.size 121 4 (.slice a10 (bn+ne) c10) (bn+ne) (rv (a2++EX))→Calls Tryz.prog 20 #[.agg #[.slice x2 n2 c2],.slice b1 m1 e1,.slice a10 (bn+ne) c10] W fun e w'=> ∃x3 n3 c3,e= .returned (.tuple #[.agg #[.slice x3 n3 c3],.int .i64 (C:Int)])∧RRows w' (fun b=>(A1 b∧b<W5.heap.size)∨W.heap.size≤b) (.slice x3 n3 c3) (if C=0 then Ux.putE U (x.seq.map Int.toNat) (a2++EX) else [])∧Ux.Touch (fun _=>False) W w'):=Lib.hid fun W a10 c10 t hG=>by
     have h:=rwithD_ (.slice x2 n2 c2) (.slice b1 m1 e1) (.slice a10 (bn+ne) c10) U x.seq (a2++EX) (fun b=>A1 b∧b<W5.heap.size) W ((hst5.rows.mono (A':=fun b=>A1 b∧b<W5.heap.size) fun g h1 h2=>⟨h2,h1⟩).touch0 t) (HX.out.2.2.2.1 W (hTW5.trans t fun _ _ f=>f)) (by have:=HX.out.2.1.2.1.1;omega) (RRow.of_grow (by rw [List.length_append];omega) hG) (by rw [List.length_append];omega) (by omega) (fun e he=>⟨(g1.2 e he).1.1,(g1.2 e he).1.2.1⟩)
     rw [hC] at h
     refine h.mono ?_
     rintro e w' ⟨u,rfl,hR,t'⟩
     have hR':=hR
     obtain ⟨_,x3,c3,rfl,_⟩:=hR
     exact ⟨x3,_,c3,rfl,hR',t'⟩
    have HQ:=Lib.hid (And.intro hrul (And.intro hst5 (And.intro hTW5 (And.intro hs5 (And.intro (H4.out.2.2.1.trans T45 fun _ _ e=>e) (And.intro hbn (And.intro hexl (And.intro hne (And.intro g4 hC)))))))))
    clear hrul hst5 hTW5 hs5 hb5 T45 g1 g2 g3 g4 g5 hU ha2 hEX hexl hC hbn hne hz0 f0 y0
    go_upto_region 19 with (fail)
    go_cut [13,14] (fun s13 s14 wx=> ∃(X13:Nat) (x3:Option Addr) (n3 c3:Nat),s13= .pointer (some ⟨X13,0,none⟩)∧s14= .int .i64 (C:Int)∧wx.cell? ⟨X13,0,none⟩=some (.slice x3 n3 c3)∧Hid (RRows wx A1 (.slice x3 n3 c3) (if C=0 then Ux.putE U (x.seq.map Int.toNat) (a2++EX) else [])∧Ux.Touch (fun _=>False) W5 wx))
    case first=>
     obtain ⟨wk,hwk⟩: ∃W,W5.drew=W:=⟨_,rfl⟩
     have Tk:=Lib.hid (show Ux.Touch (fun _=>False) W5 wk by rw [←hwk];exact (Ux.Touch.refl _ _).drew)
     refine Ux.wpr (fun _ w'=>w'.cell? ⟨q,0,none⟩=some (.slice x2 n2 c2)∧w'.cell? ⟨q9,1,none⟩=some (.slice b1 m1 e1)∧w'.cell? ⟨q9,2,none⟩=some (.slice b2 m2 e2)) (.q [1,4,7] (.h false [0,2,6,8] (.br 3 (.br 5 (.br 9 (.br 10 (.br 11 (.q [12,13,14] (.e 15 true false (.e 16 false false (.line [17])))) 15 (.e 11 true true (.q [12,13,14] (.e 16 false false (.line [17]))))) 15 (.e 10 true true (.e 11 true true (.q [12,13,14] (.e 16 false false (.line [17])))))) 15 (.e 9 true true (.e 10 true true (.e 11 true true (.q [12,13,14] (.e 16 false false (.line [17]))))))) 15 (.e 5 true true (.e 9 true true (.e 10 true true (.e 11 true true (.q [12,13,14] (.e 16 false false (.line [17])))))))) 15 (.e 3 true true (.e 5 true true (.e 9 true true (.e 10 true true (.e 11 true true (.q [12,13,14] (.e 16 false false (.line [17]))))))))))) ?_;repeat ((with_reducible refine Ux.qg ?_);refine Ux.qu ?_)
     refine ⟨?_,?_⟩
     ·obtain ⟨X3,hX3⟩: ∃X,wk.heap.size=X:=⟨_,rfl⟩
      obtain ⟨wn,hwn⟩: ∃W,wk.alloc (.cells #[] 121)=W:=⟨_,rfl⟩
      have HN:=Lib.hid (show Ux.Touch (fun _=>False) wk wn by rw [←hwn];exact (Ux.Touch.refl _ _).alloc _)
      have HG:Hid (KGrow wn W5.heap.size 121 4 (.slice (some ⟨X3,0,none⟩) 0 0) 0 (rv [])):=Lib.hid (by rw [←hwn,←hX3];exact KGrow.empty wk _ _ _ Tk.out.size)
      go_wp2_with (fail)
      clear hwn hX3
      try (have HZ:=Lib.hid (HN.out.heap HZ.out (fun f=>f)))
      have Tk:=Lib.hid (Tk.out.trans HN.out fun _ _ f=>f)
      clear HN
      obtain ⟨wk,rfl⟩: ∃W,W=wn:=⟨_,rfl⟩
      first|refine ⟨⟨HKS.out _ Tk.out,HKS.out _ Tk.out⟩,?_⟩|refine ⟨HKS.out _ Tk.out,?_⟩
      refine ⟨?_,?_⟩
      ·go_wp2_with (at_builtin;refine appE (v1:= .slice (some ⟨X3,0,none⟩) 0 0) (x1:= .slice bx bn bc) rfl _ _ _ _ rfl rfl rfl (appRow (k':=bn) HG.out (HRW.out wk Tk.out) Tk.out (by omega) (by omega) (by have:=HQ.out.2.2.2.2.2.2.2.2.1;omega)) ?_)
       first|rintro r wn a5 c5 rfl hGn Tkn hkz|rintro r wn ⟨a5,c5,rfl,hGn,Tkn,hkz⟩
       have HN:=Lib.hid (And.intro hGn (And.intro Tkn hkz))
       clear hGn Tkn hkz
       go_wp2_with (fail)
       have HG:Hid (KGrow wn W5.heap.size 121 4 (.slice a5 bn c5) bn (rv a2)):=Lib.hid HN.out.1
       try (have HZ:=Lib.hid (HN.out.2.2 _ _ HZ.out))
       have Tk:=Lib.hid HN.out.2.1
       clear HN
       obtain ⟨wk,rfl⟩: ∃W,W=wn:=⟨_,rfl⟩
       first|refine ⟨⟨HKS.out _ Tk.out,HKS.out _ Tk.out⟩,?_⟩|refine ⟨HKS.out _ Tk.out,?_⟩
       refine ⟨?_,?_⟩
       ·go_wp2_with (go_at_call 55;fail)
        refine (HOF.out wk Tk.out).mono ?_
        rintro e wn ⟨au,cu,rfl,hu,tn⟩
        have HU:=Lib.hid hu
        have HN:=Lib.hid tn
        clear hu tn
        go_wp2_with (fail)
        have HG:=Lib.hid (HG.out.touch0 HN.out)
        try (have HZ:=Lib.hid (HN.out.heap HZ.out (fun f=>f)))
        have Tk:=Lib.hid (Tk.out.trans HN.out fun _ _ f=>f)
        clear HN
        obtain ⟨wk,rfl⟩: ∃W,W=wn:=⟨_,rfl⟩
        first|refine ⟨⟨HKS.out _ Tk.out,HKS.out _ Tk.out⟩,?_⟩|refine ⟨HKS.out _ Tk.out,?_⟩
        refine ⟨?_,?_⟩
        ·go_wp2_with (at_builtin;refine appE (v1:= .slice a5 bn c5) (x1:= .slice au ne cu) rfl _ _ _ _ rfl rfl rfl (appRow (k':=bn+ne) HG.out HU.out Tk.out rfl (by have h1:=HQ.out.2.2.2.2.2.1;have h2:=HQ.out.2.2.2.2.2.2.2.2.1;omega) (by have:=HQ.out.2.2.2.2.2.2.1;omega)) ?_)
         first|rintro r wn a10 c10 rfl hGn Tkn hkz|rintro r wn ⟨a10,c10,rfl,hGn,Tkn,hkz⟩
         have HN:=Lib.hid (And.intro hGn (And.intro Tkn hkz))
         clear hGn Tkn hkz
         go_wp2_with (fail)
         have HG:=Lib.hid HN.out.1
         try (have HZ:=Lib.hid (HN.out.2.2 _ _ HZ.out))
         have Tk:=Lib.hid HN.out.2.1
         clear HN HU
         obtain ⟨wk,rfl⟩: ∃W,W=wn:=⟨_,rfl⟩
         first|refine ⟨⟨HKS.out _ Tk.out,HKS.out _ Tk.out⟩,?_⟩|refine ⟨HKS.out _ Tk.out,?_⟩
         refine ⟨?_,?_⟩
         ·go_wp2_with (go_at_call 20;fail)
          refine (HWI.out wk a10 c10 Tk.out HG.out).mono ?_
          rintro e wn ⟨x3,n3,c3,rfl,hR,tn⟩
          have HWS:=Lib.hid Tk.out.size
          have HR:=Lib.hid hR
          have HN:=Lib.hid tn
          clear hR tn HG
          go_wp2_with (fail)
          try (
           have HR:=Lib.hid (HR.out.mono (A':=fun b=>A1 b∧b≠X13) fun g h1 h2=>⟨by
            rcases h2 with h2|h2
            ·exact h2.1
            ·exact HAA.out.2.2.1 g (by have:=HQ.out.2.2.2.1;have:=HWS.out;omega),by
            rcases h2 with h2|h2
            ·have:=HXL.out;omega
            ·have:=Ux.lt_of_heap HZ.out;omega⟩)
           have HZ:=Lib.hid (HN.out.heap HZ.out (fun f=>f)))
          have Tk:=Lib.hid (Tk.out.trans HN.out fun _ _ f=>f)
          clear HN
          obtain ⟨wk,rfl⟩: ∃W,W=wn:=⟨_,rfl⟩
          first|refine ⟨⟨HKS.out _ Tk.out,HKS.out _ Tk.out⟩,?_⟩|refine ⟨HKS.out _ Tk.out,?_⟩
          repeat ((with_reducible refine Ux.qg ?_);refine Ux.qu ?_)
          obtain ⟨X13,hX13⟩: ∃X,wk.heap.size=X:=⟨_,rfl⟩
          obtain ⟨wn,hwn⟩: ∃W,wk.alloc (.cells #[.slice none 0 0] 36)=W:=⟨_,rfl⟩
          have HN:=Lib.hid (show Ux.Touch (fun _=>False) wk wn by rw [←hwn];exact (Ux.Touch.refl _ _).alloc _)
          have HZ:Hid (wn.heap[X13]? =some (.cells #[.slice none 0 0] 36 (0,0))):=Lib.hid (by rw [←hwn,←hX13];exact heap_alloc_new wk _)
          have HXL:=Lib.hid (show W5.heap.size≤X13 by rw [←hX13];exact Tk.out.size)
          have HXE:=Lib.hid hX13
          go_wp2_with (fail)
          try (have HR:=Lib.hid ((HR.out.mono (A':=fun b=>A1 b∧b≠X13) fun g h1 h2=>⟨by
           rcases h2 with h2|h2
           ·exact h2.1
           ·exact HAA.out.2.2.1 g (by have:=HQ.out.2.2.2.1;have:=HWS.out;omega),by have:=HXE.out;omega⟩).touch0 HN.out))
          clear hwn hX13
          try (have HG:=Lib.hid (HG.out.touch0 HN.out))
          try (have HU:=Lib.hid (HU.out.touch0 HN.out))
          have Tk:=Lib.hid (Tk.out.trans HN.out fun _ _ f=>f)
          clear HN
          obtain ⟨wk,rfl⟩: ∃W,W=wn:=⟨_,rfl⟩
          refine ⟨HKS.out _ Tk.out,?_⟩
          have yz:wk.cell? ⟨X13,0,none⟩=some (.slice none 0 0):=by rw [cell_of_row _ X13 0 _ _ (0,0) HZ.out];rfl
          have zz:=Ux.frozen_row HZ.out 0
          go_wp2_with (fail)
          go_wp2_with (fail)
          go_meet
          have ts:Ux.Touch (fun b=>b=X13) wk (wk.setCell ⟨X13,0,none⟩ (.slice x3 n3 c3)):=(Ux.Touch.refl (fun b=>b=X13) wk).setCell (p:=⟨X13,0,none⟩) (fun _=>rfl) _
          exact ⟨X13,x3,n3,c3,rfl,rfl,by rw [cell_of_row _ X13 0 _ _ (0,0) (Ux.setCell_row HZ.out 0 _)];rfl,Lib.hid ⟨(HR.out.touchB ts fun g _ h e=>h.2 e).mono fun g _ h=>h.1,Tk.out.trans (R:=fun _=>False) ts fun b hb e=>by have:=HXL.out;omega⟩⟩
         ·obtain ⟨X13,hX13⟩: ∃X,wk.heap.size=X:=⟨_,rfl⟩
          obtain ⟨wn,hwn⟩: ∃W,wk.alloc (.cells #[.slice none 0 0] 36)=W:=⟨_,rfl⟩
          have HN:=Lib.hid (show Ux.Touch (fun _=>False) wk wn by rw [←hwn];exact (Ux.Touch.refl _ _).alloc _)
          have HZ:Hid (wn.heap[X13]? =some (.cells #[.slice none 0 0] 36 (0,0))):=Lib.hid (by rw [←hwn,←hX13];exact heap_alloc_new wk _)
          have HXL:=Lib.hid (show W5.heap.size≤X13 by rw [←hX13];exact Tk.out.size)
          have HXE:=Lib.hid hX13
          go_wp2_with (fail)
          try (have HR:=Lib.hid ((HR.out.mono (A':=fun b=>A1 b∧b≠X13) fun g h1 h2=>⟨by
           rcases h2 with h2|h2
           ·exact h2.1
           ·exact HAA.out.2.2.1 g (by have:=HQ.out.2.2.2.1;have:=HWS.out;omega),by have:=HXE.out;omega⟩).touch0 HN.out))
          clear hwn hX13
          try (have HG:=Lib.hid (HG.out.touch0 HN.out))
          try (have HU:=Lib.hid (HU.out.touch0 HN.out))
          have Tk:=Lib.hid (Tk.out.trans HN.out fun _ _ f=>f)
          clear HN
          obtain ⟨wk,rfl⟩: ∃W,W=wn:=⟨_,rfl⟩
          first|refine ⟨⟨HKS.out _ Tk.out,HKS.out _ Tk.out⟩,?_⟩|refine ⟨HKS.out _ Tk.out,?_⟩
          go_wp2_with (go_at_call 20;fail)
          refine (HWI.out wk a10 c10 Tk.out HG.out).mono ?_
          rintro e wn ⟨x3,n3,c3,rfl,hR,tn⟩
          have HWS:=Lib.hid Tk.out.size
          have HR:=Lib.hid hR
          have HN:=Lib.hid tn
          clear hR tn HG
          go_wp2_with (fail)
          try (
           have HR:=Lib.hid (HR.out.mono (A':=fun b=>A1 b∧b≠X13) fun g h1 h2=>⟨by
            rcases h2 with h2|h2
            ·exact h2.1
            ·exact HAA.out.2.2.1 g (by have:=HQ.out.2.2.2.1;have:=HWS.out;omega),by
            rcases h2 with h2|h2
            ·have:=HXL.out;omega
            ·have:=Ux.lt_of_heap HZ.out;omega⟩)
           have HZ:=Lib.hid (HN.out.heap HZ.out (fun f=>f)))
          have Tk:=Lib.hid (Tk.out.trans HN.out fun _ _ f=>f)
          clear HN
          obtain ⟨wk,rfl⟩: ∃W,W=wn:=⟨_,rfl⟩
          first|refine ⟨⟨HKS.out _ Tk.out,HKS.out _ Tk.out⟩,?_⟩|refine ⟨HKS.out _ Tk.out,?_⟩
          repeat ((with_reducible refine Ux.qg ?_);refine Ux.qu ?_)
          have yz:wk.cell? ⟨X13,0,none⟩=some (.slice none 0 0):=by rw [cell_of_row _ X13 0 _ _ (0,0) HZ.out];rfl
          have zz:=Ux.frozen_row HZ.out 0
          go_wp2_with (fail)
          go_wp2_with (fail)
          go_meet
          have ts:Ux.Touch (fun b=>b=X13) wk (wk.setCell ⟨X13,0,none⟩ (.slice x3 n3 c3)):=(Ux.Touch.refl (fun b=>b=X13) wk).setCell (p:=⟨X13,0,none⟩) (fun _=>rfl) _
          exact ⟨X13,x3,n3,c3,rfl,rfl,by rw [cell_of_row _ X13 0 _ _ (0,0) (Ux.setCell_row HZ.out 0 _)];rfl,Lib.hid ⟨(HR.out.touchB ts fun g _ h e=>h.2 e).mono fun g _ h=>h.1,Tk.out.trans (R:=fun _=>False) ts fun b hb e=>by have:=HXL.out;omega⟩⟩
        ·obtain ⟨X13,hX13⟩: ∃X,wk.heap.size=X:=⟨_,rfl⟩
         obtain ⟨wn,hwn⟩: ∃W,wk.alloc (.cells #[.slice none 0 0] 36)=W:=⟨_,rfl⟩
         have HN:=Lib.hid (show Ux.Touch (fun _=>False) wk wn by rw [←hwn];exact (Ux.Touch.refl _ _).alloc _)
         have HZ:Hid (wn.heap[X13]? =some (.cells #[.slice none 0 0] 36 (0,0))):=Lib.hid (by rw [←hwn,←hX13];exact heap_alloc_new wk _)
         have HXL:=Lib.hid (show W5.heap.size≤X13 by rw [←hX13];exact Tk.out.size)
         have HXE:=Lib.hid hX13
         go_wp2_with (fail)
         try (have HR:=Lib.hid ((HR.out.mono (A':=fun b=>A1 b∧b≠X13) fun g h1 h2=>⟨by
          rcases h2 with h2|h2
          ·exact h2.1
          ·exact HAA.out.2.2.1 g (by have:=HQ.out.2.2.2.1;have:=HWS.out;omega),by have:=HXE.out;omega⟩).touch0 HN.out))
         clear hwn hX13
         try (have HG:=Lib.hid (HG.out.touch0 HN.out))
         try (have HU:=Lib.hid (HU.out.touch0 HN.out))
         have Tk:=Lib.hid (Tk.out.trans HN.out fun _ _ f=>f)
         clear HN
         obtain ⟨wk,rfl⟩: ∃W,W=wn:=⟨_,rfl⟩
         first|refine ⟨⟨HKS.out _ Tk.out,HKS.out _ Tk.out⟩,?_⟩|refine ⟨HKS.out _ Tk.out,?_⟩
         go_wp2_with (at_builtin;refine appE (v1:= .slice a5 bn c5) (x1:= .slice au ne cu) rfl _ _ _ _ rfl rfl rfl (appRow (k':=bn+ne) HG.out HU.out Tk.out rfl (by have h1:=HQ.out.2.2.2.2.2.1;have h2:=HQ.out.2.2.2.2.2.2.2.2.1;omega) (by have:=HQ.out.2.2.2.2.2.2.1;omega)) ?_)
         first|rintro r wn a10 c10 rfl hGn Tkn hkz|rintro r wn ⟨a10,c10,rfl,hGn,Tkn,hkz⟩
         have HN:=Lib.hid (And.intro hGn (And.intro Tkn hkz))
         clear hGn Tkn hkz
         go_wp2_with (fail)
         have HG:=Lib.hid HN.out.1
         try (have HZ:=Lib.hid (HN.out.2.2 _ _ HZ.out))
         have Tk:=Lib.hid HN.out.2.1
         clear HN HU
         obtain ⟨wk,rfl⟩: ∃W,W=wn:=⟨_,rfl⟩
         first|refine ⟨⟨HKS.out _ Tk.out,HKS.out _ Tk.out⟩,?_⟩|refine ⟨HKS.out _ Tk.out,?_⟩
         go_wp2_with (go_at_call 20;fail)
         refine (HWI.out wk a10 c10 Tk.out HG.out).mono ?_
         rintro e wn ⟨x3,n3,c3,rfl,hR,tn⟩
         have HWS:=Lib.hid Tk.out.size
         have HR:=Lib.hid hR
         have HN:=Lib.hid tn
         clear hR tn HG
         go_wp2_with (fail)
         try (
          have HR:=Lib.hid (HR.out.mono (A':=fun b=>A1 b∧b≠X13) fun g h1 h2=>⟨by
           rcases h2 with h2|h2
           ·exact h2.1
           ·exact HAA.out.2.2.1 g (by have:=HQ.out.2.2.2.1;have:=HWS.out;omega),by
           rcases h2 with h2|h2
           ·have:=HXL.out;omega
           ·have:=Ux.lt_of_heap HZ.out;omega⟩)
          have HZ:=Lib.hid (HN.out.heap HZ.out (fun f=>f)))
         have Tk:=Lib.hid (Tk.out.trans HN.out fun _ _ f=>f)
         clear HN
         obtain ⟨wk,rfl⟩: ∃W,W=wn:=⟨_,rfl⟩
         first|refine ⟨⟨HKS.out _ Tk.out,HKS.out _ Tk.out⟩,?_⟩|refine ⟨HKS.out _ Tk.out,?_⟩
         repeat ((with_reducible refine Ux.qg ?_);refine Ux.qu ?_)
         have yz:wk.cell? ⟨X13,0,none⟩=some (.slice none 0 0):=by rw [cell_of_row _ X13 0 _ _ (0,0) HZ.out];rfl
         have zz:=Ux.frozen_row HZ.out 0
         go_wp2_with (fail)
         go_wp2_with (fail)
         go_meet
         have ts:Ux.Touch (fun b=>b=X13) wk (wk.setCell ⟨X13,0,none⟩ (.slice x3 n3 c3)):=(Ux.Touch.refl (fun b=>b=X13) wk).setCell (p:=⟨X13,0,none⟩) (fun _=>rfl) _
         exact ⟨X13,x3,n3,c3,rfl,rfl,by rw [cell_of_row _ X13 0 _ _ (0,0) (Ux.setCell_row HZ.out 0 _)];rfl,Lib.hid ⟨(HR.out.touchB ts fun g _ h e=>h.2 e).mono fun g _ h=>h.1,Tk.out.trans (R:=fun _=>False) ts fun b hb e=>by have:=HXL.out;omega⟩⟩
       ·obtain ⟨X13,hX13⟩: ∃X,wk.heap.size=X:=⟨_,rfl⟩
        obtain ⟨wn,hwn⟩: ∃W,wk.alloc (.cells #[.slice none 0 0] 36)=W:=⟨_,rfl⟩
        have HN:=Lib.hid (show Ux.Touch (fun _=>False) wk wn by rw [←hwn];exact (Ux.Touch.refl _ _).alloc _)
        have HZ:Hid (wn.heap[X13]? =some (.cells #[.slice none 0 0] 36 (0,0))):=Lib.hid (by rw [←hwn,←hX13];exact heap_alloc_new wk _)
        have HXL:=Lib.hid (show W5.heap.size≤X13 by rw [←hX13];exact Tk.out.size)
        have HXE:=Lib.hid hX13
        go_wp2_with (fail)
        try (have HR:=Lib.hid ((HR.out.mono (A':=fun b=>A1 b∧b≠X13) fun g h1 h2=>⟨by
         rcases h2 with h2|h2
         ·exact h2.1
         ·exact HAA.out.2.2.1 g (by have:=HQ.out.2.2.2.1;have:=HWS.out;omega),by have:=HXE.out;omega⟩).touch0 HN.out))
        clear hwn hX13
        try (have HG:=Lib.hid (HG.out.touch0 HN.out))
        try (have HU:=Lib.hid (HU.out.touch0 HN.out))
        have Tk:=Lib.hid (Tk.out.trans HN.out fun _ _ f=>f)
        clear HN
        obtain ⟨wk,rfl⟩: ∃W,W=wn:=⟨_,rfl⟩
        first|refine ⟨⟨HKS.out _ Tk.out,HKS.out _ Tk.out⟩,?_⟩|refine ⟨HKS.out _ Tk.out,?_⟩
        go_wp2_with (go_at_call 55;fail)
        refine (HOF.out wk Tk.out).mono ?_
        rintro e wn ⟨au,cu,rfl,hu,tn⟩
        have HU:=Lib.hid hu
        have HN:=Lib.hid tn
        clear hu tn
        go_wp2_with (fail)
        have HG:=Lib.hid (HG.out.touch0 HN.out)
        try (have HZ:=Lib.hid (HN.out.heap HZ.out (fun f=>f)))
        have Tk:=Lib.hid (Tk.out.trans HN.out fun _ _ f=>f)
        clear HN
        obtain ⟨wk,rfl⟩: ∃W,W=wn:=⟨_,rfl⟩
        first|refine ⟨⟨HKS.out _ Tk.out,HKS.out _ Tk.out⟩,?_⟩|refine ⟨HKS.out _ Tk.out,?_⟩
        go_wp2_with (at_builtin;refine appE (v1:= .slice a5 bn c5) (x1:= .slice au ne cu) rfl _ _ _ _ rfl rfl rfl (appRow (k':=bn+ne) HG.out HU.out Tk.out rfl (by have h1:=HQ.out.2.2.2.2.2.1;have h2:=HQ.out.2.2.2.2.2.2.2.2.1;omega) (by have:=HQ.out.2.2.2.2.2.2.1;omega)) ?_)
        first|rintro r wn a10 c10 rfl hGn Tkn hkz|rintro r wn ⟨a10,c10,rfl,hGn,Tkn,hkz⟩
        have HN:=Lib.hid (And.intro hGn (And.intro Tkn hkz))
        clear hGn Tkn hkz
        go_wp2_with (fail)
        have HG:=Lib.hid HN.out.1
        try (have HZ:=Lib.hid (HN.out.2.2 _ _ HZ.out))
        have Tk:=Lib.hid HN.out.2.1
        clear HN HU
        obtain ⟨wk,rfl⟩: ∃W,W=wn:=⟨_,rfl⟩
        first|refine ⟨⟨HKS.out _ Tk.out,HKS.out _ Tk.out⟩,?_⟩|refine ⟨HKS.out _ Tk.out,?_⟩
        go_wp2_with (go_at_call 20;fail)
        refine (HWI.out wk a10 c10 Tk.out HG.out).mono ?_
        rintro e wn ⟨x3,n3,c3,rfl,hR,tn⟩
        have HWS:=Lib.hid Tk.out.size
        have HR:=Lib.hid hR
        have HN:=Lib.hid tn
        clear hR tn HG
        go_wp2_with (fail)
        try (
         have HR:=Lib.hid (HR.out.mono (A':=fun b=>A1 b∧b≠X13) fun g h1 h2=>⟨by
          rcases h2 with h2|h2
          ·exact h2.1
          ·exact HAA.out.2.2.1 g (by have:=HQ.out.2.2.2.1;have:=HWS.out;omega),by
          rcases h2 with h2|h2
          ·have:=HXL.out;omega
          ·have:=Ux.lt_of_heap HZ.out;omega⟩)
         have HZ:=Lib.hid (HN.out.heap HZ.out (fun f=>f)))
        have Tk:=Lib.hid (Tk.out.trans HN.out fun _ _ f=>f)
        clear HN
        obtain ⟨wk,rfl⟩: ∃W,W=wn:=⟨_,rfl⟩
        first|refine ⟨⟨HKS.out _ Tk.out,HKS.out _ Tk.out⟩,?_⟩|refine ⟨HKS.out _ Tk.out,?_⟩
        repeat ((with_reducible refine Ux.qg ?_);refine Ux.qu ?_)
        have yz:wk.cell? ⟨X13,0,none⟩=some (.slice none 0 0):=by rw [cell_of_row _ X13 0 _ _ (0,0) HZ.out];rfl
        have zz:=Ux.frozen_row HZ.out 0
        go_wp2_with (fail)
        go_wp2_with (fail)
        go_meet
        have ts:Ux.Touch (fun b=>b=X13) wk (wk.setCell ⟨X13,0,none⟩ (.slice x3 n3 c3)):=(Ux.Touch.refl (fun b=>b=X13) wk).setCell (p:=⟨X13,0,none⟩) (fun _=>rfl) _
        exact ⟨X13,x3,n3,c3,rfl,rfl,by rw [cell_of_row _ X13 0 _ _ (0,0) (Ux.setCell_row HZ.out 0 _)];rfl,Lib.hid ⟨(HR.out.touchB ts fun g _ h e=>h.2 e).mono fun g _ h=>h.1,Tk.out.trans (R:=fun _=>False) ts fun b hb e=>by have:=HXL.out;omega⟩⟩
      ·obtain ⟨X13,hX13⟩: ∃X,wk.heap.size=X:=⟨_,rfl⟩
       obtain ⟨wn,hwn⟩: ∃W,wk.alloc (.cells #[.slice none 0 0] 36)=W:=⟨_,rfl⟩
       have HN:=Lib.hid (show Ux.Touch (fun _=>False) wk wn by rw [←hwn];exact (Ux.Touch.refl _ _).alloc _)
       have HZ:Hid (wn.heap[X13]? =some (.cells #[.slice none 0 0] 36 (0,0))):=Lib.hid (by rw [←hwn,←hX13];exact heap_alloc_new wk _)
       have HXL:=Lib.hid (show W5.heap.size≤X13 by rw [←hX13];exact Tk.out.size)
       have HXE:=Lib.hid hX13
       go_wp2_with (fail)
       try (have HR:=Lib.hid ((HR.out.mono (A':=fun b=>A1 b∧b≠X13) fun g h1 h2=>⟨by
        rcases h2 with h2|h2
        ·exact h2.1
        ·exact HAA.out.2.2.1 g (by have:=HQ.out.2.2.2.1;have:=HWS.out;omega),by have:=HXE.out;omega⟩).touch0 HN.out))
       clear hwn hX13
       try (have HG:=Lib.hid (HG.out.touch0 HN.out))
       try (have HU:=Lib.hid (HU.out.touch0 HN.out))
       have Tk:=Lib.hid (Tk.out.trans HN.out fun _ _ f=>f)
       clear HN
       obtain ⟨wk,rfl⟩: ∃W,W=wn:=⟨_,rfl⟩
       first|refine ⟨⟨HKS.out _ Tk.out,HKS.out _ Tk.out⟩,?_⟩|refine ⟨HKS.out _ Tk.out,?_⟩
       go_wp2_with (at_builtin;refine appE (v1:= .slice (some ⟨X3,0,none⟩) 0 0) (x1:= .slice bx bn bc) rfl _ _ _ _ rfl rfl rfl (appRow (k':=bn) HG.out (HRW.out wk Tk.out) Tk.out (by omega) (by omega) (by have:=HQ.out.2.2.2.2.2.2.2.2.1;omega)) ?_)
       first|rintro r wn a5 c5 rfl hGn Tkn hkz|rintro r wn ⟨a5,c5,rfl,hGn,Tkn,hkz⟩
       have HN:=Lib.hid (And.intro hGn (And.intro Tkn hkz))
       clear hGn Tkn hkz
       go_wp2_with (fail)
       have HG:Hid (KGrow wn W5.heap.size 121 4 (.slice a5 bn c5) bn (rv a2)):=Lib.hid HN.out.1
       try (have HZ:=Lib.hid (HN.out.2.2 _ _ HZ.out))
       have Tk:=Lib.hid HN.out.2.1
       clear HN
       obtain ⟨wk,rfl⟩: ∃W,W=wn:=⟨_,rfl⟩
       first|refine ⟨⟨HKS.out _ Tk.out,HKS.out _ Tk.out⟩,?_⟩|refine ⟨HKS.out _ Tk.out,?_⟩
       go_wp2_with (go_at_call 55;fail)
       refine (HOF.out wk Tk.out).mono ?_
       rintro e wn ⟨au,cu,rfl,hu,tn⟩
       have HU:=Lib.hid hu
       have HN:=Lib.hid tn
       clear hu tn
       go_wp2_with (fail)
       have HG:=Lib.hid (HG.out.touch0 HN.out)
       try (have HZ:=Lib.hid (HN.out.heap HZ.out (fun f=>f)))
       have Tk:=Lib.hid (Tk.out.trans HN.out fun _ _ f=>f)
       clear HN
       obtain ⟨wk,rfl⟩: ∃W,W=wn:=⟨_,rfl⟩
       first|refine ⟨⟨HKS.out _ Tk.out,HKS.out _ Tk.out⟩,?_⟩|refine ⟨HKS.out _ Tk.out,?_⟩
       go_wp2_with (at_builtin;refine appE (v1:= .slice a5 bn c5) (x1:= .slice au ne cu) rfl _ _ _ _ rfl rfl rfl (appRow (k':=bn+ne) HG.out HU.out Tk.out rfl (by have h1:=HQ.out.2.2.2.2.2.1;have h2:=HQ.out.2.2.2.2.2.2.2.2.1;omega) (by have:=HQ.out.2.2.2.2.2.2.1;omega)) ?_)
       first|rintro r wn a10 c10 rfl hGn Tkn hkz|rintro r wn ⟨a10,c10,rfl,hGn,Tkn,hkz⟩
       have HN:=Lib.hid (And.intro hGn (And.intro Tkn hkz))
       clear hGn Tkn hkz
       go_wp2_with (fail)
       have HG:=Lib.hid HN.out.1
       try (have HZ:=Lib.hid (HN.out.2.2 _ _ HZ.out))
       have Tk:=Lib.hid HN.out.2.1
       clear HN HU
       obtain ⟨wk,rfl⟩: ∃W,W=wn:=⟨_,rfl⟩
       first|refine ⟨⟨HKS.out _ Tk.out,HKS.out _ Tk.out⟩,?_⟩|refine ⟨HKS.out _ Tk.out,?_⟩
       go_wp2_with (go_at_call 20;fail)
       refine (HWI.out wk a10 c10 Tk.out HG.out).mono ?_
       rintro e wn ⟨x3,n3,c3,rfl,hR,tn⟩
       have HWS:=Lib.hid Tk.out.size
       have HR:=Lib.hid hR
       have HN:=Lib.hid tn
       clear hR tn HG
       go_wp2_with (fail)
       try (
        have HR:=Lib.hid (HR.out.mono (A':=fun b=>A1 b∧b≠X13) fun g h1 h2=>⟨by
         rcases h2 with h2|h2
         ·exact h2.1
         ·exact HAA.out.2.2.1 g (by have:=HQ.out.2.2.2.1;have:=HWS.out;omega),by
         rcases h2 with h2|h2
         ·have:=HXL.out;omega
         ·have:=Ux.lt_of_heap HZ.out;omega⟩)
        have HZ:=Lib.hid (HN.out.heap HZ.out (fun f=>f)))
       have Tk:=Lib.hid (Tk.out.trans HN.out fun _ _ f=>f)
       clear HN
       obtain ⟨wk,rfl⟩: ∃W,W=wn:=⟨_,rfl⟩
       first|refine ⟨⟨HKS.out _ Tk.out,HKS.out _ Tk.out⟩,?_⟩|refine ⟨HKS.out _ Tk.out,?_⟩
       repeat ((with_reducible refine Ux.qg ?_);refine Ux.qu ?_)
       have yz:wk.cell? ⟨X13,0,none⟩=some (.slice none 0 0):=by rw [cell_of_row _ X13 0 _ _ (0,0) HZ.out];rfl
       have zz:=Ux.frozen_row HZ.out 0
       go_wp2_with (fail)
       go_wp2_with (fail)
       go_meet
       have ts:Ux.Touch (fun b=>b=X13) wk (wk.setCell ⟨X13,0,none⟩ (.slice x3 n3 c3)):=(Ux.Touch.refl (fun b=>b=X13) wk).setCell (p:=⟨X13,0,none⟩) (fun _=>rfl) _
       exact ⟨X13,x3,n3,c3,rfl,rfl,by rw [cell_of_row _ X13 0 _ _ (0,0) (Ux.setCell_row HZ.out 0 _)];rfl,Lib.hid ⟨(HR.out.touchB ts fun g _ h e=>h.2 e).mono fun g _ h=>h.1,Tk.out.trans (R:=fun _=>False) ts fun b hb e=>by have:=HXL.out;omega⟩⟩
     ·obtain ⟨X13,hX13⟩: ∃X,wk.heap.size=X:=⟨_,rfl⟩
      obtain ⟨wn,hwn⟩: ∃W,wk.alloc (.cells #[.slice none 0 0] 36)=W:=⟨_,rfl⟩
      have HN:=Lib.hid (show Ux.Touch (fun _=>False) wk wn by rw [←hwn];exact (Ux.Touch.refl _ _).alloc _)
      have HZ:Hid (wn.heap[X13]? =some (.cells #[.slice none 0 0] 36 (0,0))):=Lib.hid (by rw [←hwn,←hX13];exact heap_alloc_new wk _)
      have HXL:=Lib.hid (show W5.heap.size≤X13 by rw [←hX13];exact Tk.out.size)
      have HXE:=Lib.hid hX13
      go_wp2_with (fail)
      try (have HR:=Lib.hid ((HR.out.mono (A':=fun b=>A1 b∧b≠X13) fun g h1 h2=>⟨by
       rcases h2 with h2|h2
       ·exact h2.1
       ·exact HAA.out.2.2.1 g (by have:=HQ.out.2.2.2.1;have:=HWS.out;omega),by have:=HXE.out;omega⟩).touch0 HN.out))
      clear hwn hX13
      try (have HG:=Lib.hid (HG.out.touch0 HN.out))
      try (have HU:=Lib.hid (HU.out.touch0 HN.out))
      have Tk:=Lib.hid (Tk.out.trans HN.out fun _ _ f=>f)
      clear HN
      obtain ⟨wk,rfl⟩: ∃W,W=wn:=⟨_,rfl⟩
      first|refine ⟨⟨HKS.out _ Tk.out,HKS.out _ Tk.out⟩,?_⟩|refine ⟨HKS.out _ Tk.out,?_⟩
      obtain ⟨X3,hX3⟩: ∃X,wk.heap.size=X:=⟨_,rfl⟩
      obtain ⟨wn,hwn⟩: ∃W,wk.alloc (.cells #[] 121)=W:=⟨_,rfl⟩
      have HN:=Lib.hid (show Ux.Touch (fun _=>False) wk wn by rw [←hwn];exact (Ux.Touch.refl _ _).alloc _)
      have HG:Hid (KGrow wn W5.heap.size 121 4 (.slice (some ⟨X3,0,none⟩) 0 0) 0 (rv [])):=Lib.hid (by rw [←hwn,←hX3];exact KGrow.empty wk _ _ _ Tk.out.size)
      go_wp2_with (fail)
      clear hwn hX3
      try (have HZ:=Lib.hid (HN.out.heap HZ.out (fun f=>f)))
      have Tk:=Lib.hid (Tk.out.trans HN.out fun _ _ f=>f)
      clear HN
      obtain ⟨wk,rfl⟩: ∃W,W=wn:=⟨_,rfl⟩
      first|refine ⟨⟨HKS.out _ Tk.out,HKS.out _ Tk.out⟩,?_⟩|refine ⟨HKS.out _ Tk.out,?_⟩
      go_wp2_with (at_builtin;refine appE (v1:= .slice (some ⟨X3,0,none⟩) 0 0) (x1:= .slice bx bn bc) rfl _ _ _ _ rfl rfl rfl (appRow (k':=bn) HG.out (HRW.out wk Tk.out) Tk.out (by omega) (by omega) (by have:=HQ.out.2.2.2.2.2.2.2.2.1;omega)) ?_)
      first|rintro r wn a5 c5 rfl hGn Tkn hkz|rintro r wn ⟨a5,c5,rfl,hGn,Tkn,hkz⟩
      have HN:=Lib.hid (And.intro hGn (And.intro Tkn hkz))
      clear hGn Tkn hkz
      go_wp2_with (fail)
      have HG:Hid (KGrow wn W5.heap.size 121 4 (.slice a5 bn c5) bn (rv a2)):=Lib.hid HN.out.1
      try (have HZ:=Lib.hid (HN.out.2.2 _ _ HZ.out))
      have Tk:=Lib.hid HN.out.2.1
      clear HN
      obtain ⟨wk,rfl⟩: ∃W,W=wn:=⟨_,rfl⟩
      first|refine ⟨⟨HKS.out _ Tk.out,HKS.out _ Tk.out⟩,?_⟩|refine ⟨HKS.out _ Tk.out,?_⟩
      go_wp2_with (go_at_call 55;fail)
      refine (HOF.out wk Tk.out).mono ?_
      rintro e wn ⟨au,cu,rfl,hu,tn⟩
      have HU:=Lib.hid hu
      have HN:=Lib.hid tn
      clear hu tn
      go_wp2_with (fail)
      have HG:=Lib.hid (HG.out.touch0 HN.out)
      try (have HZ:=Lib.hid (HN.out.heap HZ.out (fun f=>f)))
      have Tk:=Lib.hid (Tk.out.trans HN.out fun _ _ f=>f)
      clear HN
      obtain ⟨wk,rfl⟩: ∃W,W=wn:=⟨_,rfl⟩
      first|refine ⟨⟨HKS.out _ Tk.out,HKS.out _ Tk.out⟩,?_⟩|refine ⟨HKS.out _ Tk.out,?_⟩
      go_wp2_with (at_builtin;refine appE (v1:= .slice a5 bn c5) (x1:= .slice au ne cu) rfl _ _ _ _ rfl rfl rfl (appRow (k':=bn+ne) HG.out HU.out Tk.out rfl (by have h1:=HQ.out.2.2.2.2.2.1;have h2:=HQ.out.2.2.2.2.2.2.2.2.1;omega) (by have:=HQ.out.2.2.2.2.2.2.1;omega)) ?_)
      first|rintro r wn a10 c10 rfl hGn Tkn hkz|rintro r wn ⟨a10,c10,rfl,hGn,Tkn,hkz⟩
      have HN:=Lib.hid (And.intro hGn (And.intro Tkn hkz))
      clear hGn Tkn hkz
      go_wp2_with (fail)
      have HG:=Lib.hid HN.out.1
      try (have HZ:=Lib.hid (HN.out.2.2 _ _ HZ.out))
      have Tk:=Lib.hid HN.out.2.1
      clear HN HU
      obtain ⟨wk,rfl⟩: ∃W,W=wn:=⟨_,rfl⟩
      first|refine ⟨⟨HKS.out _ Tk.out,HKS.out _ Tk.out⟩,?_⟩|refine ⟨HKS.out _ Tk.out,?_⟩
      go_wp2_with (go_at_call 20;fail)
      refine (HWI.out wk a10 c10 Tk.out HG.out).mono ?_
      rintro e wn ⟨x3,n3,c3,rfl,hR,tn⟩
      have HWS:=Lib.hid Tk.out.size
      have HR:=Lib.hid hR
      have HN:=Lib.hid tn
      clear hR tn HG
      go_wp2_with (fail)
      try (
       have HR:=Lib.hid (HR.out.mono (A':=fun b=>A1 b∧b≠X13) fun g h1 h2=>⟨by
        rcases h2 with h2|h2
        ·exact h2.1
        ·exact HAA.out.2.2.1 g (by have:=HQ.out.2.2.2.1;have:=HWS.out;omega),by
        rcases h2 with h2|h2
        ·have:=HXL.out;omega
        ·have:=Ux.lt_of_heap HZ.out;omega⟩)
       have HZ:=Lib.hid (HN.out.heap HZ.out (fun f=>f)))
      have Tk:=Lib.hid (Tk.out.trans HN.out fun _ _ f=>f)
      clear HN
      obtain ⟨wk,rfl⟩: ∃W,W=wn:=⟨_,rfl⟩
      first|refine ⟨⟨HKS.out _ Tk.out,HKS.out _ Tk.out⟩,?_⟩|refine ⟨HKS.out _ Tk.out,?_⟩
      repeat ((with_reducible refine Ux.qg ?_);refine Ux.qu ?_)
      have yz:wk.cell? ⟨X13,0,none⟩=some (.slice none 0 0):=by rw [cell_of_row _ X13 0 _ _ (0,0) HZ.out];rfl
      have zz:=Ux.frozen_row HZ.out 0
      go_wp2_with (fail)
      go_wp2_with (fail)
      go_meet
      have ts:Ux.Touch (fun b=>b=X13) wk (wk.setCell ⟨X13,0,none⟩ (.slice x3 n3 c3)):=(Ux.Touch.refl (fun b=>b=X13) wk).setCell (p:=⟨X13,0,none⟩) (fun _=>rfl) _
      exact ⟨X13,x3,n3,c3,rfl,rfl,by rw [cell_of_row _ X13 0 _ _ (0,0) (Ux.setCell_row HZ.out 0 _)];rfl,Lib.hid ⟨(HR.out.touchB ts fun g _ h e=>h.2 e).mono fun g _ h=>h.1,Tk.out.trans (R:=fun _=>False) ts fun b hb e=>by have:=HXL.out;omega⟩⟩
    obtain ⟨W6,rfl⟩: ∃W,W=wc:=⟨_,rfl⟩
    obtain ⟨X13,x3,n3,c3,rfl,rfl,c13,hcut⟩:=hcut
    obtain ⟨hR,T56⟩:=hcut.out
    have hst6:=HQ.out.2.1.touch0 T56
    have T26:Ux.Touch (fun b=>b=q) W2 W6:=HQ.out.2.2.2.2.1.trans T56 fun _ _ f=>f.elim
    have hrul:=HQ.out.1
    clear c0 y1 y2
    by_cases h0:C=0
    ·subst h0
     rw [if_neg (by simp)] at hrul
     rw [if_pos rfl] at hR
     obtain ⟨hst7,t7⟩:=hst6.put HAA.out.1 hR hst6.row hst6.cap hst6.own
     have c0:=hst6.cell.1
     have f0:=hst6.cell.2
     have HF:=Lib.hid (And.intro hst7 (And.intro (T26.trans t7 fun _ _ e=>e) hrul))
     clear hst7 t7 hst6 T26 hrul hR T56
     go_wp2_with (fail)
     go_roundg g'
     case measure=>omega
     case rel=>
      have h:=HX.out.1
      rw [HRK.out,if_neg (by simp),HF.out.2.2,if_neg (by simp)] at h
      have hin:=ruleQ_ok HI.out.2.1 x (by rw [HF.out.2.2])
      rw [HF.out.2.2] at hin
      exact ⟨i+1,_,_,true,x3,n3,c3,bx,bn,bc,rfl,rfl,rfl,by omega,Lib.hid ⟨HF.out.1,hin,h.symm,HF.out.2.1⟩⟩
    ·have k0:((C:Int) !=0)=true:=by
      have:((C:Int)==0)=false:=beq_false_of_ne (by omega)
      show (!((C:Int)==0))=true
      rw [this]
      rfl
     have k9:((C:Int)==0)=false:=beq_false_of_ne (by omega)
     rw [if_pos h0] at hrul
     have HE:=Lib.hid hrul
     have HNE:=Lib.hid h0
     have HT26:=Lib.hid T26
     have b22:=T26.heap H2.out.2.1 (by omega)
     clear hst6 T26 hrul hR T56 h0
     have z0:=Ux.frozen_row b22 0
     have y0z:W6.cell? ⟨q+1,0,none⟩=some (.slice none 0 0):=by rw [cell_of_row _ (q+1) 0 _ _ (0,0) b22];rfl
     have HB2:=Lib.hid b22
     clear b22
     go_wp2
     have hx:=Ux.setCell_row HB2.out 0 (.slice none 0 0)
     have e0:=cell_of_row _ (q+1) 0 _ _ (0,0) hx
     have T5:Ux.Touch (fun b=>b=q+1) W6 (W6.setCell ⟨q+1,0,none⟩ (.slice none 0 0)):=(Ux.Touch.refl (fun b=>b=q+1) W6).setCell (p:=⟨q+1,0,none⟩) (fun _=>rfl) _
     have TT:Ux.Touch (fun _=>False) w (W6.setCell ⟨q+1,0,none⟩ (.slice none 0 0)):=(H2.out.1.trans (R:=fun _=>False) (HT26.out) fun b hb e=>by have:=HW.out.2.2.2;omega).trans (R:=fun _=>False) T5 fun b hb e=>by have:=HW.out.2.2.2;omega
     generalize W6.setCell ⟨q+1,0,none⟩ (.slice none 0 0)=W9 at e0 TT⊢
     simp at e0
     refine bodyPost_ret (by simp [results,Tryz.results14,go_sem,e0];try rfl) rfl ?_
     have h:=HX.out.1
     rw [HRK.out,if_neg (by simp),HE.out,if_pos (HNE.out)] at h
     rw [h]
     exact ⟨.inl ⟨HNE.out,rfl⟩,TT⟩
  ·have i1: ¬((i:Int)<n):=by omega
   have hnil:l.drop i= []:=List.drop_eq_nil_of_le (by have:=HH.out.2.2.1;omega)
   have hap:=HI.out.2.2.1
   rw [hnil] at hap
   have hap:(if checkE T1=true then ((0:Nat),T1) else (3,T1))=RES:=by cases bb<;>exact hap
   have hck:=rcheck_ (.slice x1 n1 c1) T1 A1 wr HI.out.1.rows (by have:=HI.out.2.1.len;omega) (fun e he=>by have:=(HI.out.2.1.ok.2 e he).2.1;omega) (fun e he=>⟨(HI.out.2.1.ok.2 e he).1.1,(HI.out.2.1.ok.2 e he).1.2.1⟩)
   obtain ⟨c0,f0⟩:=HI.out.1.cell
   obtain ⟨V,hV⟩: ∃b,checkE T1=b:=⟨_,rfl⟩
   rw [hV] at hck hap
   have HCK:=Lib.hid hck
   clear hnil hck hV hin
   cases V with
   |true=>
    rw [if_pos rfl] at hap
    have HCK2:=HCK
    rw [if_pos rfl] at HCK2
    have HE:=Lib.hid hap
    clear hap HCK
    go_wp2_with (go_at_call 24;fail)
    refine HCK2.out.mono ?_
    rintro e w5 ⟨rfl,T5⟩
    have T25:Ux.Touch (fun b=>b=q) W2 w5:=HI.out.2.2.2.trans T5 fun _ _ f=>f.elim
    have c0:=T5.cell c0 (fun f=>f)
    have b22:=T25.heap H2.out.2.1 (by omega)
    have z0:=Ux.frozen_row b22 0
    have y0z:w5.cell? ⟨q+1,0,none⟩=some (.slice none 0 0):=by rw [cell_of_row _ (q+1) 0 _ _ (0,0) b22];rfl
    have HB2:=Lib.hid (And.intro b22 (And.intro T25 T5))
    clear b22 T25 T5
    go_wp2
    have hx:=Ux.setCell_row HB2.out.1 0 (.slice x1 n1 c1)
    have e0:=cell_of_row _ (q+1) 0 _ _ (0,0) hx
    have T5:Ux.Touch (fun b=>b=q+1) w5 (w5.setCell ⟨q+1,0,none⟩ (.slice x1 n1 c1)):=(Ux.Touch.refl (fun b=>b=q+1) w5).setCell (p:=⟨q+1,0,none⟩) (fun _=>rfl) _
    have TT:Ux.Touch (fun _=>False) w (w5.setCell ⟨q+1,0,none⟩ (.slice x1 n1 c1)):=(H2.out.1.trans (R:=fun _=>False) HB2.out.2.1 fun b hb e=>by have:=HW.out.2.2.2;omega).trans (R:=fun _=>False) T5 fun b hb e=>by have:=HW.out.2.2.2;omega
    have hRR:=((HI.out.1.rows.touch0 HB2.out.2.2).touchB T5 fun g _ hg e=>HAA.out.2.1 (e▸hg)).mono (A':=fun b=>A b∨w.heap.size≤b) fun g _ hg=>HAA.out.2.2.2 g hg
    generalize w5.setCell ⟨q+1,0,none⟩ (.slice x1 n1 c1)=W9 at e0 TT hRR⊢
    simp at e0
    refine bodyPost_ret (by simp [results,Tryz.results14,go_sem,e0];try rfl) rfl ?_
    rw [←HE.out]
    exact ⟨.inr ⟨rfl,x1,n1,c1,rfl,hRR⟩,TT⟩
   |false=>
    rw [if_neg (by simp)] at hap
    have HCK2:=HCK
    rw [if_neg (by simp)] at HCK2
    have HE9:=Lib.hid hap
    clear hap HCK
    go_wp2_with (go_at_call 24;fail)
    refine HCK2.out.mono ?_
    rintro e w5 ⟨rfl,T5⟩
    have T25:Ux.Touch (fun b=>b=q) W2 w5:=HI.out.2.2.2.trans T5 fun _ _ f=>f.elim
    have HT25:=Lib.hid T25
    have b22:=T25.heap H2.out.2.1 (by omega)
    clear T25 T5 c0 f0
    have z0:=Ux.frozen_row b22 0
    have y0z:w5.cell? ⟨q+1,0,none⟩=some (.slice none 0 0):=by rw [cell_of_row _ (q+1) 0 _ _ (0,0) b22];rfl
    have HB2:=Lib.hid b22
    clear b22
    go_wp2
    have hx:=Ux.setCell_row HB2.out 0 (.slice none 0 0)
    have e0:=cell_of_row _ (q+1) 0 _ _ (0,0) hx
    have T5:Ux.Touch (fun b=>b=q+1) w5 (w5.setCell ⟨q+1,0,none⟩ (.slice none 0 0)):=(Ux.Touch.refl (fun b=>b=q+1) w5).setCell (p:=⟨q+1,0,none⟩) (fun _=>rfl) _
    have TT:Ux.Touch (fun _=>False) w (w5.setCell ⟨q+1,0,none⟩ (.slice none 0 0)):=(H2.out.1.trans (R:=fun _=>False) (HT25.out) fun b hb e=>by have:=HW.out.2.2.2;omega).trans (R:=fun _=>False) T5 fun b hb e=>by have:=HW.out.2.2.2;omega
    generalize w5.setCell ⟨q+1,0,none⟩ (.slice none 0 0)=W9 at e0 TT⊢
    simp at e0
    refine bodyPost_ret (by simp [results,Tryz.results14,go_sem,e0];try rfl) rfl ?_
    rw [←HE9.out]
    exact ⟨.inl ⟨by simp,rfl⟩,TT⟩
end Go.Proofs.YtfccjaboicpohaaGreatDoor
