/- A part of the proof that the statement holds for every input that it names. No other condition. -/
import Derived.Test.YtfccjaboicpohaaGreatDoorPutAX1Y
import Derived.Test.YtfccjaboicpohaaGreatDoorRroot2Y
set_option linter.unusedVariables false
set_option linter.unusedSimpArgs false
namespace Go.Proofs.YtfccjaboicpohaaGreatDoor
open Go.RowKit
open Ux (Row Ent rootE rootT sv iv ev elemsE atE okT SameE OpsView NView KGrow)
open Ux.Sign (cp raw signs)
set_option maxHeartbeats 16000000 in
set_option maxRecDepth 100000 in
theorem putsLaw0_ (hrr: ∀W,Calls Tryz.prog 13 #[] W fun e w'=> ∃u,e= .returned (.agg #[u])∧RRows w' (fun b=>W.heap.size+2≤b) u (rootT 132)∧Ux.Touch (fun _=>False) W w')
 (v:Value) (l:List (List Int×List Int)) (vs:Value) (s:List Int) (w:World) (hv:OpsView w v l) (hs:NView .i64 w vs s) (hT:Tabs w) (hD:TabD w):Calls Tryz.prog 5 #[v,vs] w fun e w'=>e= .returned (.bool true)∧Ux.Touch (fun _=>False) w w':=by
 have HT:=Lib.hid (And.intro hT hD)
 have HRR:=Lib.hid hrr
 have HV:=Lib.hid hv
 have HS:=Lib.hid (IView.of_n hs)
 obtain ⟨a,cv,rfl,hlm,_⟩:=hv
 obtain ⟨aq,cq,rfl,_⟩:=hs
 obtain ⟨n,hn⟩: ∃n,l.length=n:=⟨_,rfl⟩
 obtain ⟨k,hk⟩: ∃k,s.length=k:=⟨_,rfl⟩
 rw [hn] at HV hlm⊢
 rw [hk] at HS⊢
 have n0:(n:Int)≤9223372036854775807:=by have:n≤maxLen:=hlm;simp only [maxLen] at this;omega
 have k0:(k:Int)≤9223372036854775807:=by have:=HS.out.2;omega
 have HN:=Lib.hid (And.intro hn hk)
 clear hT hD hrr hlm hn hk
 go_enter Tryz.func5,Tryz.ntmps5
 go_wp2_with (go_at_call 10;fail)
 refine (rootT_ _).mono ?_
 rintro e w1 ⟨B,mb,rfl,h1,_,T1⟩
 have H1:=Lib.hid (And.intro h1 T1)
 clear h1 T1
 go_wp2_with (go_at_call 13;fail)
 refine (HRR.out w1).mono ?_
 rintro e w2 ⟨u,rfl,hR,T2⟩
 have hRL:=hR
 obtain ⟨_,a2,ca,rfl,hcap,hca⟩:=hR
 obtain ⟨q,hq⟩: ∃q,w2.heap.size=q:=⟨_,rfl⟩
 have T23:Ux.Touch (fun _=>False) w2 (w2.alloc (.cells #[.slice a2 (rootT 132).length ca] 36)):=(Ux.Touch.refl _ _).alloc _
 have hq0:(w2.alloc (.cells #[.slice a2 (rootT 132).length ca] 36)).heap[q]? =some (.cells #[.slice a2 (rootT 132).length ca] 36 (0,0)):=by rw [←hq];exact heap_alloc_new w2 _
 have H2:Hid (Two (w2.alloc (.cells #[.slice a2 (rootT 132).length ca] 36)) q B mb rootE (rootT 132) (.slice a2 (rootT 132).length ca)∧Ux.Touch (fun _=>False) w (w2.alloc (.cells #[.slice a2 (rootT 132).length ca] 36))∧w.heap.size≤q):=
  Lib.hid ⟨⟨H1.out.1.touch0 (T2.trans T23 fun _ _ f=>f),(hRL.mono (A':=fun b=>b≠q) fun g h1 _=>by omega).touch0 T23,Ux.same_root,rootE_sig,by rw [Ux.rootE_len];decide,hq0⟩,H1.out.2.trans (T2.trans T23 fun _ _ f=>f) fun _ _ f=>f,by have:=H1.out.2.size;have:=T2.size;omega⟩
 clear hRL hcap hca T2 T23 hq0
 go_upto_region 2 with (fail)
 generalize w2.alloc (.cells #[.slice a2 (rootT 132).length ca] 36)=W3 at H2⊢
 by_cases h10:10<k
 ·have q10:(k:Int)>10:=by omega
  clear h10
  go_wp2_with (go_at_call 17;fail)
  refine (awake5_ _ (HT.out.1.touch H2.out.2.1) (HT.out.2.touch H2.out.2.1)).mono ?_
  rintro e w7 ⟨rfl,T7⟩
  have H7:=Lib.hid (H2.out.2.1.trans T7 fun _ _ f=>f)
  clear T7
  go_wp2
  go_returns
  exact ⟨rfl,H7.out⟩
 have q10: ¬(k:Int)>10:=by omega
 have HK10:=Lib.hid h10
 clear h10
 go_wp2_with (fail)
 go_loopg [5,7] n (fun gk s5 s7 wr=> ∃(i B mb:Nat) (E T:List Ent) (v8:Value),s5= .pointer (some ⟨B,0,none⟩)∧s7= .int .i64 i∧i+gk=n∧Hid (Two wr q B mb E T v8∧Ux.Touch (fun _=>False) w wr))
 case atStart=>exact ⟨0,B,mb,rootE,rootT 132,_,rfl,rfl,by omega,Lib.hid ⟨H2.out.1,H2.out.2.1⟩⟩
 case round=>
  obtain ⟨i,B2,mb2,E,T,v8,rfl,rfl,hig,HI⟩:=hrel
  have i0:(0:Int)≤i:=by omega
  obtain ⟨a8,c8,hv8⟩: ∃a8 c8,v8= .slice a8 T.length c8:=by
   obtain ⟨_,a8,c8,h,_⟩:=HI.out.1.2.1
   exact ⟨a8,c8,h⟩
  subst hv8
  obtain ⟨m,hm⟩: ∃m,T.length=m:=⟨_,rfl⟩
  rw [hm] at HI
  have HM:=Lib.hid hm
  clear hm
  have c0:wr.cell? ⟨q,0,none⟩=some (.slice a8 m c8):=by rw [cell_of_row _ q 0 _ _ (0,0) HI.out.1.2.2.2.2.2];rfl
  obtain ⟨D,hD⟩: ∃D,(decide (i<n)&&decide (i<12))=D:=⟨_,rfl⟩
  cases D with
  |true=>
   obtain ⟨hin,hi12⟩:i<n∧i<12:=by simpa using hD
   obtain ⟨g',rfl⟩: ∃g',gk=g'+1:=⟨gk-1,by omega⟩
   have q1:decide ((i:Int)<n)=true:=by simp;omega
   have q2:decide ((i:Int)<12)=true:=by simp;omega
   have q3:decide (i<n)=true:=by simp;omega
   have q4:decide (i<12)=true:=by simp;omega
   have i1:(i:Int)<n:=by omega
   obtain ⟨o,ho⟩: ∃o,l[i]? =some o:=⟨_,List.getElem?_eq_getElem (by have:=HN.out;omega)⟩
   obtain ⟨a',c',e0,_,hcells⟩:=ops_touch HV.out HI.out.2
   rw [HN.out.1] at e0
   cases e0
   obtain ⟨g,off,x,y,rfl,hg,k0,k1,hx,hy⟩:=hcells i o ho
   obtain ⟨hxi,hx63⟩:=IView.of_n hx
   have HX:=Lib.hid (And.intro hxi (And.intro hx63 hy))
   obtain ⟨n1,hn1⟩: ∃n1,o.1.length=n1:=⟨_,rfl⟩
   obtain ⟨n2,hn2⟩: ∃n2,o.2.length=n2:=⟨_,rfl⟩
   obtain ⟨ax,cx,rfl,_⟩:=hxi
   obtain ⟨ay,cy,rfl,_⟩:=hy
   have HX:=HX.out
   rw [hn1] at HX k0
   rw [hn2] at HX k1
   have n1B:(n1:Int)≤9223372036854775807:=by have:=HX.2.1;omega
   have HX:=Lib.hid (And.intro HX (And.intro hn1 hn2))
   have HC:=Lib.hid fun W (T1:Ux.Touch (fun _=>False) wr W)=>And.intro (T1.cell c0 (fun f=>f)) (T1.cell k0 (fun f=>f))
   clear hcells hx hx63 hin hi12 hD hg ho hn1 hn2
   by_cases h1:10<n1
   ·have q5:(n1:Int)>10:=by omega
    clear h1
    go_wp2_with (go_at_call 17;fail)
    refine (awake5_ _ (HT.out.1.touch HI.out.2) (HT.out.2.touch HI.out.2)).mono ?_
    rintro e w7 ⟨rfl,T7⟩
    have H7:=Lib.hid (HI.out.2.trans T7 fun _ _ f=>f)
    clear T7
    go_wp2
    go_returns
    exact ⟨rfl,H7.out⟩
   have q5: ¬(n1:Int)>10:=by omega
   clear h1
   go_wp2_with (go_at_call 18;fail)
   refine (elems5_ _ o.2 wr HX.out.1.2.2).mono ?_
   rintro e w4 ⟨u1,u2,rfl,hu1,hu2,_,T4⟩
   have hL12:(natW o.2).length≤12:=by rw [natW_len];omega
   have hLlt: ∀x∈natW o.2,x<4294967296:=natW_lt HX.out.1.2.2
   obtain ⟨L,hL⟩: ∃L,natW o.2=L:=⟨_,rfl⟩
   rw [hL] at hu1 hu2 hL12 hLlt
   have r1:Row w4 wr.heap.size 56 u1 (ev L):=(Row.own hu1.1 hu1.2).1
   have r2:RRow w4 u2 L:=RRow.of_grow rfl hu2
   have T04:=HI.out.2.trans T4 fun _ _ f=>f
   have k0:=(HC.out _ T4).2
   have H4:=Lib.hid (And.intro T4 (And.intro r1 (And.intro r2 (And.intro hL12 (And.intro hLlt T04)))))
   have HW:=Lib.hid (twithCA_ (· <wr.heap.size) B2 mb2 E T o.1 L (.slice ax n1 cx) u1 w4 (HI.out.1.touch T4).1 (HI.out.1.1.1.inA.touch0 T4) HI.out.1.2.2.1 (HX.out.1.1.touch0 T4) (by have:=HX.out.1.2.1;have:=HX.out.2.1;omega) (r1.mono (Nat.zero_le _)) hLlt hL12 HI.out.1.2.2.2.2.1)
   have HRW:=Lib.hid fun W (T5:Ux.Touch (fun _=>False) w4 W)=>rwithC_ (.slice a8 m c8) (.slice ax n1 cx) u2 T o.1 L (fun b=>b≠q∧b<wr.heap.size) W ((HI.out.1.2.1.mono fun g h1 h2=>⟨h2,h1⟩).touch0 (T4.trans T5 fun _ _ f=>f)) (HX.out.1.1.touch0 (T4.trans T5 fun _ _ f=>f)) (by have:=HX.out.1.2.1;have:=HX.out.2.1;omega) (r2.touch0 T5) hL12 (by have:=HI.out.1.ok3.1;omega) HI.out.1.ok3.2.2
   obtain ⟨Z,hZ⟩: ∃Z:Int,((codeE T o.1 L:Nat):Int)=Z:=⟨_,rfl⟩
   obtain ⟨R,hR⟩: ∃R,(if codeE T o.1 L=0 then Ux.putE T (o.1.map Int.toNat) L else [])=R:=⟨_,rfl⟩
   obtain ⟨m6,hm6⟩: ∃m6,R.length=m6:=⟨_,rfl⟩
   have HZ:=Lib.hid (And.intro hZ (And.intro hR hm6))
   rw [hZ] at HW
   rw [hZ,hR] at HRW
   obtain ⟨ab1,nb1,cb1,hb1,hnb1⟩: ∃a n c,u1= .slice a n c∧n=L.length:=by
    obtain ⟨a,c,h,_⟩:=r1.is
    exact ⟨_,_,_,h,Ux.ev_length L⟩
   obtain ⟨ab2,nb2,cb2,hb2⟩: ∃a n c,u2= .slice a n c:=by
    obtain ⟨a,c,h,_⟩:=r2
    exact ⟨_,_,_,h⟩
   subst hb1
   subst hb2
   have HNB:=Lib.hid hnb1
   have nbB:(nb1:Int)≤12:=by omega
   clear hu1 hu2 hL12 hLlt hL r1 r2 T4 T04 hZ k1 hR hm6 hnb1
   go_wp2_with (go_at_call 19;fail)
   refine HW.out.mono ?_
   rintro e w5 ⟨P,rfl,hP,T5⟩
   have H5:=Lib.hid T5
   have c0:=(HC.out _ (H4.out.1.trans T5 fun _ _ f=>f)).1
   have k0:=(HC.out _ (H4.out.1.trans T5 fun _ _ f=>f)).2
   have HC5:=Lib.hid fun W (T1:Ux.Touch (fun _=>False) w5 W)=>HC.out W ((H4.out.1.trans H5.out fun _ _ f=>f).trans T1 fun _ _ f=>f)
   clear T5
   go_upto_region 11 with (fail)
   go_cut [12,13] (fun s12 s13 wx=> ∃(q14:Nat) (a9:Option Addr) (c9:Nat),s12= .pointer (some ⟨q14,0,none⟩)∧s13= .int .i64 Z∧wx.cell? ⟨q14,0,none⟩=some (.slice a9 m6 c9)∧Hid (RRows wx (fun b=>b≠q∧(b<wr.heap.size∨w5.heap.size≤b)) (.slice a9 m6 c9) R∧Ux.Touch (fun _=>False) w5 wx))
   case first=>
    refine Ux.wpr (fun _ w'=>w'.cell? ⟨q,0,none⟩=some (.slice a8 m c8)∧w'.cell? ⟨g,off+i*2,none⟩=some (.slice ax n1 cx)) (.h false [0] (.q [1,2,3,4,6] (.h false [5] (.br 7 (.q [8,9,10] (.e 11 true false (.e 12 false false (.line [13])))) 11 (.e 7 true true (.q [8,9,10] (.e 12 false false (.line [13])))))))) ?_;repeat ((with_reducible refine Ux.qg ?_);refine Ux.qu ?_)
    refine ⟨?_,?_⟩
    ·go_wp2_with (go_at_call 20;fail)
     refine (HRW.out _ (H5.out.trans Ux.tq fun _ _ f=>f)).mono ?_
     rintro e w6 ⟨u6,rfl,hR6,T6⟩
     have T6w:Ux.Touch (fun _=>False) w5 w6:=Ux.Touch.trans Ux.tq T6 fun _ _ f=>f
     have hR7:=hR6
     obtain ⟨_,a6,c6,hu6,_⟩:=hR6
     subst hu6
     rw [HZ.out.2.2] at hR7⊢
     try (
      have hb14:w6.heap[w5.heap.size]? =some (.cells #[.slice none 0 0] 36 (0,0)):=T6.heap (heap_alloc_new _ _) (fun f=>f)
      have f14:w6.cell? ⟨w5.heap.size,0,none⟩=some (.slice none 0 0):=by
       rw [cell_of_row _ w5.heap.size 0 _ _ (0,0) hb14]
       rfl
      have z14:=Ux.frozen_row hb14 0
      have HB14:=Lib.hid hb14
      clear hb14)
     have H6:=Lib.hid (And.intro hR7 T6)
     clear hR7 T6
     go_wp2_with (fail)
     first|refine ⟨⟨HC5.out _ (by repeat (first|exact Ux.Touch.refl _ _|exact T6w|refine Ux.Touch.drew ?_|refine Ux.Touch.alloc ?_ _)),HC5.out _ (by repeat (first|exact Ux.Touch.refl _ _|exact T6w|refine Ux.Touch.drew ?_|refine Ux.Touch.alloc ?_ _))⟩,?_⟩|refine ⟨HC5.out _ (by repeat (first|exact Ux.Touch.refl _ _|exact T6w|refine Ux.Touch.drew ?_|refine Ux.Touch.alloc ?_ _)),?_⟩
     repeat ((with_reducible refine Ux.qg ?_);refine Ux.qu ?_)
     go_wp2_with (fail)
     refine ⟨HC5.out _ (by repeat (first|exact Ux.Touch.refl _ _|exact T6w|refine Ux.Touch.drew ?_|refine Ux.Touch.alloc ?_ _)),?_⟩
     go_wp2_with (fail)
     go_wp2_with (fail)
     go_meet
     obtain ⟨hR7,T6⟩:=H6.out
     have hqr:q<wr.heap.size:=Ux.lt_of_heap HI.out.1.2.2.2.2.2
     have hw5:wr.heap.size≤w5.heap.size:=Nat.le_trans H4.out.1.size H5.out.size
     have hw6:=T6w.size
     first
      |(have tA:Ux.Touch (fun _=>False) w6 (w6.alloc (.cells #[.slice a6 m6 c6] 36)):=(Ux.Touch.refl _ _).alloc _
        exact ⟨_,_,_,rfl,rfl,by rw [Ux.cell_newg];rfl,Lib.hid ⟨(hR7.mono (A':=fun b=>b≠q∧(b<wr.heap.size∨w5.heap.size≤b)) fun g h1 h2=>by
         rcases h2 with h2|h2
         ·exact ⟨h2.1,.inl h2.2⟩
         ·have h2:w5.heap.size≤g:=h2
          exact ⟨by omega,.inr h2⟩).touch0 tA,T6w.trans tA fun _ _ f=>f⟩⟩)
      |(have tB:Ux.Touch (fun b=>b=w5.heap.size) w6 (w6.setCell ⟨w5.heap.size,0,none⟩ (.slice a6 m6 c6)):=(Ux.Touch.refl (fun b=>b=w5.heap.size) w6).setCell (p:=⟨w5.heap.size,0,none⟩) (fun _=>rfl) _
        refine ⟨_,_,_,rfl,rfl,?_,Lib.hid ⟨(hR7.mono (A':=fun b=>(b≠q∧(b<wr.heap.size∨w5.heap.size≤b))∧b≠w5.heap.size) fun g h1 h2=> ?_).touchB tB (fun g _ h e=>h.2 e)|>.mono fun g _ h=>h.1,T6w.trans (R:=fun _=>False) tB fun b hb h=>by omega⟩⟩
        ·rw [cell_of_row _ w5.heap.size 0 _ _ (0,0) (Ux.setCell_row HB14.out 0 (.slice a6 m6 c6))]
         rfl
        ·rcases h2 with h2|h2
         ·exact ⟨⟨h2.1,.inl h2.2⟩,by omega⟩
         ·have h2:(w5.alloc (Obj.cells #[.slice none 0 0] 36)).heap.size≤g:=h2
          rw [World.size_alloc] at h2
          exact ⟨⟨by omega,.inr (by omega)⟩,by omega⟩)
    ·go_wp2_with (fail)
     first|refine ⟨⟨HC5.out _ (by repeat (first|exact Ux.Touch.refl _ _|exact T6w|refine Ux.Touch.drew ?_|refine Ux.Touch.alloc ?_ _)),HC5.out _ (by repeat (first|exact Ux.Touch.refl _ _|exact T6w|refine Ux.Touch.drew ?_|refine Ux.Touch.alloc ?_ _))⟩,?_⟩|refine ⟨HC5.out _ (by repeat (first|exact Ux.Touch.refl _ _|exact T6w|refine Ux.Touch.drew ?_|refine Ux.Touch.alloc ?_ _)),?_⟩
     go_wp2_with (go_at_call 20;fail)
     refine (HRW.out _ (H5.out.trans Ux.tq fun _ _ f=>f)).mono ?_
     rintro e w6 ⟨u6,rfl,hR6,T6⟩
     have T6w:Ux.Touch (fun _=>False) w5 w6:=Ux.Touch.trans Ux.tq T6 fun _ _ f=>f
     have hR7:=hR6
     obtain ⟨_,a6,c6,hu6,_⟩:=hR6
     subst hu6
     rw [HZ.out.2.2] at hR7⊢
     try (
      have hb14:w6.heap[w5.heap.size]? =some (.cells #[.slice none 0 0] 36 (0,0)):=T6.heap (heap_alloc_new _ _) (fun f=>f)
      have f14:w6.cell? ⟨w5.heap.size,0,none⟩=some (.slice none 0 0):=by
       rw [cell_of_row _ w5.heap.size 0 _ _ (0,0) hb14]
       rfl
      have z14:=Ux.frozen_row hb14 0
      have HB14:=Lib.hid hb14
      clear hb14)
     have H6:=Lib.hid (And.intro hR7 T6)
     clear hR7 T6
     go_wp2_with (fail)
     first|refine ⟨⟨HC5.out _ (by repeat (first|exact Ux.Touch.refl _ _|exact T6w|refine Ux.Touch.drew ?_|refine Ux.Touch.alloc ?_ _)),HC5.out _ (by repeat (first|exact Ux.Touch.refl _ _|exact T6w|refine Ux.Touch.drew ?_|refine Ux.Touch.alloc ?_ _))⟩,?_⟩|refine ⟨HC5.out _ (by repeat (first|exact Ux.Touch.refl _ _|exact T6w|refine Ux.Touch.drew ?_|refine Ux.Touch.alloc ?_ _)),?_⟩
     repeat ((with_reducible refine Ux.qg ?_);refine Ux.qu ?_)
     go_wp2_with (fail)
     go_wp2_with (fail)
     go_meet
     obtain ⟨hR7,T6⟩:=H6.out
     have hqr:q<wr.heap.size:=Ux.lt_of_heap HI.out.1.2.2.2.2.2
     have hw5:wr.heap.size≤w5.heap.size:=Nat.le_trans H4.out.1.size H5.out.size
     have hw6:=T6w.size
     first
      |(have tA:Ux.Touch (fun _=>False) w6 (w6.alloc (.cells #[.slice a6 m6 c6] 36)):=(Ux.Touch.refl _ _).alloc _
        exact ⟨_,_,_,rfl,rfl,by rw [Ux.cell_newg];rfl,Lib.hid ⟨(hR7.mono (A':=fun b=>b≠q∧(b<wr.heap.size∨w5.heap.size≤b)) fun g h1 h2=>by
         rcases h2 with h2|h2
         ·exact ⟨h2.1,.inl h2.2⟩
         ·have h2:w5.heap.size≤g:=h2
          exact ⟨by omega,.inr h2⟩).touch0 tA,T6w.trans tA fun _ _ f=>f⟩⟩)
      |(have tB:Ux.Touch (fun b=>b=w5.heap.size) w6 (w6.setCell ⟨w5.heap.size,0,none⟩ (.slice a6 m6 c6)):=(Ux.Touch.refl (fun b=>b=w5.heap.size) w6).setCell (p:=⟨w5.heap.size,0,none⟩) (fun _=>rfl) _
        refine ⟨_,_,_,rfl,rfl,?_,Lib.hid ⟨(hR7.mono (A':=fun b=>(b≠q∧(b<wr.heap.size∨w5.heap.size≤b))∧b≠w5.heap.size) fun g h1 h2=> ?_).touchB tB (fun g _ h e=>h.2 e)|>.mono fun g _ h=>h.1,T6w.trans (R:=fun _=>False) tB fun b hb h=>by omega⟩⟩
        ·rw [cell_of_row _ w5.heap.size 0 _ _ (0,0) (Ux.setCell_row HB14.out 0 (.slice a6 m6 c6))]
         rfl
        ·rcases h2 with h2|h2
         ·exact ⟨⟨h2.1,.inl h2.2⟩,by omega⟩
         ·have h2:(w5.alloc (Obj.cells #[.slice none 0 0] 36)).heap.size≤g:=h2
          rw [World.size_alloc] at h2
          exact ⟨⟨by omega,.inr (by omega)⟩,by omega⟩)
   obtain ⟨q14,a9,c9,rfl,rfl,hc14,HC6⟩:=hcut
   have HC7:=Lib.hid (And.intro hc14 (And.intro (HC5.out _ HC6.out.2).1 ((H4.out.1.trans H5.out fun _ _ f=>f).trans HC6.out.2 fun _ _ f=>f)))
   have fq:=HC7.out.2.1
   clear c0 k0
   rcases hP with ⟨hK,B',mb',rfl,hT',hA'⟩|⟨hK,rfl⟩
   ·have hz:Z=0:=by rw [←HZ.out.1,hK];rfl
    subst hz
    have HK:=Lib.hid (And.intro hK (And.intro hT' hA'))
    clear hK hT' hA' hc14
    have hLK:=like_ B2 mb2 E T (.slice a8 m c8) (fun b=>b≠q) wc (HI.out.1.touch HC7.out.2.2).1 (by have:=HI.out.1.2.2.2.2.1;omega) HI.out.1.2.2.1 (HI.out.1.touch HC7.out.2.2).2.1
    have HLK:=Lib.hid hLK
    clear hLK
    go_wp2_with (go_at_call 15;fail)
    refine HLK.out.mono ?_
    rintro e w7 ⟨rfl,T7⟩
    have HR7:=Lib.hid (((H4.out.2.1.mono (Nat.zero_le _)).touch0 H5.out).touch0 (HC6.out.2.trans T7 fun _ _ f=>f))
    have HW7:=Lib.hid T7
    have hrow0:nb1=0∨∃bx cur,ab1=some ⟨bx,0,none⟩∧w7.heap[bx]? =some (.cells cur 56 (0,0))∧nb1≤cur.size:=by
     rcases HR7.out with ⟨e,e2⟩|⟨g,c,cur,e,_,hh,h1,h2,_⟩
     ·cases e
      exact .inl rfl
     ·cases e
      refine .inr ⟨g,cur,rfl,hh,?_⟩
      omega
    have HROW:=Lib.hid hrow0
    clear T7 fq hrow0
    go_wp2_with (fail)
    go_loopg [14] nb1 (fun gk s14 wr=> ∃j:Nat,s14= .int .i64 j∧j+gk=nb1∧Hid ((nb1=0∨∃bx cur,ab1=some ⟨bx,0,none⟩∧wr.heap[bx]? =some (.cells cur 56 (0,0))∧nb1≤cur.size)∧Ux.Touch (fun b=>(Value.slice ab1 nb1 cb1).ownBlock=some b∧L≠[]) w7 wr))
    case atStart=>exact ⟨0,rfl,by omega,Lib.hid ⟨HROW.out,Ux.Touch.refl _ _⟩⟩
    case round=>
     obtain ⟨w8,hw8⟩: ∃W,W=wr:=⟨_,rfl⟩
     subst hw8
     obtain ⟨j,rfl,hjg,HJ⟩:=hrel
     have j0:(0:Int)≤j:=by omega
     by_cases hlt:j<nb1
     ·obtain ⟨g3,rfl⟩: ∃g3,gk=g3+1:=⟨gk-1,by omega⟩
      have j1:(j:Int)<nb1:=by omega
      obtain ⟨bx,cur,hbx,hh,hcs⟩: ∃bx cur,ab1=some ⟨bx,0,none⟩∧w8.heap[bx]? =some (.cells cur 56 (0,0))∧nb1≤cur.size:=by
       rcases HJ.out.1 with h|h
       ·omega
       ·exact h
      subst hbx
      have fj:w8.cell? ⟨bx,j,none⟩=some (cur[j]'(by omega)):=by
       rw [cell_of_row w8 bx j _ _ (0,0) hh]
       exact Array.getElem?_eq_getElem _
      obtain ⟨cj,hcj⟩: ∃c,cur[j]'(by omega)=c:=⟨_,rfl⟩
      rw [hcj] at fj
      have zj:=Ux.frozen_row hh j
      have HX:=Lib.hid (And.intro hlt (And.intro hjg (And.intro hh hcs)))
      clear hlt hjg hh hcs hcj
      go_wp2
      go_roundg g3
      case measure=>have:=HX.out;omega
      case rel=>
       have tj:Ux.Touch (fun b=>(Value.slice (some ⟨bx,0,none⟩) nb1 cb1).ownBlock=some b∧L≠[]) w8 (w8.setCell ⟨bx,j,none⟩ (.int .u32 0)):=(Ux.Touch.refl _ w8).setCell (p:=⟨bx,j,none⟩) (fun _=>⟨rfl,fun h=>by have:=HNB.out;have:=HX.out.1;rw [h] at*;simp at*;omega⟩) _
       exact ⟨j+1,rfl,by have:=HX.out;omega,Lib.hid ⟨.inr ⟨bx,_,rfl,Ux.setCell_row HX.out.2.2.1 j (.int .u32 0),by simpa using HX.out.2.2.2⟩,HJ.out.2.trans tj fun _ _ h=>h⟩⟩
     ·obtain rfl:j=nb1:=by omega
      have j1: ¬(j:Int)<j:=by omega
      clear hlt hjg
      have nR: ∀b u,w7.cell? ⟨b,0,none⟩=some u→(∀z,u≠.int .u32 z)→¬((Value.slice ab1 j cb1).ownBlock=some b∧L≠[]):=fun b u hu hn hb=>by
       obtain ⟨z,hz⟩:=row_word0 HR7.out hb
       rw [hu] at hz
       cases hz
       exact hn z rfl
      have cq7:=HW7.out.cell HC7.out.2.1 (fun f=>f)
      have c147:=HW7.out.cell HC7.out.1 (fun f=>f)
      have c14:=HJ.out.2.cell c147 (nR _ _ c147 (fun z e=>by cases e))
      have hq7:=(HC7.out.2.2.trans HW7.out fun _ _ f=>f).heap HI.out.1.2.2.2.2.2 (fun f=>f)
      have hq8:=HJ.out.2.heap hq7 (nR _ _ cq7 (fun z e=>by cases e))
      have zq:=Ux.frozen_row hq8 0
      have fq:w8.cell? ⟨q,0,none⟩=some (.slice a8 m c8):=by rw [cell_of_row _ q 0 _ _ (0,0) hq8];rfl
      have HQ8:=Lib.hid hq8
      clear cq7 c147 hq7 hq8 nR
      go_upto_region 21 with (fail)
      refine Ux.wpr (fun _ w'=>w'.cell? ⟨q14,0,none⟩=some (.slice a9 m6 c9)) (.q [0,2] (.h false [1] (.line [3]))) ?_;repeat ((with_reducible refine Ux.qg ?_);refine Ux.qu ?_)
      go_wp2_with (fail)
      go_roundg g'
      case measure=>omega
      case rel=>
       have tq:Ux.Touch (fun b=>b=q) w8 (w8.drew.setCell ⟨q,0,none⟩ (.slice a9 m6 c9)):=((Ux.Touch.refl (fun b=>b=q) w8).drew).setCell (p:=⟨q,0,none⟩) (fun _=>rfl) _
       have hst:=step_ok HI.out.1.2.2.1 HI.out.1.1.1.1 HI.out.1.2.2.2.1 HI.out.1.2.2.2.2.1 o.1 L H4.out.2.2.2.2.1
       have hR:R=stepT T o.1 L:=by
        unfold stepT
        rw [if_pos HK.out.1,←HZ.out.2.1,if_pos HK.out.1]
       rw [←hR] at hst
       have hbx: ∀b,(Value.slice ab1 j cb1).ownBlock=some b→wr.heap.size≤b∧b<w4.heap.size:=fun b hb=>by
        refine ⟨H4.out.2.1.ownLe hb,?_⟩
        rcases H4.out.2.1 with ⟨e,_⟩|⟨g,c,cur,e,_,hh,_⟩
        ·cases e;cases hb
        ·cases e;cases hb
         exact Ux.lt_of_heap hh
       have T57:=HC6.out.2.trans HW7.out fun _ _ f=>f
       have h45:=H5.out.size
       have X:=(HK.out.2.1.touch0 T57).touchX (HK.out.2.2.touch0 T57) HR7.out (fun g hg hb=>by have:=hbx g hb;omega) HJ.out.2
       refine ⟨i+1,B',mb',stepU T E o.1 L,R,.slice a9 m6 c9,rfl,by congr 1,by omega,Lib.hid ⟨⟨?_,?_,hst.1,hst.2.2.1,hst.2.2.2,?_⟩,?_⟩⟩
       ·refine X.1.touchS tq ?_
        rintro b rfl
        exact ⟨_,_,HQ8.out,by decide,fun u hu=>⟨_,_,_,by simpa using hu⟩⟩
       ·refine RRows.touchB ((RRows.touchB (HC6.out.1.touch0 HW7.out) HJ.out.2 (fun g _ h e=>by have:=hbx g e.1;omega)).mono (A':=fun b=>b≠q) fun g _ h=>h.1) tq (fun g _ h e=>h e)
       ·exact Ux.setCell_row (w:=w8.drew) HQ8.out 0 (.slice a9 m6 c9)
       ·refine ((HI.out.2.trans (HC7.out.2.2.trans HW7.out fun _ _ f=>f) fun _ _ f=>f).trans (R:=fun _=>False) HJ.out.2 fun b hb h=>by have:=hbx b h.1;have:=HI.out.2.size;omega).trans (R:=fun _=>False) tq fun b hb h=>by
         have:=H2.out.2.2
         omega
   ·have hz:(Z==0)=false:=by
     have:=HZ.out.1
     simp
     omega
    have hz2:Z≠0:=by simpa using hz
    clear hK
    go_wp2_with (fail)
    go_roundg g'
    case measure=>omega
    case rel=>exact ⟨i+1,B2,mb2,E,T,.slice a8 m c8,rfl,by congr 1,by omega,Lib.hid ⟨HI.out.1.touch HC7.out.2.2,HI.out.2.trans HC7.out.2.2 fun _ _ f=>f⟩⟩
  |false=>
   have hq:(decide ((i:Int)<n)=false∧decide (i<n)=false)∨(decide ((i:Int)<n)=true∧decide (i<n)=true∧decide ((i:Int)<12)=false∧decide (i<12)=false):=by
    by_cases hx:i<n
    ·right
     have: ¬i<12:=by
      intro h
      rw [decide_eq_true hx,decide_eq_true h] at hD
      cases hD
     exact ⟨by simp;omega,by simp;omega,by simp;omega,by simp;omega⟩
    ·left
     exact ⟨by simp;omega,by simp;omega⟩
   have hok:=HI.out.1.ok3
   have hent:=entI_eq HI.out.1.2.2.1 HI.out.1.1.1.1 HI.out.1.2.2.2.1 s
   have hs63:s.length≤9223372036854775807:=by have:=HS.out.2;have:=HN.out.2;omega
   have hs10:s.length≤10:=by have:=HK10.out;have:=HN.out.2;omega
   have HE:=Lib.hid fun W (T1:Ux.Touch (fun _=>False) wr W)=>tentry_ B2 mb2 E s (.slice aq k cq) W (HI.out.1.touch T1).1 (HS.out.1.touch0 (HI.out.2.trans T1 fun _ _ f=>f)) hs63
   have HF:=Lib.hid fun W (T1:Ux.Touch (fun _=>False) wr W)=>rfind_ (.slice a8 m c8) (.slice aq k cq) T s _ W (HI.out.1.touch T1).2.1 (HS.out.1.touch0 (HI.out.2.trans T1 fun _ _ f=>f)) (by omega) (by omega) (fun e he=>by have:=hok.2.2 e he;omega)
   rw [hent] at HE
   obtain ⟨r,hr⟩: ∃r,findI T s=r:=⟨_,rfl⟩
   have hY:(r.getD []).length≤8∧∀x∈r.getD [],x<4294967296:=by
    rw [←hr]
    unfold findI
    cases h:T.find? (fun e=>sv e.1==s) with
    |none=>exact ⟨Nat.zero_le _,fun x hx=>by cases hx⟩
    |some e=>
     have:=hok.2.1.2 e (List.mem_of_find?_eq_some h)
     exact ⟨this.2.1,this.2.2⟩
   rw [hr] at HE HF
   obtain ⟨Y,hYe⟩: ∃Y,r.getD []=Y:=⟨_,rfl⟩
   obtain ⟨Bk,hBk⟩: ∃b,r.isSome=b:=⟨_,rfl⟩
   rw [hYe] at HE hY
   rw [hBk] at HE HF
   have HL:=Lib.hid fun W (T1:Ux.Touch (fun _=>False) wr W)=>like_ B2 mb2 E T (.slice a8 m c8) (fun b=>b≠q) W (HI.out.1.touch T1).1 (by have:=HI.out.1.2.2.2.2.1;omega) HI.out.1.2.2.1 (HI.out.1.touch T1).2.1
   have HC1:=Lib.hid fun W (T1:Ux.Touch (fun _=>False) wr W)=>check_ B2 mb2 E W (HI.out.1.touch T1).1 HI.out.1.2.2.2.1
   have HC2:=Lib.hid fun W (T1:Ux.Touch (fun _=>False) wr W)=>rcheck_ (.slice a8 m c8) T _ W (HI.out.1.touch T1).2.1 (by omega) (fun e he=>by have:=(hok.2.1.2 e he).2.1;omega) hok.2.2
   rw [checkE_perm HI.out.1.1.1.1.1 HI.out.1.2.2.1.1] at HC1
   obtain ⟨ck,hck⟩: ∃c:Int,(if checkE T then (0:Int) else 3)=c:=⟨_,rfl⟩
   rw [hck] at HC1 HC2
   have HAW:=Lib.hid fun W (T1:Ux.Touch (fun _=>False) wr W)=>awake5_ W (HT.out.1.touch (HI.out.2.trans T1 fun _ _ f=>f)) (HT.out.2.touch (HI.out.2.trans T1 fun _ _ f=>f))
   have HC:=Lib.hid fun W (T1:Ux.Touch (fun _=>False) wr W)=>T1.cell c0 (fun f=>f)
   have HY:=Lib.hid (And.intro hY hYe)
   clear hok hent hs63 hs10 hr hY hYe hBk hck c0 hD
   rcases hq with ⟨q1,q3⟩|⟨q1,q3,q2,q4⟩
   all_goals
    go_wp2_with (go_at_call 21;fail)
    refine (HE.out wr (Ux.Touch.refl _ _)).mono ?_
    rintro e w4 ⟨u4,rfl,hu4,T4⟩
    have H4:=Lib.hid (And.intro hu4 T4)
    clear hu4 T4
    have c0:=HC.out w4 H4.out.2
    go_wp2_with (go_at_call 22;fail)
    refine (HF.out w4 H4.out.2).mono ?_
    rintro e w5 ⟨u5,rfl,hu5,T5⟩
    have H5:=Lib.hid (And.intro (HY.out.2▸hu5.row) (And.intro (H4.out.2.trans T5 fun _ _ f=>f) (H4.out.1.touch0 T5)))
    clear hu5 T5 c0
    have c0:=HC.out w5 H5.out.2.1
    go_upto_region 24 with (fail)
    refine Ux.wpr (fun _ w'=>w'.cell? ⟨q,0,none⟩=some (.slice a8 m c8)) (.q [0] (.h false [1] (.e 2 true false (.q [3,4] (.h false [6] (.e 5 true false (.e 7 true false (.q [8,9,10,11,12,13,14,15,16,17] (.e 18 true false (.q [19,20] (.e 21 true false (.q [22] (.line [23]))))))))))))) ?_;repeat ((with_reducible refine Ux.qg ?_);refine Ux.qu ?_)
    have t0:=Lib.hid (And.intro H5.out.2.1.drew (Ux.Touch.refl (fun _=>False) w5).drew)
    go_wp2_with (go_at_call 15;fail)
    refine (HL.out _ t0.out.1).mono ?_
    rintro e6 w6 ⟨rfl,T6⟩
    have H6:=Lib.hid (And.intro (Ux.Touch.trans t0.out.1 T6 fun _ _ f=>f) (Ux.Touch.trans t0.out.2 T6 fun _ _ f=>f))
    clear T6 c0
    have c0:=HC.out w6 H6.out.1
    go_wp2_with (fail)
    refine ⟨c0,?_⟩
    repeat ((with_reducible refine Ux.qg ?_);refine Ux.qu ?_)
    go_wp2_with (go_at_call 23;fail)
    refine (HC1.out _ H6.out.1).mono ?_
    rintro e7 w7 ⟨rfl,T7⟩
    have H7:=Lib.hid (And.intro (Ux.Touch.trans H6.out.1 T7 fun _ _ f=>f) (Ux.Touch.trans H6.out.2 T7 fun _ _ f=>f))
    clear T7 c0
    have c0:=HC.out w7 H7.out.1
    go_wp2_with (fail)
    refine ⟨c0,?_⟩
    repeat ((with_reducible refine Ux.qg ?_);refine Ux.qu ?_)
    go_wp2_with (go_at_call 24;fail)
    refine (HC2.out _ H7.out.1).mono ?_
    rintro e8 w8 ⟨rfl,T8⟩
    have H8:=Lib.hid (And.intro (Ux.Touch.trans H7.out.1 T8 fun _ _ f=>f) (Ux.Touch.trans H7.out.2 T8 fun _ _ f=>f))
    clear T8 c0
    have c0:=HC.out w8 H8.out.1
    go_wp2_with (fail)
    refine ⟨c0,?_⟩
    repeat ((with_reducible refine Ux.qg ?_);refine Ux.qu ?_)
    have S1:=Lib.hid (same_ u4 u5 Y Y w8 (H5.out.2.2.touch0 H8.out.2) (H5.out.1.touch0 H8.out.2) HY.out.1.2 (by have:=HY.out.1.1;omega) (by have:=HY.out.1.1;omega))
    rw [beq_self_eq_true] at S1
    go_wp2_with (go_at_call 25;fail)
    refine (S1.out).mono ?_
    rintro e9 w9 ⟨rfl,T9⟩
    have H9:=Lib.hid (And.intro (Ux.Touch.trans H8.out.1 T9 fun _ _ f=>f) (Ux.Touch.trans H8.out.2 T9 fun _ _ f=>f))
    clear T9 c0
    have c0:=HC.out w9 H9.out.1
    go_wp2_with (fail)
    refine ⟨c0,?_⟩
    repeat ((with_reducible refine Ux.qg ?_);refine Ux.qu ?_)
    go_wp2_with (go_at_call 17;fail)
    refine (HAW.out w9 H9.out.1).mono ?_
    rintro e10 w10 ⟨rfl,T10⟩
    have H10:=Lib.hid (And.intro (Ux.Touch.trans H9.out.1 T10 fun _ _ f=>f) (Ux.Touch.trans H9.out.2 T10 fun _ _ f=>f))
    clear T10 c0
    have c0:=HC.out w10 H10.out.1
    go_wp2_with (fail)
    refine ⟨c0,?_⟩
    repeat ((with_reducible refine Ux.qg ?_);refine Ux.qu ?_)
    go_wp2
    go_ret
    exact ⟨rfl,HI.out.2.trans H10.out.1 fun _ _ f=>f⟩
end Go.Proofs.YtfccjaboicpohaaGreatDoor
namespace Go.Proofs.YtfccjaboicpohaaGreatDoor
open Go.RowKit
open Ux (OpsView NView)
theorem putsLaw_ (v:Value) (l:List (List Int×List Int)) (vs:Value) (s:List Int) (w:World) (hv:OpsView w v l) (hs:NView .i64 w vs s) (hT:Tabs w) (hD:TabD w):Calls Tryz.prog 5 #[v,vs] w fun e w'=>e= .returned (.bool true)∧Ux.Touch (fun _=>False) w w':=
 putsLaw0_ rroot_ v l vs s w hv hs hT hD
end Go.Proofs.YtfccjaboicpohaaGreatDoor
