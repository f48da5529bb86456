/- A part of the proof that the statement holds for every input that it names. No other condition. -/
import Derived.Test.YtfccjaboicpohaaGreatDoorRtailAY
set_option linter.unusedVariables false
set_option linter.unusedSimpArgs false
namespace Go.Proofs.YtfccjaboicpohaaGreatDoor
open Go.RowKit
open Ux (Ent KGrow Ents eP eS eT eV wt8 incW raise lastW newK fullT lastN mapE stepA)
theorem rstep_fin {A:Nat→Prop} {w wr W15 W16:World} {q q12 L X m n k:Nat} {a9 a14:Option Addr} {c9 c14:Nat} {xs:List Value} {T:List Ent} {a lst:List Nat} {RES:Nat×List Ent×List Nat}
 (hres:RES=(0,mapE (raise L X) T,((a.take (m+1)).map (raise L X)).set m k)) (hl:(a.take (m+1)).map (raise L X)=lst) (hG:KGrow W15 wr.heap.size 121 4 (.slice a14 (m+1) c14) (m+1) (rv (lst.set m k)))
 (hO:OutE W15 (q12+1) q12 (fun b=>(A b∧b<q)∨q12+1≤b) (.slice a9 n c9) n xs (mapE (raise L X) T)) (T16:Ux.Touch (fun b=>b=q+1) W15 W16) (hq:w.heap.size=q) (hq2:q+2≤q12) (_h:True) (hwr:q12+1≤wr.heap.size) (hn:T.length=n):
 RStepR W16 (fun b=>A b∨w.heap.size≤b) RES (.returned (.tuple #[.agg #[.slice a9 n c9],.slice a14 (m+1) c14,.int .i64 0])):=by
 subst hres
 rw [hl]
 have hG16:=hG.touch T16 fun b hb e=>by omega
 have hE:Ents (EntV W16 (fun b=>A b∨w.heap.size≤b)) xs (mapE (raise L X) T):=(hO.2.1.mono fun x y e h=>EntV.touchB T16 (fun g _ hA h=>by rcases hA.2.2 with hh|hh<;>omega) x y e h).mono fun x y e h=>EntV.mono (fun g _ hA=>by
  rcases hA.2.2 with hh|hh
  ·exact .inl hh.1
  ·exact .inr (by omega)) x y e h
 have hlen:(lst.set m k).length=m+1:=by
  have:=hG.1.1
  rw [rv_len] at this
  omega
 refine .inr ⟨rfl,_,_,rfl,RRows.of_grow (lo:=q12+1) (by rw [Ux.mapE_len,hn];exact hO.1.touch T16 fun b hb e=>by omega) (fun g hg=> .inr (by omega)) hE,RRow.of_grow hlen.symm hG16,hG16.cap,fun g hg=>⟨.inr (by have:=hG16.2 g hg;omega),Ux.own_lt hG16.1 g hg⟩⟩
set_option maxHeartbeats 32000000 in
set_option maxRecDepth 100000 in
theorem rstep_ (L:Nat) (v va:Value) (T:List Ent) (a:List Nat) (A:Nat→Prop) (w:World) (hT:RRows w A v T) (ha:RRow w va a) (hcap:capOk va) (hi:InvT T a) (hL:L=1∨L=2∨L=3):
 Calls Tryz.prog 56 #[.agg #[v],va,.int .i64 (L:Int)] w fun e w'=>RStepR w' (fun b=>A b∨w.heap.size≤b) (stepA T a L) e∧Ux.Touch (fun _=>False) w w':=by
 have hTT:=hT
 obtain ⟨_,x0,cx,rfl,_,hcT⟩:=hT
 obtain ⟨al,cl,rfl,hca⟩:=ha
 obtain ⟨n,hn⟩: ∃n,T.length=n:=⟨_,rfl⟩
 obtain ⟨na,hna⟩: ∃n,a.length=n:=⟨_,rfl⟩
 rw [hn] at hTT⊢
 rw [hna] at hcap⊢
 have hcap:na≤cl:=hcap
 have n0:(n:Int)≤500:=by have:=hi.len;omega
 have na0:(na:Int)≤8:=by have:=hi.alen;omega
 have nacl:(na:Int)≤cl:=by omega
 have ha32: ∀y∈a,y<4294967296:=fun y hy=>(hi.anchor y hy).1
 obtain ⟨RES,hRES⟩: ∃r,stepA T a L=r:=⟨_,rfl⟩
 rw [hRES]
 obtain ⟨q,hq⟩: ∃q,w.heap.size=q:=⟨_,rfl⟩
 have T1:Ux.Touch (fun _=>False) w (w.alloc (.cells #[.slice x0 n cx] 36)):=(Ux.Touch.refl _ _).alloc _
 have b1:(w.alloc (.cells #[.slice x0 n cx] 36)).heap[q]? =some (.cells #[.slice x0 n cx] 36 (0,0)):=by rw [←hq];exact heap_alloc_new w _
 have s1:(w.alloc (.cells #[.slice x0 n cx] 36)).heap.size=q+1:=by rw [World.size_alloc,hq]
 obtain ⟨W1,hW1⟩: ∃W,w.alloc (.cells #[.slice x0 n cx] 36)=W:=⟨_,rfl⟩
 rw [hW1] at T1 b1 s1
 have T2:Ux.Touch (fun _=>False) W1 (W1.alloc (.cells #[.slice none 0 0] 36)):=(Ux.Touch.refl _ _).alloc _
 have b2:(W1.alloc (.cells #[.slice none 0 0] 36)).heap[q+1]? =some (.cells #[.slice none 0 0] 36 (0,0)):=by rw [←s1];exact heap_alloc_new W1 _
 have s2:(W1.alloc (.cells #[.slice none 0 0] 36)).heap.size=q+2:=by rw [World.size_alloc,s1]
 have b1':=T2.heap b1 (fun f=>f)
 obtain ⟨W2,hW2⟩: ∃W,W1.alloc (.cells #[.slice none 0 0] 36)=W:=⟨_,rfl⟩
 rw [hW2] at T2 b2 s2 b1'
 have T02:=T1.trans T2 fun _ _ f=>f
 have c0:W2.cell? ⟨q,0,none⟩=some (.slice x0 n cx):=by rw [cell_of_row _ q 0 _ _ (0,0) b1'];rfl
 have HW:=Lib.hid (And.intro hW1 (And.intro hW2 (And.intro s2 hq)))
 have H2:=Lib.hid (And.intro T02 (And.intro b2 c0))
 have HH:=Lib.hid (And.intro hTT (And.intro hcT (And.intro hca (And.intro hi (And.intro hn (And.intro hna (And.intro hRES ha32)))))))
 have HWT:=Lib.hid fun x W=>rweight_ L x hL W
 have HFU:=Lib.hid fun W (t:Ux.Touch (fun _=>False) w W)=>rfull_ L (.slice x0 n cx) T A W (hTT.touch0 t) hL (by have:=hi.len;omega) (fun e he=>by have:=(hi.ok.2 e he).2.1;omega)
 have HL:=Lib.hid hL
 clear hTT hcT hca hi hn hna hRES ha32 T1 b1 s1 hW1 T2 b2 s2 b1' hW2 T02 hq hcap hL
 go_enter Tryz.func56,Tryz.ntmps56
 go_upto_region 1 with (fail)
 rw [HW.out.1,HW.out.2.1,HW.out.2.2.2]
 go_wp2_with (fail)
 go_loopg [9] na (fun gk s9 wr=> ∃(m:Nat) (z:Int),s9= .int .i64 z∧z=(m:Int)-1∧m≤na∧m≤gk∧wr.cell? ⟨q,0,none⟩=some (.slice x0 n cx)∧Hid (lastN L a na=lastN L a m∧Ux.Touch (fun _=>False) W2 wr))
 case atStart=>exact ⟨na,_,rfl,rfl,Nat.le_refl _,Nat.le_refl _,c0,Lib.hid ⟨rfl,Ux.Touch.refl _ _⟩⟩
 case round=>
  clear c0
  obtain ⟨m,z,rfl,hz,hmn,hmg,c0,HI⟩:=hrel
  cases m with
  |zero=>
   have hz1:z= -1:=by omega
   subst hz1
   have hres:RES=(1,T,a):=by
    rw [←HH.out.2.2.2.2.2.2.1]
    exact stepA_0 (by rw [HH.out.2.2.2.2.2.1,HI.out.1];rfl)
   have b2:=HI.out.2.heap H2.out.2.1 (fun f=>f)
   have HE:=Lib.hid hres
   have HT0:=Lib.hid HI.out.2
   clear hres hz
   have z0:=Ux.frozen_row b2 0
   have y0:wr.cell? ⟨q+1,0,none⟩=some (.slice none 0 0):=by rw [cell_of_row _ (q+1) 0 _ _ (0,0) b2];rfl
   have HB2:=Lib.hid b2
   clear b2
   go_wp2
   have hx:=Ux.setCell_row HB2.out 0 (.slice x0 n cx)
   have e0:=cell_of_row _ (q+1) 0 _ _ (0,0) hx
   have T5:Ux.Touch (fun b=>b=q+1) wr (wr.setCell ⟨q+1,0,none⟩ (.slice x0 n cx)):=(Ux.Touch.refl (fun b=>b=q+1) wr).setCell (p:=⟨q+1,0,none⟩) (fun _=>rfl) _
   have TT:Ux.Touch (fun _=>False) w (wr.setCell ⟨q+1,0,none⟩ (.slice x0 n cx)):=(H2.out.1.trans (HT0.out) fun _ _ f=>f).trans (R:=fun _=>False) T5 fun b hb e=>by have:=HW.out.2.2.2;omega
   generalize wr.setCell ⟨q+1,0,none⟩ (.slice x0 n cx)=W9 at e0 TT⊢
   simp at e0
   refine bodyPost_ret (by simp [results,Tryz.results56,go_sem,e0];try rfl) rfl ?_
   rw [HE.out]
   exact ⟨.inl ⟨by simp,_,_,_,rfl⟩,TT⟩
  |succ m=>
   have hz1:z=(m:Int):=by omega
   subst hz1
   have m0:(0:Int)≤(m:Int):=by omega
   have m1:(m:Int)<na:=by omega
   have hml:m<a.length:=by have:=HH.out.2.2.2.2.2.1;omega
   obtain ⟨x,hx⟩: ∃x,a[m]? =some x:=⟨_,List.getElem?_eq_getElem hml⟩
   obtain ⟨g,o,rfl,d1,d2,d3,d4⟩:=HH.out.2.2.1 m x hx
   have HD:=Lib.hid fun W (t:Ux.Touch (fun _=>False) w W)=>And.intro (t.cell d1 (fun f=>f)) (And.intro (t.cell d2 (fun f=>f)) (And.intro (t.cell d3 (fun f=>f)) (t.cell d4 (fun f=>f))))
   clear d1 d2 d3 d4
   obtain ⟨d1,d2,d3,d4⟩:=HD.out wr (H2.out.1.trans HI.out.2 fun _ _ f=>f)
   have HC:=Lib.hid fun W=>HWT.out x W
   have hxp:=eP_le (HH.out.2.2.2.2.2.2.2 x (List.mem_of_getElem? hx))
   have hstep:wt8 L x=0→lastN L a (m+1)=lastN L a m:=fun h=>lastN_none (by rw [getD_get hx];exact h)
   have hstop:wt8 L x≠0→lastN L a (m+1)=some m:=fun h=>lastN_some (by rw [getD_get hx];exact h)
   obtain ⟨p,hp⟩: ∃p,eP x=p:=⟨_,rfl⟩
   obtain ⟨s,hs⟩: ∃s,eS x=s:=⟨_,rfl⟩
   obtain ⟨t,ht⟩: ∃t,eT x=t:=⟨_,rfl⟩
   obtain ⟨ve,hve⟩: ∃t,eV x=t:=⟨_,rfl⟩
   obtain ⟨X,hX⟩: ∃X,wt8 L x=X:=⟨_,rfl⟩
   rw [hp,hs,ht,hve] at HC HD
   rw [hX] at HC hstep hstop
   rw [hp] at d1 hxp
   rw [hs] at d2
   rw [ht] at d3
   rw [hve] at d4
   have HP:=Lib.hid hxp
   have HX:=Lib.hid (And.intro hx (And.intro hp (And.intro hs (And.intro ht (And.intro hve (And.intro hX (And.intro hstep (And.intro hstop hml))))))))
   clear hx hp hs ht hve hX hstep hstop hml hxp hz
   go_wp2_with (go_at_call 106;fail)
   refine (HC.out _).mono ?_
   rintro e w4 ⟨rfl,T4⟩
   have T24:=HI.out.2.trans T4 fun _ _ f=>f
   have c4:=T4.cell c0 (fun f=>f)
   have H4:=Lib.hid T24
   clear c0 d1 d2 d3 d4 T4 T24
   by_cases h0:X=0
   ·subst h0
    obtain ⟨g',rfl⟩: ∃g',gk=g'+1:=⟨gk-1,by omega⟩
    have c0:=c4
    clear c4
    go_wp2_with (fail)
    go_roundg g'
    case measure=>omega
    case rel=>exact ⟨m,_,rfl,rfl,by omega,by omega,c0,Lib.hid ⟨HI.out.1.trans (HX.out.2.2.2.2.2.2.1 (by trivial)),H4.out⟩⟩
   ·have k0:((X:Int)==0)=false:=beq_false_of_ne (by omega)
    have hlast:lastN L a a.length=some m:=by rw [HH.out.2.2.2.2.2.1,HI.out.1];exact HX.out.2.2.2.2.2.2.2.1 h0
    have HLA:=Lib.hid hlast
    have HX0:=Lib.hid h0
    obtain ⟨d1,d2,d3,d4⟩:=HD.out w4 (H2.out.1.trans H4.out fun _ _ f=>f)
    have c0:=c4
    have p1:(p:Int)≤70000:=by have:=HP.out;omega
    clear c4 h0 hlast hmg hmn
    by_cases hbad:L=1∧64256≤p
    ·have hres:RES=(1,T,a):=by
      rw [←HH.out.2.2.2.2.2.2.1]
      exact stepA_1 HLA.out (by rw [getD_get HX.out.1,HX.out.2.1];exact hbad)
     have b2:=H4.out.heap H2.out.2.1 (fun f=>f)
     have HE:=Lib.hid hres
     obtain ⟨rfl,hb⟩:=hbad
     have hb1:(p:Int)≥64256:=by omega
     have hb2:(64256:Int)≤p:=by omega
     clear hres hb
     skip
     have z0:=Ux.frozen_row b2 0
     have y0:w4.cell? ⟨q+1,0,none⟩=some (.slice none 0 0):=by rw [cell_of_row _ (q+1) 0 _ _ (0,0) b2];rfl
     have HB2:=Lib.hid b2
     clear b2
     go_wp2
     have hx:=Ux.setCell_row HB2.out 0 (.slice x0 n cx)
     have e0:=cell_of_row _ (q+1) 0 _ _ (0,0) hx
     have T5:Ux.Touch (fun b=>b=q+1) w4 (w4.setCell ⟨q+1,0,none⟩ (.slice x0 n cx)):=(Ux.Touch.refl (fun b=>b=q+1) w4).setCell (p:=⟨q+1,0,none⟩) (fun _=>rfl) _
     have TT:Ux.Touch (fun _=>False) w (w4.setCell ⟨q+1,0,none⟩ (.slice x0 n cx)):=(H2.out.1.trans (H4.out) fun _ _ f=>f).trans (R:=fun _=>False) T5 fun b hb e=>by have:=HW.out.2.2.2;omega
     generalize w4.setCell ⟨q+1,0,none⟩ (.slice x0 n cx)=W9 at e0 TT⊢
     simp at e0
     refine bodyPost_ret (by simp [results,Tryz.results56,go_sem,e0];try rfl) rfl ?_
     rw [HE.out]
     exact ⟨.inl ⟨by simp,_,_,_,rfl⟩,TT⟩
    ·have HB:=Lib.hid hbad
     go_upto_region 4 with (fail)
     go_cut [44] (fun s44 wx=>s44= .bool false∧w4=wx)
     case first=>
      by_cases h1:L=1
      ·have hb: ¬((p:Int)≥64256):=fun h=>hbad ⟨h1,by omega⟩
       have hb2: ¬((64256:Int)≤p):=fun h=>hbad ⟨h1,by omega⟩
       subst h1
       clear hbad
       go_wp2_with (fail)
       go_meet
       exact ⟨rfl,rfl⟩
      ·have hb:((L:Int)==1)=false:=beq_false_of_ne (by omega)
       clear hbad h1
       go_wp2_with (fail)
       go_meet
       exact ⟨rfl,rfl⟩
     obtain ⟨rfl,rfl⟩:=hcut
     clear hbad
     obtain ⟨F,hF⟩: ∃b,fullT L T=b:=⟨_,rfl⟩
     have hfu:=HFU.out w4 (H2.out.1.trans H4.out fun _ _ f=>f)
     rw [hF] at hfu
     have HF1:=Lib.hid (And.intro hfu hF)
     clear hfu hF
     go_wp2_with (go_at_call 107;fail)
     refine HF1.out.1.mono ?_
     rintro e w5 ⟨rfl,T5⟩
     have c5:=T5.cell c0 (fun f=>f)
     have H5:=Lib.hid (H4.out.trans T5 fun _ _ f=>f)
     clear T5 c0 d1 d2 d3 d4
     have c0:=c5
     clear c5
     cases F with
     |true=>
      have hres:RES=(60,T,a):=by
       rw [←HH.out.2.2.2.2.2.2.1]
       exact stepA_2 HLA.out (by rw [getD_get HX.out.1,HX.out.2.1];exact HB.out) HF1.out.2
      have b2:=H5.out.heap H2.out.2.1 (fun f=>f)
      have HE:=Lib.hid hres
      clear hres
      have z0:=Ux.frozen_row b2 0
      have y0:w5.cell? ⟨q+1,0,none⟩=some (.slice none 0 0):=by rw [cell_of_row _ (q+1) 0 _ _ (0,0) b2];rfl
      have HB2:=Lib.hid b2
      clear b2
      go_wp2
      have hx:=Ux.setCell_row HB2.out 0 (.slice x0 n cx)
      have e0:=cell_of_row _ (q+1) 0 _ _ (0,0) hx
      have T5:Ux.Touch (fun b=>b=q+1) w5 (w5.setCell ⟨q+1,0,none⟩ (.slice x0 n cx)):=(Ux.Touch.refl (fun b=>b=q+1) w5).setCell (p:=⟨q+1,0,none⟩) (fun _=>rfl) _
      have TT:Ux.Touch (fun _=>False) w (w5.setCell ⟨q+1,0,none⟩ (.slice x0 n cx)):=(H2.out.1.trans (H5.out) fun _ _ f=>f).trans (R:=fun _=>False) T5 fun b hb e=>by have:=HW.out.2.2.2;omega
      generalize w5.setCell ⟨q+1,0,none⟩ (.slice x0 n cx)=W9 at e0 TT⊢
      simp at e0
      refine bodyPost_ret (by simp [results,Tryz.results56,go_sem,e0];try rfl) rfl ?_
      rw [HE.out]
      exact ⟨.inl ⟨by simp,_,_,_,rfl⟩,TT⟩
     |false=>
      have hres:RES=(0,mapE (raise L X) T,((a.take (m+1)).map (raise L X)).set m (newK L x)):=by
       rw [←HH.out.2.2.2.2.2.2.1,stepA_3 HLA.out (by rw [getD_get HX.out.1,HX.out.2.1];exact HB.out) HF1.out.2,getD_get HX.out.1,HX.out.2.2.2.2.2.1]
      have HE:=Lib.hid hres
      clear hres
      obtain ⟨d1,d2,d3,d4⟩:=HD.out w5 (H2.out.1.trans H5.out fun _ _ f=>f)
      go_wp2_with (go_at_call 106;fail)
      refine (HC.out _).mono ?_
      rintro e w6 ⟨rfl,T6⟩
      have c6:=T6.cell c0 (fun f=>f)
      have H6:=Lib.hid (H5.out.trans T6 fun _ _ f=>f)
      clear T6 c0 d1 d2 d3 d4
      have c0:=c6
      clear c6
      obtain ⟨bd,hbd⟩: ∃b,bnd L=b:=⟨_,rfl⟩
      have HBD:=Lib.hid hbd
      go_upto_if 57 with (fail)
      go_cut [11] (fun s11 wx=>s11= .int .i64 (bd:Int)∧w6=wx)
      case first=>
       rcases HL.out with h|h|h
       all_goals
        subst h
        have hbd2:=hbd
        unfold bnd at hbd2
        simp at hbd2
        subst hbd2
        clear hbd
        go_wp2_with (fail)
        go_meet
        exact ⟨rfl,rfl⟩
      obtain ⟨rfl,rfl⟩:=hcut
      clear hbd
      have HLI:Hid (∀(W:World) (vv:Value) (l:List Nat),RRow W vv l→l.length≤100000→(∀y∈l,y<4294967296)→(∀y∈l,L≠1→wt8 L y<lastW L)→Calls Tryz.prog 108 #[vv,.int .i64 (L:Int),.int .i64 (X:Int),.int .i64 (bd:Int)] W fun e w'=> ∃a c,e= .returned (.slice a l.length c)∧KGrow w' W.heap.size 121 4 (.slice a l.length c) l.length (rv (l.map (raise L X)))∧Ux.Touch (fun _=>False) W w'):=Lib.hid fun W vv l h1 h2 h3 h4=>by
       have h:=rlist_ L X vv l HL.out W h1 h2 h3 h4
       rw [HBD.out] at h
       exact h
      obtain ⟨q12,hq12⟩: ∃q,w6.heap.size=q:=⟨_,rfl⟩
      have t7:Ux.Touch (fun _=>False) w6 (w6.alloc (.cells #[.slice none 0 0] 36)):=(Ux.Touch.refl _ _).alloc _
      have b7:(w6.alloc (.cells #[.slice none 0 0] 36)).heap[q12]? =some (.cells #[.slice none 0 0] 36 (0,0)):=by rw [←hq12];exact heap_alloc_new w6 _
      have s7:(w6.alloc (.cells #[.slice none 0 0] 36)).heap.size=q12+1:=by rw [World.size_alloc,hq12]
      obtain ⟨W7,hW7⟩: ∃W,w6.alloc (.cells #[.slice none 0 0] 36)=W:=⟨_,rfl⟩
      rw [hW7] at t7 b7 s7
      have c12:W7.cell? ⟨q12,0,none⟩=some (.slice none 0 0):=by rw [cell_of_row _ q12 0 _ _ (0,0) b7];rfl
      have c7:=t7.cell c0 (fun f=>f)
      have hq2:q+2≤q12:=by have h1:=HW.out.2.2.1;have h2:=H6.out.size;omega
      have H7:=Lib.hid (And.intro (H6.out.trans t7 fun _ _ f=>f) (And.intro b7 (And.intro s7 hq2)))
      have HW7:=Lib.hid hW7
      clear t7 b7 s7 hW7 hq2 c0
      have c0:=c7
      clear c7
      go_upto_region 13 with (fail)
      rw [HW7.out]
      go_wp2_with (fail)
      go_loopg [13] n (fun gk s13 wr=> ∃(i:Nat) (a9:Option Addr) (c9:Nat),s13= .int .i64 i∧i+gk=n∧wr.cell? ⟨q,0,none⟩=some (.slice x0 n cx)∧wr.cell? ⟨q12,0,none⟩=some (.slice a9 i c9)∧Hid (∃xs,OutE wr (q12+1) q12 (fun b=>(A b∧b<q)∨q12+1≤b) (.slice a9 i c9) i xs ((mapE (raise L X) T).take i)∧Ux.Touch (fun b=>b=q12) W7 wr))
      case atStart=>exact ⟨0,none,0,rfl,by omega,c0,c12,Lib.hid ⟨[],⟨KGrow.nil _ _ _ _,trivial,H7.out.2.1⟩,Ux.Touch.refl _ _⟩⟩
      case round=>
       clear c0 c12
       obtain ⟨i,a9,c9,rfl,hig,c0,c12,HJ⟩:=hrel
       obtain ⟨xs,hO,TJ⟩:=HJ.out
       have i0:(0:Int)≤i:=by omega
       have T7w:Ux.Touch (fun _=>False) w wr:=(H2.out.1.trans H7.out.1 fun _ _ f=>f).trans (R:=fun _=>False) TJ fun b hb e=>by have h1:=H7.out.2.2.2;have h2:=HW.out.2.2.2;omega
       by_cases hin:i<n
       ·obtain ⟨g',rfl⟩: ∃g',gk=g'+1:=⟨gk-1,by omega⟩
        have i1:(i:Int)<n:=by omega
        obtain ⟨e,he⟩: ∃e,T[i]? =some e:=⟨_,List.getElem?_eq_getElem (by have:=HH.out.2.2.2.2.1;omega)⟩
        obtain ⟨g0,o0,vx,vy,rfl,r1,r2,hE⟩:=HH.out.2.1 i e he
        have hm:=List.mem_of_getElem? he
        have hokE:=HH.out.2.2.2.1.ok.2 e hm
        have hrow:=hE.1.2
        obtain ⟨a2,k2,rfl,_⟩:=hE.1.2
        obtain ⟨a1,k1,rfl,_⟩:=hE.1.1
        obtain ⟨m1,hm1⟩: ∃m,e.1.length=m:=⟨_,rfl⟩
        obtain ⟨m2,hm2⟩: ∃m,e.2.length=m:=⟨_,rfl⟩
        rw [hm1] at r1 hE
        rw [hm2] at r2 hE hrow
        have HQ:=Lib.hid fun W (t:Ux.Touch (fun _=>False) wr W)=>And.intro (t.cell c12 (fun f=>f)) (And.intro (t.cell c0 (fun f=>f)) (And.intro (t.cell (T7w.cell r1 (fun f=>f)) (fun f=>f)) (t.cell (T7w.cell r2 (fun f=>f)) (fun f=>f))))
        have HCL:=Lib.hid fun W (t:Ux.Touch (fun _=>False) wr W)=>HLI.out W (.slice a2 m2 k2) e.2 (hrow.touch0 (T7w.trans t fun _ _ f=>f)) (by have:=hokE.2.1;omega) hokE.2.2 (fun y hy h=>by
         have h1:=Ux.full_no HF1.out.2 hm hy
         rcases HL.out with h2|h2|h2
         ·exact absurd h2 h
         ·subst h2
          have:=eS_le y
          unfold wt8 lastW at h1⊢
          simp at h1⊢
          omega
         ·subst h2
          have:=eT_le y
          unfold wt8 lastW at h1⊢
          simp at h1⊢
          omega)
        rw [hm2] at HCL
        have HXI:=Lib.hid (And.intro he (And.intro hE (And.intro hm2 (And.intro hO (And.intro TJ T7w)))))
        clear c12 c0
        obtain ⟨c12,c0,r1,r2⟩:=HQ.out wr (Ux.Touch.refl _ _)
        clear he hE hm hokE hrow hm1 hm2 hO TJ T7w hin
        go_upto_region 16 with (fail)
        refine Ux.wpr (fun _ w'=>w'.cell? ⟨q12,0,none⟩=some (.slice a9 i c9)∧w'.cell? ⟨q,0,none⟩=some (.slice (some ⟨g0,o0,none⟩) n cx)∧w'.cell? ⟨g0,o0+i*2,none⟩=some (.slice a1 m1 k1)∧w'.cell? ⟨g0,o0+i*2+1,none⟩=some (.slice a2 m2 k2)) (.q [0,2,4,8,10,14,15,16] (.h false [1,3,9] (.q [5,6,11,12] (.h false [7,13] (.e 17 true false (.q [18] (.e 19 true false (.e 20 true false (.line [21,22]))))))))) ?_;repeat ((with_reducible refine Ux.qg ?_);refine Ux.qu ?_)
        clear c12 c0 r1 r2
        go_wp2_with (go_at_call 108;fail)
        refine (HCL.out _ ((Ux.Touch.refl (fun _=>False) wr).drew)).mono ?_
        rintro e9 w9 ⟨au,cu,rfl,hU,T9⟩
        have T9r:Ux.Touch (fun _=>False) wr w9:=((Ux.Touch.refl (fun _=>False) wr).drew).trans T9 fun _ _ f=>f
        have H9:=Lib.hid T9r
        go_wp2_with (fail)
        refine ⟨HQ.out _ H9.out,?_⟩
        repeat ((with_reducible refine Ux.qg ?_);refine Ux.qu ?_)
        obtain ⟨he,hE,hm2,hO,TJ,T7w⟩:=HXI.out
        have hs7:=H7.out.2.2.1
        have hq2:=H7.out.2.2.2
        have hwq:=HW.out.2.2.2
        have hJs:=TJ.size
        have hown9:=fun b hb=>Ux.own_lt hO.1.1 b hb
        have hnew:EntV w9 (fun b=>(Value.slice a9 i c9).ownBlock≠some b∧b≠q12∧((A b∧b<q)∨q12+1≤b)) (.slice a1 m1 k1) (.slice au m2 cu) (e.1,e.2.map (raise L X)):=by
         refine ⟨⟨hE.1.1.touch0 (T7w.trans T9r fun _ _ f=>f),RRow.of_grow (by rw [List.length_map];exact hm2.symm) hU⟩,fun b hb=> ?_,fun b hb=> ?_,hE.2.2.2⟩
         ·obtain ⟨h1,h2⟩:=hE.2.1 b hb
          refine ⟨⟨fun h=> ?_,by omega,.inl ⟨h1,by omega⟩⟩,by have:=T7w.size;have:=T9r.size;omega⟩
          have:=hO.1.2 b h
          omega
         ·have h1:=hU.2 b hb
          have h2:=Ux.own_lt hU.1 b hb
          have h3:wr.drew.heap.size=wr.heap.size:=rfl
          refine ⟨⟨fun h=> ?_,by omega,.inr (by omega)⟩,h2⟩
          have:=hown9 b h
          omega
        obtain ⟨ar,cr,w10,hrun,hc10,hf10,tX,hO10,T10⟩:=outE_step hO T9r (by omega) (by omega) (by omega) hnew
        have tA:Ux.Touch (fun _=>False) w9 (w9.alloc (.cells #[.slice a1 m1 k1,.slice au m2 cu] 133)):=(Ux.Touch.refl _ _).alloc _
        have hmk:(mapE (raise L X) T).take (i+1)=(mapE (raise L X) T).take i++ [(e.1,e.2.map (raise L X))]:=by
         have h9:(mapE (raise L X) T)[i]? =some (e.1,e.2.map (raise L X)):=by
          unfold mapE
          rw [List.getElem?_map,he]
          rfl
         rw [List.take_add_one,h9]
         rfl
        rw [←hmk] at hO10
        have TJ2:Ux.Touch (fun b=>b=q12) W7 (w10.setCell ⟨q12,0,none⟩ (.slice ar (i+1:Nat) cr)):=(TJ.trans T9r fun _ _ f=>f.elim).trans T10 fun b hb h=>by
         rcases h with h|h
         ·exact h
         ·omega
        have hS10:w10.cell? ⟨q12,0,none⟩=some (.slice a9 i c9)∧w10.cell? ⟨q,0,none⟩=some (.slice (some ⟨g0,o0,none⟩) n cx)∧w10.cell? ⟨g0,o0+i*2,none⟩=some (.slice a1 m1 k1)∧w10.cell? ⟨g0,o0+i*2+1,none⟩=some (.slice a2 m2 k2):=by
         obtain ⟨u1,u2,u3,u4⟩:=HQ.out _ T9r
         have hg0:=(HH.out.1.1 g0 rfl).2
         exact ⟨hc10,tX.cell u2 (fun h=>by have h:q12+1≤q:=h;omega),tX.cell u3 (fun h=>by have h:q12+1≤g0:=h;omega),tX.cell u4 (fun h=>by have h:q12+1≤g0:=h;omega)⟩
        obtain ⟨W11,hW11⟩: ∃W,w10.setCell ⟨q12,0,none⟩ (.slice ar (i+1:Nat) cr)=W:=⟨_,rfl⟩
        rw [hW11] at hO10 TJ2 T10
        have hb11:=hO10.2.2
        have c12':W11.cell? ⟨q12,0,none⟩=some (.slice ar (i+1:Nat) cr):=by rw [cell_of_row _ q12 0 _ _ (0,0) hb11];rfl
        have c0':W11.cell? ⟨q,0,none⟩=some (.slice (some ⟨g0,o0,none⟩) n cx):=T10.cell (T9r.cell ((HQ.out wr (Ux.Touch.refl _ _)).2.1) (fun f=>f)) (fun h=>by have h:q=q12∨q12+1≤q:=h;omega)
        have HR:=Lib.hid (And.intro hrun (And.intro hO10 (And.intro TJ2 (And.intro c12' (And.intro c0' (And.intro (HQ.out _ (T9r.trans tA fun _ _ f=>f)) hS10))))))
        have hW11':=Lib.hid hW11
        clear he hE hm2 hO TJ T7w hs7 hq2 hwq hJs hown9 hnew hrun hO10 T10 tA hmk TJ2 hW11 hb11 c12' c0' hU T9 T9r tX hS10
        go_wp2_with (fail)
        refine ⟨HR.out.2.2.2.2.2.1,?_⟩
        repeat ((with_reducible refine Ux.qg ?_);refine Ux.qu ?_)
        go_wp2_with (at_builtin;refine Ux.wpList_app (v1:= .slice a9 i c9) (x1:= .slice (some ⟨w9.heap.size,0,none⟩) 1 1) rfl _ _ _ _ rfl rfl rfl (HR.out.1 _) ?_)
        refine ⟨HR.out.2.2.2.2.2.2,?_⟩
        go_wp2_with (fail)
        go_roundg g'
        case measure=>omega
        case rel=>
         rw [hW11'.out]
         exact ⟨i+1,ar,cr,rfl,by omega,HR.out.2.2.2.2.1,HR.out.2.2.2.1,Lib.hid ⟨_,HR.out.2.1,HR.out.2.2.1⟩⟩
       ·obtain rfl:i=n:=by omega
        have i1: ¬((i:Int)<i):=by omega
        rw [List.take_of_length_le (by rw [Ux.mapE_len];have:=HH.out.2.2.2.2.1;omega)] at hO
        have hcut:RRow wr (.slice (some ⟨g,o,none⟩) (m+1) cl) (a.take (m+1)):=by
         have hml:=HX.out.2.2.2.2.2.2.2.2
         refine ⟨_,cl,by rw [List.length_take,Nat.min_eq_left (by omega)],fun j y hy=> ?_⟩
         rw [List.getElem?_take] at hy
         split at hy
         ·obtain ⟨g',o',e,h1,h2,h3,h4⟩:=HH.out.2.2.1 j y hy
          exact ⟨g',o',e,T7w.cell h1 (fun f=>f),T7w.cell h2 (fun f=>f),T7w.cell h3 (fun f=>f),T7w.cell h4 (fun f=>f)⟩
         ·cases hy
        have hLA:=HLI.out wr _ _ hcut (by rw [List.length_take];have:=HX.out.2.2.2.2.2.2.2.2;have:=HH.out.2.2.2.1.alen;omega) (fun y hy=>HH.out.2.2.2.2.2.2.2 y (List.mem_of_mem_take hy)) (fun y hy h=>by
         have h2:L=2∨L=3:=by have:=HL.out;omega
         exact Ux.anchor_room HH.out.2.2.2.1.anchor h2 HF1.out.2 (List.mem_of_mem_take hy))
        have hlt:(a.take (m+1)).length=m+1:=by rw [List.length_take,Nat.min_eq_left (by have:=HX.out.2.2.2.2.2.2.2.2;omega)]
        rw [hlt] at hLA
        have hlx:((a.take (m+1)).map (raise L X))[m]? =some x:=by
         rw [List.getElem?_map,List.getElem?_take,if_pos (by omega),HX.out.1,←HX.out.2.2.2.2.2.1]
         show some (raise L (wt8 L x) x)=some x
         rw [raise_self]
        obtain ⟨lst,hlst⟩: ∃l,(a.take (m+1)).map (raise L X)=l:=⟨_,rfl⟩
        rw [hlst] at hLA hlx
        have hparts:=newK_parts HH.out.2.2.2.1.anchor HL.out HX.out.1 HF1.out.2
        rw [HX.out.2.2.2.2.2.1] at hparts
        have HLS:=Lib.hid (And.intro hlst (And.intro hlx (And.intro hparts (And.intro hO T7w))))
        have HLA2:=Lib.hid hLA
        have m1c:(m:Int)+1≤cl:=by omega
        have hc0:=Lib.hid fun W (t:Ux.Touch (fun _=>False) wr W)=>t.cell c12 (fun f=>f)
        clear hcut hLA hlt hlx hlst hparts hO T7w TJ c12
        go_wp2_with (go_at_call 108;fail)
        refine HLA2.out.mono ?_
        rintro e14 w14 ⟨a14,c14,rfl,hG14,T14⟩
        obtain ⟨g14,rfl,d1,d2,d3,d4⟩:=KGrow.cells4 hG14 HLS.out.2.1
        have f1:=KGrow.frozen hG14 (m*4)
        have f2:=KGrow.frozen hG14 (m*4+1)
        have f3:=KGrow.frozen hG14 (m*4+2)
        have f4:=KGrow.frozen hG14 (m*4+3)
        have H14:=Lib.hid (And.intro hG14 T14)
        clear hG14 T14
        have xi:(X:Int)≤70000:=by
         have h1:=HX.out.2.2.2.2.2.1
         have h2:=HP.out
         have h3:=eS_le x
         have h4:=eT_le x
         have h5:=HX.out.2.1
         unfold wt8 at h1
         split at h1
         ·omega
         ·split at h1<;>omega
        rcases HLS.out.2.2.1 with ⟨rfl,n1,n2,n3,n4⟩|⟨rfl,n1,n2,n3,n4⟩|⟨rfl,n1,n2,n3,n4⟩
        ·have hns:rv (lst.set m (newK 1 x))=((((rv lst).set (m*4) (.int .i64 ((X:Int)+1))).set (m*4+1) (.int .i64 32)).set (m*4+2) (.int .i64 2)).set (m*4+3) (.bool false):=by
          rw [rv_set lst m _ (List.getElem?_eq_some_iff.1 HLS.out.2.1).1,n1,n2,n3,n4]
          rfl
         obtain ⟨G0,t0⟩:=KGrow.setc H14.out.1 (m*4) (.int .i64 ((X:Int)+1))
         obtain ⟨G1,t1⟩:=KGrow.setc G0 (m*4+1) (.int .i64 32)
         obtain ⟨G2,t2⟩:=KGrow.setc G1 (m*4+2) (.int .i64 2)
         obtain ⟨G3,t3⟩:=KGrow.setc G2 (m*4+3) (.bool false)
         rw [←hns] at G3
         obtain ⟨W15,hW15⟩: ∃W,((((w14).setCell ⟨g14,m*4,none⟩ (.int .i64 ((X:Int)+1))).setCell ⟨g14,m*4+1,none⟩ (.int .i64 32)).setCell ⟨g14,m*4+2,none⟩ (.int .i64 2)).setCell ⟨g14,m*4+3,none⟩ (.bool false)=W:=⟨_,rfl⟩
         have T15:Ux.Touch (fun b=>b=g14) w14 (((((w14).setCell ⟨g14,m*4,none⟩ (.int .i64 ((X:Int)+1))).setCell ⟨g14,m*4+1,none⟩ (.int .i64 32)).setCell ⟨g14,m*4+2,none⟩ (.int .i64 2)).setCell ⟨g14,m*4+3,none⟩ (.bool false)):=(((t0).trans t1 fun b _ e=>e).trans t2 fun b _ e=>e).trans t3 fun b _ e=>e
         rw [hW15] at G3 T15
         have hg14:wr.heap.size≤g14:=H14.out.1.2 g14 rfl
         have TF:Ux.Touch (fun _=>False) wr W15:=H14.out.2.trans (R:=fun _=>False) T15 fun b hb e=>by omega
         have hO15:=HLS.out.2.2.2.1.touch0 TF
         have c12:=hc0.out W15 TF
         have TW15:=HLS.out.2.2.2.2.trans TF fun _ _ f=>f
         have b2:W15.heap[q+1]? =some (.cells #[.slice none 0 0] 36 (0,0)):=TF.heap (HJ.out.choose_spec.2.heap (H7.out.1.heap H2.out.2.1 (fun f=>f)) (by have:=H7.out.2.2.2;omega)) (fun f=>f)
         have y0:W15.cell? ⟨q+1,0,none⟩=some (.slice none 0 0):=by rw [cell_of_row _ (q+1) 0 _ _ (0,0) b2];rfl
         have z0:=Ux.frozen_row b2 0
         have HG15:=Lib.hid (And.intro G3 (And.intro hO15 (And.intro TW15 (And.intro b2 hg14))))
         clear G0 G1 G2 G3 hO15 TW15 b2 TF T15 hns hg14 n1 n2 n3 n4 t0 t1 t2 t3
         go_wp2
         have hx:=Ux.setCell_row HG15.out.2.2.2.1 0 (.slice a9 i c9)
         have e0:=cell_of_row _ (q+1) 0 _ _ (0,0) hx
         have T16:Ux.Touch (fun b=>b=q+1) W15 (W15.setCell ⟨q+1,0,none⟩ (.slice a9 i c9)):=(Ux.Touch.refl (fun b=>b=q+1) W15).setCell (p:=⟨q+1,0,none⟩) (fun _=>rfl) _
         have hFIN:=rstep_fin HE.out HLS.out.1 HG15.out.1 HG15.out.2.1 T16 HW.out.2.2.2 H7.out.2.2.2 True.intro (by have h1:=HJ.out.choose_spec.2.size;have h2:=H7.out.2.2.1;omega) HH.out.2.2.2.2.1
         have TT:Ux.Touch (fun _=>False) w (W15.setCell ⟨q+1,0,none⟩ (.slice a9 i c9)):=HG15.out.2.2.1.trans (R:=fun _=>False) T16 fun b hb e=>by have:=HW.out.2.2.2;omega
         generalize W15.setCell ⟨q+1,0,none⟩ (.slice a9 i c9)=W9 at e0 TT hFIN⊢
         simp at e0
         refine bodyPost_ret (by simp [results,Tryz.results56,go_sem,e0];try rfl) rfl ?_
         exact ⟨hFIN,TT⟩
        ·have hns:rv (lst.set m (newK 2 x))=((rv lst).set (m*4+1) (.int .i64 ((X:Int)+1))).set (m*4+2) (.int .i64 2):=by
          rw [rv_set2 HLS.out.2.1 n1 n4,n2,n3]
          rfl
         obtain ⟨G0,t0⟩:=KGrow.setc H14.out.1 (m*4+1) (.int .i64 ((X:Int)+1))
         obtain ⟨G1,t1⟩:=KGrow.setc G0 (m*4+2) (.int .i64 2)
         rw [←hns] at G1
         obtain ⟨W15,hW15⟩: ∃W,((w14).setCell ⟨g14,m*4+1,none⟩ (.int .i64 ((X:Int)+1))).setCell ⟨g14,m*4+2,none⟩ (.int .i64 2)=W:=⟨_,rfl⟩
         have T15:Ux.Touch (fun b=>b=g14) w14 (((w14).setCell ⟨g14,m*4+1,none⟩ (.int .i64 ((X:Int)+1))).setCell ⟨g14,m*4+2,none⟩ (.int .i64 2)):=(t0).trans t1 fun b _ e=>e
         rw [hW15] at G1 T15
         have hg14:wr.heap.size≤g14:=H14.out.1.2 g14 rfl
         have TF:Ux.Touch (fun _=>False) wr W15:=H14.out.2.trans (R:=fun _=>False) T15 fun b hb e=>by omega
         have hO15:=HLS.out.2.2.2.1.touch0 TF
         have c12:=hc0.out W15 TF
         have TW15:=HLS.out.2.2.2.2.trans TF fun _ _ f=>f
         have b2:W15.heap[q+1]? =some (.cells #[.slice none 0 0] 36 (0,0)):=TF.heap (HJ.out.choose_spec.2.heap (H7.out.1.heap H2.out.2.1 (fun f=>f)) (by have:=H7.out.2.2.2;omega)) (fun f=>f)
         have y0:W15.cell? ⟨q+1,0,none⟩=some (.slice none 0 0):=by rw [cell_of_row _ (q+1) 0 _ _ (0,0) b2];rfl
         have z0:=Ux.frozen_row b2 0
         have HG15:=Lib.hid (And.intro G1 (And.intro hO15 (And.intro TW15 (And.intro b2 hg14))))
         clear G0 G1 hO15 TW15 b2 TF T15 hns hg14 n1 n2 n3 n4 t0 t1
         go_wp2
         have hx:=Ux.setCell_row HG15.out.2.2.2.1 0 (.slice a9 i c9)
         have e0:=cell_of_row _ (q+1) 0 _ _ (0,0) hx
         have T16:Ux.Touch (fun b=>b=q+1) W15 (W15.setCell ⟨q+1,0,none⟩ (.slice a9 i c9)):=(Ux.Touch.refl (fun b=>b=q+1) W15).setCell (p:=⟨q+1,0,none⟩) (fun _=>rfl) _
         have hFIN:=rstep_fin HE.out HLS.out.1 HG15.out.1 HG15.out.2.1 T16 HW.out.2.2.2 H7.out.2.2.2 True.intro (by have h1:=HJ.out.choose_spec.2.size;have h2:=H7.out.2.2.1;omega) HH.out.2.2.2.2.1
         have TT:Ux.Touch (fun _=>False) w (W15.setCell ⟨q+1,0,none⟩ (.slice a9 i c9)):=HG15.out.2.2.1.trans (R:=fun _=>False) T16 fun b hb e=>by have:=HW.out.2.2.2;omega
         generalize W15.setCell ⟨q+1,0,none⟩ (.slice a9 i c9)=W9 at e0 TT hFIN⊢
         simp at e0
         refine bodyPost_ret (by simp [results,Tryz.results56,go_sem,e0];try rfl) rfl ?_
         exact ⟨hFIN,TT⟩
        ·have hns:rv (lst.set m (newK 3 x))=(rv lst).set (m*4+2) (.int .i64 ((X:Int)+1)):=by
          rw [rv_set3 HLS.out.2.1 n1 n2 n4,n3]
          rfl
         obtain ⟨G0,t0⟩:=KGrow.setc H14.out.1 (m*4+2) (.int .i64 ((X:Int)+1))
         rw [←hns] at G0
         obtain ⟨W15,hW15⟩: ∃W,(w14).setCell ⟨g14,m*4+2,none⟩ (.int .i64 ((X:Int)+1))=W:=⟨_,rfl⟩
         have T15:Ux.Touch (fun b=>b=g14) w14 ((w14).setCell ⟨g14,m*4+2,none⟩ (.int .i64 ((X:Int)+1))):=t0
         rw [hW15] at G0 T15
         have hg14:wr.heap.size≤g14:=H14.out.1.2 g14 rfl
         have TF:Ux.Touch (fun _=>False) wr W15:=H14.out.2.trans (R:=fun _=>False) T15 fun b hb e=>by omega
         have hO15:=HLS.out.2.2.2.1.touch0 TF
         have c12:=hc0.out W15 TF
         have TW15:=HLS.out.2.2.2.2.trans TF fun _ _ f=>f
         have b2:W15.heap[q+1]? =some (.cells #[.slice none 0 0] 36 (0,0)):=TF.heap (HJ.out.choose_spec.2.heap (H7.out.1.heap H2.out.2.1 (fun f=>f)) (by have:=H7.out.2.2.2;omega)) (fun f=>f)
         have y0:W15.cell? ⟨q+1,0,none⟩=some (.slice none 0 0):=by rw [cell_of_row _ (q+1) 0 _ _ (0,0) b2];rfl
         have z0:=Ux.frozen_row b2 0
         have HG15:=Lib.hid (And.intro G0 (And.intro hO15 (And.intro TW15 (And.intro b2 hg14))))
         clear G0 hO15 TW15 b2 TF T15 hns hg14 n1 n2 n3 n4 t0
         go_wp2
         have hx:=Ux.setCell_row HG15.out.2.2.2.1 0 (.slice a9 i c9)
         have e0:=cell_of_row _ (q+1) 0 _ _ (0,0) hx
         have T16:Ux.Touch (fun b=>b=q+1) W15 (W15.setCell ⟨q+1,0,none⟩ (.slice a9 i c9)):=(Ux.Touch.refl (fun b=>b=q+1) W15).setCell (p:=⟨q+1,0,none⟩) (fun _=>rfl) _
         have hFIN:=rstep_fin HE.out HLS.out.1 HG15.out.1 HG15.out.2.1 T16 HW.out.2.2.2 H7.out.2.2.2 True.intro (by have h1:=HJ.out.choose_spec.2.size;have h2:=H7.out.2.2.1;omega) HH.out.2.2.2.2.1
         have TT:Ux.Touch (fun _=>False) w (W15.setCell ⟨q+1,0,none⟩ (.slice a9 i c9)):=HG15.out.2.2.1.trans (R:=fun _=>False) T16 fun b hb e=>by have:=HW.out.2.2.2;omega
         generalize W15.setCell ⟨q+1,0,none⟩ (.slice a9 i c9)=W9 at e0 TT hFIN⊢
         simp at e0
         refine bodyPost_ret (by simp [results,Tryz.results56,go_sem,e0];try rfl) rfl ?_
         exact ⟨hFIN,TT⟩
end Go.Proofs.YtfccjaboicpohaaGreatDoor
