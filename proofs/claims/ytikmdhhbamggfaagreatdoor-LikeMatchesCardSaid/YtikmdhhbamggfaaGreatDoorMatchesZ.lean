/- A part of the proof that the statement holds for every input that it names. No other condition. -/
import Derived.Test.YtikmdhhbamggfaaGreatDoorMake9Z
import Derived.Test.YtikmdhhbamggfaaGreatDoorLikeBZ
set_option linter.unusedVariables false
set_option linter.unusedSimpArgs false
namespace Go.Proofs.YtikmdhhbamggfaaGreatDoor
open Go.RowKit
open Ux (Ent SameE okT Row iv sv)
open Ux.Sign (signs put)
open Ux.Like (pat elt mat)
theorem elt_range {c:Nat} (h:c<1114368):elt c= -1∨elt c= -2∨(0≤elt c∧elt c<1114368):=by
 rw [eltI]
 split
 ·exact .inl rfl
 ·split
  ·exact .inr (.inl rfl)
  ·exact .inr (.inr (by omega))
theorem pat_bound (e:Option Nat): ∀(n:Nat) (l:List Nat),l.length≤n→(∀c∈l,c<1114368)→∀P,pat e l=some P→P.length≤l.length∧∀x∈P,x= -1∨x= -2∨(0≤x∧x<1114368)
 |_,[],_,_,P,h=>by
  cases h
  exact ⟨Nat.le_refl _,fun _ hx=>by cases hx⟩
 |0,c::l,hn,_,_,_=>by simp at hn
 |n+1,c::l,hn,hl,P,h=>by
  rw [Ux.Like.pat_cons] at h
  simp only [List.length_cons] at hn
  by_cases he:e=some c
  ·rw [if_pos he] at h
   cases l with
   |nil=>cases h
   |cons d l=>
    dsimp only at h
    simp only [List.length_cons] at hn
    cases hp:pat e l with
    |none=>rw [hp] at h;cases h
    |some Q=>
     rw [hp] at h
     cases h
     obtain ⟨h1,h2⟩:=pat_bound e n l (by omega) (fun x hx=>hl x (by simp [hx])) Q hp
     refine ⟨by simp only [List.length_cons];omega,fun x hx=> ?_⟩
     rcases List.mem_cons.1 hx with rfl|hx
     ·have:=hl d (by simp)
      exact .inr (.inr (by omega))
     ·exact h2 x hx
  ·rw [if_neg he] at h
   cases hp:pat e l with
   |none=>rw [hp] at h;cases h
   |some Q=>
    rw [hp] at h
    cases h
    obtain ⟨h1,h2⟩:=pat_bound e n l (by omega) (fun x hx=>hl x (by simp [hx])) Q hp
    refine ⟨by simp only [List.length_cons];omega,fun x hx=> ?_⟩
    rcases List.mem_cons.1 hx with rfl|hx
    ·exact elt_range (hl c (by simp))
    ·exact h2 x hx
set_option maxHeartbeats 4000000 in
theorem matches_big (p esc s:ByteArray) (k lv:Int) (ru:ByteArray) (w:World) (hT:Tabs w) (h1:p.size≤140737488355328) (h2:esc.size≤140737488355328) (h3:s.size≤140737488355328) (h:60<p.size∨60<s.size∨20<esc.size):
 Calls Tryz.prog 8 #[.string p,.string esc,.string s,.int .i64 k,.int .i64 lv,.string ru] w fun e w'=>e= .returned (.bool true)∧Ux.Touch (fun _=>False) w w':=by
 have AW:=Lib.hid (awake_ w hT)
 obtain ⟨n1,e1⟩: ∃n,p.size=n:=⟨_,rfl⟩
 obtain ⟨n2,e2⟩: ∃n,esc.size=n:=⟨_,rfl⟩
 obtain ⟨n3,e3⟩: ∃n,s.size=n:=⟨_,rfl⟩
 rw [e1,e2,e3] at h
 rw [e1] at h1
 rw [e2] at h2
 rw [e3] at h3
 have g1:(n1:Int)≤140737488355328:=by omega
 have g2:(n2:Int)≤140737488355328:=by omega
 have g3:(n3:Int)≤140737488355328:=by omega
 have hc:((n1:Int)>60)∨(¬((n1:Int)>60)∧((n3:Int)>60))∨(¬((n1:Int)>60)∧¬((n3:Int)>60)∧((n2:Int)>20)):=by omega
 clear hT h1 h2 h3 h
 rcases hc with g4|⟨g4,g5⟩|⟨g4,g5,g6⟩
 all_goals
  go_enter Tryz.func8,Tryz.ntmps8
  go_wp2_with (go_at_call 31;fail)
  refine AW.out.mono ?_
  rintro e w7 ⟨rfl,T7⟩
  have H7:=Lib.hid T7
  clear T7
  go_wp2
  go_returns
  exact ⟨rfl,H7.out⟩
set_option maxHeartbeats 16000000 in
set_option maxRecDepth 100000 in
theorem matches_ (p esc s:ByteArray) (k lv:Int) (ru:ByteArray) (w:World) (hT:Tabs w) (h1:p.size≤60) (h2:esc.size≤20) (h3:s.size≤60):
 Calls Tryz.prog 8 #[.string p,.string esc,.string s,.int .i64 k,.int .i64 lv,.string ru] w fun e w'=>e= .returned (.bool true)∧Ux.Touch (fun _=>False) w w':=by
 have AW:=Lib.hid fun W (T:Ux.Touch (fun _=>False) w W)=>awake_ W (hT.touch T)
 have HM:=Lib.hid (madeC_ k lv false false ru w hT)
 obtain ⟨oe,hoe⟩: ∃oe,only esc.data.toList=oe:=⟨_,rfl⟩
 obtain ⟨r,hr⟩: ∃r,pat oe (signs p.data.toList)=r:=⟨_,rfl⟩
 have hpb:=fun P (hP:r=some P)=>pat_bound oe (signs p.data.toList).length (signs p.data.toList) (Nat.le_refl _) (fun c hc=>signs_lt _ c hc) P (by rw [hr];exact hP)
 have hpl:(signs p.data.toList).length≤60:=by have:=signs_len p.data.toList;have e:p.data.toList.length=p.size:=by simp
                                              omega
 have HMK:=Lib.hid fun W (T:Ux.Touch (fun _=>False) w W)=>make_ p esc W (by omega) (hT.touch T) (by omega) oe hoe r hr
 have HRP:=Lib.hid fun W=>rpat_ p esc W (by omega) (by omega) oe hoe r hr
 have HT:=Lib.hid hT
 obtain ⟨n1,e1⟩: ∃n,p.size=n:=⟨_,rfl⟩
 obtain ⟨n2,e2⟩: ∃n,esc.size=n:=⟨_,rfl⟩
 obtain ⟨n3,e3⟩: ∃n,s.size=n:=⟨_,rfl⟩
 have g1: ¬((n1:Int)>60):=by omega
 have g2: ¬((n2:Int)>20):=by omega
 have g3: ¬((n3:Int)>60):=by omega
 have HPB:=Lib.hid (And.intro hpb hpl)
 have HS:=Lib.hid h3
 clear hT h1 h2 h3 hoe hr hpb hpl
 go_enter Tryz.func8,Tryz.ntmps8
 go_wp2_with (go_at_call 16;fail)
 refine HM.out.mono ?_
 rintro e w1 ⟨kd,LN,sh,bk,tb,u,E,T,rfl,hM,T1⟩
 have hsh:=hM.shape
 obtain ⟨xa,xm,xc,rfl⟩:=hsh
 unfold cV rcV
 obtain ⟨W1,hW1⟩: ∃W,(w1.alloc (.cells #[.int .i64 kd,.int .i64 (LN:Nat),.bool sh,.bool bk,.pointer tb] 25)).alloc (.cells #[.int .i64 kd,.int .i64 (LN:Nat),.bool sh,.bool bk,.slice xa xm xc] 30)=W:=⟨_,rfl⟩
 have t1:Ux.Touch (fun _=>False) w1 W1:=by rw [←hW1];exact ((Ux.Touch.refl _ _).alloc _).alloc _
 obtain ⟨q1,hq1⟩: ∃q,w1.heap.size=q:=⟨_,rfl⟩
 have r1:W1.heap[q1]? =some (.cells #[.int .i64 kd,.int .i64 (LN:Nat),.bool sh,.bool bk,.pointer tb] 25 (0,0)):=by rw [←hW1,←hq1];exact ((Ux.Touch.refl (fun _=>False) _).alloc _).heap (heap_alloc_new w1 _) (fun f=>f)
 have r2:W1.heap[q1+1]? =some (.cells #[.int .i64 kd,.int .i64 (LN:Nat),.bool sh,.bool bk,.slice xa xm xc] 30 (0,0)):=by
  rw [←hW1,←hq1]
  have:=heap_alloc_new (w1.alloc (.cells #[.int .i64 kd,.int .i64 (LN:Nat),.bool sh,.bool bk,.pointer tb] 25)) (.cells #[.int .i64 kd,.int .i64 (LN:Nat),.bool sh,.bool bk,.slice xa xm xc] 30)
  rwa [World.size_alloc] at this
 have TW1:=T1.trans t1 fun _ _ f=>f
 have HCA:=Lib.hid fun W (T:Ux.Touch (fun _=>False) W1 W)=>And.intro ((CAt.of r1).touch T) ((RAtG.of r2).touch T)
 have hM1:=hM.touch t1
 have H1:=Lib.hid (And.intro TW1 hM1)
 have HW1:=Lib.hid (And.intro hW1 hq1)
 have HTW:Hid (∀W,Ux.Touch (fun _=>False) W1 W→Tabs W):=Lib.hid fun W t=>HT.out.touch (TW1.trans t fun _ _ f=>f)
 clear hM T1 t1 r1 r2 TW1 hW1 hq1 hM1
 go_upto_region 6 with (fail)
 rw [HW1.out.1,HW1.out.2]
 go_wp2_with (go_at_call 32;fail)
 refine (HMK.out W1 H1.out.1).mono ?_
 rintro e w2 ⟨x2,rfl,hx2,T2⟩
 have HX2:=Lib.hid (And.intro hx2 T2)
 clear hx2 T2
 have hc:(∃C:Nat,C≠0∧x2= .tuple #[.agg #[.slice none 0 0],.int .i64 (C:Int)]∧∀W lo y,RPatSays W lo esc.size oe r y→y= .tuple #[.slice none 0 0,.int .i64 (C:Int)])∨(∃P v,r=some P∧x2= .tuple #[.agg #[v],.int .i64 0]∧Row w2 W1.heap.size 3 v (iv P)∧∀W lo y,RPatSays W lo esc.size oe r y→∃v',y= .tuple #[v',.int .i64 0]∧SigAt W lo v' P):=by
  have h:=HX2.out.1
  unfold MakeSays at h
  by_cases hn:esc.size≠0∧oe=none
  ·rw [if_pos hn] at h
   refine .inl ⟨1,by decide,h.1,fun W lo y hy=> ?_⟩
   unfold RPatSays at hy
   rw [if_pos hn] at hy
   exact hy
  ·rw [if_neg hn] at h
   cases r with
   |none=>
    refine .inl ⟨3,by decide,h.1,fun W lo y hy=> ?_⟩
    unfold RPatSays at hy
    rw [if_neg hn] at hy
    exact hy
   |some P=>
    obtain ⟨v,h1,h2⟩:=h
    refine .inr ⟨P,v,rfl,h1,h2,fun W lo y hy=> ?_⟩
    unfold RPatSays at hy
    rw [if_neg hn] at hy
    exact hy
 rcases hc with ⟨C,hC,rfl,hy⟩|⟨P,v,hrP,rfl,hv,hy⟩
 ·obtain ⟨W2,hW2⟩: ∃W,w2.alloc (.cells #[.slice none 0 0] 51)=W:=⟨_,rfl⟩
  have t2:Ux.Touch (fun _=>False) w2 W2:=by rw [←hW2];exact (Ux.Touch.refl _ _).alloc _
  have HW2:=Lib.hid hW2
  have H2:=Lib.hid (HX2.out.2.trans t2 fun _ _ f=>f)
  have HY:=Lib.hid hy
  have k9:((C:Int)==0)=false:=beq_false_of_ne (by omega)
  have k0:((C:Int) !=0)=true:=by show (!((C:Int)==0))=true;rw [k9];rfl
  have k1:((C:Int) !=C)=false:=by simp
  clear t2 hW2 hy hC
  go_upto_region 7 with (fail)
  rw [HW2.out]
  go_wp2_with (go_at_call 33;fail)
  refine (HRP.out W2).mono ?_
  rintro e w3 ⟨x3,rfl,hx3,T3⟩
  obtain rfl:=HY.out _ _ _ hx3
  have H3:=Lib.hid (H1.out.1.trans (H2.out.trans T3 fun _ _ f=>f) fun _ _ f=>f)
  clear hx3 T3
  go_wp2_with (go_at_call 31;fail)
  refine (AW.out w3 H3.out).mono ?_
  rintro e w7 ⟨rfl,T7⟩
  have H7:=Lib.hid (H3.out.trans T7 fun _ _ f=>f)
  clear T7
  go_wp2
  go_returns
  exact ⟨rfl,H7.out⟩
 ·obtain ⟨hP1,hP2⟩:=HPB.out.1 P hrP
  have hP60:P.length≤60:=by have:=HPB.out.2;omega
  obtain ⟨l,rs,hls,hrs,hl⟩:=pre_split P hP2
  obtain ⟨av,cv,hv1,_⟩:=hv.is
  obtain ⟨nP,hnP⟩: ∃n,(iv P).length=n:=⟨_,rfl⟩
  rw [hnP] at hv1
  subst hv1
  obtain ⟨W2,hW2⟩: ∃W,w2.alloc (.cells #[.slice av nP cv] 51)=W:=⟨_,rfl⟩
  have t2:Ux.Touch (fun _=>False) w2 W2:=by rw [←hW2];exact (Ux.Touch.refl _ _).alloc _
  obtain ⟨q2,hq2⟩: ∃q,w2.heap.size=q:=⟨_,rfl⟩
  have r2:W2.heap[q2]? =some (.cells #[.slice av nP cv] 51 (0,0)):=by rw [←hW2,←hq2];exact heap_alloc_new w2 _
  have HW2:=Lib.hid (And.intro hW2 hq2)
  have hv2:=hv.touch0 t2
  have H2:=Lib.hid (And.intro (HX2.out.2.trans t2 fun _ _ f=>f) (And.intro hv2 hP60))
  have HY:=Lib.hid hy
  have HLS:=Lib.hid (And.intro hls (And.intro hrs (And.intro hl hP2)))
  have HPC:=Lib.hid fun W (T:Ux.Touch (fun _=>False) W2 W)=>show W.cell? ⟨q2,0,none⟩=some (.slice av nP cv) from T.cell (by rw [cell_of_row W2 q2 0 _ _ (0,0) r2];rfl) (fun f=>f)
  clear t2 hW2 hq2 r2 hy hv hv2 hls hrs hl hP1 hP2 hP60 hrP hnP
  go_upto_region 7 with (fail)
  rw [HW2.out.1,HW2.out.2]
  go_wp2_with (go_at_call 33;fail)
  refine (HRP.out W2).mono ?_
  rintro e w3 ⟨x3,rfl,hx3,T3⟩
  obtain ⟨v3,rfl,hv3⟩:=HY.out _ _ _ hx3
  have H3:=Lib.hid (And.intro T3 hv3)
  have cp:=HPC.out w3 T3
  clear hx3 T3 hv3
  have HPX:=Lib.hid (prefix_ (.slice av nP cv) l rs HLS.out.2.1 HLS.out.2.2.1 W1.heap.size w3 (by rw [←HLS.out.1];exact H2.out.2.1.touch0 H3.out.1) (by rw [←HLS.out.1];have:=H2.out.2.2;omega))
  obtain ⟨PT,hPT⟩: ∃t:ByteArray,(⟨(put l).toArray⟩:ByteArray)=t:=⟨_,rfl⟩
  obtain ⟨PW,hPW⟩: ∃b,rs.isEmpty=b:=⟨_,rfl⟩
  rw [hPT,hPW] at HPX
  go_wp2_with (go_at_call 34;fail)
  refine HPX.out.mono ?_
  rintro e w4 ⟨rfl,T4⟩
  have H4:=Lib.hid (And.intro (H3.out.1.trans T4 fun _ _ f=>f) (SigAt.touch H3.out.2 (R:=fun _=>False) T4 fun _ _ f=>f))
  clear T4 cp
  have HRX:=Lib.hid (rpre_ v3 l rs HLS.out.2.1 HLS.out.2.2.1 _ w4 (by rw [←HLS.out.1];exact H4.out.2) (by rw [←HLS.out.1];exact HLS.out.2.2.2) (by rw [←HLS.out.1];have:=H2.out.2.2;omega))
  rw [hPT,hPW] at HRX
  clear hPT hPW
  go_wp2_with (go_at_call 35;fail)
  refine HRX.out.mono ?_
  rintro e w5 ⟨rfl,T5⟩
  have H5:=Lib.hid (And.intro (H4.out.1.trans T5 fun _ _ f=>f) (SigAt.touch H4.out.2 (R:=fun _=>False) T5 fun _ _ f=>f))
  clear T5
  obtain ⟨R,hR⟩: ∃R,mat (eqvM kd (LN:Nat) sh bk tb E) P (sv (signs s.data.toList))=R:=⟨_,rfl⟩
  have HMT:=Lib.hid fun W (T:Ux.Touch (fun _=>False) W2 W)=>match_ (eqvM kd (LN:Nat) sh bk tb E) kd (LN:Nat) sh bk tb P (.slice av nP cv) W1.heap.size s W (by have:=HS.out;omega) (HTW.out W (H2.out.1.trans T fun _ _ f=>f)) (H2.out.2.1.touch0 T) (by have:=H2.out.2.2;omega) (fun a b W' ha ha1 ha2 hb T'=>by
   have hab:=HLS.out.2.2.2 a ha
   obtain ⟨an,rfl⟩: ∃an:Nat,a=an:=⟨a.toNat,by omega⟩
   obtain ⟨bn,hbn,rfl⟩: ∃bn:Nat,bn<1114368∧b=bn:=by
    unfold sv at hb
    obtain ⟨c,hc,rfl⟩:=List.mem_map.1 hb
    exact ⟨c,signs_lt _ c hc,rfl⟩
   have TT:=H2.out.1.trans (T.trans T' fun _ _ f=>f) fun _ _ f=>f
   exact lalike_ kd (LN:Nat) H1.out.2.kind sh bk tb E H1.out.2.ok an bn (by omega) hbn W' (H1.out.2.tab.touch TT) (HTW.out W' TT))
  have HRM:=Lib.hid fun W (T:Ux.Touch (fun _=>False) w5 W)=>rmatch_ H1.out.2 P HLS.out.2.2.2 (by have:=H2.out.2.2;omega) v3 _ s (by have:=HS.out;omega) W (H2.out.1.trans (H5.out.1.trans T fun _ _ f=>f) fun _ _ f=>f) (SigAt.touch H5.out.2 (R:=fun _=>False) T fun _ _ f=>f)
  rw [hR] at HMT HRM
  unfold rcV at HRM
  clear hR
  obtain ⟨⟨x0,x1,x2,x3,x4⟩,y0,y1,y2,y3,y4⟩:=HCA.out w5 (H2.out.1.trans H5.out.1 fun _ _ f=>f)
  have cp:=HPC.out w5 H5.out.1
  go_upto_region 14 with (fail)
  refine Ux.wpr (fun _ w'=>w'.cell? ⟨q2,0,none⟩=some (.slice av nP cv)∧(w'.cell? ⟨q1,0,none⟩=some (.int .i64 kd)∧w'.cell? ⟨q1,1,none⟩=some (.int .i64 (LN:Nat))∧w'.cell? ⟨q1,2,none⟩=some (.bool sh)∧w'.cell? ⟨q1,3,none⟩=some (.bool bk)∧w'.cell? ⟨q1,4,none⟩=some (.pointer tb))∧w'.cell? ⟨q1+1,0,none⟩=some (.int .i64 kd)∧w'.cell? ⟨q1+1,1,none⟩=some (.int .i64 (LN:Nat))∧w'.cell? ⟨q1+1,2,none⟩=some (.bool sh)∧w'.cell? ⟨q1+1,3,none⟩=some (.bool bk)∧w'.cell? ⟨q1+1,4,none⟩=some (.slice xa xm xc)) (.h false [0,1,4] (.q [2,5,6] (.e 3 true false (.e 7 true false (.q [8,9,10,11,12,13,14,15,16,17,18,19] (.e 20 true false (.q [21] (.line [22])))))))) ?_;repeat ((with_reducible refine Ux.qg ?_);refine Ux.qu ?_)
  clear x0 x1 x2 x3 x4 y0 y1 y2 y3 y4 cp
  go_wp2_with (go_at_call 36;fail)
  refine (HMT.out _ H5.out.1.drew).mono ?_
  rintro e w6 ⟨rfl,T6⟩
  have H6:=Lib.hid (And.intro (H5.out.1.drew.trans T6 fun _ _ f=>f) (((Ux.Touch.refl (fun _=>False) w5).drew).trans T6 fun _ _ f=>f))
  clear T6
  have S6:=And.intro (HPC.out w6 H6.out.1) (HCA.out w6 (H2.out.1.trans H6.out.1 fun _ _ f=>f))
  go_wp2_with (fail)
  refine ⟨S6,?_⟩
  clear S6
  repeat ((with_reducible refine Ux.qg ?_);refine Ux.qu ?_)
  go_wp2_with (go_at_call 37;fail)
  refine (HRM.out w6 H6.out.2).mono ?_
  rintro e w7 ⟨rfl,T7⟩
  have H7:=Lib.hid (H6.out.1.trans T7 fun _ _ f=>f)
  clear T7
  have S7:=And.intro (HPC.out w7 H7.out) (HCA.out w7 (H2.out.1.trans H7.out fun _ _ f=>f))
  have q9:(PT.toList==PT.toList)=true:=by simp
  have q8:(R==R)=true:=by simp
  have q7:(PW==PW)=true:=by simp
  go_wp2_with (fail)
  refine ⟨S7,?_⟩
  clear S7
  repeat ((with_reducible refine Ux.qg ?_);refine Ux.qu ?_)
  go_wp2_with (go_at_call 31;fail)
  refine (AW.out w7 (H1.out.1.trans (H2.out.1.trans H7.out fun _ _ f=>f) fun _ _ f=>f)).mono ?_
  rintro e w8 ⟨rfl,T8⟩
  have H8:=Lib.hid (H7.out.trans T8 fun _ _ f=>f)
  clear T8
  have S8:=And.intro (HPC.out w8 H8.out) (HCA.out w8 (H2.out.1.trans H8.out fun _ _ f=>f))
  go_wp2_with (fail)
  refine ⟨S8,?_⟩
  clear S8
  repeat ((with_reducible refine Ux.qg ?_);refine Ux.qu ?_)
  go_wp2
  go_returns
  exact ⟨rfl,H1.out.1.trans (H2.out.1.trans H8.out fun _ _ f=>f) fun _ _ f=>f⟩
theorem matchesLaw_ (p esc s:ByteArray) (k lv:Int) (ru:ByteArray) (w:World) (hT:Tabs w) (h1:p.size≤140737488355328) (h2:esc.size≤140737488355328) (h3:s.size≤140737488355328) (_h4:ru.size≤140737488355328):
 Calls Tryz.prog 8 #[.string p,.string esc,.string s,.int .i64 k,.int .i64 lv,.string ru] w fun e w'=>e= .returned (.bool true)∧Ux.Touch (fun _=>False) w w':=by
 by_cases h:60<p.size∨60<s.size∨20<esc.size
 ·exact matches_big p esc s k lv ru w hT h1 h2 h3 h
 ·exact matches_ p esc s k lv ru w hT (by omega) (by omega) (by omega)
end Go.Proofs.YtikmdhhbamggfaaGreatDoor
