/- A part of the proof that the statement holds for every input that it names. No other condition. -/
import Derived.Test.YtfccjaboicpohaaGreatDoorQAY
set_option linter.unusedVariables false
set_option linter.unusedSimpArgs false
namespace Go.Proofs.YtfccjaboicpohaaGreatDoor
open Go.RowKit
open Ux (Row Ent sv ev iv elemsE SameE SortedE mapE stepA anchorOk)
open Ux.Sign (cp raw)
set_option maxHeartbeats 16000000 in
set_option maxRecDepth 100000 in
theorem truleQA_ (q:Nat) (T:List Ent) (a:List Nat) (x:RulI) (v1 v2:Value) (w:World) (h:StAt w q T a) (hi:InvT T a) (hx:okI x) (h1:QI w 0 v1 x.seq) (h2:QI w 0 v2 x.exp) (hrel:x.rel=1):
 Calls Tryz.prog 50 #[.pointer (some ⟨q,0,none⟩),.agg #[.int .i64 x.rel,v1,v2]] w fun e w'=>TruleR w' q (ruleQ T a x) e∧Ux.Touch (fun b=>b=q) w w':=by
 obtain ⟨B,mb,E,va,hW,hS,hr⟩:=h
 obtain ⟨b1,c1,rfl,_⟩:=h1.is
 obtain ⟨b2,c2,rfl,_⟩:=h2.is
 obtain ⟨m1,hm1⟩: ∃m,(iv x.seq).length=m:=⟨_,rfl⟩
 obtain ⟨m2,hm2⟩: ∃m,(iv x.exp).length=m:=⟨_,rfl⟩
 rw [hm1] at h1⊢
 rw [hm2] at h2⊢
 obtain ⟨q3,hq3⟩: ∃k,w.heap.size=k:=⟨_,rfl⟩
 obtain ⟨W1,hW1⟩: ∃W,w.alloc (.cells #[.int .i64 x.rel,.slice b1 m1 c1,.slice b2 m2 c2] 117)=W:=⟨_,rfl⟩
 have t1:Ux.Touch (fun _=>False) w W1:=by rw [←hW1];exact (Ux.Touch.refl _ _).alloc _
 have hb1:W1.heap[q3]? =some (.cells #[.int .i64 x.rel,.slice b1 m1 c1,.slice b2 m2 c2] 117 (0,0)):=by rw [←hW1,←hq3];exact heap_alloc_new w _
 have x0:W1.cell? ⟨q3,0,none⟩=some (.int .i64 x.rel):=by rw [cell_of_row W1 q3 0 _ _ (0,0) hb1];rfl
 have x1:W1.cell? ⟨q3,1,none⟩=some (.slice b1 m1 c1):=by rw [cell_of_row W1 q3 1 _ _ (0,0) hb1];rfl
 have hw1:=hW.touch t1
 obtain ⟨d0,d1⟩:=hw1.cells
 have hok:=hW.tab.1.1
 have hel:elemsQ E x.seq=elemsQ T x.seq:=elemsQ_congr (Ux.findE_perm hok.1 hS.1) x.seq
 have hseq:=hx.2.1
 have hsg: ∀e∈E,∀c∈e.1,cp c∨raw c:=fun e he=>hi.sig e (hS.1.mem_iff.1 he)
 have HOF:=Lib.hid fun W (TT:Ux.Touch (fun _=>False) W1 W)=>ofq_ B mb E x.seq (.slice b1 m1 c1) W (hw1.tab.touch0 TT) (Row.touch0 (Row.touch0 h1 t1) TT) hseq.2 hsg (by have:=hseq.1;omega)
 rw [hel] at HOF
 have hr1:x.rel=1:=hrel
 obtain ⟨RES,hRES⟩: ∃r,ruleQ T a x=r:=⟨_,rfl⟩
 have hRES2:RES=if 8<(elemsQ T x.seq).length then (1,T,a) else (0,T,elemsQ T x.seq):=by
  rw [←hRES]
  unfold ruleQ
  rw [if_pos hrel]
 rw [hRES]
 obtain ⟨EL,hEL⟩: ∃l,elemsQ T x.seq=l:=⟨_,rfl⟩
 rw [hEL] at HOF hRES2
 rw [hr1] at x0 hW1 hb1⊢
 have HH:=Lib.hid (And.intro t1 (And.intro hw1 (And.intro hS hRES2)))
 have HC:=Lib.hid fun W (TT:Ux.Touch (fun _=>False) W1 W)=>And.intro (TT.cell d0 (fun f=>f)) (TT.cell x1 (fun f=>f))
 have HNM:Hid ((∀m,va≠.map m)∧∀z,va≠.int .i32 z):=Lib.hid (by
  obtain ⟨_,_,rfl,_⟩:=hr.is
  exact ⟨fun m h=>(by cases h),fun m h=>(by cases h)⟩)
 clear hW hS hr h1 h2 hm1 hm2 hi hx t1 hb1 hw1 hok hel hseq hsg hr1 hRES hRES2 hEL hrel
 go_enter Tryz.func50,Tryz.ntmps50
 go_upto_region 2 with (fail)
 refine Ux.wpr (fun _ w'=>w'.cell? ⟨q,0,none⟩=some (.pointer (some ⟨B,0,none⟩))∧w'.cell? ⟨q3,1,none⟩=some (.slice b1 m1 c1)) (.q [0,1,2,3,5] (.h false [4,6] (.e 7 false false (.line [8,9,10])))) ?_;repeat ((with_reducible refine Ux.qg ?_);refine Ux.qu ?_)
 go_wp2_with (go_at_call 96;fail)
 refine (HOF.out _ (by repeat (first|exact Ux.Touch.refl _ _|refine Ux.Touch.drew ?_))).mono ?_
 rintro e w5 ⟨u,rfl,hu,T5⟩
 obtain ⟨au,cu,hu0,_⟩:=hu.is
 obtain ⟨nu,hnu⟩: ∃n,(ev EL).length=n:=⟨_,rfl⟩
 rw [hnu] at hu0
 subst hu0
 have hel2:EL.length=nu:=by rw [←hnu,Ux.ev_length]
 have T15:Ux.Touch (fun _=>False) W1 w5:=(Ux.Touch.refl _ W1).drew.trans T5 fun _ _ f=>f
 have hw5:=HH.out.2.1.touch T15
 obtain ⟨d0,d1⟩:=hw5.cells
 have z1:=Ux.frozen_row hw5.blk 1
 have T6:Ux.Touch (fun b=>b=q) w5 (w5.setCell ⟨q,1,none⟩ (.slice au nu cu)):=(Ux.Touch.refl (fun b=>b=q) w5).setCell (p:=⟨q,1,none⟩) (fun _=>rfl) _
 have blk6:=Ux.setCell_row hw5.blk 1 (.slice au nu cu)
 have hu6:=(hu.mono (Nat.zero_le _)).touch T6 fun b _ hb e=>by
  obtain ⟨cs,hk⟩:=hu.kind hb
  rw [e,hw5.blk] at hk
  cases hk
 have ht6:TableAt (w5.setCell ⟨q,1,none⟩ (.slice au nu cu)) B mb E:=by
  refine hw5.tab.touchK T6 fun b hb=> ?_
  subst hb
  refine ⟨_,_,hw5.blk,by decide,by decide,fun y hy=> ?_⟩
  simp at hy
  rcases hy with rfl|rfl
  ·exact ⟨fun m h=>(by cases h),fun m h=>(by cases h)⟩
  ·exact HNM.out
 have e1:(w5.setCell ⟨q,1,none⟩ (.slice au nu cu)).cell? ⟨q,1,none⟩=some (.slice au nu cu):=by rw [cell_of_row _ q 1 _ _ (0,0) blk6];rfl
 have H6:=Lib.hid (And.intro blk6 (And.intro hu6 (And.intro ht6 (And.intro hel2 ((HH.out.1.trans T15 fun _ _ f=>f).mono (fun _ _ f=>f.elim)|>.trans T6 fun _ _ e=>e:Ux.Touch (fun b=>b=q) w _)))))
 clear hu hnu hel2 T15 hw5 T6 blk6 hu6 ht6 T5
 by_cases k8:8<nu
 ·have k9:(8:Int)<nu:=by omega
  have HE:=Lib.hid k8
  clear k8
  go_wp2_with (fail)
  go_returns
  refine ⟨?_,H6.out.2.2.2.2⟩
  rw [HH.out.2.2.2,if_pos (by rw [H6.out.2.2.2.1];exact HE.out)]
  exact ⟨rfl,fun h=>by cases h⟩
 ·have k9: ¬((8:Int)<nu):=by omega
  have HE:=Lib.hid k8
  clear k8
  go_wp2_with (fail)
  go_returns
  refine ⟨?_,H6.out.2.2.2.2⟩
  rw [HH.out.2.2.2,if_neg (by rw [H6.out.2.2.2.1];exact HE.out)]
  exact ⟨rfl,fun _=>⟨B,mb,E,_,⟨H6.out.1,H6.out.2.2.1⟩,HH.out.2.2.1,H6.out.2.1⟩⟩
 skip
set_option maxHeartbeats 16000000 in
set_option maxRecDepth 100000 in
theorem truleQB_ (q:Nat) (T:List Ent) (a:List Nat) (x:RulI) (v1 v2:Value) (w:World) (h:StAt w q T a) (hi:InvT T a) (hx:okI x) (h1:QI w 0 v1 x.seq) (h2:QI w 0 v2 x.exp) (hrel:2≤x.rel∧x.rel≤5):
 Calls Tryz.prog 50 #[.pointer (some ⟨q,0,none⟩),.agg #[.int .i64 x.rel,v1,v2]] w fun e w'=>TruleR w' q (ruleQ T a x) e∧Ux.Touch (fun b=>b=q) w w':=by
 obtain ⟨b1,c1,rfl,_⟩:=h1.is
 obtain ⟨b2,c2,rfl,_⟩:=h2.is
 obtain ⟨m1,hm1⟩: ∃m,(iv x.seq).length=m:=⟨_,rfl⟩
 obtain ⟨m2,hm2⟩: ∃m,(iv x.exp).length=m:=⟨_,rfl⟩
 rw [hm1] at h1⊢
 rw [hm2] at h2⊢
 obtain ⟨q3,hq3⟩: ∃k,w.heap.size=k:=⟨_,rfl⟩
 obtain ⟨r,hr⟩: ∃r:Nat,x.rel=(r:Int):=⟨x.rel.toNat,by omega⟩
 obtain ⟨W1,hW1⟩: ∃W,w.alloc (.cells #[.int .i64 (r:Int),.slice b1 m1 c1,.slice b2 m2 c2] 117)=W:=⟨_,rfl⟩
 have t1:Ux.Touch (fun _=>False) w W1:=by rw [←hW1];exact (Ux.Touch.refl _ _).alloc _
 have hb1:W1.heap[q3]? =some (.cells #[.int .i64 (r:Int),.slice b1 m1 c1,.slice b2 m2 c2] 117 (0,0)):=by rw [←hW1,←hq3];exact heap_alloc_new w _
 have x0:W1.cell? ⟨q3,0,none⟩=some (.int .i64 (r:Int)):=by rw [cell_of_row W1 q3 0 _ _ (0,0) hb1];rfl
 obtain ⟨RES,hRES⟩: ∃y,ruleQ T a x=y:=⟨_,rfl⟩
 rw [hr] at hrel⊢
 rw [hRES]
 have hres:RES=if (goT T a r).1≠0 then ((goT T a r).1,T,a) else if codeE (goT T a r).2.1 x.seq ((goT T a r).2.2++elemsQ (goT T a r).2.1 x.exp)≠0 then (codeE (goT T a r).2.1 x.seq ((goT T a r).2.2++elemsQ (goT T a r).2.1 x.exp),T,a) else (0,Ux.putE (goT T a r).2.1 (x.seq.map Int.toNat) ((goT T a r).2.2++elemsQ (goT T a r).2.1 x.exp),(goT T a r).2.2):=by
  rw [←hRES]
  unfold ruleQ
  rw [hr,if_neg (by omega),Int.toNat_natCast]
 have hq:q<w.heap.size:=by
  obtain ⟨B,mb,E,va,hW,_⟩:=h
  exact Ux.lt_of_heap hW.blk
 have hst1:StAt W1 q T a:=by
  obtain ⟨B,mb,E,va,hW,hS,hrow⟩:=h
  exact ⟨B,mb,E,va,hW.touch t1,hS,hrow.touch0 t1⟩
 have hr15:2≤r∧r≤5:=by
  omega
 have HH:=Lib.hid (And.intro t1 (And.intro hb1 (And.intro hst1 (And.intro hi (And.intro hx (And.intro h1 (And.intro h2 (And.intro hres hq))))))))
 have hq3q:q3≠q:=by omega
 have HMV:=Lib.hid fun (L:Nat) (hL:L=1∨L=2∨L=3)=>show Calls Tryz.prog 102 #[.pointer (some ⟨q,0,none⟩),.int .i64 (L:Int)] W1 fun e w'=>MoveR w' q (stepA T a L) e∧Ux.Touch (fun b=>b=q) W1 w' by
  obtain ⟨B,mb,E,va,hW,hS,hrow⟩:=hst1
  exact move_ q B mb E T a va L hL W1 hW hS (fun e he=>hi.sig e (hS.1.mem_iff.1 he)) (by rw [hS.1.length_eq];exact hi.len) hrow hi.alen hi.anchor
 obtain ⟨F5,hF5⟩: ∃b,((r:Int) !=5)=b:=⟨_,rfl⟩
 have hF5r:F5=decide (r<5):=by
  rw [←hF5]
  have hc:r=2∨r=3∨r=4∨r=5:=by omega
  rcases hc with rfl|rfl|rfl|rfl<;>decide
 have hne1:((r:Int)==1)=false:=beq_false_of_ne (by omega)
 have HF5:=Lib.hid (And.intro hF5r hr15)
 clear h hi hx h1 h2 hm1 hm2 hRES hres hq hst1 hb1 hr t1 hF5r hr15 hrel
 go_enter Tryz.func50,Tryz.ntmps50
 go_upto_if 29 with (fail)
 go_cut [5] (fun s5 wx=>Hid ((goT T a r).1=0∧StAt wx q (goT T a r).2.1 (goT T a r).2.2∧Ux.Touch (fun b=>b=q) W1 wx))
 case first=>
  cases F5 with
  |false=>
   have hg:goT T a r=(0,T,a):=by unfold goT;rw [if_neg (of_decide_eq_false HF5.out.1.symm)]
   have HG:=Lib.hid hg
   clear hg
   go_wp2_with (fail)
   go_meet
   rw [HG.out]
   exact Lib.hid ⟨rfl,HH.out.2.2.1,Ux.Touch.refl _ _⟩
  |true=>
   have h5:r<5:=of_decide_eq_true HF5.out.1.symm
   obtain ⟨L,hL⟩: ∃L,r=L+1:=⟨r-1,by have:=HF5.out.2;omega⟩
   have hL3:L=1∨L=2∨L=3:=by have:=HF5.out.2;omega
   have hg:goT T a r=stepA T a L:=by unfold goT;rw [if_pos h5,hL];rfl
   have HM:=Lib.hid (HMV.out L hL3)
   have HG:=Lib.hid hg
   have e1:(r:Int)-2+1=(L:Int):=by omega
   have e2:(r:Int)-1=(L:Int):=by omega
   have r0:(r:Int)≤5:=by omega
   have r2:(2:Int)≤r:=by omega
   clear h5 hL hL3 hg HMV
   go_wp2_with (go_at_call 102;fail)
   refine HM.out.mono ?_
   rintro e w5 ⟨⟨rfl,hst⟩,T5⟩
   rw [←HG.out] at hst⊢
   obtain ⟨SC,hSC⟩: ∃k,(goT T a r).1=k:=⟨_,rfl⟩
   have HS:=Lib.hid (And.intro hst (And.intro hSC T5))
   rw [hSC]
   clear hst hSC T5
   by_cases h0:SC=0
   ·subst h0
    go_wp2_with (fail)
    go_meet
    exact Lib.hid ⟨HS.out.2.1,HS.out.1 HS.out.2.1,HS.out.2.2⟩
   ·have k0:((SC:Int) !=0)=true:=by
     have:((SC:Int)==0)=false:=beq_false_of_ne (by omega)
     show (!((SC:Int)==0))=true
     rw [this]
     rfl
    have k1:((SC:Int)==0)=false:=beq_false_of_ne (by omega)
    have HN0:=Lib.hid h0
    clear h0
    go_wp2_with (fail)
    go_returns
    refine ⟨?_,?_⟩
    ·rw [HH.out.2.2.2.2.2.2.2.1,if_pos (by rw [HS.out.2.1];exact HN0.out),HS.out.2.1]
     exact ⟨rfl,fun h=>absurd h HN0.out⟩
    ·exact (HH.out.1.mono (fun _ _ f=>f.elim):Ux.Touch (fun b=>b=q) w W1).trans HS.out.2.2 fun _ _ e=>e
 obtain ⟨W2,rfl⟩: ∃W,W=wc:=⟨_,rfl⟩
 obtain ⟨hz,⟨B,mb,E,va,hW,hS,hrow⟩,T2⟩:=hcut.out
 obtain ⟨k1,k2,k3,k4,k5⟩:=goT_ok HH.out.2.2.2.1 hz
 have hres:=HH.out.2.2.2.2.2.2.2.1
 rw [if_neg (fun h=>h hz)] at hres
 obtain ⟨T1,hT1⟩: ∃t,(goT T a r).2.1=t:=⟨_,rfl⟩
 obtain ⟨a1,ha1⟩: ∃t,(goT T a r).2.2=t:=⟨_,rfl⟩
 rw [hT1] at hS hres k1 k2 k3
 rw [ha1] at hrow hres k4 k5
 obtain ⟨av,cv,rfl,_⟩:=hrow.is
 obtain ⟨na,hna⟩: ∃n,(ev a1).length=n:=⟨_,rfl⟩
 rw [hna] at hW hrow
 have hna2:a1.length=na:=by rw [←hna,Ux.ev_length]
 have hb2:W2.heap[q3]? =some (.cells #[.int .i64 (r:Int),.slice b1 m1 c1,.slice b2 m2 c2] 117 (0,0)):=T2.heap HH.out.2.1 (fun e=>hq3q e)
 have y1:W2.cell? ⟨q3,1,none⟩=some (.slice b1 m1 c1):=by rw [cell_of_row W2 q3 1 _ _ (0,0) hb2];rfl
 have y2:W2.cell? ⟨q3,2,none⟩=some (.slice b2 m2 c2):=by rw [cell_of_row W2 q3 2 _ _ (0,0) hb2];rfl
 obtain ⟨d0,d1⟩:=hW.cells
 have HKS:=Lib.hid fun W (TT:Ux.Touch (fun _=>False) W2 W)=>And.intro (TT.cell d0 (fun f=>f)) (And.intro (TT.cell y1 (fun f=>f)) (And.intro (TT.cell d1 (fun f=>f)) (TT.cell y2 (fun f=>f))))
 have keepI: ∀(v:Value) (xs:List Value),Row w 0 3 v xs→Row W2 0 3 v xs:=fun v xs hR=>by
  refine (hR.touch0 HH.out.1).touch T2 fun b _ hb e=> ?_
  obtain ⟨cs,hk⟩:=(hR.touch0 HH.out.1).kind hb
  obtain ⟨B0,mb0,E0,va0,hW0,_⟩:=HH.out.2.2.1
  rw [e,hW0.blk] at hk
  cases hk
 have HQ:=Lib.hid (And.intro hW (And.intro hS (And.intro hrow (And.intro k1 (And.intro k2 (And.intro k3 (And.intro k4 (And.intro k5 (And.intro hres (And.intro T2 (And.intro hna2 (And.intro (keepI _ _ HH.out.2.2.2.2.2.1) (keepI _ _ HH.out.2.2.2.2.2.2.1)))))))))))))
 have hel:elemsQ E x.exp=elemsQ T1 x.exp:=elemsQ_congr (Ux.findE_perm hW.tab.1.1.1 hS.1) x.exp
 have HOF:=Lib.hid fun W (TT:Ux.Touch (fun _=>False) W2 W)=>ofq_ B mb E x.exp (.slice b2 m2 c2) W (hW.tab.touch0 TT) ((keepI _ _ HH.out.2.2.2.2.2.2.1).touch0 TT) HH.out.2.2.2.2.1.2.2.2 (fun e he=>k2 e (hS.1.mem_iff.1 he)) (by have:=HH.out.2.2.2.2.1.2.2.1;omega)
 rw [hel] at HOF
 obtain ⟨EX,hEX⟩: ∃l,elemsQ T1 x.exp=l:=⟨_,rfl⟩
 have hEXl:EX.length≤96:=by
  have h:=(elemsQ_ok k1 x.exp).1
  rw [hEX] at h
  have:=HH.out.2.2.2.2.1.2.2.1
  omega
 rw [hEX] at HOF
 have HEX:=Lib.hid (And.intro hEX hEXl)
 clear hz hW hS hrow k1 k2 k3 k4 k5 hres hT1 ha1 hna hna2 hb2 y1 y2 d0 d1 keepI hel hEX hEXl T2 hcut x0
 obtain ⟨f0,f1,f2,f3⟩:=HKS.out W2 (Ux.Touch.refl _ _)
 go_upto_region 10 with (fail)
 refine Ux.wpr (fun _ w'=>w'.cell? ⟨q,0,none⟩=some (.pointer (some ⟨B,0,none⟩))∧w'.cell? ⟨q3,1,none⟩=some (.slice b1 m1 c1)∧w'.cell? ⟨q,1,none⟩=some (.slice av na cv)∧w'.cell? ⟨q3,2,none⟩=some (.slice b2 m2 c2)) (.q [0,1,2,4,6,7,8,10,11,12,14] (.h false [3,5,9,13,15] (.e 16 true false (.e 17 true false (.e 18 true false (.e 19 true false (.q [20,21,22,23] (.line [24])))))))) ?_;repeat ((with_reducible refine Ux.qg ?_);refine Ux.qu ?_)
 go_wp2_with (go_at_call 96;fail)
 refine (HOF.out _ (by repeat (first|exact Ux.Touch.refl _ _|refine Ux.Touch.drew ?_))).mono ?_
 rintro e w6 ⟨u,rfl,hu,T6⟩
 obtain ⟨au,cu,hu0,_⟩:=hu.is
 obtain ⟨nu,hnu⟩: ∃n,(ev EX).length=n:=⟨_,rfl⟩
 rw [hnu] at hu0
 subst hu0
 have T16w:Ux.Touch (fun _=>False) W2 w6:=(Ux.Touch.refl _ W2).drew.trans T6 fun _ _ f=>f
 go_wp2_with (fail)
 refine ⟨HKS.out _ (by repeat (first|exact T19w|exact T18w|exact T17w|exact T16w|exact Ux.Touch.refl _ _|refine Ux.Touch.drew ?_|refine Ux.Touch.alloc ?_ _)),?_⟩
 go_wp2_with (fail)
 refine ⟨HKS.out _ (by repeat (first|exact T19w|exact T18w|exact T17w|exact T16w|exact Ux.Touch.refl _ _|refine Ux.Touch.drew ?_|refine Ux.Touch.alloc ?_ _)),?_⟩
 obtain ⟨W7,hW7⟩: ∃W,w6.alloc (.cells #[.slice av na cv,.slice au nu cu] 49)=W:=⟨_,rfl⟩
 obtain ⟨g7,hg7⟩: ∃k,w6.heap.size=k:=⟨_,rfl⟩
 have t7:Ux.Touch (fun _=>False) w6 W7:=by rw [←hW7];exact (Ux.Touch.refl _ _).alloc _
 have hb7:W7.heap[g7]? =some (.cells #[.slice av na cv,.slice au nu cu] 49 (0,0)):=by rw [←hW7,←hg7];exact heap_alloc_new w6 _
 have T17w:Ux.Touch (fun _=>False) W2 W7:=T16w.trans t7 fun _ _ f=>f
 have HCO:=Lib.hid (concat_ g7 (.slice av na cv) (.slice au nu cu) a1 EX W7 (by rw [cell_of_row W7 g7 0 _ _ (0,0) hb7];rfl) (by rw [cell_of_row W7 g7 1 _ _ (0,0) hb7];rfl) (HQ.out.2.2.1.touch0 T17w) ((Row.mono hu (Nat.zero_le _)).touch0 t7) (by have:=HQ.out.2.2.2.2.2.2.1;omega) (by have:=HEX.out.2;omega))
 rw [hW7]
 clear hb7 t7 hu
 go_wp2_with (go_at_call 103;fail)
 refine HCO.out.mono ?_
 rintro e w8 ⟨uc,rfl,huc,T8⟩
 have T18w:Ux.Touch (fun _=>False) W2 w8:=T17w.trans T8 fun _ _ f=>f
 have HUC:=Lib.hid (Row.mono huc (Nat.zero_le _))
 obtain ⟨ac,cc,huc0,_⟩:=huc.is
 obtain ⟨nc,hnc⟩: ∃n,(ev (a1++EX)).length=n:=⟨_,rfl⟩
 rw [hnc] at huc0
 subst huc0
 clear huc hnc T17w T8
 go_wp2_with (fail)
 refine ⟨HKS.out _ (by repeat (first|exact T19w|exact T18w|exact T17w|exact T16w|exact Ux.Touch.refl _ _|refine Ux.Touch.drew ?_|refine Ux.Touch.alloc ?_ _)),?_⟩
 have HWI:=Lib.hid (twithD_ B mb E T1 x.seq (a1++EX) (.slice b1 m1 c1) (.slice ac nc cc) w8 (HQ.out.1.tab.touch0 T18w) HQ.out.2.1 (iview_row (HQ.out.2.2.2.2.2.2.2.2.2.2.2.1.touch0 T18w)) (by have:=HH.out.2.2.2.2.1.2.1.1;omega) HUC.out (fun y hy=>by
 rcases List.mem_append.1 hy with hy|hy
 ·exact HQ.out.2.2.2.2.2.2.2.1 y hy
 ·rw [←HEX.out.1] at hy
  exact (elemsQ_ok HQ.out.2.2.2.1 x.exp).2 y hy) (by rw [List.length_append];have:=HQ.out.2.2.2.2.2.2.1;have:=HEX.out.2;omega) (by rw [HQ.out.2.1.1.length_eq];exact HQ.out.2.2.2.2.2.1))
 go_wp2_with (go_at_call 19;fail)
 refine HWI.out.mono ?_
 rintro e w9 ⟨P,rfl,hP,T9⟩
 have T19w:Ux.Touch (fun _=>False) W2 w9:=T18w.trans T9 fun _ _ f=>f
 go_wp2_with (fail)
 refine ⟨HKS.out _ (by repeat (first|exact T19w|exact T18w|exact T17w|exact T16w|exact Ux.Touch.refl _ _|refine Ux.Touch.drew ?_|refine Ux.Touch.alloc ?_ _)),?_⟩
 repeat ((with_reducible refine Ux.qg ?_);refine Ux.qu ?_)
 have hw9:=HQ.out.1.touch T19w
 have z0:=Ux.frozen_row hw9.blk 0
 obtain ⟨g0,g1⟩:=hw9.cells
 have hrow9:=HQ.out.2.2.1.touch0 T19w
 have hlt: ∀y∈a1++EX,y<4294967296:=fun y hy=>by
  rcases List.mem_append.1 hy with hy|hy
  ·exact HQ.out.2.2.2.2.2.2.2.1 y hy
  ·rw [←HEX.out.1] at hy
   exact (elemsQ_ok HQ.out.2.2.2.1 x.exp).2 y hy
 have hstep:=step_ok HQ.out.2.1 HQ.out.1.tab.1.1 (fun e he=>HQ.out.2.2.2.2.1 e (HQ.out.2.1.1.mem_iff.1 he)) (by rw [HQ.out.2.1.1.length_eq];exact HQ.out.2.2.2.2.2.1) x.seq (a1++EX) hlt
 have hsame:=hstep.1
 have hre:=HQ.out.2.2.2.2.2.2.2.2.1
 rw [HEX.out.1] at hre
 have TT9:Ux.Touch (fun b=>b=q) w w9:=((HH.out.1.mono (fun _ _ f=>f.elim):Ux.Touch (fun b=>b=q) w W1).trans HQ.out.2.2.2.2.2.2.2.2.2.1 fun _ _ e=>e).trans T19w fun _ _ f=>f.elim
 have hsT:codeE T1 x.seq (a1++EX)=0→stepT T1 x.seq (a1++EX)=Ux.putE T1 (x.seq.map Int.toNat) (a1++EX):=fun h=>by
  unfold stepT
  rw [if_pos h]
 obtain ⟨C,hC⟩: ∃k,codeE T1 x.seq (a1++EX)=k:=⟨_,rfl⟩
 rw [hC] at hP hre hsT⊢
 rcases hP with ⟨hc0,B',mb',rfl,hTA⟩|⟨hc1,rfl⟩
 ·subst hc0
  rw [hsT rfl] at hsame
  rw [if_neg (by simp)] at hre
  have T10:Ux.Touch (fun b=>b=q) w9 (w9.setCell ⟨q,0,none⟩ (.pointer (some ⟨B',0,none⟩))):=(Ux.Touch.refl (fun b=>b=q) w9).setCell (p:=⟨q,0,none⟩) (fun _=>rfl) _
  have blk10:=Ux.setCell_row hw9.blk 0 (.pointer (some ⟨B',0,none⟩))
  have hr10:=hrow9.touch T10 fun b _ hb e=>by
   obtain ⟨cs,hk⟩:=hrow9.kind hb
   rw [e,hw9.blk] at hk
   cases hk
  have ht10:=hTA.touchK T10 fun b hb=>by
   subst hb
   refine ⟨_,_,hw9.blk,by decide,by decide,fun y hy=> ?_⟩
   simp at hy
   rcases hy with rfl|rfl
   ·exact ⟨fun m h=>(by cases h),fun m h=>(by cases h)⟩
   ·exact ⟨fun m h=>(by cases h),fun m h=>(by cases h)⟩
  have HFI:=Lib.hid (And.intro hre (And.intro (show StAt _ q (Ux.putE T1 (x.seq.map Int.toNat) (a1++EX)) a1 from ⟨B',mb',_,_,⟨blk10,ht10⟩,hsame,hr10⟩) (TT9.trans T10 fun _ _ e=>e)))
  clear hTA hw9 hrow9 hlt hstep hsame hre TT9 hsT hC T10 blk10 hr10 ht10 T19w T18w T16w T9
  go_wp2_with (fail)
  go_returns
  rw [HFI.out.1]
  exact ⟨⟨rfl,fun _=>HFI.out.2.1⟩,HFI.out.2.2⟩
 ·have k1:((C:Int)==0)=false:=beq_false_of_ne (by omega)
  rw [if_pos hc1] at hre
  have HFI:=Lib.hid (And.intro hre (And.intro hc1 TT9))
  clear hw9 hrow9 hlt hstep hsame hre TT9 hsT hC hc1 T19w T18w T16w T9
  go_wp2_with (fail)
  go_returns
  rw [HFI.out.1]
  exact ⟨⟨rfl,fun h=>absurd h HFI.out.2.1⟩,HFI.out.2.2⟩
end Go.Proofs.YtfccjaboicpohaaGreatDoor
namespace Go.Proofs.YtfccjaboicpohaaGreatDoor
open Go.RowKit
open Ux (Row Ent sv ev iv SameE)
open Ux.Sign (cp raw)
theorem truleQ_ (q:Nat) (T:List Ent) (a:List Nat) (x:RulI) (v1 v2:Value) (w:World) (h:StAt w q T a) (hi:InvT T a) (hx:okI x) (h1:QI w 0 v1 x.seq) (h2:QI w 0 v2 x.exp) (hr:1≤x.rel∧x.rel≤5):
 Calls Tryz.prog 50 #[.pointer (some ⟨q,0,none⟩),.agg #[.int .i64 x.rel,v1,v2]] w fun e w'=>TruleR w' q (ruleQ T a x) e∧Ux.Touch (fun b=>b=q) w w':=by
 by_cases h0:x.rel=1
 ·exact truleQA_ q T a x v1 v2 w h hi hx h1 h2 h0
 ·exact truleQB_ q T a x v1 v2 w h hi hx h1 h2 (by omega)
set_option maxHeartbeats 16000000 in
set_option maxRecDepth 100000 in
theorem applyQ_ (B mb:Nat) (E T:List Ent) (l:List RulI) (v:Value) (w:World) (hT:TableAt w B mb E) (hS:SameE E T) (hi:InvT T []) (hl:RulesI w 0 v l) (hok: ∀x∈l,okI x) (hlen:l.length≤40):
 Calls Tryz.prog 11 #[.pointer (some ⟨B,0,none⟩),v] w fun e w'=>ApplyR w' (applyQ T [] false l) e∧Ux.Touch (fun _=>False) w w':=by
 obtain ⟨al,cl,rfl,hcel⟩:=hl
 obtain ⟨n,hn⟩: ∃n,l.length=n:=⟨_,rfl⟩
 rw [hn]
 obtain ⟨q,hq⟩: ∃q,w.heap.size=q:=⟨_,rfl⟩
 obtain ⟨W1,hW1⟩: ∃W,w.alloc (.cells #[.pointer (some ⟨B,0,none⟩),.slice none 0 0] 116)=W:=⟨_,rfl⟩
 have T1:Ux.Touch (fun _=>False) w W1:=by rw [←hW1];exact (Ux.Touch.refl _ _).alloc _
 have hb:W1.heap[q]? =some (.cells #[.pointer (some ⟨B,0,none⟩),.slice none 0 0] 116 (0,0)):=by rw [←hW1,←hq];exact heap_alloc_new w _
 have hst:StAt W1 q T []:=⟨B,mb,E,_,⟨hb,hT.touch0 T1⟩,hS,Row.nil _ _ _⟩
 obtain ⟨RES,hRES⟩: ∃r,applyQ T [] false l=r:=⟨_,rfl⟩
 rw [hRES]
 have HH:=Lib.hid (And.intro T1 (And.intro hst (And.intro hi (And.intro hcel (And.intro hok (And.intro hn (And.intro hRES hlen)))))))
 have n0:(n:Int)≤40:=by omega
 clear hT hS hi hcel hok hlen hn T1 hb hst hRES
 go_enter Tryz.func11,Tryz.ntmps11
 go_wp2_with (fail)
 go_loopg [7,17] n (fun gk s7 s17 wr=> ∃(i:Nat) (T1:List Ent) (a1:List Nat) (bb:Bool),s17= .int .i64 i∧s7= .bool bb∧i+gk=n∧Hid (StAt wr q T1 a1∧InvT T1 a1∧applyQ T1 a1 bb (l.drop i)=RES∧Ux.Touch (fun b=>b=q) W1 wr))
 case atStart=>exact ⟨0,T,[],false,rfl,rfl,by omega,Lib.hid ⟨HH.out.2.1,HH.out.2.2.1,HH.out.2.2.2.2.2.2.1,Ux.Touch.refl _ _⟩⟩
 case round=>
  obtain ⟨i,T1,a1,bb,rfl,rfl,hig,HI⟩:=hrel
  have i0:(0:Int)≤i:=by omega
  have T:=HI.out.2.2.2
  have TW:Ux.Touch (fun _=>False) w wr:=HH.out.1.trans T fun b hb e=>by omega
  by_cases hin:i<n
  ·obtain ⟨g',rfl⟩: ∃g',gk=g'+1:=⟨gk-1,by omega⟩
   have i1:(i:Int)<n:=by omega
   obtain ⟨x,hx⟩: ∃x,l[i]? =some x:=⟨_,List.getElem?_eq_getElem (by have:=HH.out.2.2.2.2.2.1;omega)⟩
   obtain ⟨g,v1,v2,rfl,c0,c1,c2,p1,p2⟩:=HH.out.2.2.2.1 i x hx
   obtain ⟨b1,e1,rfl,_⟩:=p1.is
   obtain ⟨b2,e2,rfl,_⟩:=p2.is
   obtain ⟨m1,hm1⟩: ∃m,(iv x.seq).length=m:=⟨_,rfl⟩
   obtain ⟨m2,hm2⟩: ∃m,(iv x.exp).length=m:=⟨_,rfl⟩
   rw [hm1] at c1 p1
   rw [hm2] at c2 p2
   have c0:=TW.cell c0 (fun f=>f)
   have c1:=TW.cell c1 (fun f=>f)
   have c2:=TW.cell c2 (fun f=>f)
   have hxok:=HH.out.2.2.2.2.1 x (List.mem_of_getElem? hx)
   have hap:applyQ T1 a1 bb (l.drop i)=if relOk bb x.rel=false then (1,T1) else if (ruleQ T1 a1 x).1≠0 then ((ruleQ T1 a1 x).1,T1) else applyQ (ruleQ T1 a1 x).2.1 (ruleQ T1 a1 x).2.2 true (l.drop (i+1)):=by rw [Ux.drop_get hx];rfl
   rw [HI.out.2.2.1] at hap
   obtain ⟨rl,hrl⟩: ∃r,x.rel=r:=⟨_,rfl⟩
   rw [hrl] at c0 hap
   have hrb:=hxok.1
   rw [hrl] at hrb
   obtain ⟨q9,hq9⟩: ∃k,wr.heap.size=k:=⟨_,rfl⟩
   obtain ⟨W4,hW4⟩: ∃W,wr.alloc (.cells #[.int .i64 rl,.slice b1 m1 e1,.slice b2 m2 e2] 117)=W:=⟨_,rfl⟩
   have t4:Ux.Touch (fun _=>False) wr W4:=by rw [←hW4];exact (Ux.Touch.refl _ _).alloc _
   have hb4:W4.heap[q9]? =some (.cells #[.int .i64 rl,.slice b1 m1 e1,.slice b2 m2 e2] 117 (0,0)):=by rw [←hW4,←hq9];exact heap_alloc_new wr _
   have x0:W4.cell? ⟨q9,0,none⟩=some (.int .i64 rl):=by rw [cell_of_row W4 q9 0 _ _ (0,0) hb4];rfl
   have x1:W4.cell? ⟨q9,1,none⟩=some (.slice b1 m1 e1):=by rw [cell_of_row W4 q9 1 _ _ (0,0) hb4];rfl
   have x2:W4.cell? ⟨q9,2,none⟩=some (.slice b2 m2 e2):=by rw [cell_of_row W4 q9 2 _ _ (0,0) hb4];rfl
   have HTR:=Lib.hid fun (h15:1≤rl∧rl≤5)=>truleQ_ q T1 a1 x (.slice b1 m1 e1) (.slice b2 m2 e2) W4 (HI.out.1.touch t4) HI.out.2.1 hxok (Row.touch0 (Row.touch0 p1 TW) t4) (Row.touch0 (Row.touch0 p2 TW) t4) (by rw [hrl];exact h15)
   rw [hrl] at HTR
   have HX:=Lib.hid (And.intro hap (And.intro hxok (And.intro TW (T.trans t4 fun _ _ f=>f.elim))))
   have HWX:=Lib.hid (And.intro hW4 hq9)
   obtain ⟨e1v,hE1⟩: ∃b,(rl==1)=b:=⟨_,rfl⟩
   have hE1d:decide (rl=1)=e1v:=by rw [←hE1];by_cases h:rl=1<;>simp [h]
   have hrok:relOk bb rl=((bb||e1v)&&decide (1≤rl)&&decide (rl≤5)):=by unfold relOk;rw [hE1d]
   have HRO:=Lib.hid hrok
   clear hx p1 p2 hm1 hm2 hxok hap t4 hb4 T TW hin hrl hE1d hrok
   go_upto_region 6 with (fail)
   go_cut [7] (fun s7 wx=>s7= .bool (bb||e1v)∧W4=wx)
   case first=>
    cases bb with
    |true=>
     go_wp2_with (fail)
     go_meet
     exact ⟨rfl,rfl⟩
    |false=>
     go_wp2_with (fail)
     go_meet
     exact ⟨rfl,rfl⟩
   obtain ⟨rfl,rfl⟩:=hcut
   obtain ⟨nb,hnb⟩: ∃b,(bb||e1v)=b:=⟨_,rfl⟩
   rw [hnb] at HRO⊢
   have HE:=Lib.hid hE1
   clear hnb hE1
   by_cases hg:nb=true∧1≤rl∧rl≤5
   ·obtain ⟨rfl,g1,g5⟩:=hg
    have k1: ¬(rl<1):=by omega
    have k2: ¬(rl>5):=by omega
    have hk:relOk bb rl=true:=by rw [HRO.out,decide_eq_true g1,decide_eq_true g5];rfl
    have HK:=Lib.hid hk
    clear hk
    have HTR:=Lib.hid (HTR.out ⟨g1,g5⟩)
    go_wp2_with (go_at_call 50;fail)
    refine HTR.out.mono ?_
    rintro e w5 ⟨⟨rfl,hst⟩,T5⟩
    obtain ⟨C,hC⟩: ∃k,(ruleQ T1 a1 x).1=k:=⟨_,rfl⟩
    have HC:=Lib.hid (And.intro hst (And.intro hC T5))
    rw [hC]
    clear hst hC T5 x0 x1 x2 c0 c1 c2
    by_cases h0:C=0
    ·subst h0
     go_wp2_with (fail)
     go_roundg g'
     case measure=>omega
     case rel=>
      have h:=HX.out.1
      rw [HK.out,if_neg (by simp),if_neg (fun hh=>hh HC.out.2.1)] at h
      exact ⟨i+1,_,_,true,rfl,rfl,by omega,Lib.hid ⟨HC.out.1 HC.out.2.1,ruleQ_ok HI.out.2.1 x HC.out.2.1,h.symm,HX.out.2.2.2.trans HC.out.2.2 fun _ _ e=>e⟩⟩
    ·have k5:((C:Int)==0)=false:=beq_false_of_ne (by omega)
     have HN:=Lib.hid h0
     clear h0
     go_wp2_with (fail)
     go_returns
     have h:=HX.out.1
     rw [HK.out,if_neg (by simp),if_pos (by rw [HC.out.2.1];exact HN.out),HC.out.2.1] at h
     refine ⟨?_,(HH.out.1.trans (HX.out.2.2.2.trans HC.out.2.2 fun _ _ e=>e) fun b hb e=>by omega)⟩
     rw [h]
     exact .inl ⟨HN.out,rfl⟩
   ·have hk:relOk bb rl=false:=by
     rw [HRO.out]
     cases nb with
     |false=>rfl
     |true=>
      by_cases h1:1≤rl
      ·rw [decide_eq_false (fun h5=>hg ⟨rfl,h1,h5⟩)]
       simp
      ·rw [decide_eq_false h1]
       rfl
    have HK:=Lib.hid hk
    have HF:Hid (ApplyR W4 RES (.returned (.tuple #[.pointer none,.int .i64 1]))∧Ux.Touch (fun _=>False) w W4):=Lib.hid ⟨by
     have h:=HX.out.1
     rw [HK.out,if_pos rfl] at h
     rw [h]
     exact .inl ⟨by simp,rfl⟩,HH.out.1.trans HX.out.2.2.2 fun b hb e=>by omega⟩
    have HG:=Lib.hid hg
    clear hk hg x1 x2 c0 c1 c2
    cases nb with
    |false=>
     go_wp2_with (fail)
     go_returns
     exact HF.out
    |true=>
     by_cases k1:rl<1
     ·go_wp2_with (fail)
      go_returns
      exact HF.out
     ·have k2:rl>5:=by
       rcases Int.lt_or_le 5 rl with h|h
       ·exact h
       ·exact absurd ⟨rfl,by omega,h⟩ HG.out
      go_wp2_with (fail)
      go_returns
      exact HF.out
  ·have i1: ¬((i:Int)<n):=by omega
   have hnil:l.drop i= []:=List.drop_eq_nil_of_le (by have:=HH.out.2.2.2.2.2.1;omega)
   have hap:=HI.out.2.2.1
   rw [hnil] at hap
   have hap:(if checkE T1=true then ((0:Nat),T1) else (3,T1))=RES:=by cases bb<;>exact hap
   obtain ⟨B1,mb1,E1,va1,hW1',hS1,hr1⟩:=HI.out.1
   obtain ⟨d0,d1⟩:=hW1'.cells
   have hce:checkE E1=checkE T1:=checkE_perm hW1'.tab.1.1.1 hS1.1
   have HCK:=Lib.hid (check_ B1 mb1 E1 wr hW1'.tab (fun e he=>HI.out.2.1.sig e (hS1.1.mem_iff.1 he)))
   rw [hce] at HCK
   have HT9:=Lib.hid (And.intro hap (And.intro hW1'.tab (And.intro hS1 TW)))
   clear hnil hap hW1' hS1 hr1 hce TW T hin
   obtain ⟨V,hV⟩: ∃b,checkE T1=b:=⟨_,rfl⟩
   rw [hV] at HCK HT9
   cases V with
   |true=>
    rw [if_pos rfl] at HCK HT9
    go_wp2_with (go_at_call 23;fail)
    refine HCK.out.mono ?_
    rintro e w5 ⟨rfl,T5⟩
    have d0:=T5.cell d0 (fun f=>f)
    have H5:=Lib.hid T5
    clear T5
    go_wp2_with (fail)
    go_returns
    refine ⟨?_,HT9.out.2.2.2.trans H5.out fun _ _ f=>f⟩
    rw [←HT9.out.1]
    exact .inr ⟨rfl,B1,mb1,E1,rfl,HT9.out.2.1.touch0 H5.out,HT9.out.2.2.1⟩
   |false=>
    rw [if_neg (by simp)] at HCK HT9
    go_wp2_with (go_at_call 23;fail)
    refine HCK.out.mono ?_
    rintro e w5 ⟨rfl,T5⟩
    have H5:=Lib.hid T5
    clear T5
    go_wp2_with (fail)
    go_returns
    refine ⟨?_,HT9.out.2.2.2.trans H5.out fun _ _ f=>f⟩
    rw [←HT9.out.1]
    exact .inl ⟨fun h=>(by cases h),rfl⟩
end Go.Proofs.YtfccjaboicpohaaGreatDoor
