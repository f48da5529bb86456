/- A part of the proof that the statement holds for every input that it names. No other condition. -/
import Derived.Test.YtfccjaboicpohaaGreatDoorSortCZ
set_option linter.unusedVariables false
set_option linter.unusedSimpArgs false
namespace Go.Proofs.YtfccjaboicpohaaGreatDoor
open Go.RowKit
open Ux (Row StEq Srt TView SCap kLt slt rootE rootT)
set_option maxHeartbeats 32000000 in
set_option maxRecDepth 100000 in
theorem sortsLaw_ (k0 lv:Int) (sh0:Bool) (v:Value) (l:List ByteArray) (w:World) (hv:TView w v l) (hc:SCap v) (hT:Tabs w)
 (hsym: ∀(g N:Nat) (cs:Value) (K:ByteArray→ByteArray) (w0:World),N≤1000000→CmpOk w0 cs K→w0.heap.size≤g→∀D,SymAll g N N cs K w0 D):
 Calls Tryz.prog 6 #[.int .i64 k0,.int .i64 lv,.bool sh0,v] w fun e w'=>e= .returned (.bool true)∧Ux.Touch (fun _=>False) w w':=by
 have AW:=Lib.hid fun W (T:Ux.Touch (fun _=>False) w W)=>awake8_ W (hT.touch T)
 have HM:=Lib.hid (madeC0_ k0 lv sh0 false w hT)
 have HSY:=Lib.hid hsym
 have hv':=hv
 obtain ⟨a,c,rfl,hl,-⟩:=hv'
 obtain ⟨n,hn⟩: ∃n,l.length=n:=⟨_,rfl⟩
 have HN:=Lib.hid hn
 rw [hn] at hl hv hc⊢
 have HH:=Lib.hid (And.intro hv (And.intro hT hc))
 unfold maxLen at hl
 have nB:(n:Int)≤9223372036854775807:=by omega
 clear hv hT hl hn hc hsym
 go_enter Tryz.func6,Tryz.ntmps6
 go_wp2_with (go_at_call 26;fail)
 refine HM.out.mono ?_
 rintro e w1 ⟨kd,LN,sh,bk,tb,u,rfl,hM,T1⟩
 obtain ⟨xa,xn,xc,rfl⟩:=hM.shape
 unfold cV rcV
 obtain ⟨W1,hW1⟩: ∃W,(w1.alloc (.cells #[.int .i64 kd,.int .i64 (LN:Nat),.bool sh,.bool bk,.pointer tb] 66)).alloc (.cells #[.int .i64 kd,.int .i64 (LN:Nat),.bool sh,.bool bk,.slice xa xn xc] 68)=W:=⟨_,rfl⟩
 have t1:Ux.Touch (fun _=>False) w1 W1:=by rw [←hW1];exact ((Ux.Touch.refl _ _).alloc _).alloc _
 obtain ⟨q1,hq1⟩: ∃q,w1.heap.size=q:=⟨_,rfl⟩
 have r1:W1.heap[q1]? =some (.cells #[.int .i64 kd,.int .i64 (LN:Nat),.bool sh,.bool bk,.pointer tb] 66 (0,0)):=by rw [←hW1,←hq1];exact ((Ux.Touch.refl (fun _=>False) _).alloc _).heap (heap_alloc_new w1 _) (fun f=>f)
 have TW1:=T1.trans t1 fun _ _ f=>f
 have hM1:=hM.touch t1
 have HCA:=Lib.hid fun W (T:Ux.Touch (fun _=>False) W1 W)=>(CAt.of r1).touch T
 have H1:=Lib.hid TW1
 have HW1:=Lib.hid (And.intro hW1 hq1)
 have hcs: ∀a b:ByteArray,cmpC kd (LN:Nat) sh bk tb rootE a b=cmpStr (keyP kd (LN:Nat) sh bk tb rootE a) (keyP kd (LN:Nat) sh bk tb rootE b):=fun a b=>by rw [←hM1.order a b,cmpStr_B]
 have HTW:Hid (∀W,Ux.Touch (fun _=>False) W1 W→Tabs W):=Lib.hid fun W t=>HH.out.2.1.touch (TW1.trans t fun _ _ f=>f)
 obtain ⟨K,hK⟩: ∃K,keyP kd (LN:Nat) sh bk tb rootE=K:=⟨_,rfl⟩
 rw [hK] at hcs
 have HCS:=Lib.hid (And.intro hcs hM1.tab)
 have HSA:=Lib.hid fun (x y:ByteArray) W (t:Ux.Touch (fun _=>False) W1 W) (hx:x.size≤1000000) (hy:y.size≤1000000)=>csame_ kd (LN:Nat) sh bk tb rootE x y W (hM1.tab.touch t) (HTW.out W t) hx hy
 have HCM:=Lib.hid fun (x y:ByteArray) W (t:Ux.Touch (fun _=>False) W1 W) (hx:x.size≤1000000) (hy:y.size≤1000000)=>ccmp_ kd (LN:Nat) sh bk tb rootE x y W (hM1.tab.touch t) (HTW.out W t) hx hy
 unfold cV at HSA HCM
 have H40:=n
 clear hM T1 t1 r1 TW1 hW1 hq1 hM1 hcs hK H40
 go_upto_region 2 with (fail)
 rw [HW1.out.1,HW1.out.2]
 by_cases h40:40<n
 ·have q1:(n:Int)>40:=by omega
  clear h40
  go_wp2_with (go_at_call 27;fail)
  refine (AW.out _ H1.out).mono ?_
  rintro e w7 ⟨rfl,T7⟩
  have H7:=Lib.hid (H1.out.trans T7 fun _ _ f=>f)
  clear T7
  go_wp2
  go_returns
  exact ⟨rfl,H7.out⟩
 have h40':n≤40:=by omega
 have q40: ¬(n:Int)>40:=by omega
 have n40:(n:Int)≤40:=by omega
 have HN4:=Lib.hid h40'
 have hv1:TView W1 (.slice a n c) l:=HH.out.1.touch H1.out
 obtain ⟨qo,hqo⟩: ∃q,W1.heap.size=q:=⟨_,rfl⟩
 have hb:(W1.alloc (.cells #[] 9)).heap[qo]? =some (.cells #[] 9 (0,0)):=by rw [←hqo];exact heap_alloc_new W1 _
 have T2:Ux.Touch (fun _=>False) W1 (W1.alloc (.cells #[] 9)):=(Ux.Touch.refl _ _).alloc _
 obtain ⟨r,w3,hrun,hrow,T3,hown,go,co,hr,-⟩:=copyS _ qo hb _ l (hv1.touch T2) (by rw [HN.out];omega)
 subst hr
 rw [HN.out] at hrun hrow hown
 have T13:Ux.Touch (fun _=>False) W1 w3:=T2.trans T3 fun b hb e=>by omega
 have HRUN:=Lib.hid hrun
 have HO:=Lib.hid (And.intro (show TRow w3 go n co l from ⟨HN.out,hrow⟩) T13)
 clear h40 h40' hv1 hb T2 hrun hrow T3 hown T13
 go_wp2_with (at_builtin;refine Ux.wpList_app (v1:= .slice (some ⟨qo,0,none⟩) 0 0) (x1:= .slice a n c) rfl _ _ _ _ rfl rfl rfl (HRUN.out _) ?_)
 clear hqo
 go_loopg [13] n (fun gk s13 wr=> ∃i:Nat,s13= .int .i64 i∧i+gk=n∧Hid ((∀j x,j<i→l[j]? =some x→x.size≤60)∧wr=w3))
 case atStart=>exact ⟨0,rfl,by omega,Lib.hid ⟨fun j x h=>absurd h (by omega),rfl⟩⟩
 case round=>
  obtain ⟨i,rfl,hig,HI⟩:=hrel
  obtain rfl:wr=w3:=HI.out.2
  have i0:(0:Int)≤i:=by omega
  by_cases hlt:i<n
  ·obtain ⟨g',rfl⟩: ∃g',gk=g'+1:=⟨gk-1,by omega⟩
   have i1:(i:Int)<n:=by omega
   obtain ⟨x,hx⟩:=get_lt (l:=l) (i:=i) (by rw [HN.out];exact hlt)
   obtain ⟨xa2,xc2,hxe,_,hc⟩:=HH.out.1
   obtain ⟨hsz,b,f,hab,hbl,hcell⟩:=hc i x hx
   rw [HN.out] at hxe
   cases hxe
   subst hab
   have c1:=(H1.out.trans HO.out.2 fun _ _ f=>f).cell hcell (fun f=>f)
   obtain ⟨z,hz⟩: ∃z,x.size=z:=⟨_,rfl⟩
   have zB:(z:Int)≤9223372036854775807:=by unfold maxLen at hsz;omega
   have HX:=Lib.hid (And.intro hlt (And.intro hig hx))
   have HZ:=Lib.hid hz
   clear hlt hig hx hc hsz hbl hcell
   by_cases h60:60<z
   ·have q6:(z:Int)>60:=by omega
    clear h60
    go_wp2_with (go_at_call 27;fail)
    refine (AW.out _ (H1.out.trans HO.out.2 fun _ _ f=>f)).mono ?_
    rintro e w7 ⟨rfl,T7⟩
    have H7:=Lib.hid ((H1.out.trans HO.out.2 fun _ _ f=>f).trans T7 fun _ _ f=>f)
    clear T7
    go_wp2
    go_returns
    exact ⟨rfl,H7.out⟩
   ·have q6: ¬(z:Int)>60:=by omega
    have H6:=Lib.hid h60
    clear h60
    go_wp2
    go_roundg g'
    case measure=>have:=HX.out;omega
    case rel=>
     refine ⟨i+1,rfl,by have:=HX.out;omega,Lib.hid ⟨fun j y hj hy=> ?_,rfl⟩⟩
     by_cases e:j=i
     ·subst e
      rw [HX.out.2.2] at hy
      cases hy
      have:=H6.out
      have:=HZ.out
      omega
     ·exact HI.out.1 j y (by omega) hy
  ·obtain rfl:i=n:=by omega
   have i1: ¬(i:Int)<i:=by omega
   have hs60: ∀x∈l,x.size≤60:=fun x hx=>by
    obtain ⟨j,hj⟩:=List.getElem?_of_mem hx
    exact HI.out.1 j x (by have:=(List.getElem?_eq_some_iff.1 hj).1;rw [HN.out] at this;exact this) hj
   have HS:=Lib.hid hs60
   clear hlt hig hs60
   have hsort:Calls Tryz.prog 28 #[.agg #[.int .i64 kd,.int .i64 (LN:Nat),.bool sh,.bool bk,.pointer tb],.slice a i c] wr fun e w'=> ∃vs m,e= .returned vs∧TView w' vs m∧m.length=i∧StEq K l m∧Srt K m 0 i∧Ux.Touch (fun _=>False) wr w':=by
    rcases HH.out.2.2 with hx|⟨ad,nn,cc,hx,hle,hcm⟩
    ·have hx2:=hx
     injection hx2 with a1 a2 a3
     subst a1 a2 a3
     refine (csortNil kd (LN:Nat) sh bk tb wr).mono ?_
     rintro e w' ⟨rfl,T⟩
     have hl0:l= []:=List.eq_nil_of_length_eq_zero HN.out
     exact ⟨_,[],rfl,⟨none,0,rfl,Nat.zero_le _,fun j y hy=>by simp at hy⟩,rfl,by rw [hl0];exact StEq.refl _,Srt.empty _ (by omega),T⟩
    ·have hx2:=hx
     injection hx2 with a1 a2 a3
     subst a1 a2 a3
     have hE:=HCS.out.2.touch HO.out.2
     have hTT:=HTW.out wr HO.out.2
     have hvw:=(HH.out.1.touch H1.out).touch HO.out.2
     refine (csort_ kd (LN:Nat) sh bk tb rootE K ad i c l wr hvw (by have:=HN.out;have:=HN4.out;omega) (fun x hx=>by have:=HS.out x hx;omega) hTT hE (fun g hg D=>HSY.out g i _ K wr (by have:=HN4.out;omega) (fun a b W T ha hb=>by
      have:=ccmp_ kd (LN:Nat) sh bk tb rootE a b W (hE.touch T) (hTT.touch T) ha hb
      rwa [HCS.out.1] at this) hg D) (fun a b _ _=>HCS.out.1 a b)).mono ?_
     rintro e w' ⟨g,m,rfl,hg,hrow,h1,h2,T⟩
     exact ⟨_,m,rfl,hrow.view (by have:=HN4.out;omega) (fun x hx=>by have:=HS.out x (h1.mem hx);omega) hrow.lt,hrow.1,h1,h2,T⟩
   have HSO:=Lib.hid hsort
   clear hsort
   obtain ⟨x0,x1,x2,x3,x4⟩:=HCA.out wr HO.out.2
   go_wp2_with (go_at_call 28;fail)
   refine HSO.out.mono ?_
   rintro e w4 ⟨vs,m,rfl,hvs,hml,hst,hsr,T4⟩
   have hvs':=hvs
   obtain ⟨av,cv,rfl,-⟩:=hvs'
   rw [hml] at hvs⊢
   obtain ⟨w33,rfl⟩: ∃W,W=wr:=⟨_,rfl⟩
   have H4:=Lib.hid (And.intro hvs (And.intro hml (And.intro hst (And.intro hsr (HO.out.2.trans T4 fun _ _ f=>f)))))
   have HL4:=Lib.hid (((HH.out.1.touch H1.out).touch HO.out.2).touch T4)
   have HO4:=Lib.hid (HO.out.1.touch T4 fun f=>f)
   have HCW:=Lib.hid fun W (T:Ux.Touch (fun _=>False) w4 W)=>HCA.out W (H4.out.2.2.2.2.trans T fun _ _ f=>f)
   clear hvs hml hst hsr T4 x0 x1 x2 x3 x4
   go_wp2_with (fail)
   go_loopg [15] i (fun gk s15 wr=> ∃j:Nat,s15= .int .i64 j∧j+gk=i∧Hid (Ux.Touch (fun _=>False) w4 wr))
   case atStart=>exact ⟨0,rfl,by omega,Lib.hid (Ux.Touch.refl _ _)⟩
   case round=>
    obtain ⟨j,rfl,hjg,HJ⟩:=hrel
    have j0:(0:Int)≤j:=by omega
    by_cases hlt:j<i
    ·obtain ⟨g',rfl⟩: ∃g',gk=g'+1:=⟨gk-1,by omega⟩
     have j1:(j:Int)<i:=by omega
     obtain ⟨x,hx⟩:=get_lt (l:=l) (i:=j) (by rw [HN.out];exact hlt)
     obtain ⟨xa2,xc2,hxe,_,hc⟩:=HL4.out
     obtain ⟨_,b,f,hab,_,hcell⟩:=hc j x hx
     rw [HN.out] at hxe
     cases hxe
     subst hab
     have hcell2:=HO4.out.cell hx
     have HF:=Lib.hid fun W (T:Ux.Touch (fun _=>False) w4 W)=>And.intro (T.cell hcell fun f=>f) (T.cell hcell2 fun f=>f)
     have sxx:=str_self' x
     have HX:=Lib.hid (And.intro hlt hjg)
     clear hx hc hcell hcell2
     by_cases hz:j=0
     ·subst hz
      have z0: ¬(0:Int)>0:=by omega
      obtain ⟨d0,d1⟩:=HF.out wr HJ.out
      clear hlt hjg
      go_upto_region 16 with (fail)
      refine Ux.wpr (fun _ w'=>w'.cell? ⟨b,f,none⟩=some (.string x)∧w'.cell? ⟨go,0,none⟩=some (.string x)) (.q [0,1,2,4,5,6] (.h false [3,7] (.q [8,9,10,11,12,14,15,16,17,19,20,21] (.h false [13,18,22] (.e 23 true false (.q [24,25,26] (.line []))))))) ?_;repeat ((with_reducible refine Ux.qg ?_);refine Ux.qu ?_)
      have HU:=Lib.hid (HJ.out.trans (Ux.Touch.refl (fun _=>False) wr).drew fun _ _ f=>f)
      refine wpList_skip rfl ?_
      simp only [wpList,Act.put,List.setIfInBounds_toArray,List.set_cons_zero,List.set_cons_succ,Exit.then]
      refine ⟨HF.out _ HU.out,?_⟩
      repeat ((with_reducible refine Ux.qg ?_);refine Ux.qu ?_)
      go_wp2
      go_roundg g'
      case measure=>have:=HX.out;omega
      case rel=>exact ⟨1,rfl,by have:=HX.out;omega,HU⟩
     ·obtain ⟨e,rfl⟩: ∃e,j=e+1:=⟨j-1,by omega⟩
      obtain ⟨u,hu⟩:=get_lt (l:=m) (i:=e) (by rw [H4.out.2.1];omega)
      obtain ⟨t,ht⟩:=get_lt (l:=m) (i:=e+1) (by rw [H4.out.2.1];omega)
      obtain ⟨xa3,xc3,hxe,_,hc⟩:=H4.out.1
      obtain ⟨_,bs,fs,hab,_,hcu⟩:=hc e u hu
      obtain ⟨_,bs',fs',hab',_,hct⟩:=hc (e+1) t ht
      rw [H4.out.2.1] at hxe
      cases hxe
      subst hab
      cases hab'
      obtain ⟨r,hr⟩: ∃r,cmpC kd (LN:Nat) sh bk tb rootE u t=r:=⟨_,rfl⟩
      have hr0:decide (r>0)=false:=by
       rw [←hr,HCS.out.1]
       have:=H4.out.2.2.2.1 e (e+1) u t (Nat.zero_le _) (by omega) hlt hu ht
       unfold kLt at this
       unfold cmpStr
       rw [this]
       cases slt (K u) (K t)<;>decide
      have su:u.size≤1000000:=by have:=HS.out u (H4.out.2.2.1.mem (List.mem_of_getElem? hu));omega
      have st:t.size≤1000000:=by have:=HS.out t (H4.out.2.2.1.mem (List.mem_of_getElem? ht));omega
      have HCP:=Lib.hid fun W (T:Ux.Touch (fun _=>False) w4 W)=>HCM.out u t W (H4.out.2.2.2.2.trans T fun _ _ f=>f) su st
      rw [hr] at HCP
      obtain ⟨j,hj⟩: ∃j,e+1=j:=⟨_,rfl⟩
      rw [hj] at hct HF j0 j1 HX⊢
      have eI:(j:Int)-1=e:=by omega
      have e0:(0:Int)≤e:=by omega
      have e1:(e:Int)<i:=by omega
      have jd:decide (0<j)=true:=decide_eq_true (by omega)
      have jd2:decide ((0:Int)<j)=true:=decide_eq_true (by omega)
      have HF2:=Lib.hid fun W (T:Ux.Touch (fun _=>False) w4 W)=>And.intro (HF.out W T) (And.intro (And.intro (T.cell hcu fun f=>f) (T.cell hct fun f=>f)) (HCW.out W T))
      obtain ⟨⟨d0,d1⟩,⟨d2,d3⟩,x0,x1,x2,x3,x4⟩:=HF2.out wr HJ.out
      have HX2:=Lib.hid hj
      clear hlt hjg hz hu ht hc hcu hct hr su st hj
      go_upto_region 16 with (fail)
      refine Ux.wpr (fun _ w'=>(w'.cell? ⟨b,f+j,none⟩=some (.string x)∧w'.cell? ⟨go,j,none⟩=some (.string x))∧(w'.cell? ⟨bs,fs+e,none⟩=some (.string u)∧w'.cell? ⟨bs,fs+j,none⟩=some (.string t))∧w'.cell? ⟨q1,0,none⟩=some (.int .i64 kd)∧w'.cell? ⟨q1,1,none⟩=some (.int .i64 (LN:Nat))∧w'.cell? ⟨q1,2,none⟩=some (.bool sh)∧w'.cell? ⟨q1,3,none⟩=some (.bool bk)∧w'.cell? ⟨q1,4,none⟩=some (.pointer tb)) (.q [0,1,2,4,5,6] (.h false [3,7] (.q [8,9,10,11,12,14,15,16,17,19,20,21] (.h false [13,18,22] (.e 23 true false (.q [24,25,26] (.line []))))))) ?_;repeat ((with_reducible refine Ux.qg ?_);refine Ux.qu ?_)
      have HU:=Lib.hid (HJ.out.trans (Ux.Touch.refl (fun _=>False) wr).drew fun _ _ f=>f)
      go_wp2_with (go_at_call 29;fail)
      refine (HCP.out _ HU.out).mono ?_
      rintro z w5 ⟨rfl,T5⟩
      have HU:=Lib.hid (HU.out.trans T5 fun _ _ f=>f)
      clear T5
      go_wp2_with (fail)
      refine ⟨HF2.out _ HU.out,?_⟩
      repeat ((with_reducible refine Ux.qg ?_);refine Ux.qu ?_)
      go_wp2
      go_roundg g'
      case measure=>have:=HX.out;omega
      case rel=>exact ⟨j+1,rfl,by have:=HX.out;omega,HU⟩
    ·obtain rfl:j=i:=by omega
     have j1: ¬(j:Int)<j:=by omega
     have HJ2:=HJ
     clear hlt hjg j0 j1 i0 HJ i1
     obtain ⟨M,hM⟩: ∃M,M=j:=⟨_,rfl⟩
     subst hM
     go_wp2_with (fail)
     go_loopg [16] M (fun gk s16 wr=> ∃p:Nat,s16= .int .i64 p∧p+gk=M∧Hid (Ux.Touch (fun _=>False) w4 wr))
     case atStart=>exact ⟨0,rfl,by omega,HJ2⟩
     case round=>
      clear HJ2
      obtain ⟨p,rfl,hpg,HP⟩:=hrel
      obtain ⟨wo,hwo⟩: ∃W,W=wr:=⟨_,rfl⟩
      subst hwo
      have p0:(0:Int)≤p:=by omega
      by_cases hlt:p<M
      ·obtain ⟨g',rfl⟩: ∃g',gk=g'+1:=⟨gk-1,by omega⟩
       have p1:(p:Int)<M:=by omega
       obtain ⟨x,hx⟩:=get_lt (l:=l) (i:=p) (by rw [HN.out];exact hlt)
       obtain ⟨lo,hlo⟩: ∃lo,wo.heap.size=lo:=⟨_,rfl⟩
       have hcx:=HO4.out.cell hx
       have sx:x.size≤1000000:=by have:=HS.out x (List.mem_of_getElem? hx);omega
       have HXP:=Lib.hid (And.intro hlt (And.intro hpg (And.intro hx (And.intro hlo (And.intro hcx sx)))))
       clear hlt hpg hx hlo hcx sx
       go_wp2_with (fail)
       go_loopg [17,18,19,20,21] M (fun gk s17 s18 s19 s20 s21 wr=> ∃(k n1 n2 np nq:Nat) (pa qa:Option Addr) (pc qc:Nat) (P Q:List ByteArray),s17= .int .i64 n1∧s18= .int .i64 n2∧s19= .slice pa np pc∧s20= .slice qa nq qc∧s21= .int .i64 k∧k+gk=M∧n1≤k∧n2≤k∧np≤k∧nq≤k∧
        Hid (n1=cntB (l.take k) x∧n2=cntB (m.take k) x∧P=sameB K (l.take k) x∧Q=sameB K (m.take k) x∧P.length=np∧Q.length=nq∧Two wr lo (.slice pa np pc) (.slice qa nq qc) P Q∧Ux.Touch (fun b=>lo≤b) wo wr))
       case atStart=>exact ⟨0,0,0,0,0,none,none,0,0,[],[],rfl,rfl,rfl,rfl,rfl,by omega,by omega,by omega,by omega,by omega,Lib.hid ⟨rfl,rfl,rfl,rfl,rfl,rfl,Two.nil _ _,Ux.Touch.refl _ _⟩⟩
       case round=>
        obtain ⟨k,n1,n2,np,nq,pa,qa,pc,qc,P,Q,rfl,rfl,rfl,rfl,rfl,hkg,hn1,hn2,hnp,hnq,HJ⟩:=hrel
        have k0:(0:Int)≤k:=by omega
        by_cases hlt:k<M
        ·obtain ⟨g'',rfl⟩: ∃g'',gk=g''+1:=⟨gk-1,by omega⟩
         have k1:(k:Int)<M:=by omega
         have n1B:(n1:Int)≤40:=by omega
         have n2B:(n2:Int)≤40:=by omega
         obtain ⟨y,hy⟩:=get_lt (l:=l) (i:=k) (by rw [HN.out];exact hlt)
         obtain ⟨z,hz⟩:=get_lt (l:=m) (i:=k) (by rw [H4.out.2.1];exact hlt)
         have hcy:=HO4.out.cell hy
         obtain ⟨xa3,xc3,hxe,_,hc⟩:=H4.out.1
         obtain ⟨_,bs,fs,hab,_,hcz⟩:=hc k z hz
         rw [H4.out.2.1] at hxe
         cases hxe
         subst hab
         have sy:y.size≤1000000:=by have:=HS.out y (List.mem_of_getElem? hy);omega
         have sz:z.size≤1000000:=by have:=HS.out z (H4.out.2.2.1.mem (List.mem_of_getElem? hz));omega
         have CS1:=Lib.hid fun W (T:Ux.Touch (fun _=>False) w4 W)=>HSA.out y x W (H4.out.2.2.2.2.trans T fun _ _ f=>f) sy HXP.out.2.2.2.2.2
         have CS2:=Lib.hid fun W (T:Ux.Touch (fun _=>False) w4 W)=>HSA.out z x W (H4.out.2.2.2.2.trans T fun _ _ f=>f) sz HXP.out.2.2.2.2.2
         rw [HCS.out.1,cmpStr_zero] at CS1 CS2
         obtain ⟨B1,h1⟩: ∃B,(y.toList==x.toList)=B:=⟨_,rfl⟩
         obtain ⟨B2,h2⟩: ∃B,(z.toList==x.toList)=B:=⟨_,rfl⟩
         obtain ⟨B3,h3⟩: ∃B,decide (K y=K x)=B:=⟨_,rfl⟩
         obtain ⟨B4,h4⟩: ∃B,decide (K z=K x)=B:=⟨_,rfl⟩
         rw [h3] at CS1
         rw [h4] at CS2
         have HTK:=Lib.hid (And.intro (cnt_take hy x h1) (And.intro (cnt_take hz x h2) (And.intro (same_take hy x h3) (same_take hz x h4))))
         have HW:=Lib.hid (HP.out.trans HJ.out.2.2.2.2.2.2.2 fun b hb e=>by have:=HP.out.size;have:=HXP.out.2.2.2.1;omega)
         have HF:=Lib.hid fun W (T:Ux.Touch (fun _=>False) w4 W)=>And.intro (And.intro (T.cell hcy fun f=>f) (And.intro (T.cell hcz fun f=>f) (T.cell HXP.out.2.2.2.2.1 fun f=>f))) (HCW.out W T)
         have HX:=Lib.hid (And.intro hlt (And.intro hkg (And.intro hn1 (And.intro hn2 (And.intro hnp hnq)))))
         obtain ⟨⟨e1,e2,e3⟩,x0,x1,x2,x3,x4⟩:=HF.out wr HW.out
         clear hlt hkg hn1 hn2 hnp hnq hy hz hcy hcz hc sy sz h3 h4
         cases B3<;>cases B4
         ·cases B1<;>cases B2
          all_goals
           go_upto_region 26 with (fail)
           refine Ux.wpr (fun _ w'=>(w'.cell? ⟨go,k,none⟩=some (.string y)∧w'.cell? ⟨bs,fs+k,none⟩=some (.string z)∧w'.cell? ⟨go,p,none⟩=some (.string x))) (.q [0,1,2,4,5,6] (.h false [3,7] (.q [8] (.line [])))) ?_;repeat ((with_reducible refine Ux.qg ?_);refine Ux.qu ?_)
           go_upto_region 28 with (fail)
           refine Ux.wpr (fun _ w'=>(w'.cell? ⟨go,k,none⟩=some (.string y)∧w'.cell? ⟨bs,fs+k,none⟩=some (.string z)∧w'.cell? ⟨go,p,none⟩=some (.string x))) (.q [0,1,2,4,5,6] (.h false [3,7] (.q [8] (.line [])))) ?_;repeat ((with_reducible refine Ux.qg ?_);refine Ux.qu ?_)
           go_upto_region 30 with (fail)
           refine Ux.wpr (fun _ w'=>(w'.cell? ⟨go,k,none⟩=some (.string y)∧w'.cell? ⟨bs,fs+k,none⟩=some (.string z)∧w'.cell? ⟨go,p,none⟩=some (.string x))∧w'.cell? ⟨q1,0,none⟩=some (.int .i64 kd)∧w'.cell? ⟨q1,1,none⟩=some (.int .i64 (LN:Nat))∧w'.cell? ⟨q1,2,none⟩=some (.bool sh)∧w'.cell? ⟨q1,3,none⟩=some (.bool bk)∧w'.cell? ⟨q1,4,none⟩=some (.pointer tb)) (.h false [0] (.q [1,2,3,5,6,7] (.h false [4,8] (.e 9 false false (.line []))))) ?_;repeat ((with_reducible refine Ux.qg ?_);refine Ux.qu ?_)
           go_wp2_with (go_at_call 30;fail)
           refine (CS1.out _ (by repeat (first|exact HW.out|refine Ux.Touch.drew ?_))).mono ?_
           rintro z5 w5 ⟨rfl,T5⟩
           have T5:Ux.Touch (fun _=>False) wr w5:=Ux.Touch.trans (by repeat (first|exact Ux.Touch.refl _ _|refine Ux.Touch.drew ?_)) T5 fun _ _ f=>f
           have HW5:=Lib.hid (HW.out.trans T5 fun _ _ f=>f)
           have HT5:=Lib.hid (And.intro (HJ.out.2.2.2.2.2.2.1.calm T5) (HJ.out.2.2.2.2.2.2.2.trans T5 fun _ _ f=>f.elim))
           clear T5 e1 e2 e3 x0 x1 x2 x3 x4
           obtain ⟨⟨e1,e2,e3⟩,x0,x1,x2,x3,x4⟩:=HF.out w5 HW5.out
           go_upto_region 32 with (fail)
           refine Ux.wpr (fun _ w'=>(w'.cell? ⟨go,k,none⟩=some (.string y)∧w'.cell? ⟨bs,fs+k,none⟩=some (.string z)∧w'.cell? ⟨go,p,none⟩=some (.string x))∧w'.cell? ⟨q1,0,none⟩=some (.int .i64 kd)∧w'.cell? ⟨q1,1,none⟩=some (.int .i64 (LN:Nat))∧w'.cell? ⟨q1,2,none⟩=some (.bool sh)∧w'.cell? ⟨q1,3,none⟩=some (.bool bk)∧w'.cell? ⟨q1,4,none⟩=some (.pointer tb)) (.h false [0] (.q [1,2,3,5,6,7] (.h false [4,8] (.e 9 false false (.line []))))) ?_;repeat ((with_reducible refine Ux.qg ?_);refine Ux.qu ?_)
           go_wp2_with (go_at_call 30;fail)
           refine (CS2.out _ (by repeat (first|exact HW5.out|refine Ux.Touch.drew ?_))).mono ?_
           rintro z7 w7 ⟨rfl,T7⟩
           have T7:Ux.Touch (fun _=>False) w5 w7:=Ux.Touch.trans (by repeat (first|exact Ux.Touch.refl _ _|refine Ux.Touch.drew ?_)) T7 fun _ _ f=>f
           have HW7:=Lib.hid (HW5.out.trans T7 fun _ _ f=>f)
           have HT7:=Lib.hid (And.intro (HT5.out.1.calm T7) (HT5.out.2.trans T7 fun _ _ f=>f.elim))
           clear T7 e1 e2 e3 x0 x1 x2 x3 x4
           obtain ⟨⟨e1,e2,e3⟩,-⟩:=HF.out w7 HW7.out
           go_wp2
           go_roundg g''
           case measure=>have:=HX.out;omega
           case rel=>
            have hx6:=HX.out
            have htk:=HTK.out
            have hj6:=HJ.out
            refine ⟨k+1,_,_,_,_,_,_,_,_,_,_,rfl,rfl,rfl,rfl,rfl,by omega,?_,?_,?_,?_,Lib.hid ⟨?_,?_,?_,?_,?_,?_,HT7.out.1,HT7.out.2⟩⟩
            all_goals first|omega|exact Nat.succ_le_succ hx6.2.2.1|exact Nat.succ_le_succ hx6.2.2.2.1|exact Nat.le_succ_of_le hx6.2.2.1|exact Nat.le_succ_of_le hx6.2.2.2.1|(rw [htk.1,←hj6.1];rfl)|(rw [htk.2.1,←hj6.2.1];rfl)|(rw [htk.2.2.1,←hj6.2.2.1];simp)|(rw [htk.2.2.2,←hj6.2.2.2.1];simp)|(rw [List.length_append];simp only [List.length_cons,List.length_nil];omega)
         ·cases B1<;>cases B2
          all_goals
           go_upto_region 26 with (fail)
           refine Ux.wpr (fun _ w'=>(w'.cell? ⟨go,k,none⟩=some (.string y)∧w'.cell? ⟨bs,fs+k,none⟩=some (.string z)∧w'.cell? ⟨go,p,none⟩=some (.string x))) (.q [0,1,2,4,5,6] (.h false [3,7] (.q [8] (.line [])))) ?_;repeat ((with_reducible refine Ux.qg ?_);refine Ux.qu ?_)
           go_upto_region 28 with (fail)
           refine Ux.wpr (fun _ w'=>(w'.cell? ⟨go,k,none⟩=some (.string y)∧w'.cell? ⟨bs,fs+k,none⟩=some (.string z)∧w'.cell? ⟨go,p,none⟩=some (.string x))) (.q [0,1,2,4,5,6] (.h false [3,7] (.q [8] (.line [])))) ?_;repeat ((with_reducible refine Ux.qg ?_);refine Ux.qu ?_)
           go_upto_region 30 with (fail)
           refine Ux.wpr (fun _ w'=>(w'.cell? ⟨go,k,none⟩=some (.string y)∧w'.cell? ⟨bs,fs+k,none⟩=some (.string z)∧w'.cell? ⟨go,p,none⟩=some (.string x))∧w'.cell? ⟨q1,0,none⟩=some (.int .i64 kd)∧w'.cell? ⟨q1,1,none⟩=some (.int .i64 (LN:Nat))∧w'.cell? ⟨q1,2,none⟩=some (.bool sh)∧w'.cell? ⟨q1,3,none⟩=some (.bool bk)∧w'.cell? ⟨q1,4,none⟩=some (.pointer tb)) (.h false [0] (.q [1,2,3,5,6,7] (.h false [4,8] (.e 9 false false (.line []))))) ?_;repeat ((with_reducible refine Ux.qg ?_);refine Ux.qu ?_)
           go_wp2_with (go_at_call 30;fail)
           refine (CS1.out _ (by repeat (first|exact HW.out|refine Ux.Touch.drew ?_))).mono ?_
           rintro z5 w5 ⟨rfl,T5⟩
           have T5:Ux.Touch (fun _=>False) wr w5:=Ux.Touch.trans (by repeat (first|exact Ux.Touch.refl _ _|refine Ux.Touch.drew ?_)) T5 fun _ _ f=>f
           have HW5:=Lib.hid (HW.out.trans T5 fun _ _ f=>f)
           have HT5:=Lib.hid (And.intro (HJ.out.2.2.2.2.2.2.1.calm T5) (HJ.out.2.2.2.2.2.2.2.trans T5 fun _ _ f=>f.elim))
           clear T5 e1 e2 e3 x0 x1 x2 x3 x4
           obtain ⟨⟨e1,e2,e3⟩,x0,x1,x2,x3,x4⟩:=HF.out w5 HW5.out
           go_upto_region 32 with (fail)
           refine Ux.wpr (fun _ w'=>(w'.cell? ⟨go,k,none⟩=some (.string y)∧w'.cell? ⟨bs,fs+k,none⟩=some (.string z)∧w'.cell? ⟨go,p,none⟩=some (.string x))∧w'.cell? ⟨q1,0,none⟩=some (.int .i64 kd)∧w'.cell? ⟨q1,1,none⟩=some (.int .i64 (LN:Nat))∧w'.cell? ⟨q1,2,none⟩=some (.bool sh)∧w'.cell? ⟨q1,3,none⟩=some (.bool bk)∧w'.cell? ⟨q1,4,none⟩=some (.pointer tb)) (.h false [0] (.q [1,2,3,5,6,7] (.h false [4,8] (.e 9 false false (.line []))))) ?_;repeat ((with_reducible refine Ux.qg ?_);refine Ux.qu ?_)
           go_wp2_with (go_at_call 30;fail)
           refine (CS2.out _ (by repeat (first|exact HW5.out|refine Ux.Touch.drew ?_))).mono ?_
           rintro z7 w7 ⟨rfl,T7⟩
           have T7:Ux.Touch (fun _=>False) w5 w7:=Ux.Touch.trans (by repeat (first|exact Ux.Touch.refl _ _|refine Ux.Touch.drew ?_)) T7 fun _ _ f=>f
           have HW7:=Lib.hid (HW5.out.trans T7 fun _ _ f=>f)
           have HT7:=Lib.hid (And.intro (HT5.out.1.calm T7) (HT5.out.2.trans T7 fun _ _ f=>f.elim))
           clear T7 e1 e2 e3 x0 x1 x2 x3 x4
           obtain ⟨⟨e1,e2,e3⟩,-⟩:=HF.out w7 HW7.out
           obtain ⟨r8,w8,run8,two8,T8,qa8,qc8,hr8⟩:=HT7.out.1.flip.app (by have:=HX.out;have:=HJ.out.2.2.2.2.2.1;have:=HN4.out;omega) (by have:=HXP.out.2.2.2.1;have:=HT7.out.2.size;omega) z
           rw [HJ.out.2.2.2.2.2.1] at hr8
           subst hr8
           have HT8:=Lib.hid (And.intro two8.flip (HT7.out.2.trans T8 fun _ _ h=>h))
           have R8:=Lib.hid run8
           clear run8 two8 T8
           go_wp2_with (at_builtin;refine Ux.wpList_app (v1:= .slice qa nq qc) (x1:= .slice (some ⟨w7.heap.size,0,none⟩) 1 1) rfl _ _ _ _ rfl rfl rfl (R8.out _) ?_)
           go_roundg g''
           case measure=>have:=HX.out;omega
           case rel=>
            have hx6:=HX.out
            have htk:=HTK.out
            have hj6:=HJ.out
            refine ⟨k+1,_,_,_,_,_,_,_,_,_,_,rfl,rfl,rfl,rfl,rfl,by omega,?_,?_,?_,?_,Lib.hid ⟨?_,?_,?_,?_,?_,?_,HT8.out.1,HT8.out.2⟩⟩
            all_goals first|omega|exact Nat.succ_le_succ hx6.2.2.1|exact Nat.succ_le_succ hx6.2.2.2.1|exact Nat.le_succ_of_le hx6.2.2.1|exact Nat.le_succ_of_le hx6.2.2.2.1|(rw [htk.1,←hj6.1];rfl)|(rw [htk.2.1,←hj6.2.1];rfl)|(rw [htk.2.2.1,←hj6.2.2.1];simp)|(rw [htk.2.2.2,←hj6.2.2.2.1];simp)|(rw [List.length_append];simp only [List.length_cons,List.length_nil];omega)
         ·cases B1<;>cases B2
          all_goals
           go_upto_region 26 with (fail)
           refine Ux.wpr (fun _ w'=>(w'.cell? ⟨go,k,none⟩=some (.string y)∧w'.cell? ⟨bs,fs+k,none⟩=some (.string z)∧w'.cell? ⟨go,p,none⟩=some (.string x))) (.q [0,1,2,4,5,6] (.h false [3,7] (.q [8] (.line [])))) ?_;repeat ((with_reducible refine Ux.qg ?_);refine Ux.qu ?_)
           go_upto_region 28 with (fail)
           refine Ux.wpr (fun _ w'=>(w'.cell? ⟨go,k,none⟩=some (.string y)∧w'.cell? ⟨bs,fs+k,none⟩=some (.string z)∧w'.cell? ⟨go,p,none⟩=some (.string x))) (.q [0,1,2,4,5,6] (.h false [3,7] (.q [8] (.line [])))) ?_;repeat ((with_reducible refine Ux.qg ?_);refine Ux.qu ?_)
           go_upto_region 30 with (fail)
           refine Ux.wpr (fun _ w'=>(w'.cell? ⟨go,k,none⟩=some (.string y)∧w'.cell? ⟨bs,fs+k,none⟩=some (.string z)∧w'.cell? ⟨go,p,none⟩=some (.string x))∧w'.cell? ⟨q1,0,none⟩=some (.int .i64 kd)∧w'.cell? ⟨q1,1,none⟩=some (.int .i64 (LN:Nat))∧w'.cell? ⟨q1,2,none⟩=some (.bool sh)∧w'.cell? ⟨q1,3,none⟩=some (.bool bk)∧w'.cell? ⟨q1,4,none⟩=some (.pointer tb)) (.h false [0] (.q [1,2,3,5,6,7] (.h false [4,8] (.e 9 false false (.line []))))) ?_;repeat ((with_reducible refine Ux.qg ?_);refine Ux.qu ?_)
           go_wp2_with (go_at_call 30;fail)
           refine (CS1.out _ (by repeat (first|exact HW.out|refine Ux.Touch.drew ?_))).mono ?_
           rintro z5 w5 ⟨rfl,T5⟩
           have T5:Ux.Touch (fun _=>False) wr w5:=Ux.Touch.trans (by repeat (first|exact Ux.Touch.refl _ _|refine Ux.Touch.drew ?_)) T5 fun _ _ f=>f
           have HW5:=Lib.hid (HW.out.trans T5 fun _ _ f=>f)
           have HT5:=Lib.hid (And.intro (HJ.out.2.2.2.2.2.2.1.calm T5) (HJ.out.2.2.2.2.2.2.2.trans T5 fun _ _ f=>f.elim))
           clear T5 e1 e2 e3 x0 x1 x2 x3 x4
           obtain ⟨⟨e1,e2,e3⟩,x0,x1,x2,x3,x4⟩:=HF.out w5 HW5.out
           obtain ⟨r6,w6,run6,two6,T6,pa6,pc6,hr6⟩:=HT5.out.1.app (by have:=HX.out;have:=HJ.out.2.2.2.2.1;have:=HN4.out;omega) (by have:=HXP.out.2.2.2.1;have:=HT5.out.2.size;omega) y
           rw [HJ.out.2.2.2.2.1] at hr6
           subst hr6
           have HW6:=Lib.hid (HW5.out.trans T6 fun b hb e=>by have:=HP.out.size;have:=HXP.out.2.2.2.1;omega)
           have HT6:=Lib.hid (And.intro two6 (HT5.out.2.trans T6 fun _ _ h=>h))
           have R6:=Lib.hid run6
           clear run6 two6 T6
           go_upto_region 32 with (at_builtin;refine Ux.wpList_app (v1:= .slice pa np pc) (x1:= .slice (some ⟨w5.heap.size,0,none⟩) 1 1) rfl _ _ _ _ rfl rfl rfl (R6.out _) ?_)
           clear e1 e2 e3 x0 x1 x2 x3 x4
           obtain ⟨⟨e1,e2,e3⟩,x0,x1,x2,x3,x4⟩:=HF.out w6 HW6.out
           refine Ux.wpr (fun _ w'=>(w'.cell? ⟨go,k,none⟩=some (.string y)∧w'.cell? ⟨bs,fs+k,none⟩=some (.string z)∧w'.cell? ⟨go,p,none⟩=some (.string x))∧w'.cell? ⟨q1,0,none⟩=some (.int .i64 kd)∧w'.cell? ⟨q1,1,none⟩=some (.int .i64 (LN:Nat))∧w'.cell? ⟨q1,2,none⟩=some (.bool sh)∧w'.cell? ⟨q1,3,none⟩=some (.bool bk)∧w'.cell? ⟨q1,4,none⟩=some (.pointer tb)) (.h false [0] (.q [1,2,3,5,6,7] (.h false [4,8] (.e 9 false false (.line []))))) ?_;repeat ((with_reducible refine Ux.qg ?_);refine Ux.qu ?_)
           go_wp2_with (go_at_call 30;fail)
           refine (CS2.out _ (by repeat (first|exact HW6.out|refine Ux.Touch.drew ?_))).mono ?_
           rintro z7 w7 ⟨rfl,T7⟩
           have T7:Ux.Touch (fun _=>False) w6 w7:=Ux.Touch.trans (by repeat (first|exact Ux.Touch.refl _ _|refine Ux.Touch.drew ?_)) T7 fun _ _ f=>f
           have HW7:=Lib.hid (HW6.out.trans T7 fun _ _ f=>f)
           have HT7:=Lib.hid (And.intro (HT6.out.1.calm T7) (HT6.out.2.trans T7 fun _ _ f=>f.elim))
           clear T7 e1 e2 e3 x0 x1 x2 x3 x4
           obtain ⟨⟨e1,e2,e3⟩,-⟩:=HF.out w7 HW7.out
           go_wp2
           go_roundg g''
           case measure=>have:=HX.out;omega
           case rel=>
            have hx6:=HX.out
            have htk:=HTK.out
            have hj6:=HJ.out
            refine ⟨k+1,_,_,_,_,_,_,_,_,_,_,rfl,rfl,rfl,rfl,rfl,by omega,?_,?_,?_,?_,Lib.hid ⟨?_,?_,?_,?_,?_,?_,HT7.out.1,HT7.out.2⟩⟩
            all_goals first|omega|exact Nat.succ_le_succ hx6.2.2.1|exact Nat.succ_le_succ hx6.2.2.2.1|exact Nat.le_succ_of_le hx6.2.2.1|exact Nat.le_succ_of_le hx6.2.2.2.1|(rw [htk.1,←hj6.1];rfl)|(rw [htk.2.1,←hj6.2.1];rfl)|(rw [htk.2.2.1,←hj6.2.2.1];simp)|(rw [htk.2.2.2,←hj6.2.2.2.1];simp)|(rw [List.length_append];simp only [List.length_cons,List.length_nil];omega)
         ·cases B1<;>cases B2
          all_goals
           go_upto_region 26 with (fail)
           refine Ux.wpr (fun _ w'=>(w'.cell? ⟨go,k,none⟩=some (.string y)∧w'.cell? ⟨bs,fs+k,none⟩=some (.string z)∧w'.cell? ⟨go,p,none⟩=some (.string x))) (.q [0,1,2,4,5,6] (.h false [3,7] (.q [8] (.line [])))) ?_;repeat ((with_reducible refine Ux.qg ?_);refine Ux.qu ?_)
           go_upto_region 28 with (fail)
           refine Ux.wpr (fun _ w'=>(w'.cell? ⟨go,k,none⟩=some (.string y)∧w'.cell? ⟨bs,fs+k,none⟩=some (.string z)∧w'.cell? ⟨go,p,none⟩=some (.string x))) (.q [0,1,2,4,5,6] (.h false [3,7] (.q [8] (.line [])))) ?_;repeat ((with_reducible refine Ux.qg ?_);refine Ux.qu ?_)
           go_upto_region 30 with (fail)
           refine Ux.wpr (fun _ w'=>(w'.cell? ⟨go,k,none⟩=some (.string y)∧w'.cell? ⟨bs,fs+k,none⟩=some (.string z)∧w'.cell? ⟨go,p,none⟩=some (.string x))∧w'.cell? ⟨q1,0,none⟩=some (.int .i64 kd)∧w'.cell? ⟨q1,1,none⟩=some (.int .i64 (LN:Nat))∧w'.cell? ⟨q1,2,none⟩=some (.bool sh)∧w'.cell? ⟨q1,3,none⟩=some (.bool bk)∧w'.cell? ⟨q1,4,none⟩=some (.pointer tb)) (.h false [0] (.q [1,2,3,5,6,7] (.h false [4,8] (.e 9 false false (.line []))))) ?_;repeat ((with_reducible refine Ux.qg ?_);refine Ux.qu ?_)
           go_wp2_with (go_at_call 30;fail)
           refine (CS1.out _ (by repeat (first|exact HW.out|refine Ux.Touch.drew ?_))).mono ?_
           rintro z5 w5 ⟨rfl,T5⟩
           have T5:Ux.Touch (fun _=>False) wr w5:=Ux.Touch.trans (by repeat (first|exact Ux.Touch.refl _ _|refine Ux.Touch.drew ?_)) T5 fun _ _ f=>f
           have HW5:=Lib.hid (HW.out.trans T5 fun _ _ f=>f)
           have HT5:=Lib.hid (And.intro (HJ.out.2.2.2.2.2.2.1.calm T5) (HJ.out.2.2.2.2.2.2.2.trans T5 fun _ _ f=>f.elim))
           clear T5 e1 e2 e3 x0 x1 x2 x3 x4
           obtain ⟨⟨e1,e2,e3⟩,x0,x1,x2,x3,x4⟩:=HF.out w5 HW5.out
           obtain ⟨r6,w6,run6,two6,T6,pa6,pc6,hr6⟩:=HT5.out.1.app (by have:=HX.out;have:=HJ.out.2.2.2.2.1;have:=HN4.out;omega) (by have:=HXP.out.2.2.2.1;have:=HT5.out.2.size;omega) y
           rw [HJ.out.2.2.2.2.1] at hr6
           subst hr6
           have HW6:=Lib.hid (HW5.out.trans T6 fun b hb e=>by have:=HP.out.size;have:=HXP.out.2.2.2.1;omega)
           have HT6:=Lib.hid (And.intro two6 (HT5.out.2.trans T6 fun _ _ h=>h))
           have R6:=Lib.hid run6
           clear run6 two6 T6
           go_upto_region 32 with (at_builtin;refine Ux.wpList_app (v1:= .slice pa np pc) (x1:= .slice (some ⟨w5.heap.size,0,none⟩) 1 1) rfl _ _ _ _ rfl rfl rfl (R6.out _) ?_)
           clear e1 e2 e3 x0 x1 x2 x3 x4
           obtain ⟨⟨e1,e2,e3⟩,x0,x1,x2,x3,x4⟩:=HF.out w6 HW6.out
           refine Ux.wpr (fun _ w'=>(w'.cell? ⟨go,k,none⟩=some (.string y)∧w'.cell? ⟨bs,fs+k,none⟩=some (.string z)∧w'.cell? ⟨go,p,none⟩=some (.string x))∧w'.cell? ⟨q1,0,none⟩=some (.int .i64 kd)∧w'.cell? ⟨q1,1,none⟩=some (.int .i64 (LN:Nat))∧w'.cell? ⟨q1,2,none⟩=some (.bool sh)∧w'.cell? ⟨q1,3,none⟩=some (.bool bk)∧w'.cell? ⟨q1,4,none⟩=some (.pointer tb)) (.h false [0] (.q [1,2,3,5,6,7] (.h false [4,8] (.e 9 false false (.line []))))) ?_;repeat ((with_reducible refine Ux.qg ?_);refine Ux.qu ?_)
           go_wp2_with (go_at_call 30;fail)
           refine (CS2.out _ (by repeat (first|exact HW6.out|refine Ux.Touch.drew ?_))).mono ?_
           rintro z7 w7 ⟨rfl,T7⟩
           have T7:Ux.Touch (fun _=>False) w6 w7:=Ux.Touch.trans (by repeat (first|exact Ux.Touch.refl _ _|refine Ux.Touch.drew ?_)) T7 fun _ _ f=>f
           have HW7:=Lib.hid (HW6.out.trans T7 fun _ _ f=>f)
           have HT7:=Lib.hid (And.intro (HT6.out.1.calm T7) (HT6.out.2.trans T7 fun _ _ f=>f.elim))
           clear T7 e1 e2 e3 x0 x1 x2 x3 x4
           obtain ⟨⟨e1,e2,e3⟩,-⟩:=HF.out w7 HW7.out
           obtain ⟨r8,w8,run8,two8,T8,qa8,qc8,hr8⟩:=HT7.out.1.flip.app (by have:=HX.out;have:=HJ.out.2.2.2.2.2.1;have:=HN4.out;omega) (by have:=HXP.out.2.2.2.1;have:=HT7.out.2.size;omega) z
           rw [HJ.out.2.2.2.2.2.1] at hr8
           subst hr8
           have HT8:=Lib.hid (And.intro two8.flip (HT7.out.2.trans T8 fun _ _ h=>h))
           have R8:=Lib.hid run8
           clear run8 two8 T8
           go_wp2_with (at_builtin;refine Ux.wpList_app (v1:= .slice qa nq qc) (x1:= .slice (some ⟨w7.heap.size,0,none⟩) 1 1) rfl _ _ _ _ rfl rfl rfl (R8.out _) ?_)
           go_roundg g''
           case measure=>have:=HX.out;omega
           case rel=>
            have hx6:=HX.out
            have htk:=HTK.out
            have hj6:=HJ.out
            refine ⟨k+1,_,_,_,_,_,_,_,_,_,_,rfl,rfl,rfl,rfl,rfl,by omega,?_,?_,?_,?_,Lib.hid ⟨?_,?_,?_,?_,?_,?_,HT8.out.1,HT8.out.2⟩⟩
            all_goals first|omega|exact Nat.succ_le_succ hx6.2.2.1|exact Nat.succ_le_succ hx6.2.2.2.1|exact Nat.le_succ_of_le hx6.2.2.1|exact Nat.le_succ_of_le hx6.2.2.2.1|(rw [htk.1,←hj6.1];rfl)|(rw [htk.2.1,←hj6.2.1];rfl)|(rw [htk.2.2.1,←hj6.2.2.1];simp)|(rw [htk.2.2.2,←hj6.2.2.2.1];simp)|(rw [List.length_append];simp only [List.length_cons,List.length_nil];omega)
        ·obtain rfl:k=M:=by omega
         have k1: ¬(k:Int)<k:=by omega
         have hml:=H4.out.2.1
         have hnl:=HN.out
         have hj6:=HJ.out
         rw [List.take_of_length_le (l:=l) (by omega),List.take_of_length_le (l:=m) (by omega)] at hj6
         obtain ⟨ha,hb,hP,hQ,hpl,hql,h2,hTT⟩:=hj6
         have ee1:n1=n2:=by rw [ha,hb,cnt_eq H4.out.2.2.1]
         have ee2:P=Q:=by rw [hP,hQ];exact H4.out.2.2.1 (K x)
         clear HJ ha hb hP hQ hml hnl
         subst ee1
         subst ee2
         have ee3:np=nq:=by omega
         subst ee3
         have npB:(np:Int)≤40:=by omega
         have n1B:(n1:Int)≤40:=by omega
         have HL:=Lib.hid (And.intro hpl (And.intro h2 hTT))
         have HZ0:Hid (Ux.Touch (fun _=>False) wr wr):=Lib.hid (Ux.Touch.refl _ _)
         obtain ⟨wi,hwi⟩: ∃W,W=wr:=⟨_,rfl⟩
         subst hwi
         clear hlt hkg hn1 hn2 hnp hnq hpl hql h2 hTT
         go_wp2_with (fail)
         go_loopg [22] np (fun gk s22 wr=> ∃j:Nat,s22= .int .i64 j∧j+gk=np∧Hid (Ux.Touch (fun _=>False) wi wr))
         case atStart=>exact ⟨0,rfl,by omega,HZ0⟩
         case round=>
          clear HZ0
          obtain ⟨j,rfl,hjg,HJ⟩:=hrel
          have j0:(0:Int)≤j:=by omega
          by_cases hlt:j<np
          ·obtain ⟨g3,rfl⟩: ∃g3,gk=g3+1:=⟨gk-1,by omega⟩
           have j1:(j:Int)<np:=by omega
           obtain ⟨y,hy⟩:=get_lt (l:=P) (i:=j) (by rw [HL.out.1];exact hlt)
           obtain ⟨gp,hgp,cp⟩:=row_at HL.out.2.1.p hy
           obtain ⟨gq,hgq,cq⟩:=row_at HL.out.2.1.q hy
           subst hgp
           subst hgq
           have sxx:=str_self' y
           have d0:=HJ.out.cell cp (fun f=>f)
           have d1:=HJ.out.cell cq (fun f=>f)
           have HX:=Lib.hid (And.intro hlt hjg)
           clear hlt hjg hy cp cq
           go_upto_region 39 with (fail)
           refine Ux.wpr (fun _ w'=>w'.cell? ⟨gp,j,none⟩=some (.string y)∧w'.cell? ⟨gq,j,none⟩=some (.string y)) (.q [0,1,2,4,5,6] (.h false [3,7] (.q [8] (.line [])))) ?_;repeat ((with_reducible refine Ux.qg ?_);refine Ux.qu ?_)
           go_wp2
           go_roundg g3
           case measure=>have:=HX.out;omega
           case rel=>exact ⟨j+1,rfl,by have:=HX.out;omega,Lib.hid (by repeat (first|exact HJ.out|refine Ux.Touch.drew ?_))⟩
          ·obtain rfl:j=np:=by omega
           have j1: ¬(j:Int)<j:=by omega
           clear hlt hjg
           go_wp2
           go_roundg g'
           case measure=>have:=HXP.out;omega
           case rel=>exact ⟨p+1,rfl,by have:=HXP.out;omega,Lib.hid ((HP.out.trans HL.out.2.2 fun b hb e=>by have:=HP.out.size;have:=HXP.out.2.2.2.1;omega).trans HJ.out fun _ _ f=>f)⟩
      ·obtain rfl:p=M:=by omega
       have p1: ¬(p:Int)<p:=by omega
       clear hlt hpg
       go_wp2_with (go_at_call 27;fail)
       refine (AW.out _ (H1.out.trans (H4.out.2.2.2.2.trans HP.out fun _ _ f=>f) fun _ _ f=>f)).mono ?_
       rintro e w7 ⟨rfl,T7⟩
       have H7:=Lib.hid ((H1.out.trans (H4.out.2.2.2.2.trans HP.out fun _ _ f=>f) fun _ _ f=>f).trans T7 fun _ _ f=>f)
       clear T7
       go_wp2
       go_returns
       exact ⟨rfl,H7.out⟩
end Go.Proofs.YtfccjaboicpohaaGreatDoor
