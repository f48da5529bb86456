/- A part of the proof that the statement holds for every input that it names. No other condition. -/
import Derived.Test.YtfccjaboicpohaaGreatDoorTailAY
set_option linter.unusedVariables false
set_option linter.unusedSimpArgs false
namespace Go.Proofs.YtfccjaboicpohaaGreatDoor
open Go.RowKit
open Ux (Row Ent sv ev eP eS eT eMk wt8 incW raise lastW lastN newK fullT SameE SortedE mapE stepA anchorOk)
open Ux.Sign (cp raw)
theorem lastN_succ (L:Nat) (a:List Nat) (k:Nat):lastN L a (k+1)=if wt8 L (a.getD k 0)=0 then lastN L a k else some k:=rfl
theorem egMv: ∀args w,(callFunc 154 args).run Tryz.prog w= .ok (.enter 154 args) w:=enters_of Tryz.func154 (by kernel_rfl) rfl
def MoveR (w:World) (q:Nat) (r:Nat×List Ent×List Nat) (e:Ending):Prop:=e= .returned (.int .i64 (r.1:Nat))∧(r.1=0→∃B mb E va,WkAt w q B mb E va∧SameE E r.2.1∧Row w 0 56 va (ev r.2.2))
set_option maxHeartbeats 16000000 in
set_option maxRecDepth 100000 in
theorem move_ (q B mb:Nat) (E T:List Ent) (a:List Nat) (va:Value) (L:Nat) (hL:L=1∨L=2∨L=3) (w:World) (h:WkAt w q B mb E va) (hS:SameE E T) (hsig: ∀e∈E,∀c∈e.1,cp c∨raw c) (hE:E.length≤500) (hr:Row w 0 56 va (ev a)) (ha:a.length≤8) (hanc:anchorOk T a):
 Calls Tryz.prog 102 #[.pointer (some ⟨q,0,none⟩),.int .i64 (L:Int)] w fun e w'=>MoveR w' q (stepA T a L) e∧Ux.Touch (fun b=>b=q) w w':=by
 obtain ⟨bl,hbl⟩: ∃k,w.heap.size=k:=⟨_,rfl⟩
 obtain ⟨W1,hW1⟩: ∃W,w.alloc (.cells #[.int .i64 (L:Int)] 3)=W:=⟨_,rfl⟩
 have t1:Ux.Touch (fun _=>False) w W1:=by rw [←hW1];exact (Ux.Touch.refl _ _).alloc _
 have c1:W1.cell? ⟨bl,0,none⟩=some (.int .i64 (L:Int)):=by rw [cell_of_row W1 bl 0 _ _ (0,0) (by rw [←hW1,←hbl];exact heap_alloc_new w _)];rfl
 have h1:=h.touch t1
 have hr1:=hr.touch0 t1
 have hqb:q<bl:=by rw [←hbl];exact Ux.lt_of_heap h.blk
 obtain ⟨d0,d1⟩:=h1.cells
 obtain ⟨av,cv,hva,hcel⟩:=hr1.is
 obtain ⟨n,hn⟩: ∃n,a.length=n:=⟨_,rfl⟩
 rw [Ux.ev_length,hn] at hva
 subst hva
 obtain ⟨RES,hRES⟩: ∃r,stepA T a L=r:=⟨_,rfl⟩
 rw [hRES]
 have hx32: ∀x∈a,x<4294967296:=fun x hx=>(hanc x hx).1
 have HH:=Lib.hid (And.intro h1 (And.intro hS (And.intro hsig (And.intro hE (And.intro hr1 (And.intro hanc (And.intro hx32 (And.intro hn hRES))))))))
 have HW:=Lib.hid (And.intro hW1 (And.intro t1 (And.intro c1 hqb)))
 have HC:=Lib.hid fun W (TT:Ux.Touch (fun _=>False) W1 W)=>And.intro (TT.cell d1 (fun f=>f)) (TT.cell c1 (fun f=>f))
 have HCE:=Lib.hid fun W (TT:Ux.Touch (fun _=>False) W1 W) (k x:Nat) (hk:a[k]? =some x)=>show∃g,av=some ⟨g,0,none⟩∧W.cell? ⟨g,k,none⟩=some (.int .u32 (x:Int)) by
  obtain ⟨g,e1,_,e2⟩:=hcel k _ (Ux.ev_get hk)
  exact ⟨g,e1,TT.cell e2 (fun f=>f)⟩
 have n8:(n:Int)≤8:=by omega
 have n0:(0:Int)≤n:=by omega
 clear h hS hsig hE hr hanc h1 hr1 hcel hn hRES hx32 t1 ha hqb
 go_enter Tryz.func102,Tryz.ntmps102
 go_wp2_with (fail)
 go_loopg [5] n (fun gk s5 wr=> ∃k:Nat,s5= .int .i64 ((k:Int)-1)∧k=gk∧k≤n∧Hid (lastN L a k=lastN L a n∧Ux.Touch (fun _=>False) W1 wr))
 case atStart=>exact ⟨n,rfl,rfl,Nat.le_refl _,Lib.hid ⟨rfl,Ux.Touch.refl _ _⟩⟩
 case round=>
  obtain ⟨k,rfl,rfl,hkn,HI⟩:=hrel
  cases k with
  |zero=>
   have hnone:lastN L a n=none:=by rw [←HI.out.1];rfl
   have hres:RES=(1,T,a):=by
    rw [←HH.out.2.2.2.2.2.2.2.2]
    unfold stepA
    rw [HH.out.2.2.2.2.2.2.2.1,hnone]
   subst hres
   have hm1:((0:Nat):Int)-1= -1:=rfl
   rw [hm1]
   clear hnone
   go_upto_region 2 with (fail)
   refine Ux.wpr (fun _ _=>True) (.q [0,1,2,3,4,5,7] (.h false [6,10] (.q [8] (.h false [9] (.e 11 true false (.q [12,13] (.line []))))))) ?_;repeat ((with_reducible refine Ux.qg ?_);refine Ux.qu ?_)
   go_wp2_with (fail)
   refine ⟨True.intro,?_⟩
   repeat ((with_reducible refine Ux.qg ?_);refine Ux.qu ?_)
   go_wp2
   go_returns
   exact ⟨⟨rfl,fun h=>by cases h⟩,(HW.out.2.1.trans HI.out.2.drew fun _ _ f=>f).mono fun _ _ f=>f.elim⟩
  |succ k=>
   have hm1:((k+1:Nat):Int)-1=(k:Int):=by omega
   rw [hm1]
   obtain ⟨x,hx⟩: ∃x,a[k]? =some x:=⟨_,List.getElem?_eq_getElem (by have:=HH.out.2.2.2.2.2.2.2.1;omega)⟩
   obtain ⟨ga,rfl,e0⟩:=HCE.out wr HI.out.2 k x hx
   obtain ⟨e1,e2⟩:=HC.out wr HI.out.2
   have hx32:=HH.out.2.2.2.2.2.2.1 x (List.mem_of_getElem? hx)
   have HWT:=Lib.hid fun W=>weight_ L x (L:Int) rfl hL hx32 W
   rw [wt_wt8] at HWT
   have hlast:=HI.out.1
   rw [lastN_succ,show a.getD k 0=x by rw [List.getD_eq_getElem?_getD,hx];rfl] at hlast
   obtain ⟨v,hv⟩: ∃v,wt8 L x=v:=⟨_,rfl⟩
   rw [hv] at HWT hlast
   have k0:(0:Int)≤k:=by omega
   have k1:(k:Int)<n:=by omega
   have k2:k<n:=by omega
   have HKC:=Lib.hid fun W (TT:Ux.Touch (fun _=>False) wr W)=>And.intro (TT.cell e1 (fun f=>f)) (And.intro (TT.cell e2 (fun f=>f)) (TT.cell e0 (fun f=>f)))
   have HK:=Lib.hid (And.intro hx (And.intro hv (And.intro hlast hx32)))
   have hvz:((v:Int)==0)=decide (v=0):=by
    by_cases h:v=0
    ·subst h;rfl
    ·rw [show ((v:Int)==0)=false from beq_false_of_ne (by omega)]
     simp [h]
   obtain ⟨Z,hZ⟩: ∃Z,decide (v=0)=Z:=⟨_,rfl⟩
   rw [hZ] at hvz
   have HZ:=Lib.hid hZ
   clear hx hx32 hlast hv hZ
   go_upto_region 2 with (fail)
   go_cut [30] (fun s30 wx=>s30= .bool Z∧Ux.Touch (fun _=>False) wr wx)
   case first=>
    refine Ux.wpr (fun _ w'=>w'.cell? ⟨q,1,none⟩=some (.slice (some ⟨ga,0,none⟩) n cv)∧w'.cell? ⟨bl,0,none⟩=some (.int .i64 (L:Int))∧w'.cell? ⟨ga,k,none⟩=some (.int .u32 (x:Int))) (.q [0,1,2,3,4,5,7] (.h false [6,10] (.q [8] (.h false [9] (.e 11 true false (.q [12,13] (.line []))))))) ?_;repeat ((with_reducible refine Ux.qg ?_);refine Ux.qu ?_)
    go_wp2_with (go_at_call 44;refine (HWT.out _).mono ?_;rintro e w' ⟨rfl,hw⟩;obtain rfl:=hw.symm)
    refine ⟨HKC.out _ (by repeat (first|exact Ux.Touch.refl _ _|refine Ux.Touch.drew ?_)),?_⟩
    repeat ((with_reducible refine Ux.qg ?_);refine Ux.qu ?_)
    go_wp2
    go_meet
    exact ⟨rfl,by repeat (first|exact Ux.Touch.refl _ _|refine Ux.Touch.drew ?_)⟩
   obtain ⟨rfl,hT2⟩:=hcut
   cases Z with
   |true=>
    have HT2:=Lib.hid hT2
    clear hT2 e0 e1 e2
    go_wp2
    go_roundg k
    case measure=>omega
    case rel=>exact ⟨k,rfl,rfl,by omega,Lib.hid ⟨by rw [←HK.out.2.2.1,if_pos (of_decide_eq_true HZ.out)],HI.out.2.trans HT2.out fun _ _ f=>f⟩⟩
   |false=>
    have hsome:lastN L a n=some k:=by rw [←HK.out.2.2.1,if_neg (of_decide_eq_false HZ.out)]
    have hg:a.getD k 0=x:=by rw [List.getD_eq_getElem?_getD,HK.out.1];rfl
    have hres:RES=if L=1∧64256≤eP x then (1,T,a) else if fullT L T=true then (60,T,a) else (0,mapE (raise L v) T,((a.take (k+1)).map (raise L v)).set k (newK L x)):=by
     rw [←HH.out.2.2.2.2.2.2.2.2]
     unfold stepA
     rw [HH.out.2.2.2.2.2.2.2.1,hsome]
     dsimp only
     rw [hg,HK.out.2.1]
    have HR:=Lib.hid hres
    clear hsome hg hres e0 e1 e2
    obtain ⟨e1,e2,e0⟩:=HKC.out wc hT2
    have HM1:=Lib.hid fun W=>most_1 W
    have HM:=Lib.hid fun W=>most_ L hL W
    have H3:=Lib.hid (HI.out.2.trans hT2 fun _ _ f=>f)
    obtain ⟨W3,rfl⟩: ∃W,W=wc:=⟨_,rfl⟩
    have HK3:=Lib.hid fun W (TT:Ux.Touch (fun _=>False) W3 W)=>And.intro (TT.cell e1 (fun f=>f)) (And.intro (TT.cell e2 (fun f=>f)) (TT.cell e0 (fun f=>f)))
    clear hT2
    obtain ⟨BAD,hBAD⟩: ∃b,(decide (L=1)&&decide (64255<v))=b:=⟨_,rfl⟩
    have HBD:=Lib.hid hBAD
    go_upto_region 4 with (fail)
    go_cut [50] (fun s50 wx=>s50= .bool BAD∧W3=wx)
    case first=>
     by_cases hL1:L=1
     ·have hq1:((L:Int)==1)=true:=by rw [hL1];rfl
      have hv1:wt 1 x=v:=by rw [←HK.out.2.1,hL1];rfl
      have HW1:=Lib.hid fun W=>weight_ 1 x 1 rfl (.inl rfl) HK.out.2.2.2 W
      rw [hv1] at HW1
      have hb:decide ((v:Int)>64255)=BAD:=by
       rw [←hBAD,hL1]
       simp
       omega
      have hb2:decide ((64255:Int)<(v:Int))=BAD:=hb
      clear hL1 hv1 hBAD
      go_wp2_with (first|(go_at_call 44;refine (HW1.out _).mono ?_;rintro e w' ⟨rfl,hw⟩;obtain rfl:=hw.symm)|(go_at_call 152;refine (HM1.out _).mono ?_;rintro e w' ⟨rfl,hw⟩;obtain rfl:=hw.symm))
      go_meet
      exact ⟨rfl,rfl⟩
     ·have hq1:((L:Int)==1)=false:=beq_false_of_ne (by omega)
      have hb:BAD=false:=by rw [←hBAD];simp [hL1]
      subst hb
      clear hL1 hBAD
      go_wp2_with (fail)
      go_meet
      exact ⟨rfl,rfl⟩
    obtain ⟨rfl,rfl⟩:=hcut
    cases BAD with
    |true=>
     have hres:RES=(1,T,a):=by
      rw [HR.out]
      have h:=HBD.out
      simp at h
      have hv:v=eP x:=by rw [←HK.out.2.1,h.1];rfl
      rw [if_pos ⟨h.1,by omega⟩]
     subst hres
     clear hBAD e0 e1 e2
     go_wp2
     go_returns
     exact ⟨⟨rfl,fun h=>by cases h⟩,(HW.out.2.1.trans H3.out fun _ _ f=>f).mono fun _ _ f=>f.elim⟩
    |false=>
     have hres:RES=if fullT L T=true then (60,T,a) else (0,mapE (raise L v) T,((a.take (k+1)).map (raise L v)).set k (newK L x)):=by
      rw [HR.out,if_neg ?_]
      rintro ⟨h1,h2⟩
      have h:=HBD.out
      have hv:v=eP x:=by rw [←HK.out.2.1,h1];rfl
      simp [h1] at h
      omega
     have HR2:=Lib.hid hres
     have hfull:hasE L (lastW L) E=fullT L T:=hasE_perm HH.out.2.1.1
     have HHAS:=Lib.hid fun W (TT:Ux.Touch (fun _=>False) W1 W)=>has_ q B mb E _ L (lastW L) hL W (HH.out.1.touch TT) (by have:=HH.out.2.2.2.1;omega)
     rw [hfull] at HHAS
     obtain ⟨FU,hFU⟩: ∃b,fullT L T=b:=⟨_,rfl⟩
     rw [hFU] at HHAS
     have HFU:=Lib.hid hFU
     clear hBAD hres hfull hFU e0 e1 e2
     go_upto_region 6 with (fail)
     obtain ⟨e1,e2,e0⟩:=HK3.out W3 (Ux.Touch.refl _ _)
     go_cut [55] (fun s55 wx=>s55= .bool FU∧Ux.Touch (fun _=>False) W3 wx)
     case first=>
      refine Ux.wpr (fun _ w'=>w'.cell? ⟨bl,0,none⟩=some (.int .i64 (L:Int))) (.q [0] (.h false [1,2] (.e 3 true false (.e 4 true false (.line []))))) ?_;repeat ((with_reducible refine Ux.qg ?_);refine Ux.qu ?_)
      go_wp2_with (go_at_call 152;refine (HM.out _).mono ?_;rintro e w' ⟨rfl,hw⟩;obtain rfl:=hw.symm)
      refine ⟨(HK3.out _ (by repeat (first|exact T5w|exact Ux.Touch.refl _ _|refine Ux.Touch.drew ?_))).2.1,?_⟩
      go_wp2_with (go_at_call 153;refine (HHAS.out _ H3.out.drew).mono ?_;rintro e w5 ⟨rfl,T5⟩;have T5w:Ux.Touch (fun _=>False) W3 w5:=(Ux.Touch.refl _ W3).drew.trans T5 fun _ _ f=>f)
      refine ⟨(HK3.out _ (by repeat (first|exact T5w|exact Ux.Touch.refl _ _|refine Ux.Touch.drew ?_))).2.1,?_⟩
      go_wp2
      go_meet
      exact ⟨rfl,T5w⟩
     obtain ⟨rfl,hT5⟩:=hcut
     cases FU with
     |true=>
      have hres:RES=(60,T,a):=by rw [HR2.out,if_pos HFU.out]
      subst hres
      have H5:=Lib.hid (H3.out.trans hT5 fun _ _ f=>f)
      clear e0 e1 e2 hT5
      go_wp2
      go_returns
      exact ⟨⟨rfl,fun h=>by cases h⟩,(HW.out.2.1.trans H5.out fun _ _ f=>f).mono fun _ _ f=>f.elim⟩
     |false=>
      have hres:RES=(0,mapE (raise L v) T,((a.take (k+1)).map (raise L v)).set k (newK L x)):=by rw [HR2.out,if_neg (by rw [HFU.out];simp)]
      obtain ⟨W5,rfl⟩: ∃W,W=wc:=⟨_,rfl⟩
      obtain ⟨e1,e2,e0⟩:=HK3.out W5 hT5
      have HK5:=Lib.hid fun W (TT:Ux.Touch (fun _=>False) W5 W)=>And.intro (TT.cell e1 (fun f=>f)) (And.intro (TT.cell e2 (fun f=>f)) (TT.cell e0 (fun f=>f)))
      have H5:=Lib.hid (And.intro (H3.out.trans hT5 fun _ _ f=>f) hres)
      clear hres hT5
      go_upto_region 8 with (fail)
      go_cut [6] (fun s6 wx=> ∃bw,s6= .pointer (some ⟨bw,0,none⟩)∧wx.cell? ⟨bw,0,none⟩=some (.int .i64 (v:Int))∧W5.heap.size≤bw∧Ux.Touch (fun _=>False) W5 wx)
      case first=>
       refine Ux.wpr (fun _ w'=>w'.cell? ⟨q,1,none⟩=some (.slice (some ⟨ga,0,none⟩) n cv)∧w'.cell? ⟨bl,0,none⟩=some (.int .i64 (L:Int))∧w'.cell? ⟨ga,k,none⟩=some (.int .u32 (x:Int))) (.q [0,1,2,4] (.h false [3,7] (.q [5] (.h false [6] (.br 8 (.e 9 true false (.line [10])) 9 (.e 8 true true (.line [10]))))))) ?_;repeat ((with_reducible refine Ux.qg ?_);refine Ux.qu ?_)
       refine ⟨?_,?_⟩
       ·go_wp2_with (go_at_call 44;refine (HWT.out _).mono ?_;rintro e w' ⟨rfl,hw⟩;obtain rfl:=hw.symm)
        first|refine ⟨⟨HK5.out _ Ux.tq,HK5.out _ Ux.tq⟩,?_⟩|refine ⟨HK5.out _ Ux.tq,?_⟩
        go_wp2_with (fail)
        refine ⟨HK5.out _ Ux.tq,?_⟩
        go_wp2
        go_meet
        exact ⟨_,rfl,by rw [cell_of_row _ _ 0 _ _ (0,0) (show (W5.alloc (.cells #[.int .i64 (v:Int)] 3)).drew.heap[W5.heap.size]? =_ from heap_alloc_new W5 _)];rfl,Nat.le_refl _,((Ux.Touch.refl _ _).alloc _).drew⟩
       ·go_wp2_with (fail)
        first|refine ⟨⟨HK5.out _ Ux.tq,HK5.out _ Ux.tq⟩,?_⟩|refine ⟨HK5.out _ Ux.tq,?_⟩
        go_wp2_with (go_at_call 44;refine (HWT.out _).mono ?_;rintro e w' ⟨rfl,hw⟩;obtain rfl:=hw.symm)
        first|refine ⟨⟨HK5.out _ Ux.tq,HK5.out _ Ux.tq⟩,?_⟩|refine ⟨HK5.out _ Ux.tq,?_⟩
        go_wp2
        go_meet
        exact ⟨_,rfl,by rw [cell_of_row _ _ 0 _ _ (0,0) (show (W5.alloc (.cells #[.int .i64 (v:Int)] 3)).drew.heap[W5.heap.size]? =_ from heap_alloc_new W5 _)];rfl,Nat.le_refl _,((Ux.Touch.refl _ _).alloc _).drew⟩
      obtain ⟨bw,rfl,hcw,hbw,hT8⟩:=hcut
      obtain ⟨W8,rfl⟩: ∃W,W=wc:=⟨_,rfl⟩
      have T8:=H5.out.1.trans hT8 fun _ _ f=>f
      have h8:=HH.out.1.touch T8
      have hbl8:=(HK5.out W8 hT8).2.1
      have hlt1:bl<W8.heap.size:=block_lt_of_cell hbl8
      have hlt2:bw<W8.heap.size:=block_lt_of_cell hcw
      have hq5:q<W5.heap.size:=Ux.lt_of_heap (HH.out.1.touch H5.out.1).blk
      have HMP:=Lib.hid (tmap_ B mb E 154 #[.pointer (some ⟨bl,0,none⟩),.pointer (some ⟨bw,0,none⟩)] (raise L v) (fun y hy=>Ux.raise_lt L v y hy) W8 h8.tab HH.out.2.2.1 (by have:=HH.out.2.2.2.1;omega) egMv fun W TT y hy=>mv1_ L v y hL hy bl bw W (TT.cell hbl8 (fun h=>Nat.not_le.2 hlt1 h)) (TT.cell hcw (fun h=>Nat.not_le.2 hlt2 h)))
      obtain ⟨f0,f1⟩:=h8.cells
      have hr8:=HH.out.2.2.2.2.1.touch0 T8
      have H8:=Lib.hid (And.intro T8 (And.intro h8.blk (And.intro hbl8 (And.intro hcw (And.intro hbw (And.intro hq5 hr8))))))
      clear T8 h8 hbl8 hlt1 hlt2 hcw hbw hT8 hq5 hr8 e0 e1 e2
      go_wp2_with (go_at_call 155;fail)
      refine HMP.out.mono ?_
      rintro e w9 ⟨B',mb',rfl,hTA,T9⟩
      have blk9:=T9.heap H8.out.2.1 (fun f=>f)
      have g0:w9.cell? ⟨q,0,none⟩=some (.pointer (some ⟨B,0,none⟩)):=T9.cell f0 (fun f=>f)
      have z0:=Ux.frozen_row blk9 0
      obtain ⟨W10,hW10⟩: ∃W,w9.setCell ⟨q,0,none⟩ (.pointer (some ⟨B',0,none⟩))=W:=⟨_,rfl⟩
      have T10:Ux.Touch (fun b=>b=q) w9 W10:=by rw [←hW10];exact (Ux.Touch.refl (fun b=>b=q) w9).setCell (p:=⟨q,0,none⟩) (fun _=>rfl) _
      have blk10:W10.heap[q]? =some (.cells #[.pointer (some ⟨B',0,none⟩),.slice (some ⟨ga,0,none⟩) n cv] 116 (0,0)):=by rw [←hW10];exact Ux.setCell_row blk9 0 _
      have i1:W10.cell? ⟨q,1,none⟩=some (.slice (some ⟨ga,0,none⟩) n cv):=by rw [cell_of_row W10 q 1 _ _ (0,0) blk10];rfl
      rw [←hW10] at i1
      have hr10:=(H8.out.2.2.2.2.2.2.touch0 T9).touch T10 fun b _ hb e=>by
       obtain ⟨cs,hk⟩:=(H8.out.2.2.2.2.2.2.touch0 T9).kind hb
       rw [e,blk9] at hk
       cases hk
      have hla:a.length=n:=HH.out.2.2.2.2.2.2.2.1
      have hcap:n≤cv:=by
       rcases hr10 with ⟨e,_⟩|⟨g',c',cur,e,_,_,h5,_⟩
       ·cases e
       ·cases e
        rw [Ux.ev_length,hla] at h5
        exact h5
      have htk:=hr10.take (by simp) (k+1) (by rw [Ux.ev_length,hla];omega)
      rw [show (ev a).take (k+1)=ev (a.take (k+1)) by unfold ev;rw [List.map_take]] at htk
      have HCL:=Lib.hid (cloneE (a.take (k+1)) htk (by rw [List.length_take];omega))
      have H10:=Lib.hid (And.intro hTA (And.intro T9 (And.intro T10 blk10)))
      have HW10:=Lib.hid hW10
      have j1:(k:Int)+1≤cv:=by omega
      have j2:k+1≤cv:=by omega
      clear hTA T9 blk9 T10 blk10 hr10 hcap htk hW10 hla
      go_wp2_with (go_at_call 63;fail)
      rw [HW10.out]
      refine HCL.out.mono ?_
      rintro e w11 ⟨vc,rfl,hrc,T11⟩
      obtain ⟨LA,hLA⟩: ∃l,a.take (k+1)=l:=⟨_,rfl⟩
      rw [hLA] at hrc
      have hlen:LA.length=k+1:=by rw [←hLA,List.length_take,HH.out.2.2.2.2.2.2.2.1];omega
      obtain ⟨gc,cc,rfl,hgc⟩: ∃gc cc,vc= .slice (some ⟨gc,0,none⟩) (k+1:Nat) cc∧W10.heap.size≤gc:=by
       rcases hrc with ⟨_,e⟩|⟨gc,cc,cur,e,hg,_⟩
       ·have:=congrArg List.length e
        rw [Ux.ev_length,hlen] at this
        cases this
       ·rw [Ux.ev_length,hlen] at e
        exact ⟨gc,cc,e,hg⟩
      have blk11:=T11.heap H10.out.2.2.2 (fun f=>f)
      have y1:=Ux.frozen_row blk11 1
      have y2:w11.cell? ⟨q,1,none⟩=some (.slice (some ⟨ga,0,none⟩) n cv):=by rw [cell_of_row w11 q 1 _ _ (0,0) blk11];rfl
      obtain ⟨W12,hW12⟩: ∃W,w11.setCell ⟨q,1,none⟩ (.slice (some ⟨gc,0,none⟩) (k+1:Nat) cc)=W:=⟨_,rfl⟩
      have T12:Ux.Touch (fun b=>b=q) w11 W12:=by rw [←hW12];exact (Ux.Touch.refl (fun b=>b=q) w11).setCell (p:=⟨q,1,none⟩) (fun _=>rfl) _
      have blk12:W12.heap[q]? =some (.cells #[.pointer (some ⟨B',0,none⟩),.slice (some ⟨gc,0,none⟩) (k+1:Nat) cc] 116 (0,0)):=by rw [←hW12];exact Ux.setCell_row blk11 1 _
      have m1:W12.cell? ⟨q,1,none⟩=some (.slice (some ⟨gc,0,none⟩) (k+1:Nat) cc):=by rw [cell_of_row W12 q 1 _ _ (0,0) blk12];rfl
      have hq10:q<W10.heap.size:=Ux.lt_of_heap H10.out.2.2.2
      have hrc12:=hrc.touch T12 fun b hb1 hb2 e=>by omega
      have hblq:bl≠q:=by have:=HW.out.2.2.2;omega
      have hbwq:bw≠q:=by have:=H8.out.2.2.2.2.1;have:=H8.out.2.2.2.2.2.1;omega
      have T812:Ux.Touch (fun b=>b=q) W8 W12:=(((H10.out.2.1.mono (fun _ _ f=>f.elim):Ux.Touch (fun b=>b=q) W8 w9).trans H10.out.2.2.1 fun _ _ e=>e).trans T11 fun _ _ f=>f.elim).trans T12 fun _ _ e=>e
      have hcb:=T812.cell H8.out.2.2.1 (fun e=>hblq e)
      have hcw:=T812.cell H8.out.2.2.2.1 (fun e=>hbwq e)
      have hs8:bl<W10.heap.size∧bw<W10.heap.size:=by
       have h1:bl<W8.heap.size:=block_lt_of_cell H8.out.2.2.1
       have h2:bw<W8.heap.size:=block_lt_of_cell H8.out.2.2.2.1
       have h3:=H10.out.2.1.size
       have h4:=H10.out.2.2.1.size
       omega
      have HT9:=Lib.hid ((H10.out.2.2.1.trans T11 fun _ _ f=>f.elim).trans T12 fun _ _ e=>e)
      have H12:=Lib.hid (And.intro T812 (And.intro blk12 (And.intro hrc12 (And.intro hcb (And.intro hcw (And.intro hs8 (And.intro hgc (And.intro hLA (And.intro hlen hq10)))))))))
      have HW12:=Lib.hid hW12
      rw [←hW12] at m1
      have k3:(k:Int)+1≤8:=by omega
      clear hrc T11 blk11 T12 blk12 hrc12 hblq hbwq T812 hcb hcw hs8 hgc hLA hlen hq10 hW12 i1 g0 z0 f0 f1 HCL HMP
      go_wp2_with (fail)
      rw [HW12.out]
      clear m1 y1 y2
      go_loopg [91] (k+1) (fun gk s91 wr=> ∃i:Nat,s91= .int .i64 i∧i+gk=k+1∧Hid (Row wr W10.heap.size 56 (.slice (some ⟨gc,0,none⟩) (k+1:Nat) cc) (ev ((LA.take i).map (raise L v)++LA.drop i))∧Ux.Touch (fun b=>b=gc) W12 wr))
      case atStart=>exact ⟨0,rfl,by omega,Lib.hid ⟨H12.out.2.2.1,Ux.Touch.refl _ _⟩⟩
      case round=>
       obtain ⟨i,rfl,hig,HJ⟩:=hrel
       have i0:(0:Int)≤i:=by omega
       have hngc:q≠gc∧bl≠gc∧bw≠gc:=by
        obtain ⟨_,_,_,_,_,⟨h1,h2⟩,h3,_,_,h4⟩:=H12.out
        omega
       have HNG:=Lib.hid hngc
       have m1:wr.cell? ⟨q,1,none⟩=some (.slice (some ⟨gc,0,none⟩) (k+1:Nat) cc):=by
        rw [cell_of_row wr q 1 _ _ (0,0) (HJ.out.2.heap H12.out.2.1 hngc.1)];rfl
       by_cases hin:i<k+1
       ·obtain ⟨g',rfl⟩: ∃g',gk=g'+1:=⟨gk-1,by omega⟩
        have i1:(i:Int)<(k:Int)+1:=by omega
        obtain ⟨y,hy⟩: ∃y,LA[i]? =some y:=⟨_,List.getElem?_eq_getElem (by have:=H12.out.2.2.2.2.2.2.2.2.1;omega)⟩
        have hy2:((LA.take i).map (raise L v)++LA.drop i)[i]? =some y:=by
         have hl:=H12.out.2.2.2.2.2.2.2.2.1
         rw [List.getElem?_append_right (by simp;omega),List.length_map,List.length_take,Nat.min_eq_left (by omega),Nat.sub_self,Ux.drop_get hy]
         rfl
        obtain ⟨gc',e',_,m2⟩:=HJ.out.1.at (Ux.ev_get hy2)
        cases e'
        have hy32:y<4294967296:=HH.out.2.2.2.2.2.2.1 y (List.mem_of_mem_take (by rw [H12.out.2.2.2.2.2.2.2.1];exact List.mem_of_getElem? hy))
        have HV:=Lib.hid fun W (TT:Ux.Touch (fun _=>False) wr W)=>mv1_ L v y hL hy32 bl bw W (TT.cell (HJ.out.2.cell H12.out.2.2.2.1 hngc.2.1) (fun f=>f)) (TT.cell (HJ.out.2.cell H12.out.2.2.2.2.1 hngc.2.2) (fun f=>f))
        have HKQ:=Lib.hid fun W (TT:Ux.Touch (fun _=>False) wr W)=>TT.cell m1 (fun f=>f)
        have HST:=Lib.hid (And.intro hy (ev_step (F:=raise L v) hy))
        have HM2:=Lib.hid m2
        clear hy hy2 hin hy32 hngc
        go_upto_region 15 with (fail)
        refine Ux.wpr (fun _ w'=>w'.cell? ⟨q,1,none⟩=some (.slice (some ⟨gc,0,none⟩) (k+1:Nat) cc)) (.q [0,1,2,4,5,6] (.h false [3] (.e 7 true false (.line [8,9])))) ?_;repeat ((with_reducible refine Ux.qg ?_);refine Ux.qu ?_)
        go_wp2_with (go_at_call 154;refine (HV.out _ (by repeat (first|exact Ux.Touch.refl _ _|refine Ux.Touch.drew ?_))).mono ?_;rintro e w13 ⟨rfl,T13⟩;have T13w:Ux.Touch (fun _=>False) wr w13:=(Ux.Touch.refl _ wr).drew.trans T13 fun _ _ f=>f)
        refine ⟨HKQ.out _ (by repeat (first|exact T13w|exact Ux.Touch.refl _ _|refine Ux.Touch.drew ?_)),?_⟩
        have hJ13:=HJ.out.1.touch0 T13w
        have m3:=T13w.cell HM2.out (fun f=>f)
        have z3:=hJ13.frozen i
        have hset:=hJ13.set i (.int .u32 (raise L v y:Nat))
        rw [HST.out.2] at hset
        have H13:=Lib.hid (And.intro hset (((HJ.out.2.trans T13w fun _ _ f=>f.elim):Ux.Touch (fun b=>b=gc) W12 w13).setCell (p:=⟨gc,i,none⟩) (fun _=>rfl) (.int .u32 (raise L v y:Nat))))
        clear hJ13 hset T13w
        go_wp2
        go_roundg g'
        case measure=>omega
        case rel=>exact ⟨i+1,rfl,by omega,H13⟩
       ·have i1: ¬((i:Int)<(k:Int)+1):=by omega
        have hik:i=k+1:=by omega
        have hrow:Row wr W10.heap.size 56 (.slice (some ⟨gc,0,none⟩) (k+1:Nat) cc) (ev (LA.map (raise L v))):=by
         have hl:=H12.out.2.2.2.2.2.2.2.2.1
         have h:=HJ.out.1
         rw [List.take_of_length_le (by omega),List.drop_eq_nil_of_le (by omega),List.append_nil] at h
         exact h
        have hkx:LA[k]? =some x:=by rw [←H12.out.2.2.2.2.2.2.2.1,List.getElem?_take_of_lt (by omega)];exact HK.out.1
        have hw:raise L v x=x:=by
         unfold raise
         rw [if_neg (by rw [HK.out.2.1];omega)]
        have hkr:(LA.map (raise L v))[k]? =some x:=by rw [List.getElem?_map,hkx];show some (raise L v x)=some x;rw [hw]
        obtain ⟨gc',e',_,m2⟩:=hrow.at (Ux.ev_get hkr)
        cases e'
        have m3:=HJ.out.2.cell H12.out.2.2.2.1 (fun e=>hngc.2.1 e)
        have m4:=HJ.out.2.cell H12.out.2.2.2.2.1 (fun e=>hngc.2.2 e)
        have HR17:=Lib.hid fun W (TT:Ux.Touch (fun _=>False) wr W)=>And.intro (TT.cell m1 (fun f=>f)) (And.intro (TT.cell m2 (fun f=>f)) (And.intro (TT.cell m3 (fun f=>f)) (TT.cell m4 (fun f=>f))))
        have HEN:=Lib.hid hrow
        have hngc2: ¬(q=gc):=hngc.1
        clear hin hngc hik hrow hkx hw hkr
        have hv65:=wt8_lt L x HK.out.2.2.2
        rw [HK.out.2.1] at hv65
        have hinc:=withF_inc L x
        rw [HK.out.2.1] at hinc
        have HE1:=Lib.hid fun W=>ewith_ L x (v+1) (L:Int) (x:Int) ((v:Int)+1) rfl rfl (by omega) hL HK.out.2.2.2 (by omega) W
        rw [hinc] at HE1
        have hx32:=HK.out.2.2.2
        have v65:(v:Int)≤65535:=by omega
        have v0:(0:Int)≤v:=by omega
        clear hinc hv65
        go_upto_region 17 with (fail)
        go_cut [10] (fun s10 wx=>s10= .int .u32 (incW L x:Nat)∧Ux.Touch (fun _=>False) wr wx)
        case first=>
         refine Ux.wpr (fun _ w'=>w'.cell? ⟨q,1,none⟩=some (.slice (some ⟨gc,0,none⟩) (k+1:Nat) cc)∧w'.cell? ⟨gc,k,none⟩=some (.int .u32 (x:Int))∧w'.cell? ⟨bl,0,none⟩=some (.int .i64 (L:Int))∧w'.cell? ⟨bw,0,none⟩=some (.int .i64 (v:Int))) (.q [0,1,2,4] (.h false [3,7,8] (.q [5,9] (.h false [6] (.e 10 true false (.line [11])))))) ?_;repeat ((with_reducible refine Ux.qg ?_);refine Ux.qu ?_)
         go_wp2_with (go_at_call 146;refine (HE1.out _).mono ?_;rintro e w' ⟨rfl,hw⟩;obtain rfl:=hw.symm)
         refine ⟨HR17.out _ (by repeat (first|exact Ux.Touch.refl _ _|refine Ux.Touch.drew ?_)),?_⟩
         go_wp2
         go_meet
         exact ⟨rfl,by repeat (first|exact Ux.Touch.refl _ _|refine Ux.Touch.drew ?_)⟩
        obtain ⟨rfl,hT17⟩:=hcut
        obtain ⟨W17,rfl⟩: ∃W,W=wc:=⟨_,rfl⟩
        obtain ⟨m1,m2,m3,m4⟩:=HR17.out W17 hT17
        have hrow:=HEN.out.touch0 hT17
        have z3:=hrow.frozen k
        have hset:=hrow.set k (.int .u32 (newK L x:Nat))
        have hk1:k<k+1:=by omega
        have H17:=Lib.hid (And.intro hT17 hset)
        clear hT17 hrow hset
        have hfin:MoveR (W17.setCell ⟨gc,k,none⟩ (.int .u32 (newK L x:Nat))) q RES (.returned (.int .i64 0))∧Ux.Touch (fun b=>b=q) w (W17.setCell ⟨gc,k,none⟩ (.int .u32 (newK L x:Nat))):=by
         have hS17:Ux.Touch (fun b=>b=gc) W12 (W17.setCell ⟨gc,k,none⟩ (.int .u32 (newK L x:Nat))):=(HJ.out.2.trans H17.out.1 fun _ _ f=>f.elim).setCell (p:=⟨gc,k,none⟩) (fun _=>rfl) _
         have hgc:=H12.out.2.2.2.2.2.2.1
         have hs9:w9.heap.size≤gc:=Nat.le_trans H10.out.2.2.1.size hgc
         have T9e:Ux.Touch (fun b=>b=q) w9 (W17.setCell ⟨gc,k,none⟩ (.int .u32 (newK L x:Nat))):=HT9.out.trans hS17 fun b hb e=>by omega
         have blkE:=hS17.heap H12.out.2.1 hngc2
         have hw9:=H10.out.2.1.heap H8.out.2.1 (fun f=>f)
         refine ⟨?_,?_⟩
         ·rw [H5.out.2]
          refine ⟨rfl,fun _=>⟨B',mb',mapE (raise L v) E,_,⟨blkE,H10.out.1.touchK T9e fun b hb=> ?_⟩,HH.out.2.1.mapE _,?_⟩⟩
          ·subst hb
           refine ⟨_,_,hw9,by decide,by decide,fun u hu=> ?_⟩
           simp at hu
           rcases hu with rfl|rfl
           ·exact ⟨fun m h=>(by cases h),fun m h=>(by cases h)⟩
           ·exact ⟨fun m h=>(by cases h),fun m h=>(by cases h)⟩
          ·have h:=H17.out.2
           rw [H12.out.2.2.2.2.2.2.2.1.symm] at h
           refine Row.mono ?_ (Nat.zero_le W10.heap.size)
           have e:(ev ((a.take (k+1)).map (raise L v))).set k (.int .u32 (newK L x:Nat))=ev (((a.take (k+1)).map (raise L v)).set k (newK L x)):=by
            unfold ev
            rw [List.map_set]
           rw [e] at h
           exact h
         ·have h1:Ux.Touch (fun b=>b=q) w W8:=((HW.out.2.1.trans H8.out.1 fun _ _ f=>f).mono fun _ _ f=>f.elim)
          refine (h1.trans H12.out.1 fun _ _ e=>e).trans hS17 fun b hb e=> ?_
          have h2:=H12.out.2.2.2.2.2.1.1
          have h3:=hbl
          omega
        have HF:=Lib.hid hfin
        clear hfin
        have hq3:(((L:Int)==1)=true∧((L:Int)==2)=false∧L=1)∨(((L:Int)==1)=false∧((L:Int)==2)=true∧L=2)∨(((L:Int)==1)=false∧((L:Int)==2)=false∧L=3):=by
         rcases hL with rfl|rfl|rfl
         ·exact .inl ⟨rfl,rfl,rfl⟩
         ·exact .inr (.inl ⟨rfl,rfl,rfl⟩)
         ·exact .inr (.inr ⟨rfl,rfl,rfl⟩)
        rcases hq3 with ⟨q1,q2,hl⟩|⟨q1,q2,hl⟩|⟨q1,q2,hl⟩
        ·have hve:v=eP x:=by rw [←HK.out.2.1,hl];rfl
         have hb6: ¬64255<v:=fun h=>by
          have h5:=HBD.out
          simp [hl] at h5
          omega
         have HEM:Hid (∀W:World,Calls Tryz.prog 100 #[.int .i64 ((v:Int)+1),.int .i64 32,.int .i64 2,.bool false] W fun e w'=>e= .returned (.tuple #[.int .u32 (newK L x:Nat),.int .i64 0])∧w'=W):=Lib.hid fun W=>by
          have h:=emake_ (v+1) 32 2 false (by omega) (by omega) (by omega) W
          rw [show eMk (v+1) 32 2 false=newK L x by unfold newK;rw [if_pos hl,hve],show ((v+1:Nat):Int)=(v:Int)+1 by omega] at h
          exact h
         clear hve hb6 hl
         go_wp2_with (go_at_call 100;refine (HEM.out _).mono ?_;rintro e w' ⟨rfl,hw⟩;obtain rfl:=hw.symm)
         go_returns
         exact HF.out
        ·have HE3:Hid (∀W:World,Calls Tryz.prog 146 #[.int .u32 (incW L x:Nat),.int .i64 3,.int .i64 2] W fun e w'=>e= .returned (.int .u32 (newK L x:Nat))∧w'=W):=Lib.hid fun W=>by
          have h:=ewith_ 3 (incW L x) 2 3 (incW L x:Nat) 2 rfl rfl rfl (.inr (.inr rfl)) (Ux.incW_lt L x hx32) (by omega) W
          rw [show withF 3 (incW L x) 2=newK L x by rw [hl];exact withF_new2 x] at h
          exact h
         clear hl
         go_wp2_with (go_at_call 146;refine (HE3.out _).mono ?_;rintro e w' ⟨rfl,hw⟩;obtain rfl:=hw.symm)
         go_returns
         exact HF.out
        ·have hX:incW L x=newK L x:=by rw [hl];exact (Ux.new_3 x).symm
         rw [hX]
         clear hl hX
         go_wp2_with (fail)
         go_returns
         exact HF.out
end Go.Proofs.YtfccjaboicpohaaGreatDoor
namespace Go.Proofs.YtfccjaboicpohaaGreatDoor
open Go.RowKit
open Ux (Row Ent sv ev iv elemsE SameE SortedE mapE stepA anchorOk)
open Ux.Sign (cp raw)
open Ux.Rules (Rul okRul okQ)
def StAt (w:World) (q:Nat) (T:List Ent) (a:List Nat):Prop:= ∃B mb E va,WkAt w q B mb E va∧SameE E T∧Row w 0 56 va (ev a)
def TruleR (w:World) (q:Nat) (r:Nat×List Ent×List Nat) (e:Ending):Prop:=e= .returned (.int .i64 (r.1:Nat))∧(r.1=0→StAt w q r.2.1 r.2.2)
set_option maxHeartbeats 16000000 in
set_option maxRecDepth 100000 in
theorem truleA_ (q:Nat) (T:List Ent) (a:List Nat) (x:Rul) (v1 v2:Value) (w:World) (h:StAt w q T a) (hi:InvT T a) (hx:okRul (fun c=>cp c∨raw c) x) (h1:QV w 0 v1 x.seq) (h2:QV w 0 v2 x.exp) (hrel:x.rel=1):
 Calls Tryz.prog 50 #[.pointer (some ⟨q,0,none⟩),.agg #[.int .i64 (x.rel:Int),v1,v2]] w fun e w'=>TruleR w' q (ruleT T a x) e∧Ux.Touch (fun b=>b=q) w w':=by
 obtain ⟨B,mb,E,va,hW,hS,hr⟩:=h
 obtain ⟨b1,c1,rfl,_⟩:=h1.is
 obtain ⟨b2,c2,rfl,_⟩:=h2.is
 obtain ⟨m1,hm1⟩: ∃m,(iv (sv x.seq)).length=m:=⟨_,rfl⟩
 obtain ⟨m2,hm2⟩: ∃m,(iv (sv x.exp)).length=m:=⟨_,rfl⟩
 rw [hm1] at h1⊢
 rw [hm2] at h2⊢
 obtain ⟨q3,hq3⟩: ∃k,w.heap.size=k:=⟨_,rfl⟩
 obtain ⟨W1,hW1⟩: ∃W,w.alloc (.cells #[.int .i64 (x.rel:Int),.slice b1 m1 c1,.slice b2 m2 c2] 117)=W:=⟨_,rfl⟩
 have t1:Ux.Touch (fun _=>False) w W1:=by rw [←hW1];exact (Ux.Touch.refl _ _).alloc _
 have hb1:W1.heap[q3]? =some (.cells #[.int .i64 (x.rel:Int),.slice b1 m1 c1,.slice b2 m2 c2] 117 (0,0)):=by rw [←hW1,←hq3];exact heap_alloc_new w _
 have x0:W1.cell? ⟨q3,0,none⟩=some (.int .i64 (x.rel:Int)):=by rw [cell_of_row W1 q3 0 _ _ (0,0) hb1];rfl
 have x1:W1.cell? ⟨q3,1,none⟩=some (.slice b1 m1 c1):=by rw [cell_of_row W1 q3 1 _ _ (0,0) hb1];rfl
 have hw1:=hW.touch t1
 obtain ⟨d0,d1⟩:=hw1.cells
 have hok:=hW.tab.1.1
 have hel:elemsE E x.seq=elemsE T x.seq:=Ux.elemsE_congr (Ux.findE_perm hok.1 hS.1) x.seq
 have hseq:=hx.2.1
 have HOF:=Lib.hid fun W (TT:Ux.Touch (fun _=>False) W1 W)=>ofs_ B mb E x.seq (.slice b1 m1 c1) W (hw1.tab.touch0 TT) ((h1.touch0 t1).touch0 TT) (fun c hc=>hseq.2.2 c hc) (by have:=hseq.2.1;omega)
 rw [hel] at HOF
 have hr1:(x.rel:Int)=1:=by omega
 obtain ⟨RES,hRES⟩: ∃r,ruleT T a x=r:=⟨_,rfl⟩
 have hRES2:RES=if 8<(elemsE T x.seq).length then (1,T,a) else (0,T,elemsE T x.seq):=by
  rw [←hRES]
  unfold ruleT
  rw [if_pos hrel]
 rw [hRES]
 obtain ⟨EL,hEL⟩: ∃l,elemsE T x.seq=l:=⟨_,rfl⟩
 rw [hEL] at HOF hRES2
 rw [hr1] at x0 hW1 hb1⊢
 have HH:=Lib.hid (And.intro t1 (And.intro hw1 (And.intro hS hRES2)))
 have HC:=Lib.hid fun W (TT:Ux.Touch (fun _=>False) W1 W)=>And.intro (TT.cell d0 (fun f=>f)) (TT.cell x1 (fun f=>f))
 have HNM:Hid ((∀m,va≠.map m)∧∀z,va≠.int .i32 z):=Lib.hid (by
  obtain ⟨_,_,rfl,_⟩:=hr.is
  exact ⟨fun m h=>(by cases h),fun m h=>(by cases h)⟩)
 clear hW hS hr h1 h2 hm1 hm2 hi hx t1 hb1 hw1 hok hel hseq hr1 hRES hRES2 hEL hrel
 go_enter Tryz.func50,Tryz.ntmps50
 go_upto_region 2 with (fail)
 refine Ux.wpr (fun _ w'=>w'.cell? ⟨q,0,none⟩=some (.pointer (some ⟨B,0,none⟩))∧w'.cell? ⟨q3,1,none⟩=some (.slice b1 m1 c1)) (.q [0,1,2,3,5] (.h false [4,6] (.e 7 false false (.line [8,9,10])))) ?_;repeat ((with_reducible refine Ux.qg ?_);refine Ux.qu ?_)
 go_wp2_with (go_at_call 96;fail)
 refine (HOF.out _ (by repeat (first|exact Ux.Touch.refl _ _|refine Ux.Touch.drew ?_))).mono ?_
 rintro e w5 ⟨u,rfl,hu,T5⟩
 obtain ⟨au,cu,hu0,_⟩:=hu.is
 obtain ⟨nu,hnu⟩: ∃n,(ev EL).length=n:=⟨_,rfl⟩
 rw [hnu] at hu0
 subst hu0
 have hel2:EL.length=nu:=by rw [←hnu,Ux.ev_length]
 have T15:Ux.Touch (fun _=>False) W1 w5:=(Ux.Touch.refl _ W1).drew.trans T5 fun _ _ f=>f
 have hw5:=HH.out.2.1.touch T15
 obtain ⟨d0,d1⟩:=hw5.cells
 have z1:=Ux.frozen_row hw5.blk 1
 have T6:Ux.Touch (fun b=>b=q) w5 (w5.setCell ⟨q,1,none⟩ (.slice au nu cu)):=(Ux.Touch.refl (fun b=>b=q) w5).setCell (p:=⟨q,1,none⟩) (fun _=>rfl) _
 have blk6:=Ux.setCell_row hw5.blk 1 (.slice au nu cu)
 have hu6:=(hu.mono (Nat.zero_le _)).touch T6 fun b _ hb e=>by
  obtain ⟨cs,hk⟩:=hu.kind hb
  rw [e,hw5.blk] at hk
  cases hk
 have ht6:TableAt (w5.setCell ⟨q,1,none⟩ (.slice au nu cu)) B mb E:=by
  refine hw5.tab.touchK T6 fun b hb=> ?_
  subst hb
  refine ⟨_,_,hw5.blk,by decide,by decide,fun y hy=> ?_⟩
  simp at hy
  rcases hy with rfl|rfl
  ·exact ⟨fun m h=>(by cases h),fun m h=>(by cases h)⟩
  ·exact HNM.out
 have e1:(w5.setCell ⟨q,1,none⟩ (.slice au nu cu)).cell? ⟨q,1,none⟩=some (.slice au nu cu):=by rw [cell_of_row _ q 1 _ _ (0,0) blk6];rfl
 have H6:=Lib.hid (And.intro blk6 (And.intro hu6 (And.intro ht6 (And.intro hel2 ((HH.out.1.trans T15 fun _ _ f=>f).mono (fun _ _ f=>f.elim)|>.trans T6 fun _ _ e=>e:Ux.Touch (fun b=>b=q) w _)))))
 clear hu hnu hel2 T15 hw5 T6 blk6 hu6 ht6 T5
 by_cases k8:8<nu
 ·have k9:(8:Int)<nu:=by omega
  have HE:=Lib.hid k8
  clear k8
  go_wp2_with (fail)
  go_returns
  refine ⟨?_,H6.out.2.2.2.2⟩
  rw [HH.out.2.2.2,if_pos (by rw [H6.out.2.2.2.1];exact HE.out)]
  exact ⟨rfl,fun h=>by cases h⟩
 ·have k9: ¬((8:Int)<nu):=by omega
  have HE:=Lib.hid k8
  clear k8
  go_wp2_with (fail)
  go_returns
  refine ⟨?_,H6.out.2.2.2.2⟩
  rw [HH.out.2.2.2,if_neg (by rw [H6.out.2.2.2.1];exact HE.out)]
  exact ⟨rfl,fun _=>⟨B,mb,E,_,⟨H6.out.1,H6.out.2.2.1⟩,HH.out.2.2.1,H6.out.2.1⟩⟩
 skip
theorem iview_row {w:World} {lo:Nat} {v:Value} {s:List Int} (h:Row w lo 3 v (iv s)):IView w v s:=by
 obtain ⟨a,c,e,hc⟩:=h.is
 rw [Ux.iv_length] at e
 refine ⟨a,c,e,fun j x hx=> ?_⟩
 obtain ⟨g,h1,_,h2⟩:=hc j _ (Ux.iv_get hx)
 exact ⟨g,0,h1,by rw [Nat.zero_add];exact h2⟩
theorem twithD_ (B mb:Nat) (E T:List Ent) (s:List Int) (l:List Nat) (vs vl:Value) (w:World) (hT:TableAt w B mb E) (hS:SameE E T) (hs:IView w vs s) (h63:s.length≤9223372036854775807) (hl:Row w 0 56 vl (ev l)) (hlt: ∀x∈l,x<4294967296) (hn:l.length≤1000) (hE:E.length≤500):
 Calls Tryz.prog 19 #[.pointer (some ⟨B,0,none⟩),vs,vl] w fun e w'=> ∃P,e= .returned (.tuple #[.pointer P,.int .i64 (codeE T s l:Nat)])∧(codeE T s l=0∧(∃B' mb',P=some ⟨B',0,none⟩∧TableAt w' B' mb' (stepU T E s l))∨codeE T s l≠0∧P=none)∧Ux.Touch (fun _=>False) w w':=by
 by_cases h8:8<l.length
 ·have h1:codeE T s l=1:=by unfold codeE;rw [if_pos (.inr h8)]
  obtain ⟨a,c,hv,_⟩:=hl.is
  rw [Ux.ev_length] at hv
  subst hv
  rw [h1]
  exact (twithNo_ _ s vs a _ c w hs h63 (by omega) (.inr h8)).mono fun e w' ⟨he,ht⟩=>⟨none,he,.inr ⟨by decide,rfl⟩,ht⟩
 ·exact twithC_ B mb E T s l vs vl w hT hS hs h63 hl hlt (by omega) hE
def goT (T:List Ent) (a:List Nat) (r:Nat):Nat×List Ent×List Nat:=if r<5 then stepA T a (r-1) else (0,T,a)
theorem goT_ok {T:List Ent} {a:List Nat} (h:InvT T a) {r:Nat} (hz:(goT T a r).1=0):Ux.okT (goT T a r).2.1∧(∀e∈(goT T a r).2.1,∀c∈e.1,cp c∨raw c)∧(goT T a r).2.1.length≤500∧(goT T a r).2.2.length≤8∧∀y∈(goT T a r).2.2,y<4294967296:=by
 unfold goT at hz⊢
 by_cases h5:r<5
 ·rw [if_pos h5] at hz⊢
  obtain ⟨_,h2,h3,h4,h6,h7⟩:=stepA_ok h _ hz
  exact ⟨h2,h3,by rw [h4];exact h.len,by have:=h.alen;omega,h7⟩
 ·rw [if_neg h5]
  exact ⟨h.ok,h.sig,h.len,h.alen,fun y hy=>(h.anchor y hy).1⟩
set_option maxHeartbeats 16000000 in
set_option maxRecDepth 100000 in
theorem truleB_ (q:Nat) (T:List Ent) (a:List Nat) (x:Rul) (v1 v2:Value) (w:World) (h:StAt w q T a) (hi:InvT T a) (hx:okRul (fun c=>cp c∨raw c) x) (h1:QV w 0 v1 x.seq) (h2:QV w 0 v2 x.exp) (hrel:x.rel≠1):
 Calls Tryz.prog 50 #[.pointer (some ⟨q,0,none⟩),.agg #[.int .i64 (x.rel:Int),v1,v2]] w fun e w'=>TruleR w' q (ruleT T a x) e∧Ux.Touch (fun b=>b=q) w w':=by
 obtain ⟨b1,c1,rfl,_⟩:=h1.is
 obtain ⟨b2,c2,rfl,_⟩:=h2.is
 obtain ⟨m1,hm1⟩: ∃m,(iv (sv x.seq)).length=m:=⟨_,rfl⟩
 obtain ⟨m2,hm2⟩: ∃m,(iv (sv x.exp)).length=m:=⟨_,rfl⟩
 rw [hm1] at h1⊢
 rw [hm2] at h2⊢
 obtain ⟨q3,hq3⟩: ∃k,w.heap.size=k:=⟨_,rfl⟩
 obtain ⟨r,hr⟩: ∃r,x.rel=r:=⟨_,rfl⟩
 obtain ⟨W1,hW1⟩: ∃W,w.alloc (.cells #[.int .i64 (r:Int),.slice b1 m1 c1,.slice b2 m2 c2] 117)=W:=⟨_,rfl⟩
 have t1:Ux.Touch (fun _=>False) w W1:=by rw [←hW1];exact (Ux.Touch.refl _ _).alloc _
 have hb1:W1.heap[q3]? =some (.cells #[.int .i64 (r:Int),.slice b1 m1 c1,.slice b2 m2 c2] 117 (0,0)):=by rw [←hW1,←hq3];exact heap_alloc_new w _
 have x0:W1.cell? ⟨q3,0,none⟩=some (.int .i64 (r:Int)):=by rw [cell_of_row W1 q3 0 _ _ (0,0) hb1];rfl
 obtain ⟨RES,hRES⟩: ∃y,ruleT T a x=y:=⟨_,rfl⟩
 rw [hr] at hrel⊢
 rw [hRES]
 have hres:RES=if (goT T a r).1≠0 then ((goT T a r).1,T,a) else if codeE (goT T a r).2.1 (sv x.seq) ((goT T a r).2.2++elemsE (goT T a r).2.1 x.exp)≠0 then (codeE (goT T a r).2.1 (sv x.seq) ((goT T a r).2.2++elemsE (goT T a r).2.1 x.exp),T,a) else (0,Ux.putE (goT T a r).2.1 x.seq ((goT T a r).2.2++elemsE (goT T a r).2.1 x.exp),(goT T a r).2.2):=by
  rw [←hRES]
  unfold ruleT goT
  rw [hr,if_neg hrel]
 have hq:q<w.heap.size:=by
  obtain ⟨B,mb,E,va,hW,_⟩:=h
  exact Ux.lt_of_heap hW.blk
 have hst1:StAt W1 q T a:=by
  obtain ⟨B,mb,E,va,hW,hS,hrow⟩:=h
  exact ⟨B,mb,E,va,hW.touch t1,hS,hrow.touch0 t1⟩
 have hr15:2≤r∧r≤5:=by
  have:=hx.1
  rw [hr] at this
  omega
 have HH:=Lib.hid (And.intro t1 (And.intro hb1 (And.intro hst1 (And.intro hi (And.intro hx (And.intro h1 (And.intro h2 (And.intro hres hq))))))))
 have hq3q:q3≠q:=by omega
 have HMV:=Lib.hid fun (L:Nat) (hL:L=1∨L=2∨L=3)=>show Calls Tryz.prog 102 #[.pointer (some ⟨q,0,none⟩),.int .i64 (L:Int)] W1 fun e w'=>MoveR w' q (stepA T a L) e∧Ux.Touch (fun b=>b=q) W1 w' by
  obtain ⟨B,mb,E,va,hW,hS,hrow⟩:=hst1
  exact move_ q B mb E T a va L hL W1 hW hS (fun e he=>hi.sig e (hS.1.mem_iff.1 he)) (by rw [hS.1.length_eq];exact hi.len) hrow hi.alen hi.anchor
 obtain ⟨F5,hF5⟩: ∃b,((r:Int) !=5)=b:=⟨_,rfl⟩
 have hF5r:F5=decide (r<5):=by
  rw [←hF5]
  have hc:r=2∨r=3∨r=4∨r=5:=by omega
  rcases hc with rfl|rfl|rfl|rfl<;>decide
 have hne1:((r:Int)==1)=false:=beq_false_of_ne (by omega)
 have HF5:=Lib.hid (And.intro hF5r hr15)
 clear h hi hx h1 h2 hm1 hm2 hRES hres hq hst1 hb1 hr t1 hF5r hr15 hrel
 go_enter Tryz.func50,Tryz.ntmps50
 go_upto_if 29 with (fail)
 go_cut [5] (fun s5 wx=>Hid ((goT T a r).1=0∧StAt wx q (goT T a r).2.1 (goT T a r).2.2∧Ux.Touch (fun b=>b=q) W1 wx))
 case first=>
  cases F5 with
  |false=>
   have hg:goT T a r=(0,T,a):=by unfold goT;rw [if_neg (of_decide_eq_false HF5.out.1.symm)]
   have HG:=Lib.hid hg
   clear hg
   go_wp2_with (fail)
   go_meet
   rw [HG.out]
   exact Lib.hid ⟨rfl,HH.out.2.2.1,Ux.Touch.refl _ _⟩
  |true=>
   have h5:r<5:=of_decide_eq_true HF5.out.1.symm
   obtain ⟨L,hL⟩: ∃L,r=L+1:=⟨r-1,by have:=HF5.out.2;omega⟩
   have hL3:L=1∨L=2∨L=3:=by have:=HF5.out.2;omega
   have hg:goT T a r=stepA T a L:=by unfold goT;rw [if_pos h5,hL];rfl
   have HM:=Lib.hid (HMV.out L hL3)
   have HG:=Lib.hid hg
   have e1:(r:Int)-2+1=(L:Int):=by omega
   have e2:(r:Int)-1=(L:Int):=by omega
   have r0:(r:Int)≤5:=by omega
   have r2:(2:Int)≤r:=by omega
   clear h5 hL hL3 hg HMV
   go_wp2_with (go_at_call 102;fail)
   refine HM.out.mono ?_
   rintro e w5 ⟨⟨rfl,hst⟩,T5⟩
   rw [←HG.out] at hst⊢
   obtain ⟨SC,hSC⟩: ∃k,(goT T a r).1=k:=⟨_,rfl⟩
   have HS:=Lib.hid (And.intro hst (And.intro hSC T5))
   rw [hSC]
   clear hst hSC T5
   by_cases h0:SC=0
   ·subst h0
    go_wp2_with (fail)
    go_meet
    exact Lib.hid ⟨HS.out.2.1,HS.out.1 HS.out.2.1,HS.out.2.2⟩
   ·have k0:((SC:Int) !=0)=true:=by
     have:((SC:Int)==0)=false:=beq_false_of_ne (by omega)
     show (!((SC:Int)==0))=true
     rw [this]
     rfl
    have k1:((SC:Int)==0)=false:=beq_false_of_ne (by omega)
    have HN0:=Lib.hid h0
    clear h0
    go_wp2_with (fail)
    go_returns
    refine ⟨?_,?_⟩
    ·rw [HH.out.2.2.2.2.2.2.2.1,if_pos (by rw [HS.out.2.1];exact HN0.out),HS.out.2.1]
     exact ⟨rfl,fun h=>absurd h HN0.out⟩
    ·exact (HH.out.1.mono (fun _ _ f=>f.elim):Ux.Touch (fun b=>b=q) w W1).trans HS.out.2.2 fun _ _ e=>e
 obtain ⟨W2,rfl⟩: ∃W,W=wc:=⟨_,rfl⟩
 obtain ⟨hz,⟨B,mb,E,va,hW,hS,hrow⟩,T2⟩:=hcut.out
 obtain ⟨k1,k2,k3,k4,k5⟩:=goT_ok HH.out.2.2.2.1 hz
 have hres:=HH.out.2.2.2.2.2.2.2.1
 rw [if_neg (fun h=>h hz)] at hres
 obtain ⟨T1,hT1⟩: ∃t,(goT T a r).2.1=t:=⟨_,rfl⟩
 obtain ⟨a1,ha1⟩: ∃t,(goT T a r).2.2=t:=⟨_,rfl⟩
 rw [hT1] at hS hres k1 k2 k3
 rw [ha1] at hrow hres k4 k5
 obtain ⟨av,cv,rfl,_⟩:=hrow.is
 obtain ⟨na,hna⟩: ∃n,(ev a1).length=n:=⟨_,rfl⟩
 rw [hna] at hW hrow
 have hna2:a1.length=na:=by rw [←hna,Ux.ev_length]
 have hb2:W2.heap[q3]? =some (.cells #[.int .i64 (r:Int),.slice b1 m1 c1,.slice b2 m2 c2] 117 (0,0)):=T2.heap HH.out.2.1 (fun e=>hq3q e)
 have y1:W2.cell? ⟨q3,1,none⟩=some (.slice b1 m1 c1):=by rw [cell_of_row W2 q3 1 _ _ (0,0) hb2];rfl
 have y2:W2.cell? ⟨q3,2,none⟩=some (.slice b2 m2 c2):=by rw [cell_of_row W2 q3 2 _ _ (0,0) hb2];rfl
 obtain ⟨d0,d1⟩:=hW.cells
 have HKS:=Lib.hid fun W (TT:Ux.Touch (fun _=>False) W2 W)=>And.intro (TT.cell d0 (fun f=>f)) (And.intro (TT.cell y1 (fun f=>f)) (And.intro (TT.cell d1 (fun f=>f)) (TT.cell y2 (fun f=>f))))
 have keepI: ∀(v:Value) (xs:List Value),Row w 0 3 v xs→Row W2 0 3 v xs:=fun v xs hR=>by
  refine (hR.touch0 HH.out.1).touch T2 fun b _ hb e=> ?_
  obtain ⟨cs,hk⟩:=(hR.touch0 HH.out.1).kind hb
  obtain ⟨B0,mb0,E0,va0,hW0,_⟩:=HH.out.2.2.1
  rw [e,hW0.blk] at hk
  cases hk
 have HQ:=Lib.hid (And.intro hW (And.intro hS (And.intro hrow (And.intro k1 (And.intro k2 (And.intro k3 (And.intro k4 (And.intro k5 (And.intro hres (And.intro T2 (And.intro hna2 (And.intro (keepI _ _ HH.out.2.2.2.2.2.1) (keepI _ _ HH.out.2.2.2.2.2.2.1)))))))))))))
 have hel:elemsE E x.exp=elemsE T1 x.exp:=Ux.elemsE_congr (Ux.findE_perm hW.tab.1.1.1 hS.1) x.exp
 have HOF:=Lib.hid fun W (TT:Ux.Touch (fun _=>False) W2 W)=>ofs_ B mb E x.exp (.slice b2 m2 c2) W (hW.tab.touch0 TT) ((keepI _ _ HH.out.2.2.2.2.2.2.1).touch0 TT) (fun c hc=>HH.out.2.2.2.2.1.2.2.1.2 c hc) (by have:=HH.out.2.2.2.2.1.2.2.1.1;omega)
 rw [hel] at HOF
 obtain ⟨EX,hEX⟩: ∃l,elemsE T1 x.exp=l:=⟨_,rfl⟩
 have hEXl:EX.length≤24:=by
  have h:=(Ux.elems_ok k1 (s:=x.exp) (sig_lt HH.out.2.2.2.2.1.2.2.1.2)).1
  rw [hEX] at h
  have:=HH.out.2.2.2.2.1.2.2.1.1
  omega
 rw [hEX] at HOF
 have HEX:=Lib.hid (And.intro hEX hEXl)
 clear hz hW hS hrow k1 k2 k3 k4 k5 hres hT1 ha1 hna hna2 hb2 y1 y2 d0 d1 keepI hel hEX hEXl T2 hcut x0
 obtain ⟨f0,f1,f2,f3⟩:=HKS.out W2 (Ux.Touch.refl _ _)
 go_upto_region 10 with (fail)
 refine Ux.wpr (fun _ w'=>w'.cell? ⟨q,0,none⟩=some (.pointer (some ⟨B,0,none⟩))∧w'.cell? ⟨q3,1,none⟩=some (.slice b1 m1 c1)∧w'.cell? ⟨q,1,none⟩=some (.slice av na cv)∧w'.cell? ⟨q3,2,none⟩=some (.slice b2 m2 c2)) (.q [0,1,2,4,6,7,8,10,11,12,14] (.h false [3,5,9,13,15] (.e 16 true false (.e 17 true false (.e 18 true false (.e 19 true false (.q [20,21,22,23] (.line [24])))))))) ?_;repeat ((with_reducible refine Ux.qg ?_);refine Ux.qu ?_)
 go_wp2_with (go_at_call 96;fail)
 refine (HOF.out _ (by repeat (first|exact Ux.Touch.refl _ _|refine Ux.Touch.drew ?_))).mono ?_
 rintro e w6 ⟨u,rfl,hu,T6⟩
 obtain ⟨au,cu,hu0,_⟩:=hu.is
 obtain ⟨nu,hnu⟩: ∃n,(ev EX).length=n:=⟨_,rfl⟩
 rw [hnu] at hu0
 subst hu0
 have T16w:Ux.Touch (fun _=>False) W2 w6:=(Ux.Touch.refl _ W2).drew.trans T6 fun _ _ f=>f
 go_wp2_with (fail)
 refine ⟨HKS.out _ (by repeat (first|exact T19w|exact T18w|exact T17w|exact T16w|exact Ux.Touch.refl _ _|refine Ux.Touch.drew ?_|refine Ux.Touch.alloc ?_ _)),?_⟩
 go_wp2_with (fail)
 refine ⟨HKS.out _ (by repeat (first|exact T19w|exact T18w|exact T17w|exact T16w|exact Ux.Touch.refl _ _|refine Ux.Touch.drew ?_|refine Ux.Touch.alloc ?_ _)),?_⟩
 obtain ⟨W7,hW7⟩: ∃W,w6.alloc (.cells #[.slice av na cv,.slice au nu cu] 49)=W:=⟨_,rfl⟩
 obtain ⟨g7,hg7⟩: ∃k,w6.heap.size=k:=⟨_,rfl⟩
 have t7:Ux.Touch (fun _=>False) w6 W7:=by rw [←hW7];exact (Ux.Touch.refl _ _).alloc _
 have hb7:W7.heap[g7]? =some (.cells #[.slice av na cv,.slice au nu cu] 49 (0,0)):=by rw [←hW7,←hg7];exact heap_alloc_new w6 _
 have T17w:Ux.Touch (fun _=>False) W2 W7:=T16w.trans t7 fun _ _ f=>f
 have HCO:=Lib.hid (concat_ g7 (.slice av na cv) (.slice au nu cu) a1 EX W7 (by rw [cell_of_row W7 g7 0 _ _ (0,0) hb7];rfl) (by rw [cell_of_row W7 g7 1 _ _ (0,0) hb7];rfl) (HQ.out.2.2.1.touch0 T17w) ((Row.mono hu (Nat.zero_le _)).touch0 t7) (by have:=HQ.out.2.2.2.2.2.2.1;omega) (by have:=HEX.out.2;omega))
 rw [hW7]
 clear hb7 t7 hu
 go_wp2_with (go_at_call 103;fail)
 refine HCO.out.mono ?_
 rintro e w8 ⟨uc,rfl,huc,T8⟩
 have T18w:Ux.Touch (fun _=>False) W2 w8:=T17w.trans T8 fun _ _ f=>f
 have HUC:=Lib.hid (Row.mono huc (Nat.zero_le _))
 obtain ⟨ac,cc,huc0,_⟩:=huc.is
 obtain ⟨nc,hnc⟩: ∃n,(ev (a1++EX)).length=n:=⟨_,rfl⟩
 rw [hnc] at huc0
 subst huc0
 clear huc hnc T17w T8
 go_wp2_with (fail)
 refine ⟨HKS.out _ (by repeat (first|exact T19w|exact T18w|exact T17w|exact T16w|exact Ux.Touch.refl _ _|refine Ux.Touch.drew ?_|refine Ux.Touch.alloc ?_ _)),?_⟩
 have HWI:=Lib.hid (twithD_ B mb E T1 (sv x.seq) (a1++EX) (.slice b1 m1 c1) (.slice ac nc cc) w8 (HQ.out.1.tab.touch0 T18w) HQ.out.2.1 (iview_row (HQ.out.2.2.2.2.2.2.2.2.2.2.2.1.touch0 T18w)) (by rw [Ux.sv_length];have:=HH.out.2.2.2.2.1.2.1.2.1;omega) HUC.out (fun y hy=>by
 rcases List.mem_append.1 hy with hy|hy
 ·exact HQ.out.2.2.2.2.2.2.2.1 y hy
 ·rw [←HEX.out.1] at hy
  exact (Ux.elems_ok HQ.out.2.2.2.1 (sig_lt HH.out.2.2.2.2.1.2.2.1.2)).2 y hy) (by rw [List.length_append];have:=HQ.out.2.2.2.2.2.2.1;have:=HEX.out.2;omega) (by rw [HQ.out.2.1.1.length_eq];exact HQ.out.2.2.2.2.2.1))
 go_wp2_with (go_at_call 19;fail)
 refine HWI.out.mono ?_
 rintro e w9 ⟨P,rfl,hP,T9⟩
 have T19w:Ux.Touch (fun _=>False) W2 w9:=T18w.trans T9 fun _ _ f=>f
 go_wp2_with (fail)
 refine ⟨HKS.out _ (by repeat (first|exact T19w|exact T18w|exact T17w|exact T16w|exact Ux.Touch.refl _ _|refine Ux.Touch.drew ?_|refine Ux.Touch.alloc ?_ _)),?_⟩
 repeat ((with_reducible refine Ux.qg ?_);refine Ux.qu ?_)
 have hw9:=HQ.out.1.touch T19w
 have z0:=Ux.frozen_row hw9.blk 0
 obtain ⟨g0,g1⟩:=hw9.cells
 have hrow9:=HQ.out.2.2.1.touch0 T19w
 have hlt: ∀y∈a1++EX,y<4294967296:=fun y hy=>by
  rcases List.mem_append.1 hy with hy|hy
  ·exact HQ.out.2.2.2.2.2.2.2.1 y hy
  ·rw [←HEX.out.1] at hy
   exact (Ux.elems_ok HQ.out.2.2.2.1 (sig_lt HH.out.2.2.2.2.1.2.2.1.2)).2 y hy
 have hstep:=step_ok HQ.out.2.1 HQ.out.1.tab.1.1 (fun e he=>HQ.out.2.2.2.2.1 e (HQ.out.2.1.1.mem_iff.1 he)) (by rw [HQ.out.2.1.1.length_eq];exact HQ.out.2.2.2.2.2.1) (sv x.seq) (a1++EX) hlt
 have hsame:=hstep.1
 have hre:=HQ.out.2.2.2.2.2.2.2.2.1
 rw [HEX.out.1] at hre
 have TT9:Ux.Touch (fun b=>b=q) w w9:=((HH.out.1.mono (fun _ _ f=>f.elim):Ux.Touch (fun b=>b=q) w W1).trans HQ.out.2.2.2.2.2.2.2.2.2.1 fun _ _ e=>e).trans T19w fun _ _ f=>f.elim
 have hsT:codeE T1 (sv x.seq) (a1++EX)=0→stepT T1 (sv x.seq) (a1++EX)=Ux.putE T1 x.seq (a1++EX):=fun h=>by
  unfold stepT
  rw [if_pos h,sv_nat]
 obtain ⟨C,hC⟩: ∃k,codeE T1 (sv x.seq) (a1++EX)=k:=⟨_,rfl⟩
 rw [hC] at hP hre hsT⊢
 rcases hP with ⟨hc0,B',mb',rfl,hTA⟩|⟨hc1,rfl⟩
 ·subst hc0
  rw [hsT rfl] at hsame
  rw [if_neg (by simp)] at hre
  have T10:Ux.Touch (fun b=>b=q) w9 (w9.setCell ⟨q,0,none⟩ (.pointer (some ⟨B',0,none⟩))):=(Ux.Touch.refl (fun b=>b=q) w9).setCell (p:=⟨q,0,none⟩) (fun _=>rfl) _
  have blk10:=Ux.setCell_row hw9.blk 0 (.pointer (some ⟨B',0,none⟩))
  have hr10:=hrow9.touch T10 fun b _ hb e=>by
   obtain ⟨cs,hk⟩:=hrow9.kind hb
   rw [e,hw9.blk] at hk
   cases hk
  have ht10:=hTA.touchK T10 fun b hb=>by
   subst hb
   refine ⟨_,_,hw9.blk,by decide,by decide,fun y hy=> ?_⟩
   simp at hy
   rcases hy with rfl|rfl
   ·exact ⟨fun m h=>(by cases h),fun m h=>(by cases h)⟩
   ·exact ⟨fun m h=>(by cases h),fun m h=>(by cases h)⟩
  have HFI:=Lib.hid (And.intro hre (And.intro (show StAt _ q (Ux.putE T1 x.seq (a1++EX)) a1 from ⟨B',mb',_,_,⟨blk10,ht10⟩,hsame,hr10⟩) (TT9.trans T10 fun _ _ e=>e)))
  clear hTA hw9 hrow9 hlt hstep hsame hre TT9 hsT hC T10 blk10 hr10 ht10 T19w T18w T16w T9
  go_wp2_with (fail)
  go_returns
  rw [HFI.out.1]
  exact ⟨⟨rfl,fun _=>HFI.out.2.1⟩,HFI.out.2.2⟩
 ·have k1:((C:Int)==0)=false:=beq_false_of_ne (by omega)
  rw [if_pos hc1] at hre
  have HFI:=Lib.hid (And.intro hre (And.intro hc1 TT9))
  clear hw9 hrow9 hlt hstep hsame hre TT9 hsT hC hc1 T19w T18w T16w T9
  go_wp2_with (fail)
  go_returns
  rw [HFI.out.1]
  exact ⟨⟨rfl,fun h=>absurd h HFI.out.2.1⟩,HFI.out.2.2⟩
theorem trule_ (q:Nat) (T:List Ent) (a:List Nat) (x:Rul) (v1 v2:Value) (w:World) (h:StAt w q T a) (hi:InvT T a) (hx:okRul (fun c=>cp c∨raw c) x) (h1:QV w 0 v1 x.seq) (h2:QV w 0 v2 x.exp):
 Calls Tryz.prog 50 #[.pointer (some ⟨q,0,none⟩),.agg #[.int .i64 (x.rel:Int),v1,v2]] w fun e w'=>TruleR w' q (ruleT T a x) e∧Ux.Touch (fun b=>b=q) w w':=by
 by_cases hr:x.rel=1
 ·exact truleA_ q T a x v1 v2 w h hi hx h1 h2 hr
 ·exact truleB_ q T a x v1 v2 w h hi hx h1 h2 hr
end Go.Proofs.YtfccjaboicpohaaGreatDoor
namespace Go.Proofs.YtfccjaboicpohaaGreatDoor
open Go.RowKit
open Ux (Row Ent sv ev iv SameE)
open Ux.Sign (cp raw)
open Ux.Rules (Rul okRul okRuls)
theorem StAt.touch {w w':World} {q:Nat} {T:List Ent} {a:List Nat} (h:StAt w q T a) (TT:Ux.Touch (fun _=>False) w w'):StAt w' q T a:=by
 obtain ⟨B,mb,E,va,h1,h2,h3⟩:=h
 exact ⟨B,mb,E,va,h1.touch TT,h2,h3.touch0 TT⟩
def ApplyR (w:World) (r:Nat×List Ent) (e:Ending):Prop:=(r.1≠0∧e= .returned (.tuple #[.pointer none,.int .i64 (r.1:Nat)]))∨(r.1=0∧∃B mb E,e= .returned (.tuple #[.pointer (some ⟨B,0,none⟩),.int .i64 0])∧TableAt w B mb E∧SameE E r.2)
set_option maxHeartbeats 16000000 in
set_option maxRecDepth 100000 in
theorem apply_ (B mb:Nat) (E T:List Ent) (l:List Rul) (v:Value) (w:World) (hT:TableAt w B mb E) (hS:SameE E T) (hi:InvT T []) (hl:RulesAt w 0 v l) (hok:okRuls (fun c=>cp c∨raw c) l) (hlen:l.length≤40):
 Calls Tryz.prog 11 #[.pointer (some ⟨B,0,none⟩),v] w fun e w'=>ApplyR w' (applyT T [] l) e∧Ux.Touch (fun _=>False) w w':=by
 obtain ⟨al,cl,rfl,hcel⟩:=hl
 obtain ⟨n,hn⟩: ∃n,l.length=n:=⟨_,rfl⟩
 rw [hn]
 obtain ⟨q,hq⟩: ∃q,w.heap.size=q:=⟨_,rfl⟩
 obtain ⟨W1,hW1⟩: ∃W,w.alloc (.cells #[.pointer (some ⟨B,0,none⟩),.slice none 0 0] 116)=W:=⟨_,rfl⟩
 have T1:Ux.Touch (fun _=>False) w W1:=by rw [←hW1];exact (Ux.Touch.refl _ _).alloc _
 have hb:W1.heap[q]? =some (.cells #[.pointer (some ⟨B,0,none⟩),.slice none 0 0] 116 (0,0)):=by rw [←hW1,←hq];exact heap_alloc_new w _
 have hst:StAt W1 q T []:=⟨B,mb,E,_,⟨hb,hT.touch0 T1⟩,hS,Row.nil _ _ _⟩
 obtain ⟨RES,hRES⟩: ∃r,applyT T [] l=r:=⟨_,rfl⟩
 rw [hRES]
 have HH:=Lib.hid (And.intro T1 (And.intro hst (And.intro hi (And.intro hcel (And.intro hok (And.intro hn (And.intro hRES hlen)))))))
 have n0:(n:Int)≤40:=by omega
 clear hT hS hi hcel hok hlen hn T1 hb hst hRES
 go_enter Tryz.func11,Tryz.ntmps11
 go_wp2_with (fail)
 go_loopg [7,17] n (fun gk s7 s17 wr=> ∃(i:Nat) (T1:List Ent) (a1:List Nat),s17= .int .i64 i∧s7= .bool (decide (0<i))∧i+gk=n∧Hid (StAt wr q T1 a1∧InvT T1 a1∧applyT T1 a1 (l.drop i)=RES∧Ux.Touch (fun b=>b=q) W1 wr))
 case atStart=>exact ⟨0,T,[],rfl,rfl,by omega,Lib.hid ⟨HH.out.2.1,HH.out.2.2.1,HH.out.2.2.2.2.2.2.1,Ux.Touch.refl _ _⟩⟩
 case round=>
  obtain ⟨i,T1,a1,rfl,rfl,hig,HI⟩:=hrel
  have i0:(0:Int)≤i:=by omega
  have T:=HI.out.2.2.2
  have TW:Ux.Touch (fun _=>False) w wr:=HH.out.1.trans T fun b hb e=>by omega
  by_cases hin:i<n
  ·obtain ⟨g',rfl⟩: ∃g',gk=g'+1:=⟨gk-1,by omega⟩
   have i1:(i:Int)<n:=by omega
   obtain ⟨x,hx⟩: ∃x,l[i]? =some x:=⟨_,List.getElem?_eq_getElem (by have:=HH.out.2.2.2.2.2.1;omega)⟩
   obtain ⟨g,v1,v2,rfl,c0,c1,c2,p1,p2⟩:=HH.out.2.2.2.1 i x hx
   obtain ⟨b1,e1,rfl,_⟩:=p1.is
   obtain ⟨b2,e2,rfl,_⟩:=p2.is
   obtain ⟨m1,hm1⟩: ∃m,(iv (sv x.seq)).length=m:=⟨_,rfl⟩
   obtain ⟨m2,hm2⟩: ∃m,(iv (sv x.exp)).length=m:=⟨_,rfl⟩
   rw [hm1] at c1 p1
   rw [hm2] at c2 p2
   have c0:=TW.cell c0 (fun f=>f)
   have c1:=TW.cell c1 (fun f=>f)
   have c2:=TW.cell c2 (fun f=>f)
   have hxok:=HH.out.2.2.2.2.1.1 x (List.mem_of_getElem? hx)
   have hfirst:i=0→x.rel=1:=fun h=>HH.out.2.2.2.2.1.2 x (by rw [h] at hx;rw [List.head?_eq_getElem?];exact hx)
   have hap:applyT T1 a1 (l.drop i)=if (ruleT T1 a1 x).1≠0 then ((ruleT T1 a1 x).1,T1) else applyT (ruleT T1 a1 x).2.1 (ruleT T1 a1 x).2.2 (l.drop (i+1)):=by rw [Ux.drop_get hx];rfl
   rw [HI.out.2.2.1] at hap
   obtain ⟨rl,hrl⟩: ∃r,x.rel=r:=⟨_,rfl⟩
   have hr15:=hxok.1
   rw [hrl] at hr15 hfirst c0
   obtain ⟨q9,hq9⟩: ∃k,wr.heap.size=k:=⟨_,rfl⟩
   obtain ⟨W4,hW4⟩: ∃W,wr.alloc (.cells #[.int .i64 (rl:Int),.slice b1 m1 e1,.slice b2 m2 e2] 117)=W:=⟨_,rfl⟩
   have t4:Ux.Touch (fun _=>False) wr W4:=by rw [←hW4];exact (Ux.Touch.refl _ _).alloc _
   have hb4:W4.heap[q9]? =some (.cells #[.int .i64 (rl:Int),.slice b1 m1 e1,.slice b2 m2 e2] 117 (0,0)):=by rw [←hW4,←hq9];exact heap_alloc_new wr _
   have x0:W4.cell? ⟨q9,0,none⟩=some (.int .i64 (rl:Int)):=by rw [cell_of_row W4 q9 0 _ _ (0,0) hb4];rfl
   have x1:W4.cell? ⟨q9,1,none⟩=some (.slice b1 m1 e1):=by rw [cell_of_row W4 q9 1 _ _ (0,0) hb4];rfl
   have x2:W4.cell? ⟨q9,2,none⟩=some (.slice b2 m2 e2):=by rw [cell_of_row W4 q9 2 _ _ (0,0) hb4];rfl
   have HTR:=Lib.hid (trule_ q T1 a1 x (.slice b1 m1 e1) (.slice b2 m2 e2) W4 (HI.out.1.touch t4) HI.out.2.1 hxok ((p1.touch0 TW).touch0 t4) ((p2.touch0 TW).touch0 t4))
   rw [hrl] at HTR
   have k1: ¬((rl:Int)<1):=by omega
   have k2: ¬((rl:Int)>5):=by omega
   have HX:=Lib.hid (And.intro hap (And.intro hxok (And.intro TW (T.trans t4 fun _ _ f=>f.elim))))
   have HFR:=Lib.hid hfirst
   have HWX:=Lib.hid (And.intro hW4 hq9)
   clear hx p1 p2 hm1 hm2 hxok hfirst hap hr15 t4 hb4 T TW hin hrl
   go_upto_region 6 with (fail)
   go_cut [7] (fun s7 wx=>s7= .bool true∧W4=wx)
   case first=>
    by_cases hi0:i=0
    ·have hr1:((rl:Int)==1)=true:=by rw [HFR.out hi0];rfl
     have hd:decide (0<i)=false:=by simp [hi0]
     rw [hd]
     clear hi0 hd
     go_wp2_with (fail)
     go_meet
     exact ⟨rfl,rfl⟩
    ·have hd:decide (0<i)=true:=by simp;omega
     rw [hd]
     clear hi0 hd
     go_wp2_with (fail)
     go_meet
     exact ⟨rfl,rfl⟩
   obtain ⟨rfl,rfl⟩:=hcut
   go_wp2_with (go_at_call 50;fail)
   refine HTR.out.mono ?_
   rintro e w5 ⟨⟨rfl,hst⟩,T5⟩
   obtain ⟨C,hC⟩: ∃k,(ruleT T1 a1 x).1=k:=⟨_,rfl⟩
   have HC:=Lib.hid (And.intro hst (And.intro hC T5))
   rw [hC]
   clear hst hC T5 x0 x1 x2 c0 c1 c2
   by_cases h0:C=0
   ·subst h0
    go_wp2_with (fail)
    go_roundg g'
    case measure=>omega
    case rel=>
     have h:=HX.out.1
     rw [if_neg (fun hh=>hh HC.out.2.1)] at h
     exact ⟨i+1,_,_,rfl,by simp,by omega,Lib.hid ⟨HC.out.1 HC.out.2.1,ruleT_ok HI.out.2.1 HX.out.2.1 HC.out.2.1,h.symm,HX.out.2.2.2.trans HC.out.2.2 fun _ _ e=>e⟩⟩
   ·have k5:((C:Int)==0)=false:=beq_false_of_ne (by omega)
    have HN:=Lib.hid h0
    clear h0
    go_wp2_with (fail)
    go_returns
    have h:=HX.out.1
    rw [if_pos (by rw [HC.out.2.1];exact HN.out),HC.out.2.1] at h
    refine ⟨?_,(HH.out.1.trans (HX.out.2.2.2.trans HC.out.2.2 fun _ _ e=>e) fun b hb e=>by omega)⟩
    rw [h]
    exact .inl ⟨HN.out,rfl⟩
  ·have i1: ¬((i:Int)<n):=by omega
   have hnil:l.drop i= []:=List.drop_eq_nil_of_le (by have:=HH.out.2.2.2.2.2.1;omega)
   have hap:=HI.out.2.2.1
   rw [hnil] at hap
   have hap:(if checkE T1=true then ((0:Nat),T1) else (3,T1))=RES:=hap
   obtain ⟨B1,mb1,E1,va1,hW1',hS1,hr1⟩:=HI.out.1
   obtain ⟨d0,d1⟩:=hW1'.cells
   have hce:checkE E1=checkE T1:=checkE_perm hW1'.tab.1.1.1 hS1.1
   have HCK:=Lib.hid (check_ B1 mb1 E1 wr hW1'.tab (fun e he=>HI.out.2.1.sig e (hS1.1.mem_iff.1 he)))
   rw [hce] at HCK
   have HT9:=Lib.hid (And.intro hap (And.intro hW1'.tab (And.intro hS1 TW)))
   clear hnil hap hW1' hS1 hr1 hce TW T hin
   obtain ⟨V,hV⟩: ∃b,checkE T1=b:=⟨_,rfl⟩
   rw [hV] at HCK HT9
   cases V with
   |true=>
    rw [if_pos rfl] at HCK HT9
    go_wp2_with (go_at_call 23;fail)
    refine HCK.out.mono ?_
    rintro e w5 ⟨rfl,T5⟩
    have d0:=T5.cell d0 (fun f=>f)
    have H5:=Lib.hid T5
    clear T5
    go_wp2_with (fail)
    go_returns
    refine ⟨?_,HT9.out.2.2.2.trans H5.out fun _ _ f=>f⟩
    rw [←HT9.out.1]
    exact .inr ⟨rfl,B1,mb1,E1,rfl,HT9.out.2.1.touch0 H5.out,HT9.out.2.2.1⟩
   |false=>
    rw [if_neg (by simp)] at HCK HT9
    go_wp2_with (go_at_call 23;fail)
    refine HCK.out.mono ?_
    rintro e w5 ⟨rfl,T5⟩
    have H5:=Lib.hid T5
    clear T5
    go_wp2_with (fail)
    go_returns
    refine ⟨?_,HT9.out.2.2.2.trans H5.out fun _ _ f=>f⟩
    rw [←HT9.out.1]
    exact .inl ⟨fun h=>(by cases h),rfl⟩
def ReadR (w:World) (n:Nat) (l:List Nat) (e:Ending):Prop:=match Ux.Rules.parseS l with
 |(_,some r)=>e= .returned (.tuple #[.pointer none,.int .i64 (Ux.Rules.posB n r:Nat),.int .i64 10])
 |(rs,none)=>if 40<rs.length then e= .returned (.tuple #[.pointer none,.int .i64 0,.int .i64 65]) else
  ((applyT (Ux.rootT 132) [] rs).1≠0∧e= .returned (.tuple #[.pointer none,.int .i64 0,.int .i64 ((applyT (Ux.rootT 132) [] rs).1:Nat)]))∨((applyT (Ux.rootT 132) [] rs).1=0∧∃B mb E,e= .returned (.tuple #[.pointer (some ⟨B,0,none⟩),.int .i64 0,.int .i64 0])∧TableAt w B mb E∧SameE E (applyT (Ux.rootT 132) [] rs).2)
set_option maxHeartbeats 8000000 in
set_option maxRecDepth 100000 in
theorem readR_ (s:ByteArray) (w:World) (hs:s.size≤1000000) (hT:Tabs w):
 Calls Tryz.prog 42 #[.string s] w fun e w'=>ReadR w' s.size (Ux.Sign.signs s.data.toList) e∧Ux.Touch (fun _=>False) w w':=by
 have HP:=Lib.hid (parse_ s w hs hT)
 obtain ⟨l,hl⟩: ∃l,Ux.Sign.signs s.data.toList=l:=⟨_,rfl⟩
 have hok:=Ux.Rules.parseS_ok (P:=fun c=>cp c∨raw c) (l:=l) (fun c hc=>Ux.Sign.good_all (Ux.Sign.good_signs s.data.toList) c (by rw [hl];exact hc))
 rw [hl] at HP⊢
 unfold ReadR
 obtain ⟨⟨rs,o⟩,hp⟩: ∃p,Ux.Rules.parseS l=p:=⟨_,rfl⟩
 rw [hp] at HP hok⊢
 clear hT hs hl hp
 cases o with
 |some r=>
  dsimp only
  go_enter Tryz.func42,Tryz.ntmps42
  go_wp2_with (go_at_call 95;fail)
  refine HP.out.mono ?_
  rintro e w2 ⟨h2,T2⟩
  have h2:e=_:=h2
  subst h2
  have H2:=Lib.hid T2
  clear T2
  go_wp2_with (fail)
  go_returns
  exact ⟨rfl,H2.out⟩
 |none=>
  dsimp only at hok⊢
  by_cases h40:40<rs.length
  ·simp only [if_pos h40]
   have HP2:Hid (Calls Tryz.prog 95 #[.string s] w fun e w'=>e= .returned (.tuple #[.slice none 0 0,.int .i64 0,.int .i64 65])∧Ux.Touch (fun _=>False) w w'):=Lib.hid (HP.out.mono fun e w' ⟨h,t⟩=>by
    unfold ParseR at h
    dsimp only at h
    rw [if_pos h40] at h
    exact ⟨h,t⟩)
   clear HP h40 hok
   go_enter Tryz.func42,Tryz.ntmps42
   go_wp2_with (go_at_call 95;fail)
   refine HP2.out.mono ?_
   rintro e w2 ⟨rfl,T2⟩
   have H2:=Lib.hid T2
   clear T2
   go_wp2_with (fail)
   go_returns
   exact ⟨rfl,H2.out⟩
  ·simp only [if_neg h40]
   have HP2:Hid (Calls Tryz.prog 95 #[.string s] w fun e w'=>(∃v,e= .returned (.tuple #[v,.int .i64 0,.int .i64 0])∧RulesAt w' w.heap.size v rs)∧Ux.Touch (fun _=>False) w w'):=Lib.hid (HP.out.mono fun e w' ⟨h,t⟩=>by
    unfold ParseR at h
    dsimp only at h
    rw [if_neg h40] at h
    exact ⟨h,t⟩)
   have HO:=Lib.hid (And.intro hok h40)
   obtain ⟨RES,hRES⟩: ∃r,applyT (Ux.rootT 132) [] rs=r:=⟨_,rfl⟩
   rw [hRES]
   have HR:=Lib.hid hRES
   clear HP h40 hok hRES
   go_enter Tryz.func42,Tryz.ntmps42
   go_wp2_with (go_at_call 95;fail)
   refine HP2.out.mono ?_
   rintro e w2 ⟨⟨v,rfl,hv⟩,T2⟩
   have H2:=Lib.hid (And.intro hv T2)
   clear hv T2
   go_wp2_with (go_at_call 10;fail)
   refine (rootT_ _).mono ?_
   rintro e w3 ⟨B,mb,rfl,hTA,_,T3⟩
   have hv3:RulesAt w3 0 v rs:=by
    obtain ⟨a,c,e,h⟩:=H2.out.1.touch T3
    refine ⟨a,c,e,fun i x hx=> ?_⟩
    obtain ⟨g,v1,v2,h1,h2,h3,h4,h5,h6⟩:=h i x hx
    exact ⟨g,v1,v2,h1,h2,h3,h4,Row.mono h5 (Nat.zero_le _),Row.mono h6 (Nat.zero_le _)⟩
   have HA:=Lib.hid (apply_ B mb _ (Ux.rootT 132) rs v w3 hTA Ux.same_root InvT.root hv3 HO.out.1 (by have:=HO.out.2;omega))
   rw [HR.out] at HA
   have H3:=Lib.hid (H2.out.2.trans T3 fun _ _ f=>f)
   clear hTA T3 hv3
   go_wp2_with (go_at_call 11;fail)
   refine HA.out.mono ?_
   rintro e w4 ⟨h4,T4⟩
   have H4:=Lib.hid (H3.out.trans T4 fun _ _ f=>f)
   clear T4
   rcases h4 with ⟨hn,rfl⟩|⟨hz,B',mb',E',rfl,hTA,hS⟩
   ·have HN:=Lib.hid hn
    clear hn
    go_wp2_with (fail)
    go_returns
    exact ⟨.inl ⟨HN.out,rfl⟩,H4.out⟩
   ·have HN:=Lib.hid (And.intro hz (And.intro hTA hS))
    clear hz hTA hS
    go_wp2_with (fail)
    go_returns
    exact ⟨.inr ⟨HN.out.1,B',mb',E',rfl,HN.out.2.1,HN.out.2.2⟩,H4.out⟩
end Go.Proofs.YtfccjaboicpohaaGreatDoor
