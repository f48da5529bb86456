/- A part of the proof that the statement holds for every input that it names. No other condition. -/
import Derived.Test.YtfccjaboicpohaaGreatDoorUxCollAZ
import Derived.Test.YtfccjaboicpohaaGreatDoorRefBZ
import Derived.Test.YtfccjaboicpohaaGreatDoorReadBZ
set_option linter.unusedVariables false
set_option linter.unusedSimpArgs false
namespace Go.Proofs.YtfccjaboicpohaaGreatDoor
open Go.RowKit
open Ux (Row iv sv Ent wts wF keepW wt8 eP eS eT eV elemsE okT Grow)
open Ux.Sign (cp raw signs)
theorem relem_cells {w:World} {a:Option Addr} {n c:Nat} {l:List Nat} (h:RRow w (.slice a n c) l) {i x:Nat} (hi:l[i]? =some x): ∃g o,a=some ⟨g,o,none⟩∧w.cell? ⟨g,o+i*4,none⟩=some (.int .i64 (eP x:Nat))∧w.cell? ⟨g,o+i*4+1,none⟩=some (.int .i64 (eS x:Nat))∧w.cell? ⟨g,o+i*4+2,none⟩=some (.int .i64 (eT x:Nat))∧w.cell? ⟨g,o+i*4+3,none⟩=some (.bool (eV x)):=by
 obtain ⟨a',c',e,hc⟩:=h
 cases e
 exact hc i x hi
set_option maxHeartbeats 16000000 in
set_option maxRecDepth 100000 in
theorem rwtsR_ (lv:Int) (sh bk:Bool) (u:Value) (T:List Ent) (A:Nat→Prop) (b:ByteArray) (L:Nat) (hL:L=1∨L=2∨L=3) (w:World) (hT:RRows w A u T) (hok:okT T) (hn:T.length≤1000) (hb:b.size≤1000000):
 Calls Tryz.prog 130 #[rcV 3 lv sh bk u,.string b,.int .i64 (L:Int)] w fun e w'=> ∃v,e= .returned v∧Ux.Row w' w.heap.size 3 v (iv (sv (wts sh bk L (elB T b))))∧Ux.Touch (fun _=>False) w w':=by
 have HE:=Lib.hid fun W (T1:Ux.Touch (fun _=>False) w W)=>relements_ u T A b W (hT.touch0 T1) hok (by omega) (by omega)
 have hlk:=elB_ok hok b
 obtain ⟨l,hl⟩: ∃l,elB T b=l:=⟨_,rfl⟩
 have hl':elemsE T (signs b.data.toList)=l:=hl
 rw [hl'] at HE
 rw [hl] at hlk⊢
 obtain ⟨_,a,ca,rfl,_,_⟩:=hT
 obtain ⟨N,hN⟩: ∃N,T.length=N:=⟨_,rfl⟩
 rw [hN] at HE⊢
 obtain ⟨n,hnn⟩: ∃n,l.length=n:=⟨_,rfl⟩
 have n0:(n:Int)≤8000000:=by omega
 have l1:(1:Int)≤L:=by omega
 have l3:(L:Int)≤3:=by omega
 obtain ⟨q,hq⟩: ∃q,w.heap.size=q:=⟨_,rfl⟩
 have hb1:(w.alloc (.cells #[.int .i64 3,.int .i64 lv,.bool sh,.bool bk,.slice a N ca] 68)).heap[q]? =some (.cells #[.int .i64 3,.int .i64 lv,.bool sh,.bool bk,.slice a N ca] 68 (0,0)):=by rw [←hq];exact heap_alloc_new w _
 have T1:Ux.Touch (fun _=>False) w (w.alloc (.cells #[.int .i64 3,.int .i64 lv,.bool sh,.bool bk,.slice a N ca] 68)):=(Ux.Touch.refl _ _).alloc _
 have hs1:(w.alloc (.cells #[.int .i64 3,.int .i64 lv,.bool sh,.bool bk,.slice a N ca] 68)).heap.size=q+1:=by rw [World.size_alloc,hq]
 obtain ⟨W1,hW1⟩: ∃W,w.alloc (.cells #[.int .i64 3,.int .i64 lv,.bool sh,.bool bk,.slice a N ca] 68)=W:=⟨_,rfl⟩
 rw [hW1] at hb1 T1 hs1
 have HW:=Lib.hid (And.intro hW1 (And.intro hq hs1))
 have H1:=Lib.hid (And.intro T1 hb1)
 have HL:=Lib.hid (And.intro hnn (And.intro hL hlk))
 have c0:W1.cell? ⟨q,0,none⟩=some (.int .i64 3):=by rw [cell_of_row W1 q 0 _ _ (0,0) hb1];rfl
 have c4:W1.cell? ⟨q,4,none⟩=some (.slice a N ca):=by rw [cell_of_row W1 q 4 _ _ (0,0) hb1];rfl
 clear hb1 T1 hs1 hW1 hq hnn hL hlk hl hl' hN hok hn hb
 unfold rcV
 go_enter Tryz.func130,Tryz.ntmps130
 go_upto_region 1 with (fail)
 rw [HW.out.1,HW.out.2.1]
 go_wp2_with (go_at_call 177;fail)
 refine (HE.out W1 H1.out.1).mono ?_
 rintro e w2 ⟨v,rfl,hv,hown,T2⟩
 have hvv:=hv
 obtain ⟨a7,c7,rfl,_⟩:=hv
 rw [HL.out.1] at hvv⊢
 have H2:=Lib.hid (And.intro hvv (And.intro T2 (T2.heap H1.out.2 (fun f=>f))))
 clear hvv hown T2 c0 c4
 go_wp2_with (fail)
 go_loopg [8,9] n (fun gk s8 s9 wr=> ∃i:Nat,s9= .int .i64 i∧i+gk=n∧Hid (Grow wr w2.heap.size 3 s8 (iv (sv (wF sh L (l.take i))))∧Ux.Touch (fun _=>False) w2 wr))
 case atStart=>exact ⟨0,rfl,by omega,Lib.hid ⟨Grow.nil _ _ _,Ux.Touch.refl _ _⟩⟩
 case round=>
  obtain ⟨i,rfl,hig,HI⟩:=hrel
  have i0:(0:Int)≤i:=by omega
  have hbw:=HI.out.2.heap H2.out.2.2 (fun f=>f)
  have f2:wr.cell? ⟨q,2,none⟩=some (.bool sh):=by rw [cell_of_row _ q 2 _ _ (0,0) hbw];rfl
  have f3:wr.cell? ⟨q,3,none⟩=some (.bool bk):=by rw [cell_of_row _ q 3 _ _ (0,0) hbw];rfl
  have HBW:=Lib.hid hbw
  clear hbw
  by_cases hlt:i<n
  ·obtain ⟨g',rfl⟩: ∃g',gk=g'+1:=⟨gk-1,by omega⟩
   have i1:(i:Int)<n:=by omega
   obtain ⟨x,hx⟩: ∃x,l[i]? =some x:=⟨_,List.getElem?_eq_getElem (by have:=HL.out.1;omega)⟩
   obtain ⟨g,o,rfl,d0,d1,d2,d3⟩:=relem_cells (H2.out.1.touch0 HI.out.2) hx
   have HD:=Lib.hid fun W (T:Ux.Touch (fun _=>False) wr W)=>And.intro (T.cell d0 (fun f=>f)) (And.intro (T.cell d1 (fun f=>f)) (T.cell d2 (fun f=>f)))
   have HF:=Lib.hid fun W (T:Ux.Touch (fun _=>False) wr W)=>And.intro (T.cell f2 (fun f=>f)) (And.intro (T.cell f3 (fun f=>f)) (T.cell d3 (fun f=>f)))
   have htk:l.take (i+1)=l.take i++ [x]:=by rw [List.take_add_one,hx];rfl
   obtain ⟨y,hy⟩: ∃y,wt8 L x=y:=⟨_,rfl⟩
   obtain ⟨V,hV⟩: ∃V,eV x=V:=⟨_,rfl⟩
   rw [hV] at d3 HF
   have hkeep:keepW sh L x=(decide (0<y)&& !(sh&&V)):=by
    unfold keepW
    rw [hy,hV]
   have HX:=Lib.hid (And.intro htk (And.intro hkeep hy))
   clear hx htk hV hlt hkeep f2 f3 d3 hy
   go_upto_region 8 with (fail)
   go_cut [10] (fun s10 wx=>s10= .int .i64 (y:Int)∧Ux.Touch (fun _=>False) wr wx)
   case first=>
    have hL:=HL.out.2.1
    rcases hL with rfl|rfl|rfl
    all_goals
     refine Ux.wpr (fun _ w'=>w'.cell? ⟨g,o+i*4,none⟩=some (.int .i64 (eP x:Nat))∧w'.cell? ⟨g,o+i*4+1,none⟩=some (.int .i64 (eS x:Nat))∧w'.cell? ⟨g,o+i*4+2,none⟩=some (.int .i64 (eT x:Nat))) (.q [0,1,2,3,5,6,7,8,10,11,12,13,16,17] (.h false [4,9,14] (.e 15 true false (.q [18] (.e 19 true true (.line [20])))))) ?_;repeat ((with_reducible refine Ux.qg ?_);refine Ux.qu ?_)
     go_wp2_with (fail)
     refine ⟨HD.out _ Ux.tq,?_⟩
     repeat ((with_reducible refine Ux.qg ?_);refine Ux.qu ?_)
     go_wp2_with (fail)
     first|refine ⟨⟨HD.out _ Ux.tq,HD.out _ Ux.tq⟩,?_⟩|refine ⟨HD.out _ Ux.tq,?_⟩
     go_wp2_with (fail)
     go_meet
     refine ⟨?_,by repeat (first|exact Ux.Touch.refl _ _|refine Ux.Touch.drew ?_|refine Ux.Touch.alloc ?_ _)⟩
     rw [←HX.out.2.2]
     rfl
   obtain ⟨rfl,Tc⟩:=hcut
   clear d0 d1 d2
   obtain ⟨w5,hw5⟩: ∃W,wc=W:=⟨_,rfl⟩
   rw [hw5] at Tc⊢
   clear hw5
   obtain ⟨f2,f3,d3⟩:=HF.out w5 Tc
   have HTc:=Lib.hid Tc
   clear Tc f3
   go_upto_region 9 with (fail)
   go_cut [66] (fun s66 wx=>s66= .bool (!(decide (0<y)&& !(sh&&V)))∧Ux.Touch (fun _=>False) w5 wx)
   case first=>
    by_cases hy0:y=0
    ·subst hy0
     cases sh<;>cases V
     all_goals
      go_wp2_with (fail)
      go_meet
      exact ⟨rfl,Ux.Touch.refl _ _⟩
    ·have q0:((y:Int)==0)=false:=by simpa using hy0
     have q1:decide (0<y)=true:=by simp;omega
     have HQ1:=Lib.hid q1
     clear hy0 q1
     cases sh<;>cases V
     all_goals
      go_wp2_with (fail)
      go_meet
      exact ⟨by rw [HQ1.out];rfl,Ux.Touch.refl _ _⟩
   obtain ⟨rfl,Td⟩:=hcut
   have HTd:=Lib.hid (HTc.out.trans Td fun _ _ f=>f)
   clear Td f2 d3
   cases hK:(decide (0<y)&& !(sh&&V)) with
   |false=>
    go_wp2
    go_roundg g'
    case measure=>omega
    case rel=>
     refine ⟨i+1,by congr 1,by omega,Lib.hid ⟨?_,HI.out.2.trans HTd.out fun _ _ f=>f⟩⟩
     rw [HX.out.1,Ux.wF_snoc,HX.out.2.1,hK,if_neg (by simp),List.append_nil]
     exact HI.out.1.touch0 HTd.out
   |true=>
    have hsz:(wF sh L (l.take i)).length≤i:=Nat.le_trans (Ux.wF_len _ _ _) (by simp;omega)
    obtain ⟨r,w3,hrun,hG2,hT3⟩:=appI (HI.out.1.touch0 HTd.out) 1 [Value.int .i64 (y:Int)] rfl (fun u hu=>by rw [List.mem_singleton.1 hu];rfl) (by
     have h1:=HI.out.2.size
     have h3:=HTd.out.size
     omega) (by rw [Ux.iv_length,Ux.sv_length];omega)
    have HR:=Lib.hid (And.intro hrun (And.intro hG2 hT3))
    clear hsz hrun hG2 hT3
    go_wp2_with (at_builtin;refine Ux.wpList_app (v1:=u8) (x1:= .slice (some ⟨_,0,none⟩) 1 1) rfl _ _ _ _ rfl rfl rfl (HR.out.1 _) ?_)
    go_roundg g'
    case measure=>omega
    case rel=>
     refine ⟨i+1,by congr 1,by omega,Lib.hid ⟨?_,?_⟩⟩
     ·rw [HX.out.1,Ux.wF_snoc,HX.out.2.1,hK,if_pos rfl,Ux.sv_append,show∀a b,iv (a++b)=iv a++iv b from fun a b=>List.map_append,HX.out.2.2]
      exact HR.out.2.1
     ·exact Ux.Touch.own (HI.out.2.trans HTd.out fun _ _ f=>f) (Nat.le_refl _) HR.out.2.2
  ·obtain rfl:n=i:=by omega
   have hwl:wF sh L (l.take n)=wF sh L l:=by rw [List.take_of_length_le (by have:=HL.out.1;omega)]
   rw [hwl] at HI
   obtain ⟨xs,hxs⟩: ∃xs,sv (wF sh L l)=xs:=⟨_,rfl⟩
   rw [hxs] at HI
   obtain ⟨m,hm⟩: ∃m,xs.length=m:=⟨_,rfl⟩
   have hm8:(m:Int)≤8000000:=by
    have h1:=Ux.wF_len sh L l
    have h2:=HL.out.1
    rw [←hm,←hxs,Ux.sv_length]
    omega
   obtain ⟨D,hD⟩: ∃D,(decide (L=2)&&bk)=D:=⟨_,rfl⟩
   have hwts:sv (wts sh bk L l)=if D=true then xs.reverse else xs:=by
    unfold wts
    rw [←hD,←hxs]
    cases bk<;>by_cases h:L=2<;>simp [h,sv]
   obtain ⟨a8,m8,c8,hu8,hml⟩:=HI.out.1.is
   have hm88:m8=m:=by rw [←hml,Ux.iv_length,hm]
   subst hm88
   subst hu8
   have HM:=Lib.hid (And.intro hm hwts)
   clear hwl hxs hlt hwts hml hm
   cases D with
   |false=>
    cases hq:decide (L=2) with
    |true=>
     rw [hq] at hD
     simp only [Bool.true_and] at hD
     subst hD
     have hq:=of_decide_eq_true hq
     subst hq
     clear f2
     go_wp2
     go_returns
     rw [HM.out.2]
     first|rw [if_neg (by simp)]|skip
     exact ⟨_,rfl,HI.out.1.row.mono (by have h1:=H1.out.1.size;have h2:=H2.out.2.1.size;omega),H1.out.1.trans (H2.out.2.1.trans HI.out.2 fun _ _ f=>f) fun _ _ f=>f⟩
    |false=>
     have q3:((L:Int)==2)=false:=by have:=of_decide_eq_false hq;simp;omega
     clear hq hD f2 f3
     go_wp2
     go_returns
     rw [HM.out.2]
     first|rw [if_neg (by simp)]|skip
     exact ⟨_,rfl,HI.out.1.row.mono (by have h1:=H1.out.1.size;have h2:=H2.out.2.1.size;omega),H1.out.1.trans (H2.out.2.1.trans HI.out.2 fun _ _ f=>f) fun _ _ f=>f⟩
   |true=>
    obtain ⟨hL2,rfl⟩:L=2∧bk=true:=by simpa using hD
    subst hL2
    obtain ⟨k,hk⟩: ∃k,m8/2=k:=⟨_,rfl⟩
    have k1:(m8:Int)/2=k:=by omega
    have k2:(m8:Int).tdiv 2=k:=by rw [Int.tdiv_eq_ediv_of_nonneg (by omega)];exact k1
    have HK:=Lib.hid hk
    have T01:=Lib.hid (H1.out.1.trans (H2.out.2.1.trans HI.out.2 fun _ _ f=>f) fun _ _ f=>f)
    have hwr:=H2.out.2.1.size
    have hown: ∀b,(Value.slice a8 m8 c8).ownBlock=some b→w.heap.size≤b:=fun b hb=>by
     have h1:=HI.out.1.2 b hb
     have h2:=H1.out.1.size
     omega
    have HO:=Lib.hid hown
    have HG:=Lib.hid HI.out.1.row
    clear hD f2 hk hwr hown
    go_upto_region 12 with (fail)
    clear f3
    go_wp2_with (fail)
    go_loopg [11] k (fun gk s11 wx=> ∃(j:Nat) (ys:List Int),s11= .int .i64 j∧j+gk=k∧Hid (ys.length=m8∧(∀p,p<m8→ys[p]? =if p<j∨m8-1-p<j then xs[m8-1-p]? else xs[p]?)∧Row wx w2.heap.size 3 (.slice a8 m8 c8) (iv ys)∧Ux.Touch (fun b=>(Value.slice a8 m8 c8).ownBlock=some b) wr wx))
    case atStart=>exact ⟨0,xs,rfl,by omega,Lib.hid ⟨HM.out.1,fun p hp=>by rw [if_neg (by omega)],HG.out,Ux.Touch.refl _ _⟩⟩
    case round=>
     obtain ⟨j,ys,rfl,hjg,HJ⟩:=hrel
     have j0:(0:Int)≤j:=by omega
     by_cases hlt:j<k
     ·obtain ⟨g',rfl⟩: ∃g',gk=g'+1:=⟨gk-1,by omega⟩
      have hk2:=HK.out
      have j1:(j:Int)<k:=by omega
      have j2:(j:Int)<m8:=by omega
      have j3:(0:Int)≤(m8:Int)-1-j:=by omega
      obtain ⟨r,hr⟩: ∃r:Nat,m8-1-j=r:=⟨_,rfl⟩
      have hr0:(m8:Int)-1-j=r:=by omega
      have r0:(0:Int)≤r:=by omega
      have r1:(r:Int)<m8:=by omega
      obtain ⟨u,hu⟩: ∃u,ys[j]? =some u:=⟨_,List.getElem?_eq_getElem (by have:=HJ.out.1;omega)⟩
      obtain ⟨v,hv⟩: ∃v,ys[r]? =some v:=⟨_,List.getElem?_eq_getElem (by have:=HJ.out.1;omega)⟩
      obtain ⟨ga,e8,_,b1⟩:=HJ.out.2.2.1.at (Ux.iv_get hu)
      subst e8
      obtain ⟨gb,e8,_,b2⟩:=HJ.out.2.2.1.at (Ux.iv_get hv)
      cases e8
      have hjr:j≠r:=by omega
      have z1:=HJ.out.2.2.1.frozen j
      have hrow1:=HJ.out.2.2.1.set j (.int .i64 v)
      have z2:=hrow1.frozen r
      have hrow2:=hrow1.set r (.int .i64 u)
      have b3:(wr.setCell ⟨ga,j,none⟩ (.int .i64 v)).frozen? ⟨ga,r,none⟩=false:=z2
      have hys:((iv ys).set j (.int .i64 v)).set r (.int .i64 u)=iv ((ys.set j v).set r u):=by
       unfold iv
       rw [List.map_set,List.map_set]
      rw [hys] at hrow2
      have HR:=Lib.hid (And.intro hu (And.intro hv (And.intro hjr (And.intro hr hrow2))))
      clear hu hv hlt hrow1 hrow2 hys z2 hk2 hjr hr
      go_wp2
      go_roundg g'
      case measure=>omega
      case rel=>
       have hk2:=HK.out
       have hjr:=HR.out.2.2.1
       have hr:=HR.out.2.2.2.1
       have hyj:=HJ.out.2.1 j (by omega)
       rw [if_neg (by omega),HR.out.1] at hyj
       have hyr:=HJ.out.2.1 r (by omega)
       rw [if_neg (by omega),HR.out.2.1] at hyr
       have hly:=HJ.out.1
       refine ⟨j+1,(ys.set j v).set r u,by congr 1,by omega,Lib.hid ⟨by simp [hly],fun p hp=> ?_,HR.out.2.2.2.2,(HJ.out.2.2.2.setCell (p:=⟨ga,j,none⟩) (fun _=>rfl) _).setCell (p:=⟨ga,r,none⟩) (fun _=>rfl) _⟩⟩
       by_cases hpr:p=r
       ·subst hpr
        rw [List.getElem?_set_self (by simp;omega),if_pos (by omega),show m8-1-p=j by omega]
        exact hyj
       ·rw [List.getElem?_set_ne (by omega)]
        by_cases hpj:p=j
        ·subst hpj
         rw [List.getElem?_set_self (by omega),if_pos (by omega),hr]
         exact hyr
        ·rw [List.getElem?_set_ne (by omega),HJ.out.2.1 p hp]
         by_cases hc:p<j∨m8-1-p<j
         ·rw [if_pos hc,if_pos (by omega)]
         ·rw [if_neg hc,if_neg (by omega)]
     ·obtain rfl:k=j:=by omega
      have hk2:=HK.out
      have hfin:ys=xs.reverse:=by
       apply List.ext_getElem?
       intro p
       rcases Nat.lt_or_ge p m8 with hp|hp
       ·rw [HJ.out.2.1 p hp,List.getElem?_reverse (by rw [HM.out.1];exact hp),HM.out.1]
        by_cases hc:p<k∨m8-1-p<k
        ·rw [if_pos hc]
        ·rw [if_neg hc,show m8-1-p=p by omega]
       ·rw [List.getElem?_eq_none (by rw [HJ.out.1];exact hp),List.getElem?_eq_none (by rw [List.length_reverse,HM.out.1];exact hp)]
      have HFN:=Lib.hid hfin
      clear hlt hk2 hfin
      go_wp2
      go_returns
      rw [HM.out.2]
      first|rw [if_pos rfl]|rw [if_pos trivial]
      rw [←HFN.out]
      exact ⟨_,rfl,HJ.out.2.2.1.mono (by have h1:=H1.out.1.size;have h2:=H2.out.2.1.size;omega),T01.out.trans (R:=fun _=>False) HJ.out.2.2.2 fun b hb h=>by have:=HO.out b h;omega⟩
theorem rwts_ (lv:Int) (sh bk:Bool) (u:Value) (T:List Ent) (A:Nat→Prop) (b:ByteArray) (L:Nat) (hL:L=1∨L=2∨L=3) (w:World) (hT:RRows w A u T) (hok:okT T) (hn:T.length≤1000) (hb:b.size≤1000000):
 Calls Tryz.prog 130 #[rcV 3 lv sh bk u,.string b,.int .i64 (L:Int)] w fun e w'=> ∃v,e= .returned v∧IView w' v (sv (wts sh bk L (elB T b)))∧Ux.Touch (fun _=>False) w w':=
 (rwtsR_ lv sh bk u T A b L hL w hT hok hn hb).mono fun _ _ ⟨v,h1,h2,h3⟩=>⟨v,h1,IView.row h2,h3⟩
end Go.Proofs.YtfccjaboicpohaaGreatDoor
namespace Go.Proofs.YtfccjaboicpohaaGreatDoor
open Go.RowKit
open Ux (iv sv Ent wts wghC slt cmpI cmpL okT)
open Ux.Sign (cp raw signs)
set_option maxHeartbeats 4000000 in
theorem texts_ (a b:ByteArray) (w:World):Calls Tryz.prog 127 #[.string a,.string b] w fun e w'=>e= .returned (.int .i64 (cmpStr a b))∧w'=w:=by
 unfold cmpStr
 cases h1:slt a b with
 |true=>
  have q1:Op.bytesLess a.toList b.toList=true:=h1
  clear h1
  rw [if_pos rfl]
  go_enter Tryz.func127,Tryz.ntmps127
  go_wp2
  go_ret
  exact ⟨rfl,rfl⟩
 |false=>
  have q1:Op.bytesLess a.toList b.toList=false:=h1
  rw [if_neg (by simp)]
  cases h2:slt b a with
  |true=>
   have q2:(a.toList==b.toList)=false:=by
    cases h:a.toList==b.toList with
    |false=>rfl
    |true=>
     have e:=Ux.ba_ext (eq_of_beq h)
     subst e
     rw [Ux.slt_irrefl] at h2
     cases h2
   clear h1 h2
   rw [if_pos rfl]
   go_enter Tryz.func127,Tryz.ntmps127
   go_wp2
   go_ret
   exact ⟨rfl,rfl⟩
  |false=>
   obtain rfl:=Ux.slt_conn h1 h2
   have q2:(a.toList==a.toList)=true:=by simp
   clear h1 h2
   rw [if_neg (by simp)]
   go_enter Tryz.func127,Tryz.ntmps127
   go_wp2
   go_ret
   exact ⟨rfl,rfl⟩
set_option maxHeartbeats 4000000 in
theorem sizes_ (a b:Int) (w:World):Calls Tryz.prog 176 #[.int .i64 a,.int .i64 b] w fun e w'=>e= .returned (.int .i64 (cmpI a b))∧w'=w:=by
 have hx:a<b∨b<a∨a=b:=by omega
 rcases hx with h|h|rfl
 ·have hc:cmpI a b= -1:=by unfold cmpI;rw [if_pos h]
  rw [hc]
  clear hc
  go_enter Tryz.func176,Tryz.ntmps176
  go_wp2
  go_ret
  exact ⟨rfl,rfl⟩
 ·have hc:cmpI a b=1:=by unfold cmpI;rw [if_neg (by omega),if_pos h]
  have h2: ¬a<b:=by omega
  rw [hc]
  clear hc
  go_enter Tryz.func176,Tryz.ntmps176
  go_wp2
  go_ret
  exact ⟨rfl,rfl⟩
 ·have hc:cmpI a a=0:=by unfold cmpI;rw [if_neg (by omega),if_neg (by omega)]
  rw [hc]
  clear hc
  go_enter Tryz.func176,Tryz.ntmps176
  go_wp2
  go_ret
  exact ⟨rfl,rfl⟩
theorem cmpL_drop {la lb:List Int} {i:Nat} {x y:Int} (hx:la[i]? =some x) (hy:lb[i]? =some y):cmpL (la.drop i) (lb.drop i)=if cmpI x y=0 then cmpL (la.drop (i+1)) (lb.drop (i+1)) else cmpI x y:=by
 rw [Ux.drop_get hx,Ux.drop_get hy]
 rfl
theorem cmpL_end {la lb:List Int} {i:Nat} (h:la.length≤i∨lb.length≤i) (h1:i≤la.length) (h2:i≤lb.length):cmpL (la.drop i) (lb.drop i)=cmpI la.length lb.length:=by
 have e1:(la.drop i).length=la.length-i:=List.length_drop
 have e2:(lb.drop i).length=lb.length-i:=List.length_drop
 have key: ∀(p q:List Int),(p.length=0∨q.length=0)→cmpL p q=cmpI p.length q.length:=by
  intro p q hpq
  cases p with
  |nil=>
   cases q with
   |nil=>rfl
   |cons y q=>
    show (-1:Int)=_
    unfold cmpI
    rw [if_pos (by simp<;>omega)]
  |cons x p=>
   cases q with
   |nil=>
    show (1:Int)=_
    unfold cmpI
    rw [if_neg (by simp<;>omega),if_pos (by simp<;>omega)]
   |cons y q=>simp at hpq
 rw [key _ _ (by omega),e1,e2]
 unfold cmpI
 by_cases c1:(la.length:Int)<lb.length
 ·rw [if_pos c1,if_pos (by omega)]
 ·rw [if_neg c1,if_neg (by omega)]
  by_cases c2:(lb.length:Int)<la.length
  ·rw [if_pos c2,if_pos (by omega)]
  ·rw [if_neg c2,if_neg (by omega)]
set_option maxHeartbeats 8000000 in
set_option maxRecDepth 100000 in
theorem lists_ (va vb:Value) (la lb:List Int) (w:World) (ha:IView w va la) (hb:IView w vb lb) (h1:la.length≤1000000000) (h2:lb.length≤1000000000):
 Calls Tryz.prog 129 #[va,vb] w fun e w'=>e= .returned (.int .i64 (cmpL la lb))∧Ux.Touch (fun _=>False) w w':=by
 obtain ⟨a,ca,rfl,hca⟩:=ha
 obtain ⟨b,cb,rfl,hcb⟩:=hb
 obtain ⟨n,hn⟩: ∃n,la.length=n:=⟨_,rfl⟩
 obtain ⟨m,hm⟩: ∃m,lb.length=m:=⟨_,rfl⟩
 obtain ⟨R,hR⟩: ∃R,cmpL la lb=R:=⟨_,rfl⟩
 rw [hn] at h1⊢
 rw [hm] at h2⊢
 rw [hR]
 have n0:(n:Int)≤1000000000:=by omega
 have m0:(m:Int)≤1000000000:=by omega
 have HH:=Lib.hid (And.intro hca (And.intro hcb (And.intro hn hm)))
 have HR:=Lib.hid hR
 clear hca hcb hn hm hR h1 h2
 go_enter Tryz.func129,Tryz.ntmps129
 go_wp2_with (fail)
 go_loopg [5] (min n m) (fun g s5 wr=> ∃i:Nat,s5= .int .i64 i∧i+g=min n m∧Hid (cmpL (la.drop i) (lb.drop i)=R∧Ux.Touch (fun _=>False) w wr))
 case atStart=>exact ⟨0,rfl,by omega,Lib.hid ⟨HR.out,Ux.Touch.refl _ _⟩⟩
 case round=>
  obtain ⟨i,rfl,hig,HI⟩:=hrel
  have p0:(0:Int)≤i:=by omega
  by_cases hlt:i<n∧i<m
  ·obtain ⟨g',rfl⟩: ∃g',gk=g'+1:=⟨gk-1,by omega⟩
   have i1:(i:Int)<n:=by omega
   have i2:(i:Int)<m:=by omega
   have k1:decide ((i:Int)<n)=true:=by simp;omega
   have k2:decide ((i:Int)<m)=true:=by simp;omega
   have k3:decide (i<n)=true:=by simp;omega
   have k4:decide (i<m)=true:=by simp;omega
   obtain ⟨x,hx⟩: ∃x,la[i]? =some x:=⟨_,List.getElem?_eq_getElem (by have:=HH.out.2.2.1;omega)⟩
   obtain ⟨y,hy⟩: ∃y,lb[i]? =some y:=⟨_,List.getElem?_eq_getElem (by have:=HH.out.2.2.2;omega)⟩
   obtain ⟨ga,oa,rfl,c0⟩:=HH.out.1 i x hx
   obtain ⟨gb,ob,rfl,c1⟩:=HH.out.2.1 i y hy
   have T:=HI.out.2
   have HC:=Lib.hid fun W (T2:Ux.Touch (fun _=>False) w W)=>And.intro (T2.cell c0 (fun f=>f)) (T2.cell c1 (fun f=>f))
   have HD:=Lib.hid (cmpL_drop hx hy)
   clear hx hy hlt c0 c1
   obtain ⟨c0,c1⟩:=HC.out wr HI.out.2
   go_upto_region 4 with (fail)
   refine Ux.wpr (fun _ w'=>w'.cell? ⟨ga,oa+i,none⟩=some (.int .i64 x)∧w'.cell? ⟨gb,ob+i,none⟩=some (.int .i64 y)) (.q [0,1,2,4,5,6] (.h false [3,7] (.q [8] (.line [])))) ?_;repeat ((with_reducible refine Ux.qg ?_);refine Ux.qu ?_)
   clear c0 c1
   have hxy:x<y∨y<x∨x=y:=by omega
   rcases hxy with h|h|rfl
   ·have hc:cmpI x y= -1:=by unfold cmpI;rw [if_pos h]
    have HX:=Lib.hid hc
    clear hc
    repeat ((with_reducible refine Ux.qg ?_);refine Ux.qu ?_)
    go_wp2
    go_returns
    refine ⟨?_,HI.out.2.drew⟩
    rw [←HI.out.1,HD.out,HX.out,if_neg (by decide)]
    rfl
   ·have hc:cmpI x y=1:=by unfold cmpI;rw [if_neg (by omega),if_pos h]
    have HX:=Lib.hid hc
    have h2: ¬x<y:=by omega
    clear hc
    repeat ((with_reducible refine Ux.qg ?_);refine Ux.qu ?_)
    go_upto_region 6 with (fail)
    obtain ⟨c0,c1⟩:=HC.out wr.drew HI.out.2.drew
    refine Ux.wpr (fun _ w'=>w'.cell? ⟨ga,oa+i,none⟩=some (.int .i64 x)∧w'.cell? ⟨gb,ob+i,none⟩=some (.int .i64 y)) (.q [0,1,2,4,5,6] (.h false [3,7] (.q [8] (.line [])))) ?_;repeat ((with_reducible refine Ux.qg ?_);refine Ux.qu ?_)
    clear c0 c1
    repeat ((with_reducible refine Ux.qg ?_);refine Ux.qu ?_)
    go_wp2
    go_returns
    refine ⟨?_,HI.out.2.drew.drew⟩
    rw [←HI.out.1,HD.out,HX.out,if_neg (by decide)]
    rfl
   ·have hxx: ¬x<x:=by omega
    repeat ((with_reducible refine Ux.qg ?_);refine Ux.qu ?_)
    go_upto_region 6 with (fail)
    obtain ⟨c0,c1⟩:=HC.out wr.drew HI.out.2.drew
    refine Ux.wpr (fun _ w'=>w'.cell? ⟨ga,oa+i,none⟩=some (.int .i64 x)∧w'.cell? ⟨gb,ob+i,none⟩=some (.int .i64 x)) (.q [0,1,2,4,5,6] (.h false [3,7] (.q [8] (.line [])))) ?_;repeat ((with_reducible refine Ux.qg ?_);refine Ux.qu ?_)
    clear c0 c1
    repeat ((with_reducible refine Ux.qg ?_);refine Ux.qu ?_)
    go_wp2
    go_roundg g'
    case measure=>omega
    case rel=>
     refine ⟨i+1,by congr 1,by omega,Lib.hid ⟨?_,HI.out.2.drew.drew⟩⟩
     have h:=HD.out
     rw [show cmpI x x=0 from by unfold cmpI;rw [if_neg (by omega),if_neg (by omega)],if_pos rfl] at h
     rw [←HI.out.1,h]
  ·have hend:R=cmpI n m:=by
    rw [←HI.out.1,cmpL_end (by have:=HH.out.2.2.1;have:=HH.out.2.2.2;omega) (by have:=HH.out.2.2.1;omega) (by have:=HH.out.2.2.2;omega),HH.out.2.2.1,HH.out.2.2.2]
   have HE:=Lib.hid hend
   have hq:(decide ((i:Int)<n)=false∧decide (i<n)=false)∨(decide ((i:Int)<n)=true∧decide (i<n)=true∧decide ((i:Int)<m)=false∧decide (i<m)=false):=by
    by_cases h:i<n
    ·exact .inr ⟨by simp;omega,by simp;omega,by simp;omega,by simp;omega⟩
    ·exact .inl ⟨by simp;omega,by simp;omega⟩
   clear hlt hend
   rcases hq with ⟨k1,k3⟩|⟨k1,k3,k2,k4⟩
   all_goals
    go_wp2_with (go_at_call 176;refine (sizes_ _ _ _).mono ?_;rintro e w' ⟨rfl,hw⟩;obtain rfl:wr=w':=hw.symm)
    go_returns
    refine ⟨?_,HI.out.2⟩
    rw [HE.out]
    rfl
def rcmpC (kd lv:Int) (sh bk:Bool) (T:List Ent) (a b:ByteArray):Int:=
 if kd=2 then cmpStr (ftB a) (ftB b) else if kd=3 then wghC sh bk (elB T a) (elB T b) 1 lv.toNat else cmpStr a b
set_option maxHeartbeats 8000000 in
set_option maxRecDepth 100000 in
theorem rcmp_ (kd LI:Int) (hlv:kd=3→0≤LI∧LI≤3) (sh bk:Bool) (u:Value) (T:List Ent) (A:Nat→Prop) (a b:ByteArray) (w:World) (hu: ∃x n c,u= .slice x n c) (hT:kd=3→RRows w A u T∧okT T∧T.length≤1000) (ha:a.size≤1000000) (hb:b.size≤1000000):
 Calls Tryz.prog 83 #[rcV kd LI sh bk u,.string a,.string b] w fun e w'=>e= .returned (.int .i64 (rcmpC kd LI sh bk T a b))∧Ux.Touch (fun _=>False) w w':=by
 obtain ⟨xu,nu,cu,rfl⟩:=hu
 have HTX:=Lib.hid fun W=>texts_ a b W
 obtain ⟨q,hq⟩: ∃q,w.heap.size=q:=⟨_,rfl⟩
 have hb1:(w.alloc (.cells #[.int .i64 kd,.int .i64 LI,.bool sh,.bool bk,.slice xu nu cu] 68)).heap[q]? =some (.cells #[.int .i64 kd,.int .i64 LI,.bool sh,.bool bk,.slice xu nu cu] 68 (0,0)):=by rw [←hq];exact heap_alloc_new w _
 have T1:Ux.Touch (fun _=>False) w (w.alloc (.cells #[.int .i64 kd,.int .i64 LI,.bool sh,.bool bk,.slice xu nu cu] 68)):=(Ux.Touch.refl _ _).alloc _
 obtain ⟨W1,hW1⟩: ∃W,w.alloc (.cells #[.int .i64 kd,.int .i64 LI,.bool sh,.bool bk,.slice xu nu cu] 68)=W:=⟨_,rfl⟩
 rw [hW1] at hb1 T1
 have cells: ∀W,Ux.Touch (fun _=>False) W1 W→W.cell? ⟨q,0,none⟩=some (.int .i64 kd)∧W.cell? ⟨q,1,none⟩=some (.int .i64 LI)∧W.cell? ⟨q,2,none⟩=some (.bool sh)∧W.cell? ⟨q,3,none⟩=some (.bool bk)∧W.cell? ⟨q,4,none⟩=some (.slice xu nu cu):=fun W TW=>by
  have h:=TW.heap hb1 (fun f=>f)
  refine ⟨?_,?_,?_,?_,?_⟩
  ·rw [cell_of_row W q 0 _ _ (0,0) h];rfl
  ·rw [cell_of_row W q 1 _ _ (0,0) h];rfl
  ·rw [cell_of_row W q 2 _ _ (0,0) h];rfl
  ·rw [cell_of_row W q 3 _ _ (0,0) h];rfl
  ·rw [cell_of_row W q 4 _ _ (0,0) h];rfl
 have HC:=Lib.hid cells
 have HW:=Lib.hid (And.intro hW1 hq)
 have H1:=Lib.hid T1
 clear hb1 T1 cells hW1 hq
 unfold rcmpC rcV
 by_cases k2:kd=2
 ·subst k2
  rw [if_pos rfl]
  have HA:=Lib.hid fun W=>rft_ a W (by omega)
  have HB:=Lib.hid fun W=>rft_ b W (by omega)
  have HT2:=Lib.hid fun W=>texts_ (ftB a) (ftB b) W
  have ha2:(⟨(Ux.Sign.foldText a.data.toList).toArray⟩:ByteArray)=ftB a:=rfl
  have hb2:(⟨(Ux.Sign.foldText b.data.toList).toArray⟩:ByteArray)=ftB b:=rfl
  rw [ha2] at HA
  rw [hb2] at HB
  clear hT ha hb ha2 hb2 hlv
  obtain ⟨c0,-⟩:=HC.out W1 (Ux.Touch.refl _ _)
  go_enter Tryz.func83,Tryz.ntmps83
  go_upto_region 1 with (fail)
  rw [HW.out.1,HW.out.2]
  go_wp2_with (go_at_call 128;fail)
  refine (HA.out W1).mono ?_
  rintro e w2 ⟨rfl,T2⟩
  have H2:=Lib.hid (H1.out.trans T2 fun _ _ f=>f)
  clear T2 c0
  go_wp2_with (go_at_call 128;fail)
  refine (HB.out w2).mono ?_
  rintro e w3 ⟨rfl,T3⟩
  have H3:=Lib.hid (H2.out.trans T3 fun _ _ f=>f)
  clear T3
  go_wp2_with (go_at_call 127;refine (HT2.out _).mono ?_;rintro e w' ⟨rfl,rfl⟩)
  go_returns
  exact ⟨rfl,H3.out⟩
 ·rw [if_neg k2]
  have q2:(kd==2)=false:=by simpa using k2
  by_cases k3:kd=3
  ·subst k3
   rw [if_pos rfl]
   obtain ⟨hR,hok,hn⟩:=hT rfl
   have hlv3:=hlv rfl
   obtain ⟨lv,hlvN⟩: ∃lv:Nat,LI.toNat=lv:=⟨_,rfl⟩
   have hLI:(lv:Int)=LI:=by omega
   have hlv:lv≤3:=by omega
   rw [hlvN]
   have HWT:=Lib.hid fun (k:Nat) (hk:k=1∨k=2∨k=3) (s:ByteArray) (hs:s.size≤1000000) W (TW:Ux.Touch (fun _=>False) w W)=>rwts_ LI sh bk (.slice xu nu cu) T A s k hk W (hR.touch0 TW) hok hn hs
   have HLN:Hid (∀(x:Nat) (s:ByteArray),s.size≤1000000→(sv (wts sh bk x (elB T s))).length≤1000000000):=Lib.hid fun x s hs=>by
    rw [Ux.sv_length]
    have:=Ux.wts_len sh bk x (elB T s)
    have:=(elB_ok hok s).1
    omega
   obtain ⟨R,hRR⟩: ∃R,wghC sh bk (elB T a) (elB T b) 1 lv=R:=⟨_,rfl⟩
   rw [hRR]
   have HS:=Lib.hid (And.intro ha (And.intro hb (And.intro hlv (And.intro hLI hRR))))
   have l3:LI≤3:=by omega
   have l0:0≤LI:=by omega
   clear hT hR hok hn ha hb hLI hRR k2 q2 hlv3 hlvN
   unfold rcV at HWT
   obtain ⟨c0,c1,-⟩:=HC.out W1 (Ux.Touch.refl _ _)
   go_enter Tryz.func83,Tryz.ntmps83
   go_upto_region 1 with (fail)
   rw [HW.out.1,HW.out.2]
   go_upto_region 5 with (fail)
   clear c0
   go_wp2_with (fail)
   go_loopg [7] lv (fun gk s7 wr=> ∃k:Nat,s7= .int .i64 k∧1≤k∧k+gk=lv+1∧wr.cell? ⟨q,1,none⟩=some (.int .i64 LI)∧Hid (wghC sh bk (elB T a) (elB T b) k (lv+1-k)=R∧Ux.Touch (fun _=>False) W1 wr))
   case atStart=>exact ⟨1,rfl,Nat.le_refl _,by omega,c1,Lib.hid ⟨by rw [Nat.add_sub_cancel];exact HS.out.2.2.2.2,Ux.Touch.refl _ _⟩⟩
   case round=>
    clear c1
    obtain ⟨k,rfl,hk1,hkg,c1,HI⟩:=hrel
    have p0:(1:Int)≤k:=by omega
    by_cases hle:k≤lv
    ·obtain ⟨g',rfl⟩: ∃g',gk=g'+1:=⟨gk-1,by omega⟩
     have p1:(k:Int)≤LI:=by have:=HS.out.2.2.2.1;omega
     have hk3:k=1∨k=2∨k=3:=by have:=HS.out.2.2.1;omega
     have HK:=Lib.hid hk3
     have HST:=Lib.hid (wgh_step (sh:=sh) (bk:=bk) (a:=elB T a) (b:=elB T b) hle)
     clear hle hk3 c1
     obtain ⟨c0,c1,c2,c3,c4⟩:=HC.out _ HI.out.2
     go_upto_region 8 with (fail)
     refine Ux.wpr (fun _ w'=>w'.cell? ⟨q,0,none⟩=some (.int .i64 3)∧w'.cell? ⟨q,1,none⟩=some (.int .i64 LI)∧w'.cell? ⟨q,2,none⟩=some (.bool sh)∧w'.cell? ⟨q,3,none⟩=some (.bool bk)∧w'.cell? ⟨q,4,none⟩=some (.slice xu nu cu)) (.h false [0,4] (.q [1,2,5,6] (.e 3 true false (.e 7 true false (.e 8 true false (.line [9])))))) ?_;repeat ((with_reducible refine Ux.qg ?_);refine Ux.qu ?_)
     clear c0 c1 c2 c3 c4
     go_wp2_with (go_at_call 130;fail)
     refine (HWT.out k HK.out a HS.out.1 wr.drew (H1.out.trans HI.out.2.drew fun _ _ f=>f)).mono ?_
     rintro e w4 ⟨v4,rfl,hv4,T4⟩
     have H4:=Lib.hid (And.intro hv4 (HI.out.2.drew.trans T4 fun _ _ f=>f))
     obtain ⟨c0,c1,c2,c3,c4⟩:=HC.out _ H4.out.2
     clear hv4 T4
     go_wp2_with (fail)
     refine ⟨⟨c0,c1,c2,c3,c4⟩,?_⟩
     repeat ((with_reducible refine Ux.qg ?_);refine Ux.qu ?_)
     clear c0 c1 c2 c3 c4
     go_wp2_with (go_at_call 130;fail)
     refine (HWT.out k HK.out b HS.out.2.1 w4 (H1.out.trans H4.out.2 fun _ _ f=>f)).mono ?_
     rintro e w5 ⟨v5,rfl,hv5,T5⟩
     have H5:=Lib.hid (And.intro hv5 (And.intro (H4.out.2.trans T5 fun _ _ f=>f) (H4.out.1.touch0 T5)))
     obtain ⟨c0,c1,c2,c3,c4⟩:=HC.out _ H5.out.2.1
     clear hv5 T5
     go_wp2_with (fail)
     refine ⟨⟨c0,c1,c2,c3,c4⟩,?_⟩
     repeat ((with_reducible refine Ux.qg ?_);refine Ux.qu ?_)
     have HCM:=Lib.hid (lists_ v4 v5 _ _ w5 H5.out.2.2 H5.out.1 (HLN.out k a HS.out.1) (HLN.out k b HS.out.2.1))
     obtain ⟨X,hX⟩: ∃X,cmpL (sv (wts sh bk k (elB T a))) (sv (wts sh bk k (elB T b)))=X:=⟨_,rfl⟩
     rw [hX] at HCM HST
     clear c0 c1 c2 c3 c4 hX
     go_wp2_with (go_at_call 129;fail)
     refine HCM.out.mono ?_
     rintro e w6 ⟨rfl,T6⟩
     have H6:=Lib.hid (H5.out.2.1.trans T6 fun _ _ f=>f)
     clear T6
     obtain ⟨c0,c1,c2,c3,c4⟩:=HC.out _ H6.out
     go_wp2_with (fail)
     refine ⟨⟨c0,c1,c2,c3,c4⟩,?_⟩
     repeat ((with_reducible refine Ux.qg ?_);refine Ux.qu ?_)
     clear c0 c2 c3 c4
     by_cases hx:X=0
     ·subst hx
      go_wp2
      go_roundg g'
      case measure=>omega
      case rel=>
       refine ⟨k+1,by congr 1,by omega,by omega,c1,Lib.hid ⟨?_,H6.out⟩⟩
       rw [←HI.out.1,HST.out,if_neg (by simp)]
     ·have q:(X !=0)=true:=by simpa using hx
      have HX:=Lib.hid hx
      clear hx c1
      go_wp2
      go_returns
      refine ⟨?_,H1.out.trans H6.out fun _ _ f=>f⟩
      rw [←HI.out.1,HST.out,if_pos HX.out]
      rfl
    ·have p1: ¬(k:Int)≤LI:=by have:=HS.out.2.2.2.1;omega
     have hz:lv+1-k=0:=by omega
     have hr0:R=0:=by
      rw [←HI.out.1,hz]
      rfl
     subst hr0
     clear hle hz
     go_wp2
     go_returns
     exact ⟨rfl,H1.out.trans HI.out.2 fun _ _ f=>f⟩
  ·rw [if_neg k3]
   have q3:(kd==3)=false:=by simpa using k3
   clear hT ha hb k2 k3 hlv
   obtain ⟨c0,-⟩:=HC.out W1 (Ux.Touch.refl _ _)
   go_enter Tryz.func83,Tryz.ntmps83
   go_upto_region 1 with (fail)
   rw [HW.out.1,HW.out.2]
   go_wp2_with (go_at_call 127;refine (HTX.out _).mono ?_;rintro e w' ⟨rfl,rfl⟩)
   go_returns
   exact ⟨rfl,H1.out⟩
end Go.Proofs.YtfccjaboicpohaaGreatDoor
