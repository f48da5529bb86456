/- A part of the proof that the statement holds for every input that it names. No other condition. -/
import Derived.Test.YtclffhpdekepkaaGreatDoorFull0Z
import Derived.Test.YtclffhpdekepkaaGreatDoorPlcAZ
import Derived.Test.YtclffhpdekepkaaGreatDoorPlacesZ
set_option linter.unusedVariables false
set_option linter.unusedSimpArgs false
namespace Go.Proofs.YtclffhpdekepkaaGreatDoor
open Go.RowKit
open Ux (Ent EP Row ev sv iv SameE okT elemsE rootE rootT wt8 EArr)
open Ux.Sign (cp raw signs)
open Ux.Rules (Rul okRuls okRul)
def rnd7 (k:Int):Nat:=(bits .and .i64 k 65535).toNat % 200
theorem rnd7_val (x:Int):(bits .and .i64 x 65535).tmod 200=(rnd7 x:Nat):=by
 obtain ⟨m,hm,_⟩:=and16p x
 unfold rnd7
 rw [hm,Int.toNat_natCast,Int.tmod_eq_emod_of_nonneg (by omega)]
 omega
theorem fullR_ok:okRuls (fun c=>cp c∨raw c) fullR:=by
 have hc: ∀c,c<55296→Ux.Rules.okQ (fun c=>cp c∨raw c) [c]:=fun c hc=>⟨by simp,fun d hd=>by rw [List.mem_singleton.1 hd];exact .inl (.inl hc)⟩
 have hn:Ux.Rules.okQ (fun c=>cp c∨raw c) []:=⟨by simp,fun d hd=>by cases hd⟩
 refine ⟨fun x hx=> ?_,fun x hx=>by cases hx;rfl⟩
 unfold fullR at hx
 rcases List.mem_cons.1 hx with rfl|hx
 ·exact ⟨⟨Nat.le_refl 1,show (1:Nat)≤5 by decide⟩,⟨by simp,hc _ (by decide)⟩,hn,fun _=>rfl⟩
 ·rw [List.mem_singleton.1 hx]
  exact ⟨⟨show (1:Nat)≤4 by decide,show (4:Nat)≤5 by decide⟩,⟨by simp,hc _ (by decide)⟩,hn,fun _=>rfl⟩
theorem applyT_ok: ∀(l:List Rul) {T:List Ent} {a:List Nat},InvT T a→(∀x∈l,okRul (fun c=>cp c∨raw c) x)→(applyT T a l).1=0→InvT (applyT T a l).2 []∧checkE (applyT T a l).2=true
 | [],T,a,h,_,h0=>by
   unfold applyT at h0⊢
   split at h0
   ·rename_i hc
    rw [if_pos hc]
    exact ⟨⟨h.sorted,h.ok,h.sig,h.len,by simp,Ux.anchorOk.nil _⟩,hc⟩
   ·cases h0
 |x::l,T,a,h,hx,h0=>by
  unfold applyT at h0⊢
  split at h0
  ·rename_i hc
   exact absurd h0 hc
  ·rename_i hc
   rw [if_neg hc]
   exact applyT_ok l (ruleT_ok h (hx x (by simp)) (Classical.not_not.1 hc)) (fun y hy=>hx y (by simp [hy])) h0
theorem inv_next {T T':List Ent} (h:InvT T []) (e:applyT T [] fullR=(0,T')):InvT T' []:=by
 have h2:=(applyT_ok fullR h fullR_ok.1 (by rw [e])).1
 rw [e] at h2
 exact h2
theorem full_inv (i:Nat):i≤117→InvT (fullTT i) []:=by
 induction i with
 |zero=>exact fun _=>InvT.root
 |succ i ih=>exact fun h=>inv_next (ih (by omega)) (full_step i (by omega))
set_option maxHeartbeats 16000000 in
set_option maxRecDepth 100000 in
theorem fullLaw_ (k:Int) (w:World) (hT:Tabs w) (_hk: -9223372036854775808≤k∧k≤9223372036854775807):
 Calls Tryz.prog 4 #[.int .i64 k] w fun e w'=>e= .returned (.bool true)∧Ux.Touch (fun _=>False) w w':=by
 have AW:=Lib.hid fun W (T:Ux.Touch (fun _=>False) w W)=>awake7_ W (hT.touch T)
 have HT:=Lib.hid hT
 have hrv:=rnd7_val k
 obtain ⟨n,hn⟩: ∃n,rnd7 k=n:=⟨_,rfl⟩
 have hn2:n<200:=by rw [←hn];unfold rnd7;omega
 rw [hn] at hrv
 have n0:(n:Int)≤200:=by omega
 have HOF:Hid (∀(u:Value) (W:World),RulesAt W 0 u fullR→Calls Tryz.prog 15 #[u] W fun e w'=> ∃u',e= .returned u'∧RulesAt w' 0 u' fullR∧Ux.Touch (fun _=>False) W w'):=Lib.hid fun u W h=>of6_ _ u W h (by decide) (fun x hx=>by
  unfold fullR at hx
  rcases List.mem_cons.1 hx with rfl|hx
  ·exact ⟨by simp,by simp⟩
  ·rw [List.mem_singleton.1 hx]
   exact ⟨by simp,by simp⟩)
 have HW:=Lib.hid fun (x:Nat) (hx:x<4294967296) W=>weight_ 3 x 3 rfl (.inr (.inr rfl)) hx W
 clear hT hn _hk hn2
 go_enter Tryz.func4,Tryz.ntmps4
 go_wp2_with (go_at_call 13;fail)
 refine (rootT_ _).mono ?_
 rintro e w4 ⟨B,mb,rfl,hTA,_,T4⟩
 have H4:=Lib.hid (And.intro hTA T4)
 clear hTA T4
 go_wp2_with (fail)
 go_loopg [3,4] n (fun gk s3 s4 wr=> ∃(i B mb:Nat) (E:List Ent),s3= .pointer (some ⟨B,0,none⟩)∧s4= .int .i64 i∧i+gk=n∧i≤117∧Hid (TableAt wr B mb E∧SameE E (fullTT i)∧Ux.Touch (fun _=>False) w4 wr))
 case atStart=>exact ⟨0,B,mb,rootE,rfl,rfl,by omega,by omega,Lib.hid ⟨H4.out.1,Ux.same_root,Ux.Touch.refl _ _⟩⟩
 case round=>
  obtain ⟨i,B1,mb1,E1,rfl,rfl,hig,hi117,HI⟩:=hrel
  have i0:(0:Int)≤i:=by omega
  by_cases hlt:i<n
  ·obtain ⟨g',rfl⟩: ∃g',gk=g'+1:=⟨gk-1,by omega⟩
   have i1:(i:Int)<n:=by omega
   obtain ⟨q1,hq1⟩: ∃q,wr.heap.size=q:=⟨_,rfl⟩
   have r1:(wr.alloc (.cells #[.int .i64 97] 3)).heap[q1]? =some (.cells #[.int .i64 97] 3 (0,0)):=by rw [←hq1];exact heap_alloc_new _ _
   have t1:Ux.Touch (fun _=>False) wr (wr.alloc (.cells #[.int .i64 97] 3)):=(Ux.Touch.refl _ _).alloc _
   obtain ⟨WA,hWA⟩: ∃W,wr.alloc (.cells #[.int .i64 97] 3)=W:=⟨_,rfl⟩
   rw [hWA] at r1 t1
   have z1:WA.heap.size=q1+1:=by rw [←hWA,←hq1];exact World.size_alloc _ _
   have r2:(WA.alloc (.cells #[.int .i64 49] 3)).heap[q1+1]? =some (.cells #[.int .i64 49] 3 (0,0)):=by rw [←z1];exact heap_alloc_new _ _
   have t2:Ux.Touch (fun _=>False) WA (WA.alloc (.cells #[.int .i64 49] 3)):=(Ux.Touch.refl _ _).alloc _
   obtain ⟨WB,hWB⟩: ∃W,WA.alloc (.cells #[.int .i64 49] 3)=W:=⟨_,rfl⟩
   have z2:WB.heap.size=q1+1+1:=by rw [←hWB,←z1];exact World.size_alloc _ _
   rw [hWB] at r2 t2
   have r3:(WB.alloc (.cells #[.int .i64 1,.slice (some ⟨q1,0,none⟩) 1 1,.slice none 0 0,.int .i64 4,.slice (some ⟨q1+1,0,none⟩) 1 1,.slice none 0 0] 39)).heap[q1+1+1]? =some (.cells #[.int .i64 1,.slice (some ⟨q1,0,none⟩) 1 1,.slice none 0 0,.int .i64 4,.slice (some ⟨q1+1,0,none⟩) 1 1,.slice none 0 0] 39 (0,0)):=by rw [←z2];exact heap_alloc_new _ _
   have t3:Ux.Touch (fun _=>False) WB (WB.alloc (.cells #[.int .i64 1,.slice (some ⟨q1,0,none⟩) 1 1,.slice none 0 0,.int .i64 4,.slice (some ⟨q1+1,0,none⟩) 1 1,.slice none 0 0] 39)):=(Ux.Touch.refl _ _).alloc _
   obtain ⟨WC,hWC⟩: ∃W,WB.alloc (.cells #[.int .i64 1,.slice (some ⟨q1,0,none⟩) 1 1,.slice none 0 0,.int .i64 4,.slice (some ⟨q1+1,0,none⟩) 1 1,.slice none 0 0] 39)=W:=⟨_,rfl⟩
   rw [hWC] at r3 t3
   have hru:RulesAt WC 0 (.slice (some ⟨q1+1+1,0,none⟩) 2 2) fullR:=two_rules WC q1 (q1+1) (q1+1+1) 97 49 4 3 (by omega) _ (t3.heap (t2.heap r1 fun f=>f) fun f=>f) (t3.heap r2 fun f=>f) r3
   have HA:=Lib.hid (And.intro hWA (And.intro hq1 (And.intro hWB hWC)))
   have HTC:=Lib.hid (And.intro (t1.trans (t2.trans t3 fun _ _ f=>f) fun _ _ f=>f) hru)
   clear hWA hq1 hWB hWC z1 z2 r1 r2 r3 t1 t2 t3 hru
   have hmx:=full_mx i (by omega)
   have hinv:=full_inv i hi117
   have hAP:(i<117∧applyT (fullTT i) [] fullR=(0,fullTT (i+1)))∨(i=117∧(applyT (fullTT i) [] fullR).1=60):=by
    rcases Nat.lt_or_ge i 117 with h|h
    ·exact .inl ⟨h,full_step i h⟩
    ·obtain rfl:i=117:=by omega
     exact .inr ⟨rfl,full_end⟩
   have HX:=Lib.hid (And.intro hmx (And.intro hinv hAP))
   clear hmx hinv hAP hlt
   go_wp2_with (go_at_call 15;fail)
   rw [HA.out.2.1,HA.out.1,HA.out.2.2.1,HA.out.2.2.2]
   refine (HOF.out _ _ HTC.out.2).mono ?_
   rintro e w5 ⟨u5,rfl,hu5,T5⟩
   have T5w:=HTC.out.1.trans T5 fun _ _ f=>f
   have HAP:=Lib.hid (apply_ B1 mb1 E1 (fullTT i) fullR u5 w5 (HI.out.1.touch0 T5w) HI.out.2.1 HX.out.2.1 hu5 fullR_ok (by decide))
   have H5:=Lib.hid T5w
   clear hu5 T5 T5w
   go_wp2_with (go_at_call 14;fail)
   refine HAP.out.mono ?_
   rintro e w6 ⟨hap,T6⟩
   have H6:=Lib.hid (H5.out.trans T6 fun _ _ f=>f)
   clear T6
   have hres: ∃(PB:Option Addr) (PC:Int),e= .returned (.tuple #[.pointer PB,.int .i64 PC])∧((i<117∧PC=0∧∃B2 mb2 E2,PB=some ⟨B2,0,none⟩∧TableAt w6 B2 mb2 E2∧SameE E2 (fullTT (i+1)))∨(i=117∧PB=none∧PC=60)):=by
    rcases HX.out.2.2 with ⟨h1,h2⟩|⟨h1,h2⟩
    ·rw [h2] at hap
     rcases hap with ⟨h3,_⟩|⟨_,B2,mb2,E2,h3,h4,h5⟩
     ·exact absurd rfl h3
     ·exact ⟨_,_,h3,.inl ⟨h1,rfl,B2,mb2,E2,rfl,h4,h5⟩⟩
    ·rcases hap with ⟨_,h4⟩|⟨h3,_⟩
     ·rw [h2] at h4
      exact ⟨_,_,h4,.inr ⟨h1,rfl,rfl⟩⟩
     ·rw [h2] at h3;cases h3
   obtain ⟨PB,PC,rfl,hres⟩:=hres
   have HRES:=Lib.hid hres
   have HEN:=Lib.hid (entries_ B1 mb1 E1 w6 (HI.out.1.touch0 H6.out) (by
    rw [HI.out.2.1.1.length_eq]
    have:=HX.out.1.2
    omega))
   clear hap hres
   go_wp2_with (go_at_call 16;fail)
   refine HEN.out.mono ?_
   rintro e w7 ⟨u7,P,rfl,hEA,hpm,_,T7⟩
   obtain ⟨⟨hea,_⟩,a7,rfl,hcl,_⟩:=hEA
   obtain ⟨m,hm⟩: ∃m,P.length=m:=⟨_,rfl⟩
   have hm2:m≤1000:=by
    rw [←hm,←List.length_map (f:=fun p:EP=>p.2.2),←hpm.length_eq,HI.out.2.1.1.length_eq]
    have:=HX.out.1.2
    omega
   rw [hm]
   have m0:(m:Int)≤1000:=by omega
   have hok: ∀p∈P,p.2.2.2.length≤8∧∀x∈p.2.2.2,x<4294967296:=fun p hp=>by
    have h1:=HX.out.2.1.ok.2 p.2.2 (HI.out.2.1.1.mem_iff.1 (hpm.mem_iff.2 (List.mem_map.2 ⟨p,hp,rfl⟩)))
    exact ⟨h1.2.1,h1.2.2⟩
   have hmem:mxT 0 (P.map (·.2.2))=mxT 0 (fullTT i):=mxT_mem (fun e=>by rw [←hpm.mem_iff,HI.out.2.1.1.mem_iff]) 0
   have H7:=Lib.hid (And.intro (H6.out.trans T7 fun _ _ f=>f) T7)
   have HE:=Lib.hid (And.intro hea (And.intro hcl (And.intro hm (And.intro hok hmem))))
   clear hea hcl hm hm2 hpm hok hmem T7
   go_wp2_with (fail)
   go_loopg [7,9] m (fun gj s7 s9 wx=> ∃(j:Nat),s9= .int .i64 j∧s7= .int .i64 (mxT 0 ((P.map (·.2.2)).take j):Nat)∧j+gj=m∧Hid (Ux.Touch (fun _=>False) w7 wx))
   case atStart=>exact ⟨0,rfl,rfl,by omega,Lib.hid (Ux.Touch.refl _ _)⟩
   case round=>
    obtain ⟨j,rfl,rfl,hjg,HJ⟩:=hrel
    have j0:(0:Int)≤j:=by omega
    by_cases hlt:j<m
    ·obtain ⟨h',rfl⟩: ∃g',gk=g'+1:=⟨gk-1,by omega⟩
     have j1:(j:Int)<m:=by omega
     obtain ⟨p,hp⟩: ∃p,P[j]? =some p:=⟨_,List.getElem?_eq_getElem (by have:=HE.out.2.2.1;omega)⟩
     obtain ⟨ga,rfl,_,_,c1⟩:=HE.out.2.1 j p hp
     have hpm:=List.mem_of_getElem? hp
     obtain ⟨_,hr2,_⟩:=HE.out.1 p hpm
     obtain ⟨el,hel⟩: ∃l,p.2.2.2=l:=⟨_,rfl⟩
     obtain ⟨vp,hvp⟩: ∃v,p.2.1=v:=⟨_,rfl⟩
     have hok:=HE.out.2.2.2.1 p hpm
     rw [hel] at hr2 hok
     rw [hvp] at hr2 c1
     obtain ⟨ea,ec,rfl,hec⟩:=hr2.is
     rw [Ux.ev_length] at c1
     obtain ⟨z,hz⟩: ∃z,el.length=z:=⟨_,rfl⟩
     rw [hz] at c1
     have z8:(z:Int)≤8:=by have:=hok.1;omega
     have htk:=mxT_take (P.map (·.2.2)) 0 j p.2.2 (by rw [List.getElem?_map,hp];rfl)
     rw [hel] at htk
     obtain ⟨M,hM⟩: ∃M,mxT 0 ((P.map (·.2.2)).take j)=M:=⟨_,rfl⟩
     rw [hM] at htk⊢
     have HC:=Lib.hid fun W (T:Ux.Touch (fun _=>False) w7 W)=>T.cell c1 (fun f=>f)
     have HEC:=Lib.hid (And.intro hec (And.intro hok (And.intro hz htk)))
     have c1:=HC.out wr HJ.out
     clear hp hpm hr2 hel hvp hok hec hz htk hM hlt
     go_wp2_with (fail)
     go_loopg [7,10] z (fun gy s7 s10 wy=> ∃(y:Nat),s10= .int .i64 y∧s7= .int .i64 (mxL M (el.take y):Nat)∧y+gy=z∧Hid (Ux.Touch (fun _=>False) w7 wy))
     case atStart=>exact ⟨0,rfl,rfl,by omega,Lib.hid HJ.out⟩
     case round=>
      obtain ⟨y,rfl,rfl,hyg,HY⟩:=hrel
      have y0:(0:Int)≤y:=by omega
      clear c1
      have c1:=HC.out wr HY.out
      by_cases hlt:y<z
      ·obtain ⟨f',rfl⟩: ∃g',gk=g'+1:=⟨gk-1,by omega⟩
       have y1:(y:Int)<z:=by omega
       obtain ⟨x,hx⟩: ∃x,el[y]? =some x:=⟨_,List.getElem?_eq_getElem (by have:=HEC.out.2.2.1;omega)⟩
       obtain ⟨gx,rfl,_,c2⟩:=HEC.out.1 y _ (Ux.ev_get hx)
       have c2:=HY.out.cell c2 (fun f=>f)
       have HWX:=Lib.hid fun W=>HW.out x (HEC.out.2.1.2 x (List.mem_of_getElem? hx)) W
       have hmt:=mxL_take el M y x hx
       have hwt:wt 3 x=wt8 3 x:=rfl
       rw [hwt] at HWX
       obtain ⟨MY,hMY⟩: ∃v,mxL M (el.take y)=v:=⟨_,rfl⟩
       obtain ⟨t,ht⟩: ∃v,wt8 3 x=v:=⟨_,rfl⟩
       rw [ht] at HWX hmt
       rw [hMY] at hmt⊢
       have HMT:=Lib.hid hmt
       clear hx hwt hMY ht hmt hlt
       go_wp2_with (go_at_call 17;fail)
       refine (HWX.out wr).mono ?_
       rintro e w' ⟨rfl,hw⟩
       obtain rfl:wr=w':=hw.symm
       clear c2
       go_wp2
       go_roundg f'
       case measure=>omega
       case rel=>
        refine ⟨y+1,by congr 1,?_,by omega,Lib.hid HY.out⟩
        rw [HMT.out]
        congr 1
        omega
      ·obtain rfl:y=z:=by omega
       have y1: ¬(y:Int)<y:=by omega
       have hfin:mxL M (el.take y)=mxT 0 ((P.map (·.2.2)).take (j+1)):=by
        rw [List.take_of_length_le (by have:=HEC.out.2.2.1;omega)]
        exact HEC.out.2.2.2.symm
       rw [hfin]
       clear hfin hlt
       go_wp2
       go_roundg h'
       case measure=>omega
       case rel=>exact ⟨j+1,by congr 1,rfl,by omega,Lib.hid HY.out⟩
    ·obtain rfl:j=m:=by omega
     have j1: ¬(j:Int)<j:=by omega
     have hfin:mxT 0 ((P.map (·.2.2)).take j)=mxT 0 (fullTT i):=by
      rw [List.take_of_length_le (by rw [List.length_map];have:=HE.out.2.2.1;omega)]
      exact HE.out.2.2.2.2
     rw [hfin]
     have hmx:=HX.out.1.1
     obtain ⟨M,hM⟩: ∃M,mxT 0 (fullTT i)=M:=⟨_,rfl⟩
     rw [hM] at hmx⊢
     have TJ:=Lib.hid (H7.out.1.trans HJ.out fun _ _ f=>f)
     clear hfin hM hlt
     obtain ⟨PB',PC',hB,hP⟩: ∃a b,PB=a∧PC=b:=⟨_,_,rfl,rfl⟩
     rcases HRES.out with ⟨h1,rfl,B2,mb2,E2,rfl,h4,h5⟩|⟨h1,rfl,rfl⟩
     ·have hm7:M≠127:=by
       rw [decide_eq_false (show¬i=117 by omega)] at hmx
       exact of_decide_eq_false hmx
      have q1:((M:Int)==127)=false:=beq_false_of_ne (by omega)
      have HB2:=Lib.hid (And.intro (h4.touch0 (H7.out.2.trans HJ.out fun _ _ f=>f)) (And.intro h5 h1))
      clear h1 h4 h5 hmx hm7 hB hP
      go_wp2
      go_roundg g'
      case measure=>omega
      case rel=>exact ⟨i+1,B2,mb2,E2,rfl,by congr 1,by omega,by have:=HB2.out.2.2;omega,Lib.hid ⟨HB2.out.1,HB2.out.2.1,HI.out.2.2.trans TJ.out fun _ _ f=>f⟩⟩
     ·subst h1
      have hm7:M=127:=by simpa using hmx
      subst hm7
      clear hmx hB hP
      go_wp2_with (go_at_call 12;fail)
      refine (AW.out _ (H4.out.2.trans (HI.out.2.2.trans TJ.out fun _ _ f=>f) fun _ _ f=>f)).mono ?_
      rintro e w9 ⟨rfl,T9⟩
      have H9:=Lib.hid (H4.out.2.trans (HI.out.2.2.trans (TJ.out.trans T9 fun _ _ f=>f) fun _ _ f=>f) fun _ _ f=>f)
      clear T9
      go_wp2
      go_returns
      exact ⟨rfl,H9.out⟩
  ·obtain rfl:i=n:=by omega
   have i1: ¬(i:Int)<i:=by omega
   clear hlt
   go_wp2_with (go_at_call 12;fail)
   refine (AW.out _ (H4.out.2.trans HI.out.2.2 fun _ _ f=>f)).mono ?_
   rintro e w9 ⟨rfl,T9⟩
   have H9:=Lib.hid (H4.out.2.trans (HI.out.2.2.trans T9 fun _ _ f=>f) fun _ _ f=>f)
   clear T9
   go_wp2
   go_returns
   exact ⟨rfl,H9.out⟩
end Go.Proofs.YtclffhpdekepkaaGreatDoor
