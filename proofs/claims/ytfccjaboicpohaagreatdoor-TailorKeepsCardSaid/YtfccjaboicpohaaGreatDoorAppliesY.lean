/- A part of the proof that the statement holds for every input that it names. No other condition. -/
import Derived.Test.YtfccjaboicpohaaGreatDoorUxEndRY
import Derived.Test.YtfccjaboicpohaaGreatDoorQBY
import Derived.Test.YtfccjaboicpohaaGreatDoorRqapplyY
set_option linter.unusedVariables false
set_option linter.unusedSimpArgs false
namespace Go.Proofs.YtfccjaboicpohaaGreatDoor
open Go.RowKit
open Ux (Ent rootT rootE SameE okT)
open Ux.Sign (cp raw)
def ofR (l:List (Int×List Int×List Int)):List RulI:=l.map fun o=>⟨o.1,o.2.1,o.2.2⟩
def okB (x:RulI):Prop:=(-9223372036854775808≤x.rel∧x.rel≤9223372036854775807)∧(x.seq.length≤17592186044416∧i64s x.seq)∧(x.exp.length≤17592186044416∧i64s x.exp)
theorem IView.of_nv {w:World} {v:Value} {s:List Int} (h:Ux.NView .i64 w v s):IView w v s∧i64s s:=by
 obtain ⟨a,c,rfl,_,h1,h2⟩:=h
 refine ⟨⟨a,c,rfl,fun j x hx=> ?_⟩,fun x hx=> ?_⟩
 ·obtain ⟨g,o,e,_,h3⟩:=h1 j x hx
  exact ⟨g,o,e,h3⟩
 ·have:=h2 x hx
  simpa [IntKind.min,IntKind.max,IntKind.signed,IntKind.bits] using this
theorem rulesV_of {w:World} {v:Value} {l:List (Int×List Int×List Int)} (h:Ux.RulesR w v l):RulesV w v (ofR l)∧(∀x∈ofR l,okB x)∧(ofR l).length≤9223372036854775807:=by
 obtain ⟨a,c,rfl,h0,h1⟩:=h
 have hlen:(ofR l).length=l.length:=by simp [ofR]
 have key: ∀(i:Nat) (x:RulI),(ofR l)[i]? =some x→∃o,l[i]? =some o∧x=⟨o.1,o.2.1,o.2.2⟩:=fun i x hx=>by
  unfold ofR at hx
  rw [List.getElem?_map] at hx
  obtain ⟨o,ho,rfl⟩:=Option.map_eq_some_iff.1 hx
  exact ⟨o,ho,rfl⟩
 refine ⟨⟨a,c,by rw [hlen],fun i x hx=> ?_⟩,fun x hx=> ?_,by rw [hlen];simp only [maxLen] at h0;omega⟩
 ·obtain ⟨o,ho,rfl⟩:=key i x hx
  obtain ⟨_,g,off,x1,x2,e,_,k0,k1,k2,⟨n1,c1⟩,n2,c2⟩:=h1 i o ho
  refine ⟨g,off,x1,x2,e,k0,k1,k2,⟨(IView.of_nv n1).1,?_⟩,(IView.of_nv n2).1,?_⟩
  ·obtain ⟨a1,m1,d1,rfl,h,_⟩:=c1
   exact h
  ·obtain ⟨a1,m1,d1,rfl,h,_⟩:=c2
   exact h
 ·obtain ⟨i,hi,rfl⟩:=List.mem_iff_getElem.1 hx
  obtain ⟨o,ho,e⟩:=key i _ (List.getElem?_eq_getElem hi)
  obtain ⟨hb,g,off,x1,x2,_,_,k0,k1,k2,⟨n1,c1⟩,n2,c2⟩:=h1 i o ho
  rw [e]
  refine ⟨hb,⟨?_,(IView.of_nv n1).2⟩,?_,(IView.of_nv n2).2⟩
  ·obtain ⟨a1,m1,d1,rfl,_,h⟩:=c1
   obtain ⟨_,_,e1,_⟩:=n1
   cases e1
   exact h
  ·obtain ⟨a1,m1,d1,rfl,_,h⟩:=c2
   obtain ⟨_,_,e1,_⟩:=n2
   cases e1
   exact h
def fitsI (l:List RulI):Prop:= ∀x∈l,x.seq.length+x.exp.length≤12
theorem okI_of {l:List RulI} (h: ∀x∈l,okB x) (hf:fitsI l): ∀x∈l,okI x:=fun x hx=>⟨(h x hx).1,⟨by have:=hf x hx;omega,(h x hx).2.1.2⟩,by have:=hf x hx;omega,(h x hx).2.2.2⟩
theorem fits_len {l:List RulI} (h:fitsI l): ∀x∈l,x.seq.length≤12∧x.exp.length≤12:=fun x hx=>by have:=h x hx;omega
set_option maxHeartbeats 16000000 in
set_option maxRecDepth 100000 in
theorem appliesLaw0_ (hrr: ∀W,Calls Tryz.prog 13 #[] W fun e w'=> ∃u,e= .returned (.agg #[u])∧RRows w' (fun b=>W.heap.size+2≤b) u (rootT 132)∧Ux.Touch (fun _=>False) W w')
 (v0 v1:Value) (l m:List RulI) (w:World) (h0:RulesV w v0 l) (h1:RulesV w v1 m) (hl: ∀x∈l,okB x) (hm: ∀x∈m,okB x) (hl63:l.length≤9223372036854775807) (hm63:m.length≤9223372036854775807) (hT:Tabs w):
 Calls Tryz.prog 3 #[v0,v1] w fun e w'=>e= .returned (.bool true)∧Ux.Touch (fun _=>False) w w':=by
 have AW:=Lib.hid fun W (T:Ux.Touch (fun _=>False) w W)=>awake7_ W (hT.touch T)
 have HRR:=Lib.hid hrr
 have hv0:=h0
 have hv1:=h1
 obtain ⟨a0,c0,rfl,hc0⟩:=h0
 obtain ⟨a1,c1,rfl,hc1⟩:=h1
 obtain ⟨n,hn⟩: ∃k,l.length=k:=⟨_,rfl⟩
 obtain ⟨k,hk⟩: ∃k,m.length=k:=⟨_,rfl⟩
 rw [hn] at hv0 hl63⊢
 rw [hk] at hv1 hm63⊢
 have n0:(n:Int)≤9223372036854775807:=by omega
 have k0:(k:Int)≤9223372036854775807:=by omega
 have H0:=Lib.hid (And.intro hc0 (And.intro hl (And.intro hn hv0)))
 have H1:=Lib.hid (And.intro hc1 (And.intro hm (And.intro hk hv1)))
 clear hc0 hc1 hl hm hn hk hv0 hv1 hl63 hm63 hT hrr
 go_enter Tryz.func3,Tryz.ntmps3
 go_wp2_with (fail)
 go_loopg [5] n (fun gk s5 wr=> ∃i:Nat,s5= .int .i64 i∧i+gk=n∧Hid (((0<i→n≤12)∧fitsI (l.take i))∧Ux.Touch (fun _=>False) w wr))
 case atStart=>exact ⟨0,rfl,by omega,Lib.hid ⟨⟨fun h=>by omega,fun x hx=>by simp at hx⟩,Ux.Touch.refl _ _⟩⟩
 case round=>
  obtain ⟨i,rfl,hig,HI⟩:=hrel
  have i0:(0:Int)≤i:=by omega
  by_cases hin:i<n
  ·obtain ⟨g',rfl⟩: ∃g',gk=g'+1:=⟨gk-1,by omega⟩
   have i1:(i:Int)<n:=by omega
   obtain ⟨x,hx⟩: ∃x,l[i]? =some x:=⟨_,List.getElem?_eq_getElem (by have:=H0.out.2.2.1;omega)⟩
   obtain ⟨g,o,y1,y2,rfl,d0,d1,d2,⟨p1,_⟩,p2,_⟩:=H0.out.1 i x hx
   obtain ⟨b1,e1,rfl,_⟩:=p1
   obtain ⟨b2,e2,rfl,_⟩:=p2
   have hxb:=H0.out.2.1 x (List.mem_of_getElem? hx)
   obtain ⟨m1,hm1⟩: ∃q,x.seq.length=q:=⟨_,rfl⟩
   obtain ⟨m2,hm2⟩: ∃q,x.exp.length=q:=⟨_,rfl⟩
   have b1m:=hxb.2.1.1
   have b2m:=hxb.2.2.1
   rw [hm1] at d1 b1m
   rw [hm2] at d2 b2m
   have d1:=HI.out.2.cell d1 (fun f=>f)
   have d2:=HI.out.2.cell d2 (fun f=>f)
   have j1:(m1:Int)≤17592186044416:=by omega
   have j2:(m2:Int)≤17592186044416:=by omega
   have HX:=Lib.hid (And.intro hx (And.intro hm1 hm2))
   clear hx hm1 hm2 hxb b1m b2m d0 hin
   obtain ⟨Z1,hZ1⟩: ∃b,decide ((n:Int)>12)=b:=⟨_,rfl⟩
   obtain ⟨Z2,hZ2⟩: ∃b,decide ((m1:Int)+m2>12)=b:=⟨_,rfl⟩
   have HZ:=Lib.hid (And.intro hZ1 hZ2)
   cases Z1 with
   |true=>
    clear hZ2
    go_upto_region 4 with (fail)
    refine Ux.wpr (fun _ w'=>w'.cell? ⟨g,o+i*3+1,none⟩=some (.slice b1 m1 e1)∧w'.cell? ⟨g,o+i*3+2,none⟩=some (.slice b2 m2 e2)) (.q [0,1,2,3,4,5,6,7,10,11,12,13] (.h false [8,14] (.q [9,15,16,17,18] (.line [])))) ?_;repeat ((with_reducible refine Ux.qg ?_);refine Ux.qu ?_)
    go_wp2_with (go_at_call 9;fail)
    refine (AW.out _ HI.out.2.drew).mono ?_
    rintro e w7 ⟨rfl,T7⟩
    have H7:=Lib.hid (HI.out.2.drew.trans T7 fun _ _ f=>f)
    clear T7
    go_wp2
    go_returns
    exact ⟨rfl,H7.out⟩
   |false=>
    cases Z2 with
    |true=>
     go_upto_region 4 with (fail)
     refine Ux.wpr (fun _ w'=>w'.cell? ⟨g,o+i*3+1,none⟩=some (.slice b1 m1 e1)∧w'.cell? ⟨g,o+i*3+2,none⟩=some (.slice b2 m2 e2)) (.q [0,1,2,3,4,5,6,7,10,11,12,13] (.h false [8,14] (.q [9,15,16,17,18] (.line [])))) ?_;repeat ((with_reducible refine Ux.qg ?_);refine Ux.qu ?_)
     go_wp2_with (go_at_call 9;fail)
     refine (AW.out _ HI.out.2.drew).mono ?_
     rintro e w7 ⟨rfl,T7⟩
     have H7:=Lib.hid (HI.out.2.drew.trans T7 fun _ _ f=>f)
     clear T7
     go_wp2
     go_returns
     exact ⟨rfl,H7.out⟩
    |false=>
     go_upto_region 4 with (fail)
     refine Ux.wpr (fun _ w'=>w'.cell? ⟨g,o+i*3+1,none⟩=some (.slice b1 m1 e1)∧w'.cell? ⟨g,o+i*3+2,none⟩=some (.slice b2 m2 e2)) (.q [0,1,2,3,4,5,6,7,10,11,12,13] (.h false [8,14] (.q [9,15,16,17,18] (.line [])))) ?_;repeat ((with_reducible refine Ux.qg ?_);refine Ux.qu ?_)
     go_wp2_with (fail)
     go_roundg g'
     case measure=>omega
     case rel=>
      have z1:=of_decide_eq_false HZ.out.1
      have z2:=of_decide_eq_false HZ.out.2
      refine ⟨i+1,by congr 1,by omega,Lib.hid ⟨⟨fun _=>by omega,fun y hy=> ?_⟩,HI.out.2.drew⟩⟩
      rw [List.take_add_one,HX.out.1] at hy
      rcases List.mem_append.1 hy with hy|hy
      ·exact HI.out.1.2 y hy
      ·obtain rfl:y=x:=by simpa using hy
       have h1:=HX.out.2.1
       have h2:=HX.out.2.2
       omega
  ·obtain rfl:i=n:=by omega
   have i1: ¬(i:Int)<i:=by omega
   have hfit:fitsI l∧i≤12:=by
    refine ⟨?_,?_⟩
    ·have h:=HI.out.1.2
     rwa [List.take_of_length_le (by have:=H0.out.2.2.1;omega)] at h
    ·rcases Nat.eq_zero_or_pos i with h|h
     ·omega
     ·exact HI.out.1.1 h
   have HL:=Lib.hid (And.intro hfit.1 (And.intro hfit.2 HI.out.2))
   clear HI hfit hig hin i0
   go_wp2_with (fail)
   go_loopg [6] k (fun gk s6 wr=> ∃j:Nat,s6= .int .i64 j∧j+gk=k∧Hid (((0<j→k≤12)∧fitsI (m.take j))∧Ux.Touch (fun _=>False) w wr))
   case atStart=>exact ⟨0,rfl,by omega,Lib.hid ⟨⟨fun h=>by omega,fun x hx=>by simp at hx⟩,HL.out.2.2⟩⟩
   case round=>
    obtain ⟨j,rfl,hig,HI⟩:=hrel
    have i0:(0:Int)≤j:=by omega
    by_cases hin:j<k
    ·obtain ⟨g',rfl⟩: ∃g',gk=g'+1:=⟨gk-1,by omega⟩
     have i1:(j:Int)<k:=by omega
     obtain ⟨x,hx⟩: ∃x,m[j]? =some x:=⟨_,List.getElem?_eq_getElem (by have:=H1.out.2.2.1;omega)⟩
     obtain ⟨g,o,y1,y2,rfl,d0,d1,d2,⟨p1,_⟩,p2,_⟩:=H1.out.1 j x hx
     obtain ⟨b1,e1,rfl,_⟩:=p1
     obtain ⟨b2,e2,rfl,_⟩:=p2
     have hxb:=H1.out.2.1 x (List.mem_of_getElem? hx)
     obtain ⟨m1,hm1⟩: ∃q,x.seq.length=q:=⟨_,rfl⟩
     obtain ⟨m2,hm2⟩: ∃q,x.exp.length=q:=⟨_,rfl⟩
     have b1m:=hxb.2.1.1
     have b2m:=hxb.2.2.1
     rw [hm1] at d1 b1m
     rw [hm2] at d2 b2m
     have d1:=HI.out.2.cell d1 (fun f=>f)
     have d2:=HI.out.2.cell d2 (fun f=>f)
     have j1:(m1:Int)≤17592186044416:=by omega
     have j2:(m2:Int)≤17592186044416:=by omega
     have HX:=Lib.hid (And.intro hx (And.intro hm1 hm2))
     clear hx hm1 hm2 hxb b1m b2m d0 hin
     obtain ⟨Z1,hZ1⟩: ∃b,decide ((k:Int)>12)=b:=⟨_,rfl⟩
     obtain ⟨Z2,hZ2⟩: ∃b,decide ((m1:Int)+m2>12)=b:=⟨_,rfl⟩
     have HZ:=Lib.hid (And.intro hZ1 hZ2)
     cases Z1 with
     |true=>
      clear hZ2
      go_upto_region 9 with (fail)
      refine Ux.wpr (fun _ w'=>w'.cell? ⟨g,o+j*3+1,none⟩=some (.slice b1 m1 e1)∧w'.cell? ⟨g,o+j*3+2,none⟩=some (.slice b2 m2 e2)) (.q [0,1,2,3,4,5,6,7,10,11,12,13] (.h false [8,14] (.q [9,15,16,17,18] (.line [])))) ?_;repeat ((with_reducible refine Ux.qg ?_);refine Ux.qu ?_)
      go_wp2_with (go_at_call 9;fail)
      refine (AW.out _ HI.out.2.drew).mono ?_
      rintro e w7 ⟨rfl,T7⟩
      have H7:=Lib.hid (HI.out.2.drew.trans T7 fun _ _ f=>f)
      clear T7
      go_wp2
      go_returns
      exact ⟨rfl,H7.out⟩
     |false=>
      cases Z2 with
      |true=>
       go_upto_region 9 with (fail)
       refine Ux.wpr (fun _ w'=>w'.cell? ⟨g,o+j*3+1,none⟩=some (.slice b1 m1 e1)∧w'.cell? ⟨g,o+j*3+2,none⟩=some (.slice b2 m2 e2)) (.q [0,1,2,3,4,5,6,7,10,11,12,13] (.h false [8,14] (.q [9,15,16,17,18] (.line [])))) ?_;repeat ((with_reducible refine Ux.qg ?_);refine Ux.qu ?_)
       go_wp2_with (go_at_call 9;fail)
       refine (AW.out _ HI.out.2.drew).mono ?_
       rintro e w7 ⟨rfl,T7⟩
       have H7:=Lib.hid (HI.out.2.drew.trans T7 fun _ _ f=>f)
       clear T7
       go_wp2
       go_returns
       exact ⟨rfl,H7.out⟩
      |false=>
       go_upto_region 9 with (fail)
       refine Ux.wpr (fun _ w'=>w'.cell? ⟨g,o+j*3+1,none⟩=some (.slice b1 m1 e1)∧w'.cell? ⟨g,o+j*3+2,none⟩=some (.slice b2 m2 e2)) (.q [0,1,2,3,4,5,6,7,10,11,12,13] (.h false [8,14] (.q [9,15,16,17,18] (.line [])))) ?_;repeat ((with_reducible refine Ux.qg ?_);refine Ux.qu ?_)
       go_wp2_with (fail)
       go_roundg g'
       case measure=>omega
       case rel=>
        have z1:=of_decide_eq_false HZ.out.1
        have z2:=of_decide_eq_false HZ.out.2
        refine ⟨j+1,by congr 1,by omega,Lib.hid ⟨⟨fun _=>by omega,fun y hy=> ?_⟩,HI.out.2.drew⟩⟩
        rw [List.take_add_one,HX.out.1] at hy
        rcases List.mem_append.1 hy with hy|hy
        ·exact HI.out.1.2 y hy
        ·obtain rfl:y=x:=by simpa using hy
         have h1:=HX.out.2.1
         have h2:=HX.out.2.2
         omega
    ·obtain rfl:j=k:=by omega
     have j1: ¬(j:Int)<j:=by omega
     have hfit:fitsI m∧j≤12:=by
      refine ⟨?_,?_⟩
      ·have h:=HI.out.1.2
       rwa [List.take_of_length_le (by have:=H1.out.2.2.1;omega)] at h
      ·rcases Nat.eq_zero_or_pos j with h|h
       ·omega
       ·exact HI.out.1.1 h
     have HM:=Lib.hid (And.intro hfit.1 (And.intro hfit.2 HI.out.2))
     clear HI hfit hig hin i0
     have okl:=okI_of H0.out.2.1 HL.out.1
     have okm:=okI_of H1.out.2.1 HM.out.1
     have HOK:=Lib.hid (And.intro okl okm)
     have H3:=Lib.hid HM.out.2.2
     clear okl okm
     go_wp2_with (go_at_call 10;fail)
     refine (rootT_ _).mono ?_
     rintro e w1 ⟨B,mb,rfl,hTA,_,T1⟩
     have H2:=Lib.hid (And.intro hTA (H3.out.trans T1 fun _ _ f=>f))
     clear hTA T1
     go_wp2_with (go_at_call 12;fail)
     refine (of6q_ l _ w1 (H0.out.2.2.2.touch H2.out.2) (by have:=HL.out.2.1;have:=H0.out.2.2.1;omega) (fits_len HL.out.1)).mono ?_
     rintro e w2 ⟨u,rfl,hu,T2⟩
     have HU:=Lib.hid (And.intro hu (And.intro T2 (H2.out.2.trans T2 fun _ _ f=>f)))
     clear hu T2
     obtain ⟨RS,hRS⟩: ∃r,applyQ (rootT 132) [] false l=r:=⟨_,rfl⟩
     have HAP:=Lib.hid (applyQ_ B mb rootE (rootT 132) l u w2 (H2.out.1.touch0 HU.out.2.1) Ux.same_root InvT.root HU.out.1 HOK.out.1 (by have:=HL.out.2.1;have:=H0.out.2.2.1;omega))
     rw [hRS] at HAP
     have HRS:=Lib.hid hRS
     clear hRS
     go_wp2_with (go_at_call 11;fail)
     refine HAP.out.mono ?_
     rintro e w3 ⟨hR,T3⟩
     have H4:=Lib.hid (And.intro T3 (HU.out.2.2.trans T3 fun _ _ f=>f))
     have hTA3:=(H2.out.1.touch0 HU.out.2.1).touch0 T3
     have HTA:=Lib.hid hTA3
     clear T3 hTA3
     obtain ⟨C,hC⟩: ∃c,RS.1=c:=⟨_,rfl⟩
     have hRAP:=fun (u4:Value) (A4:Nat→Prop) (w4:World) (T4:Ux.Touch (fun _=>False) w w4) (h4:RRows w4 A4 u4 (rootT 132))=>rapplyQ_ u4 (.slice a0 i c0) (rootT 132) l A4 w4 h4 InvT.root (H0.out.2.2.2.touch T4) HOK.out.1 (by have:=HL.out.2.1;have:=H0.out.2.2.1;omega)
     simp only [HRS.out] at hRAP
     have HRAP:=Lib.hid hRAP
     clear hRAP
     have HLK:=Lib.hid fun (u7:Value) (A7:Nat→Prop) (w7:World) (T7:Ux.Touch (fun _=>False) w3 w7) (h7:RRows w7 A7 u7 (rootT 132))=>like_ B mb rootE (rootT 132) u7 A7 w7 (HTA.out.touch0 T7) (by rw [Ux.rootE_len];decide) Ux.same_root h7
     rcases hR with ⟨hne,rfl⟩|⟨hz,B',mb',E',rfl,hTA',hS'⟩
     ·rw [hC] at hne⊢
      have k9:((C:Int)==0)=false:=beq_false_of_ne (by omega)
      have q0:((C:Int) !=0)=true:=by show (!((C:Int)==0))=true;rw [k9];rfl
      have q2:((C:Int) !=C)=false:=by simp
      have HN:=Lib.hid (And.intro hne hC)
      clear hne hC
      go_wp2_with (go_at_call 13;fail)
      refine (HRR.out w3).mono ?_
      rintro e w4 ⟨u4,rfl,hR4,T4⟩
      have HR4:=Lib.hid (HRAP.out u4 _ w4 (H4.out.2.trans T4 fun _ _ f=>f) hR4)
      have HT4:=Lib.hid T4
      obtain ⟨_,a4,c4,rfl,_⟩:=hR4
      obtain ⟨n4,hn4⟩: ∃q,(rootT 132).length=q:=⟨_,rfl⟩
      rw [hn4] at HR4⊢
      clear T4 hn4
      go_wp2_with (go_at_call 14;fail)
      refine HR4.out.mono ?_
      rintro e w5 ⟨h5,T5⟩
      rcases h5 with ⟨_,rfl⟩|⟨hz,_⟩
      rotate_left
      ·exact absurd (HN.out.2▸hz) HN.out.1
      rw [HN.out.2]
      obtain ⟨W6,hW6⟩: ∃W,w5.alloc (.cells #[.slice none 0 0] 36)=W:=⟨_,rfl⟩
      obtain ⟨q6,hq6⟩: ∃q,w5.heap.size=q:=⟨_,rfl⟩
      have T6:Ux.Touch (fun _=>False) w3 W6:=(HT4.out.trans T5 fun _ _ f=>f).trans (by rw [←hW6];exact (Ux.Touch.refl _ _).alloc _) fun _ _ f=>f
      have HW6:=Lib.hid (And.intro hW6 hq6)
      have HT6:=Lib.hid T6
      clear hW6 hq6 T5 T6
      go_upto_region 16 with (fail)
      rw [HW6.out.1,HW6.out.2]
      go_wp2_with (go_at_call 13;fail)
      refine (HRR.out W6).mono ?_
      rintro e w7 ⟨u7,rfl,hR7,T7⟩
      have HL7:=Lib.hid (HLK.out u7 _ w7 (HT6.out.trans T7 fun _ _ f=>f) hR7)
      have HT7:=Lib.hid (HT6.out.trans T7 fun _ _ f=>f)
      obtain ⟨_,a7,c7,rfl,_⟩:=hR7
      obtain ⟨n7,hn7⟩: ∃q,(rootT 132).length=q:=⟨_,rfl⟩
      rw [hn7] at HL7⊢
      clear T7 hn7
      go_wp2_with (go_at_call 15;fail)
      refine HL7.out.mono ?_
      rintro e w8 ⟨rfl,T8⟩
      have HT8:=Lib.hid ((H4.out.2.trans HT7.out fun _ _ f=>f).trans T8 fun _ _ f=>f)
      clear T8
      go_wp2_with (go_at_call 9;fail)
      refine (AW.out w8 HT8.out).mono ?_
      rintro e w9 ⟨rfl,T9⟩
      have H9:=Lib.hid (HT8.out.trans T9 fun _ _ f=>f)
      clear T9
      go_wp2
      go_returns
      exact ⟨rfl,H9.out⟩
     ·rw [hC] at hz
      subst hz
      have hinv:=applyQ_ok (b:=false) l InvT.root (by rw [HRS.out];exact hC)
      rw [HRS.out] at hinv
      obtain ⟨T1,hT1⟩: ∃t,RS.2=t:=⟨_,rfl⟩
      rw [hT1] at hS' hinv
      have hlenE:E'.length≤1000:=by have h1:=hS'.1.length_eq;have h2:=hinv.1.len;omega
      have HP:=Lib.hid (And.intro hTA' (And.intro hS' (And.intro hinv (And.intro hT1 (And.intro hC hlenE)))))
      clear hC hinv hT1 hTA' hS' hlenE
      go_wp2_with (go_at_call 13;fail)
      refine (HRR.out w3).mono ?_
      rintro e w4 ⟨u4,rfl,hR4,T4⟩
      have HR4:=Lib.hid (HRAP.out u4 _ w4 (H4.out.2.trans T4 fun _ _ f=>f) hR4)
      have HT4:=Lib.hid T4
      obtain ⟨_,a4,c4,rfl,_⟩:=hR4
      obtain ⟨n4,hn4⟩: ∃q,(rootT 132).length=q:=⟨_,rfl⟩
      rw [hn4] at HR4⊢
      clear T4 hn4
      go_wp2_with (go_at_call 14;fail)
      refine HR4.out.mono ?_
      rintro e w5 ⟨h5,T5⟩
      rcases h5 with ⟨hn,_⟩|⟨_,xa,xn,xc,rfl,hX⟩
      ·exact absurd HP.out.2.2.2.2.1 hn
      rw [HP.out.2.2.2.1] at hX
      obtain ⟨q6,hq6⟩: ∃q,w5.heap.size=q:=⟨_,rfl⟩
      have t6:Ux.Touch (fun _=>False) w5 (w5.alloc (.cells #[.slice xa xn xc] 36)):=(Ux.Touch.refl _ _).alloc _
      have b6:(w5.alloc (.cells #[.slice xa xn xc] 36)).heap[q6]? =some (.cells #[.slice xa xn xc] 36 (0,0)):=by rw [←hq6];exact heap_alloc_new w5 _
      obtain ⟨W6,hW6⟩: ∃W,w5.alloc (.cells #[.slice xa xn xc] 36)=W:=⟨_,rfl⟩
      rw [hW6] at t6 b6
      have c6:W6.cell? ⟨q6,0,none⟩=some (.slice xa xn xc):=by rw [cell_of_row _ q6 0 _ _ (0,0) b6];rfl
      have HX:=Lib.hid (hX.touch0 t6)
      have HT6:=Lib.hid ((HT4.out.trans T5 fun _ _ f=>f).trans t6 fun _ _ f=>f)
      have HC6:=Lib.hid fun W (T:Ux.Touch (fun _=>False) W6 W)=>T.cell c6 (fun f=>f)
      have HW6:=Lib.hid (And.intro hW6 hq6)
      clear hW6 hq6 T5 t6 hX b6 c6
      go_upto_region 16 with (fail)
      rw [HW6.out.1,HW6.out.2]
      go_wp2_with (go_at_call 13;fail)
      refine (HRR.out W6).mono ?_
      rintro e w7 ⟨u7,rfl,hR7,T7⟩
      have HL7:=Lib.hid (HLK.out u7 _ w7 (HT6.out.trans T7 fun _ _ f=>f) hR7)
      have HT7:=Lib.hid T7
      obtain ⟨_,a7,c7,rfl,_⟩:=hR7
      obtain ⟨n7,hn7⟩: ∃q,(rootT 132).length=q:=⟨_,rfl⟩
      rw [hn7] at HL7⊢
      clear T7 hn7
      go_wp2_with (go_at_call 15;fail)
      refine HL7.out.mono ?_
      rintro e w8 ⟨rfl,T8⟩
      have HT8:=Lib.hid (And.intro (HT7.out.trans T8 fun _ _ f=>f) ((H4.out.2.trans HT6.out fun _ _ f=>f).trans (HT7.out.trans T8 fun _ _ f=>f) fun _ _ f=>f))
      clear T8
      go_wp2_with (go_at_call 12;fail)
      refine (of6q_ m _ w8 (H1.out.2.2.2.touch HT8.out.2) (by have:=HM.out.2.1;have:=H1.out.2.2.1;omega) (fits_len HM.out.1)).mono ?_
      rintro e w9 ⟨u9,rfl,hu9,T9⟩
      have HT9:=Lib.hid (And.intro (HT8.out.1.trans T9 fun _ _ f=>f) (HT8.out.2.trans T9 fun _ _ f=>f))
      obtain ⟨R2,hR2⟩: ∃r,applyQ T1 [] false m=r:=⟨_,rfl⟩
      have hTA9:=HP.out.1.touch0 (HT6.out.trans HT9.out.1 fun _ _ f=>f)
      have HAP2:=Lib.hid (applyQ_ B' mb' E' T1 m u9 w9 hTA9 HP.out.2.1 HP.out.2.2.1.1 hu9 HOK.out.2 (by have:=HM.out.2.1;have:=H1.out.2.2.1;omega))
      rw [hR2] at HAP2
      have HR2:=Lib.hid hR2
      have HTA9:=Lib.hid hTA9
      clear hR2 hTA9 T9 hu9
      go_wp2_with (go_at_call 11;fail)
      refine HAP2.out.mono ?_
      rintro e w10 ⟨h10,T10⟩
      have HT10:=Lib.hid (And.intro T10 (And.intro (HT9.out.1.trans T10 fun _ _ f=>f) (HT9.out.2.trans T10 fun _ _ f=>f)))
      have c6:=HC6.out w10 HT10.out.2.1
      have hXX:=HX.out.touch0 HT10.out.2.1
      have HRP:=Lib.hid (rapplyQ_ (.slice xa xn xc) (.slice a1 j c1) T1 m _ w10 hXX HP.out.2.2.1.1 (H1.out.2.2.2.touch HT10.out.2.2) HOK.out.2 (by have:=HM.out.2.1;have:=H1.out.2.2.1;omega))
      rw [HR2.out] at HRP
      have HL1:=Lib.hid fun w' (T:Ux.Touch (fun _=>False) w10 w')=>like_ B' mb' E' T1 (.slice xa xn xc) _ w' ((HTA9.out.touch0 HT10.out.1).touch0 T) HP.out.2.2.2.2.2 HP.out.2.1 (hXX.touch0 T)
      clear T10 hXX
      obtain ⟨C2,hC2⟩: ∃c,R2.1=c:=⟨_,rfl⟩
      rcases h10 with ⟨hne,rfl⟩|⟨hz,B2,mb2,E2,rfl,hTA2,hS2⟩
      ·rw [hC2] at hne⊢
       have k9:((C2:Int)==0)=false:=beq_false_of_ne (by omega)
       have q0:((C2:Int) !=0)=true:=by show (!((C2:Int)==0))=true;rw [k9];rfl
       have q2:((C2:Int)==C2)=true:=by simp
       have HN:=Lib.hid (And.intro hne hC2)
       clear hne hC2
       go_wp2_with (go_at_call 14;fail)
       refine HRP.out.mono ?_
       rintro e w11 ⟨h11,T11⟩
       rcases h11 with ⟨_,rfl⟩|⟨hz,_⟩
       rotate_left
       ·exact absurd (HN.out.2▸hz) HN.out.1
       rw [HN.out.2]
       obtain ⟨W12,hW12⟩: ∃W,w11.alloc (.cells #[.slice none 0 0] 36)=W:=⟨_,rfl⟩
       obtain ⟨q12,hq12⟩: ∃q,w11.heap.size=q:=⟨_,rfl⟩
       have T12:Ux.Touch (fun _=>False) w10 W12:=T11.trans (by rw [←hW12];exact (Ux.Touch.refl _ _).alloc _) fun _ _ f=>f
       have HT12:=Lib.hid T12
       have HW12:=Lib.hid (And.intro hW12 hq12)
       have c6:=T12.cell c6 (fun f=>f)
       clear hW12 hq12 T12 T11
       go_upto_region 22 with (fail)
       rw [HW12.out.1,HW12.out.2]
       go_wp2_with (go_at_call 15;fail)
       refine (HL1.out W12 HT12.out).mono ?_
       rintro e w13 ⟨rfl,T13⟩
       have HT13:=Lib.hid (HT10.out.2.2.trans (HT12.out.trans T13 fun _ _ f=>f) fun _ _ f=>f)
       clear T13
       go_wp2_with (go_at_call 9;fail)
       refine (AW.out w13 HT13.out).mono ?_
       rintro e w14 ⟨rfl,T14⟩
       have H14:=Lib.hid (HT13.out.trans T14 fun _ _ f=>f)
       clear T14
       go_wp2
       go_returns
       exact ⟨rfl,H14.out⟩
      ·rw [hC2] at hz
       subst hz
       have hinv:=applyQ_ok (b:=false) m HP.out.2.2.1.1 (by rw [HR2.out];exact hC2)
       rw [HR2.out] at hinv
       have hlen2:E2.length≤1000:=by have h1:=hS2.1.length_eq;have h2:=hinv.1.len;omega
       have HP2:=Lib.hid (And.intro hTA2 (And.intro hS2 (And.intro hlen2 hC2)))
       clear hC2 hinv hTA2 hS2 hlen2
       go_wp2_with (go_at_call 14;fail)
       refine HRP.out.mono ?_
       rintro e w11 ⟨h11,T11⟩
       rcases h11 with ⟨hn,_⟩|⟨_,ya,yn,yc,rfl,hY⟩
       ·exact absurd HP2.out.2.2.2 hn
       obtain ⟨q12,hq12⟩: ∃q,w11.heap.size=q:=⟨_,rfl⟩
       have t12:Ux.Touch (fun _=>False) w11 (w11.alloc (.cells #[.slice ya yn yc] 36)):=(Ux.Touch.refl _ _).alloc _
       have b12:(w11.alloc (.cells #[.slice ya yn yc] 36)).heap[q12]? =some (.cells #[.slice ya yn yc] 36 (0,0)):=by rw [←hq12];exact heap_alloc_new w11 _
       obtain ⟨W12,hW12⟩: ∃W,w11.alloc (.cells #[.slice ya yn yc] 36)=W:=⟨_,rfl⟩
       rw [hW12] at t12 b12
       have c12:W12.cell? ⟨q12,0,none⟩=some (.slice ya yn yc):=by rw [cell_of_row _ q12 0 _ _ (0,0) b12];rfl
       have T12:=T11.trans t12 fun _ _ f=>f
       have hY12:=hY.touch0 t12
       have HL2:=Lib.hid fun w' (T:Ux.Touch (fun _=>False) W12 w')=>like_ B2 mb2 E2 R2.2 (.slice ya yn yc) _ w' (HP2.out.1.touch0 (T12.trans T fun _ _ f=>f)) HP2.out.2.2.1 HP2.out.2.1 (hY12.touch0 T)
       have HT12:=Lib.hid T12
       have HW12:=Lib.hid (And.intro hW12 hq12)
       have HC12:=Lib.hid fun W (T:Ux.Touch (fun _=>False) W12 W)=>T.cell c12 (fun f=>f)
       have c6:=T12.cell c6 (fun f=>f)
       clear hW12 hq12 T12 T11 t12 b12 hY hY12
       go_upto_region 22 with (fail)
       rw [HW12.out.1,HW12.out.2]
       go_wp2_with (go_at_call 15;fail)
       refine (HL1.out W12 HT12.out).mono ?_
       rintro e w13 ⟨rfl,T13⟩
       have c12:=HC12.out w13 T13
       have HT13:=Lib.hid (And.intro T13 (HT10.out.2.2.trans (HT12.out.trans T13 fun _ _ f=>f) fun _ _ f=>f))
       clear T13
       go_wp2_with (go_at_call 15;fail)
       refine (HL2.out w13 HT13.out.1).mono ?_
       rintro e w14 ⟨rfl,T14⟩
       have HT14:=Lib.hid (HT13.out.2.trans T14 fun _ _ f=>f)
       clear T14
       go_wp2_with (go_at_call 9;fail)
       refine (AW.out w14 HT14.out).mono ?_
       rintro e w15 ⟨rfl,T15⟩
       have H15:=Lib.hid (HT14.out.trans T15 fun _ _ f=>f)
       clear T15
       go_wp2
       go_returns
       exact ⟨rfl,H15.out⟩
theorem appliesLaw_ (v0:Value) (l:List (Int×List Int×List Int)) (v1:Value) (m:List (Int×List Int×List Int)) (w:World) (h0:Ux.RulesR w v0 l) (h1:Ux.RulesR w v1 m) (hT:Tabs w):
 Calls Tryz.prog 3 #[v0,v1] w fun e w'=>e= .returned (.bool true)∧Ux.Touch (fun _=>False) w w':=by
 obtain ⟨a1,a2,a3⟩:=rulesV_of h0
 obtain ⟨b1,b2,b3⟩:=rulesV_of h1
 exact appliesLaw0_ rroot_ v0 v1 _ _ w a1 b1 a2 b2 a3 b3 hT
end Go.Proofs.YtfccjaboicpohaaGreatDoor
