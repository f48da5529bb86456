/- A part of the proof that the statement holds for every input that it names. No other condition. -/
import Derived.Test.YtfccjaboicpohaaGreatDoorAppliesY
import Derived.Test.YtfccjaboicpohaaGreatDoorKpAX2Y
set_option linter.unusedVariables false
set_option linter.unusedSimpArgs false
namespace Go.Proofs.YtfccjaboicpohaaGreatDoor
open Go.RowKit
open Ux (Ent rootT rootE SameE okT sv elemsE wF cmpL)
open Ux.Sign (cp raw signs)
def byK (s:ByteArray):Prop:= ∀b∈s.data.toList,sgnK b.toNat=true
theorem byK_signs {s:ByteArray} (h:byK s): ∀c∈signs s.data.toList,sgnK c=true:=fun c hc=>by
 rw [Ux.Sign.signs_ascii _ fun b hb=>by have:=sgnK_lt (h b hb);omega] at hc
 obtain ⟨b,hb,rfl⟩:=List.mem_map.1 hc
 exact h b hb
theorem sgnK_ab {x:Nat} (h:(110≤x∧x≤122)∨(48≤x∧x≤57)∨(78≤x∧x≤90)):sgnK x=true:=by
 unfold sgnK
 simp
 omega
theorem sgnK_not {x:Nat} (h: ¬((110≤x∧x≤122)∨(48≤x∧x≤57)∨(78≤x∧x≤90))):sgnK x=false:=by
 unfold sgnK
 simp
 omega
def stK (a b:ByteArray) (k:Nat):ByteArray:=if k=0 then a else b
set_option maxHeartbeats 16000000 in
set_option maxRecDepth 100000 in
theorem keepsLaw0_ (v0:Value) (l:List RulI) (a b:ByteArray) (w:World) (h0:RulesV w v0 l) (hl: ∀x∈l,okB x) (hl63:l.length≤9223372036854775807) (hT:Tabs w) (ha:a.size≤140737488355328) (hb:b.size≤140737488355328):
 Calls Tryz.prog 4 #[v0,.string a,.string b] w fun e w'=>e= .returned (.bool true)∧Ux.Touch (fun _=>False) w w':=by
 have AW:=Lib.hid fun W (T:Ux.Touch (fun _=>False) w W)=>awake7_ W (hT.touch T)
 have HT:=Lib.hid hT
 have hv0:=h0
 obtain ⟨a0,c0,rfl,hc0⟩:=h0
 obtain ⟨n,hn⟩: ∃k,l.length=k:=⟨_,rfl⟩
 rw [hn] at hv0 hl63⊢
 have n0:(n:Int)≤9223372036854775807:=by omega
 obtain ⟨na,hna⟩: ∃k,a.size=k:=⟨_,rfl⟩
 obtain ⟨nb,hnb⟩: ∃k,b.size=k:=⟨_,rfl⟩
 have na0:(na:Int)≤140737488355328:=by omega
 have nb0:(nb:Int)≤140737488355328:=by omega
 have H0:=Lib.hid (And.intro hc0 (And.intro hl (And.intro hn (And.intro hv0 (And.intro hna hnb)))))
 clear hc0 hl hn hv0 hl63 hT ha hb
 obtain ⟨Z1,hZ1⟩: ∃b,decide ((na:Int)+nb>60)=b:=⟨_,rfl⟩
 obtain ⟨Z2,hZ2⟩: ∃b,decide ((n:Int)>8)=b:=⟨_,rfl⟩
 have HZ:=Lib.hid (And.intro hZ1 hZ2)
 go_enter Tryz.func4,Tryz.ntmps4
 cases Z1 with
 |true=>
  clear hZ2
  go_wp2_with (go_at_call 9;fail)
  refine (AW.out _ (Ux.Touch.refl _ _)).mono ?_
  rintro e w7 ⟨rfl,T7⟩
  have H7:=Lib.hid (Ux.Touch.trans (Ux.Touch.refl _ _) T7 fun _ _ f=>f)
  clear T7
  go_wp2
  go_returns
  exact ⟨rfl,H7.out⟩
 |false=>
 cases Z2 with
 |true=>
  go_wp2_with (go_at_call 9;fail)
  refine (AW.out _ (Ux.Touch.refl _ _)).mono ?_
  rintro e w7 ⟨rfl,T7⟩
  have H7:=Lib.hid (Ux.Touch.trans (Ux.Touch.refl _ _) T7 fun _ _ f=>f)
  clear T7
  go_wp2
  go_returns
  exact ⟨rfl,H7.out⟩
 |false=>
 have hab:na+nb≤60∧n≤8:=by
  have z1:=of_decide_eq_false HZ.out.1
  have z2:=of_decide_eq_false HZ.out.2
  omega
 have HAB:=Lib.hid hab
 clear hab
 go_upto_region 3 with (fail)
 obtain ⟨q,hq⟩: ∃q,w.heap.size=q:=⟨_,rfl⟩
 have hb1:(w.alloc (.cells #[.string a,.string b] 9)).heap[q]? =some (.cells #[.string a,.string b] 9 (0,0)):=by rw [←hq];exact heap_alloc_new w _
 obtain ⟨W1,hW1⟩: ∃W,w.alloc (.cells #[.string a,.string b] 9)=W:=⟨_,rfl⟩
 rw [hW1] at hb1
 have t1:Ux.Touch (fun _=>False) w W1:=by rw [←hW1];exact (Ux.Touch.refl _ _).alloc _
 have hcl: ∀k,k<2→W1.cell? ⟨q,k,none⟩=some (.string (stK a b k)):=fun k hk=>by
  rw [cell_of_row W1 q k _ _ (0,0) hb1]
  match k,hk with
  |0,_=>rfl
  |1,_=>rfl
 have H1:=Lib.hid (And.intro t1 hcl)
 have HW1:=Lib.hid (And.intro hW1 hq)
 clear hW1 hq hb1 t1 hcl
 go_wp2_with (fail)
 rw [HW1.out.1,HW1.out.2]
 go_loopg [32] 2 (fun gk s32 wr=> ∃k:Nat,s32= .int .i64 k∧k+gk=2∧Hid ((∀j,j<k→byK (stK a b j))∧W1=wr))
 case atStart=>exact ⟨0,rfl,rfl,Lib.hid ⟨fun j hj=>by omega,rfl⟩⟩
 case round=>
  obtain ⟨k,rfl,hkg,HI⟩:=hrel
  obtain rfl:=HI.out.2
  have k0:(0:Int)≤k:=by omega
  by_cases hk2:k<2
  ·obtain ⟨g',rfl⟩: ∃g',gk=g'+1:=⟨gk-1,by omega⟩
   have k1:(k:Int)<2:=by omega
   have ck:=H1.out.2 k hk2
   obtain ⟨S,hS⟩: ∃S,stK a b k=S:=⟨_,rfl⟩
   rw [hS] at ck
   have HS:=Lib.hid (And.intro hS hk2)
   obtain ⟨nS,hnS⟩: ∃k,S.size=k:=⟨_,rfl⟩
   have hn60:nS≤60:=by
    have h1:=HAB.out.1
    have h2:=H0.out.2.2.2.2.1
    have h3:=H0.out.2.2.2.2.2
    rw [←hnS,←hS]
    unfold stK
    split<;>omega
   have s0:(nS:Int)≤60:=by omega
   have HNS:=Lib.hid hnS
   clear hS hk2 hnS hn60
   go_wp2_with (fail)
   go_loopg [9] nS (fun gk s9 wr=> ∃j:Nat,s9= .int .i64 j∧j+gk=nS∧Hid ((∀b∈S.data.toList.take j,sgnK b.toNat=true)∧W1=wr))
   case atStart=>exact ⟨0,rfl,by omega,Lib.hid ⟨fun b hb=>by simp at hb,rfl⟩⟩
   case round=>
    obtain ⟨j,rfl,hjg,HJ⟩:=hrel
    obtain rfl:=HJ.out.2
    have j0:(0:Int)≤j:=by omega
    by_cases hjn:j<nS
    ·obtain ⟨gj,rfl⟩: ∃g',gk=g'+1:=⟨gk-1,by omega⟩
     have j1:(j:Int)<nS:=by omega
     have hjl:j<S.size:=by have:=HNS.out;omega
     obtain ⟨x,hx⟩: ∃x,S[j].toNat=x:=⟨_,rfl⟩
     have hyx: ∃y,S.data.toList[j]? =some y∧y.toNat=x:=⟨S[j],by
      rw [List.getElem?_eq_getElem (by rw [Array.length_toList];exact hjl)]
      rfl,hx⟩
     have HX:=Lib.hid (And.intro hyx hx)
     have hj1:j<S.size:=hjl
     clear hyx
     go_upto_region 9 with (fail)
     obtain ⟨Z,hZs⟩: ∃Z,(!sgnK x)=Z:=⟨_,rfl⟩
     have HZS:=Lib.hid hZs
     go_cut [76] (fun s76 wx=>s76= .bool Z∧W1=wx)
     case first=>
      by_cases h1:110≤x
      ·by_cases h2:x≤122
       ·have hz:sgnK x=true:=sgnK_ab (by omega)
        obtain rfl:Z=false:=by rw [←hZs,hz];rfl
        have f0:110≤(S[j].toNat:Int):=by omega
        have d0:decide (110≤(S[j].toNat:Int))=true:=decide_eq_true f0
        have f1:(S[j].toNat:Int)≤122:=by omega
        have d1:decide ((S[j].toNat:Int)≤122)=true:=decide_eq_true f1
        clear hx hz hZs h1 h2
        go_wp2_with (fail)
        go_meet
        exact ⟨rfl,rfl⟩
       ·have hz:sgnK x=false:=sgnK_not (by omega)
        obtain rfl:Z=true:=by rw [←hZs,hz];rfl
        have f0:110≤(S[j].toNat:Int):=by omega
        have d0:decide (110≤(S[j].toNat:Int))=true:=decide_eq_true f0
        have f1: ¬((S[j].toNat:Int)≤122):=by omega
        have d1:decide ((S[j].toNat:Int)≤122)=false:=decide_eq_false f1
        have f2:48≤(S[j].toNat:Int):=by omega
        have d2:decide (48≤(S[j].toNat:Int))=true:=decide_eq_true f2
        have f3: ¬((S[j].toNat:Int)≤57):=by omega
        have d3:decide ((S[j].toNat:Int)≤57)=false:=decide_eq_false f3
        have f4:78≤(S[j].toNat:Int):=by omega
        have d4:decide (78≤(S[j].toNat:Int))=true:=decide_eq_true f4
        have f5: ¬((S[j].toNat:Int)≤90):=by omega
        have d5:decide ((S[j].toNat:Int)≤90)=false:=decide_eq_false f5
        clear hx hz hZs h1 h2
        go_wp2_with (fail)
        go_meet
        exact ⟨rfl,rfl⟩
      ·by_cases h3:48≤x
       ·by_cases h4:x≤57
        ·have hz:sgnK x=true:=sgnK_ab (by omega)
         obtain rfl:Z=false:=by rw [←hZs,hz];rfl
         have f0: ¬(110≤(S[j].toNat:Int)):=by omega
         have d0:decide (110≤(S[j].toNat:Int))=false:=decide_eq_false f0
         have f2:48≤(S[j].toNat:Int):=by omega
         have d2:decide (48≤(S[j].toNat:Int))=true:=decide_eq_true f2
         have f3:(S[j].toNat:Int)≤57:=by omega
         have d3:decide ((S[j].toNat:Int)≤57)=true:=decide_eq_true f3
         clear hx hz hZs h1 h3 h4
         go_wp2_with (fail)
         go_meet
         exact ⟨rfl,rfl⟩
        ·by_cases h5:78≤x
         ·by_cases h6:x≤90
          ·have hz:sgnK x=true:=sgnK_ab (by omega)
           obtain rfl:Z=false:=by rw [←hZs,hz];rfl
           have f0: ¬(110≤(S[j].toNat:Int)):=by omega
           have d0:decide (110≤(S[j].toNat:Int))=false:=decide_eq_false f0
           have f2:48≤(S[j].toNat:Int):=by omega
           have d2:decide (48≤(S[j].toNat:Int))=true:=decide_eq_true f2
           have f3: ¬((S[j].toNat:Int)≤57):=by omega
           have d3:decide ((S[j].toNat:Int)≤57)=false:=decide_eq_false f3
           have f4:78≤(S[j].toNat:Int):=by omega
           have d4:decide (78≤(S[j].toNat:Int))=true:=decide_eq_true f4
           have f5:(S[j].toNat:Int)≤90:=by omega
           have d5:decide ((S[j].toNat:Int)≤90)=true:=decide_eq_true f5
           clear hx hz hZs h1 h3 h4 h5 h6
           go_wp2_with (fail)
           go_meet
           exact ⟨rfl,rfl⟩
          ·have hz:sgnK x=false:=sgnK_not (by omega)
           obtain rfl:Z=true:=by rw [←hZs,hz];rfl
           have f0: ¬(110≤(S[j].toNat:Int)):=by omega
           have d0:decide (110≤(S[j].toNat:Int))=false:=decide_eq_false f0
           have f2:48≤(S[j].toNat:Int):=by omega
           have d2:decide (48≤(S[j].toNat:Int))=true:=decide_eq_true f2
           have f3: ¬((S[j].toNat:Int)≤57):=by omega
           have d3:decide ((S[j].toNat:Int)≤57)=false:=decide_eq_false f3
           have f4:78≤(S[j].toNat:Int):=by omega
           have d4:decide (78≤(S[j].toNat:Int))=true:=decide_eq_true f4
           have f5: ¬((S[j].toNat:Int)≤90):=by omega
           have d5:decide ((S[j].toNat:Int)≤90)=false:=decide_eq_false f5
           clear hx hz hZs h1 h3 h4 h5 h6
           go_wp2_with (fail)
           go_meet
           exact ⟨rfl,rfl⟩
         ·have hz:sgnK x=false:=sgnK_not (by omega)
          obtain rfl:Z=true:=by rw [←hZs,hz];rfl
          have f0: ¬(110≤(S[j].toNat:Int)):=by omega
          have d0:decide (110≤(S[j].toNat:Int))=false:=decide_eq_false f0
          have f2:48≤(S[j].toNat:Int):=by omega
          have d2:decide (48≤(S[j].toNat:Int))=true:=decide_eq_true f2
          have f3: ¬((S[j].toNat:Int)≤57):=by omega
          have d3:decide ((S[j].toNat:Int)≤57)=false:=decide_eq_false f3
          have f4: ¬(78≤(S[j].toNat:Int)):=by omega
          have d4:decide (78≤(S[j].toNat:Int))=false:=decide_eq_false f4
          clear hx hz hZs h1 h3 h4 h5
          go_wp2_with (fail)
          go_meet
          exact ⟨rfl,rfl⟩
       ·have hz:sgnK x=false:=sgnK_not (by omega)
        obtain rfl:Z=true:=by rw [←hZs,hz];rfl
        have f0: ¬(110≤(S[j].toNat:Int)):=by omega
        have d0:decide (110≤(S[j].toNat:Int))=false:=decide_eq_false f0
        have f2: ¬(48≤(S[j].toNat:Int)):=by omega
        have d2:decide (48≤(S[j].toNat:Int))=false:=decide_eq_false f2
        have f4: ¬(78≤(S[j].toNat:Int)):=by omega
        have d4:decide (78≤(S[j].toNat:Int))=false:=decide_eq_false f4
        clear hx hz hZs h1 h3
        go_wp2_with (fail)
        go_meet
        exact ⟨rfl,rfl⟩
     obtain ⟨rfl,rfl⟩:=hcut
     clear hZs
     cases Z with
     |true=>
      clear hx
      go_wp2_with (go_at_call 9;fail)
      refine (AW.out _ H1.out.1).mono ?_
      rintro e w7 ⟨rfl,T7⟩
      have H7:=Lib.hid (Ux.Touch.trans H1.out.1 T7 fun _ _ f=>f)
      clear T7
      go_wp2
      go_returns
      exact ⟨rfl,H7.out⟩
     |false=>
      have HZX:Hid (sgnK x=true):=Lib.hid (by simpa using HZS.out)
      clear hx
      go_wp2_with (fail)
      go_roundg gj
      case measure=>omega
      case rel=>
       refine ⟨j+1,by congr 1,by omega,Lib.hid ⟨fun b hb=> ?_,rfl⟩⟩
       obtain ⟨y,h1,h2⟩:=HX.out.1
       rw [List.take_add_one,h1] at hb
       rcases List.mem_append.1 hb with hb|hb
       ·exact HJ.out.1 b hb
       ·obtain rfl:b=y:=by simpa using hb
        rw [h2]
        exact HZX.out
    ·obtain rfl:j=nS:=by omega
     have j1: ¬(j:Int)<(S.size:Nat):=by have:=HNS.out;omega
     have j2: ¬j<S.size:=by have:=HNS.out;omega
     have hbk:byK S:=fun b hb=>HJ.out.1 b (by rwa [List.take_of_length_le (by rw [Array.length_toList];exact Nat.le_of_eq HNS.out)])
     have HBK:=Lib.hid hbk
     clear hbk hjn hjg HJ
     go_wp2_with (fail)
     go_roundg g'
     case measure=>omega
     case rel=>
      refine ⟨k+1,by congr 1,by omega,Lib.hid ⟨fun m hm=> ?_,rfl⟩⟩
      by_cases h:m<k
      ·exact HI.out.1 m h
      ·obtain rfl:m=k:=by omega
       rw [HS.out.1]
       exact HBK.out
  ·obtain rfl:k=2:=by omega
   have hka:byK a∧byK b:=⟨HI.out.1 0 (by omega),HI.out.1 1 (by omega)⟩
   have HK:=Lib.hid hka
   clear hka hk2 hkg HI
   go_wp2_with (fail)
   go_loopg [10] n (fun gk s10 wr=> ∃i:Nat,s10= .int .i64 i∧i+gk=n∧Hid ((∀x∈l.take i,ruleAM x∧x.seq.length+x.exp.length≤6)∧Ux.Touch (fun _=>False) w wr))
   case atStart=>exact ⟨0,rfl,by omega,Lib.hid ⟨fun x hx=>by simp at hx,H1.out.1⟩⟩
   case round=>
    obtain ⟨i,rfl,hig,HI⟩:=hrel
    have i0:(0:Int)≤i:=by omega
    by_cases hin:i<n
    ·obtain ⟨gi,rfl⟩: ∃g',gk=g'+1:=⟨gk-1,by omega⟩
     have i1:(i:Int)<n:=by omega
     obtain ⟨x,hx⟩: ∃x,l[i]? =some x:=⟨_,List.getElem?_eq_getElem (by have:=H0.out.2.2.1;omega)⟩
     obtain ⟨g,o,y1,y2,rfl,d0,d1,d2,⟨p1,_⟩,p2,_⟩:=H0.out.1 i x hx
     obtain ⟨b1,e1,rfl,hp1⟩:=p1
     obtain ⟨b2,e2,rfl,_⟩:=p2
     have hxb:=H0.out.2.1 x (List.mem_of_getElem? hx)
     obtain ⟨m1,hm1⟩: ∃q,x.seq.length=q:=⟨_,rfl⟩
     obtain ⟨m2,hm2⟩: ∃q,x.exp.length=q:=⟨_,rfl⟩
     obtain ⟨rl,hrl⟩: ∃r,x.rel=r:=⟨_,rfl⟩
     have b1m:=hxb.2.1.1
     have b2m:=hxb.2.2.1
     rw [hrl] at d0
     rw [hm1] at d1 b1m
     rw [hm2] at d2 b2m
     have d0:=HI.out.2.cell d0 (fun f=>f)
     have d1:=HI.out.2.cell d1 (fun f=>f)
     have d2:=HI.out.2.cell d2 (fun f=>f)
     have q1:(m1:Int)≤17592186044416:=by omega
     have q2:(m2:Int)≤17592186044416:=by omega
     have HX:=Lib.hid (And.intro hx (And.intro hm1 (And.intro hm2 (And.intro hrl hp1))))
     clear hx hm1 hm2 hxb b1m b2m hin hrl hp1
     obtain ⟨ZR,hZR⟩: ∃b,(rl !=1)=b:=⟨_,rfl⟩
     have HZR:=Lib.hid hZR
     go_wp2_with (fail)
     go_loopg [11] m1 (fun gk s11 w'=> ∃k:Nat,s11= .int .i64 k∧k+gk=m1∧Hid ((x.rel≠1→∀c∈x.seq.take k,97≤c∧c≤109)∧wr=w'))
     case atStart=>exact ⟨0,rfl,by omega,Lib.hid ⟨fun _ c hc=>by simp at hc,rfl⟩⟩
     case round=>
      obtain ⟨k,rfl,hkg,HK2⟩:=hrel
      obtain rfl:=HK2.out.2
      have kk0:(0:Int)≤k:=by omega
      by_cases hkm:k<m1
      ·obtain ⟨gj,rfl⟩: ∃g',gk=g'+1:=⟨gk-1,by omega⟩
       have kk1:(k:Int)<m1:=by omega
       obtain ⟨c,hc⟩: ∃c,x.seq[k]? =some c:=⟨_,List.getElem?_eq_getElem (by have:=HX.out.2.1;omega)⟩
       obtain ⟨g1,o1,rfl,ec⟩:=HX.out.2.2.2.2 k c hc
       have ec:=HI.out.2.cell ec (fun f=>f)
       have HC:=Lib.hid hc
       clear hc hkm
       obtain ⟨ZA,hZA⟩: ∃b,decide (c<97)=b:=⟨_,rfl⟩
       obtain ⟨ZB,hZB⟩: ∃b,decide (c>109)=b:=⟨_,rfl⟩
       have HZ:=Lib.hid (And.intro hZA hZB)
       go_upto_region 18 with (fail)
       go_cut [122] (fun s122 wx=>s122= .bool (ZR&&(ZA||ZB))∧wr=wx)
       case first=>
        cases ZR with
        |false=>
         clear hZA hZB
         go_wp2_with (fail)
         go_meet
         exact ⟨rfl,rfl⟩
        |true=>
         cases ZA with
         |true=>
          have f1:c<97:=of_decide_eq_true hZA
          clear hZB
          go_wp2_with (fail)
          go_meet
          exact ⟨rfl,rfl⟩
         |false=>
          have f1: ¬c<97:=of_decide_eq_false hZA
          cases ZB with
          |true=>
           have f2:c>109:=of_decide_eq_true hZB
           go_wp2_with (fail)
           go_meet
           exact ⟨rfl,rfl⟩
          |false=>
           have f2: ¬c>109:=of_decide_eq_false hZB
           go_wp2_with (fail)
           go_meet
           exact ⟨rfl,rfl⟩
       obtain ⟨rfl,rfl⟩:=hcut
       obtain ⟨BAD,hBAD⟩: ∃b,(ZR&&(ZA||ZB))=b:=⟨_,rfl⟩
       rw [hBAD]
       have HB:=Lib.hid hBAD
       clear hBAD hZA hZB ec
       cases BAD with
       |true=>
        go_wp2_with (go_at_call 9;fail)
        refine (AW.out _ HI.out.2).mono ?_
        rintro e w7 ⟨rfl,T7⟩
        have H7:=Lib.hid (Ux.Touch.trans HI.out.2 T7 fun _ _ f=>f)
        clear T7
        go_wp2
        go_returns
        exact ⟨rfl,H7.out⟩
       |false=>
        go_wp2_with (fail)
        go_roundg gj
        case measure=>omega
        case rel=>
         refine ⟨k+1,by congr 1,by omega,Lib.hid ⟨fun hne d hd=> ?_,rfl⟩⟩
         rw [List.take_add_one,HC.out] at hd
         rcases List.mem_append.1 hd with hd|hd
         ·exact HK2.out.1 hne d hd
         ·obtain rfl:d=c:=by simpa using hd
          have hZ:ZR=true:=by
           rw [←HZR.out]
           have:=HX.out.2.2.2.1
           simp
           omega
          have h:=HB.out
          rw [hZ,←HZ.out.1,←HZ.out.2] at h
          simp at h
          omega
      ·obtain rfl:k=m1:=by omega
       have kk1: ¬(k:Int)<k:=by omega
       have hAM:ruleAM x:=fun hne c hc=>HK2.out.1 hne c (by rwa [List.take_of_length_le (by have:=HX.out.2.1;omega)])
       have HAM:=Lib.hid hAM
       obtain ⟨Z6,hZ6⟩: ∃b,decide ((k:Int)+m2>6)=b:=⟨_,rfl⟩
       have HZ6:=Lib.hid hZ6
       clear hAM hkm hkg HK2
       cases Z6 with
       |true=>
        go_upto_region 20 with (fail)
        refine Ux.wpr (fun _ w'=>w'.cell? ⟨g,o+i*3+1,none⟩=some (.slice b1 k e1)∧w'.cell? ⟨g,o+i*3+2,none⟩=some (.slice b2 m2 e2)) (.q [0,1,2,3,6,7,8,9] (.h false [4,10] (.q [5,11,12,13] (.line [])))) ?_;repeat ((with_reducible refine Ux.qg ?_);refine Ux.qu ?_)
        go_wp2_with (go_at_call 9;fail)
        refine (AW.out _ HI.out.2.drew).mono ?_
        rintro e w7 ⟨rfl,T7⟩
        have H7:=Lib.hid (Ux.Touch.trans HI.out.2.drew T7 fun _ _ f=>f)
        clear T7
        go_wp2
        go_returns
        exact ⟨rfl,H7.out⟩
       |false=>
        go_upto_region 20 with (fail)
        refine Ux.wpr (fun _ w'=>w'.cell? ⟨g,o+i*3+1,none⟩=some (.slice b1 k e1)∧w'.cell? ⟨g,o+i*3+2,none⟩=some (.slice b2 m2 e2)) (.q [0,1,2,3,6,7,8,9] (.h false [4,10] (.q [5,11,12,13] (.line [])))) ?_;repeat ((with_reducible refine Ux.qg ?_);refine Ux.qu ?_)
        go_wp2_with (fail)
        go_roundg gi
        case measure=>omega
        case rel=>
         refine ⟨i+1,by congr 1,by omega,Lib.hid ⟨fun y hy=> ?_,HI.out.2.drew⟩⟩
         rw [List.take_add_one,HX.out.1] at hy
         rcases List.mem_append.1 hy with hy|hy
         ·exact HI.out.1 y hy
         ·obtain rfl:y=x:=by simpa using hy
          have z6:=of_decide_eq_false HZ6.out
          have h1:=HX.out.2.1
          have h2:=HX.out.2.2.1
          exact ⟨HAM.out,by omega⟩
    ·obtain rfl:i=n:=by omega
     have i1: ¬(i:Int)<i:=by omega
     have hall: ∀x∈l,ruleAM x∧x.seq.length+x.exp.length≤6:=fun x hx=>HI.out.1 x (by rwa [List.take_of_length_le (by have:=H0.out.2.2.1;omega)])
     have H2:=Lib.hid (And.intro hall HI.out.2)
     clear hall hin hig HI i0
     have okl:=okI_of H0.out.2.1 (fun x hx=>by have:=(H2.out.1 x hx).2;omega)
     have HOK:=Lib.hid okl
     clear okl
     go_wp2_with (go_at_call 10;fail)
     refine (rootT_ _).mono ?_
     rintro e w1 ⟨B,mb,rfl,hTA,_,T1⟩
     have H3:=Lib.hid (And.intro hTA (H2.out.2.trans T1 fun _ _ f=>f))
     clear hTA T1
     go_wp2_with (go_at_call 12;fail)
     refine (of6q_ l _ w1 (H0.out.2.2.2.1.touch H3.out.2) (by have:=HAB.out.2;have:=H0.out.2.2.1;omega) (fun x hx=>by have:=(H2.out.1 x hx).2;omega)).mono ?_
     rintro e w2 ⟨u,rfl,hu,T2⟩
     have HU:=Lib.hid (And.intro hu (And.intro T2 (H3.out.2.trans T2 fun _ _ f=>f)))
     clear hu T2
     obtain ⟨RS,hRS⟩: ∃r,applyQ (rootT 132) [] false l=r:=⟨_,rfl⟩
     have HAP:=Lib.hid (applyQ_ B mb rootE (rootT 132) l u w2 (H3.out.1.touch0 HU.out.2.1) Ux.same_root InvT.root HU.out.1 HOK.out (by have:=HAB.out.2;have:=H0.out.2.2.1;omega))
     rw [hRS] at HAP
     have HRS:=Lib.hid hRS
     clear hRS
     go_wp2_with (go_at_call 11;fail)
     refine HAP.out.mono ?_
     rintro e w3 ⟨hR,T3⟩
     have H4:=Lib.hid (HU.out.2.2.trans T3 fun _ _ f=>f)
     have HTA:=Lib.hid ((H3.out.1.touch0 HU.out.2.1).touch0 T3)
     clear T3
     obtain ⟨C,hC⟩: ∃c,RS.1=c:=⟨_,rfl⟩
     rcases hR with ⟨hne,rfl⟩|⟨hz,B',mb',E',rfl,hTA',hS'⟩
     ·rw [hC] at hne⊢
      have k9:((C:Int)==0)=false:=beq_false_of_ne (by omega)
      have q0:((C:Int) !=0)=true:=by show (!((C:Int)==0))=true;rw [k9];rfl
      clear hne hC
      go_wp2_with (go_at_call 9;fail)
      refine (AW.out _ H4.out).mono ?_
      rintro e w7 ⟨rfl,T7⟩
      have H7:=Lib.hid (Ux.Touch.trans H4.out T7 fun _ _ f=>f)
      clear T7
      go_wp2
      go_returns
      exact ⟨rfl,H7.out⟩
     ·rw [hC] at hz
      subst hz
      have hz0:(applyQ (rootT 132) [] false l).1=0:=by rw [HRS.out];exact hC
      have hinv:=applyQ_ok (b:=false) l InvT.root hz0
      have hkeep:=applyQ_keep (b:=false) l InvT.root KeepT.root (fun x hx=>(H2.out.1 x hx).1) hz0
      rw [HRS.out] at hinv hkeep
      obtain ⟨CV,hCV⟩: ∃f:Nat→Int,(fun q=>cmpL (sv (wF false q (elemsE (rootT 132) (signs a.data.toList)))) (sv (wF false q (elemsE (rootT 132) (signs b.data.toList)))))=f:=⟨_,rfl⟩
      have hsz: ∀s:ByteArray,byK s→s.size≤60→(∀c∈signs s.data.toList,c<1114368)∧(signs s.data.toList).length≤60:=fun s hs h=>by
       have h1:=signs_le s.data.toList
       have h2:s.data.toList.length=s.size:=by rw [Array.length_toList];rfl
       exact ⟨fun c hc=>by have:=sgnK_lt (byK_signs hs c hc);omega,by omega⟩
      have sza:a.size≤60:=by have:=HAB.out.1;have:=H0.out.2.2.2.2.1;omega
      have szb:b.size≤60:=by have:=HAB.out.1;have:=H0.out.2.2.2.2.2;omega
      have hcm: ∀(B2 mb2:Nat) (E2 T2:List Ent) (hk:KeepT T2) (hS2:SameE E2 T2) (W:World) (hTW:TableAt W B2 mb2 E2) (hTT:Ux.Touch (fun _=>False) w W) (q:Nat) (hq:q=1∨q=2∨q=3),Calls Tryz.prog 16 #[.pointer (some ⟨B2,0,none⟩),.string a,.string b,.int .i64 (q:Int)] W fun e w'=>e= .returned (.int .i64 (CV q))∧Ux.Touch (fun _=>False) W w':=by
       intro B2 mb2 E2 T2 hk hS2 W hTW hTT q hq
       have hc:=Ux.elemsE_congr (Ux.findE_perm hTW.1.1.1 hS2.1)
       have ea:=Ux.elems_ok hTW.1.1 (hsz a HK.out.1 sza).1
       have eb:=Ux.elems_ok hTW.1.1 (hsz b HK.out.2 szb).1
       have h:=cmp7_ B2 mb2 E2 a b q hq (q:Int) rfl _ _ W hTW (HT.out.touch hTT) (by omega) (by omega) rfl rfl ea.2 eb.2 (by have:=ea.1;have:=(hsz a HK.out.1 sza).2;omega) (by have:=eb.1;have:=(hsz b HK.out.2 szb).2;omega)
       rw [hc,hc,keep_cmp hk hq (byK_signs HK.out.1) (byK_signs HK.out.2)] at h
       rw [←hCV]
       exact h
      have HCM:=Lib.hid hcm
      have HP:=Lib.hid (And.intro hTA' (And.intro hS' hkeep))
      clear hC hinv hkeep hTA' hS' hz0 hsz sza szb hcm hCV
      go_wp2_with (fail)
      go_loopg [15] 3 (fun gk s15 wr=> ∃q:Nat,s15= .int .i64 q∧1≤q∧q+gk=4∧Hid (Ux.Touch (fun _=>False) w3 wr))
      case atStart=>exact ⟨1,rfl,Nat.le_refl _,rfl,Lib.hid (Ux.Touch.refl _ _)⟩
      case round=>
       obtain ⟨q,rfl,hq1,hqg,HI⟩:=hrel
       have q0:(1:Int)≤q:=by omega
       by_cases hq3:q≤3
       ·obtain ⟨g',rfl⟩: ∃g',gk=g'+1:=⟨gk-1,by omega⟩
        have q1:(q:Int)≤3:=by omega
        have hq:q=1∨q=2∨q=3:=by omega
        have HC1:=Lib.hid fun W (T:Ux.Touch (fun _=>False) wr W)=>HCM.out B mb rootE (rootT 132) KeepT.root Ux.same_root W ((HTA.out.touch0 HI.out).touch0 T) (H4.out.trans (HI.out.trans T fun _ _ f=>f) fun _ _ f=>f) q hq
        have HC2:=Lib.hid fun W (T:Ux.Touch (fun _=>False) wr W)=>HCM.out B' mb' E' RS.2 HP.out.2.2 HP.out.2.1 W ((HP.out.1.touch0 HI.out).touch0 T) (H4.out.trans (HI.out.trans T fun _ _ f=>f) fun _ _ f=>f) q hq
        obtain ⟨cv,hcv⟩: ∃v,CV q=v:=⟨_,rfl⟩
        rw [hcv] at HC1 HC2
        have qn:(cv !=cv)=false:=by simp
        clear hq hq3 hcv
        go_wp2_with (go_at_call 16;fail)
        refine (HC1.out wr (Ux.Touch.refl _ _)).mono ?_
        rintro e w5 ⟨rfl,T5⟩
        have H5:=Lib.hid T5
        clear T5
        go_wp2_with (go_at_call 16;fail)
        refine (HC2.out w5 H5.out).mono ?_
        rintro e w6 ⟨rfl,T6⟩
        have H6:=Lib.hid (HI.out.trans (H5.out.trans T6 fun _ _ f=>f) fun _ _ f=>f)
        clear T6
        go_wp2_with (fail)
        go_roundg g'
        case measure=>omega
        case rel=>exact ⟨q+1,by congr 1,by omega,by omega,H6⟩
       ·obtain rfl:q=4:=by omega
        have q1: ¬(((4:Nat):Int)≤3):=by omega
        have H7:=Lib.hid (H4.out.trans HI.out fun _ _ f=>f)
        clear hq3 hqg HI
        go_wp2_with (go_at_call 9;fail)
        refine (AW.out _ H7.out).mono ?_
        rintro e w7 ⟨rfl,T7⟩
        have H8:=Lib.hid (Ux.Touch.trans H7.out T7 fun _ _ f=>f)
        clear T7
        go_wp2
        go_returns
        exact ⟨rfl,H8.out⟩
theorem keepsLaw_ (v0:Value) (l:List (Int×List Int×List Int)) (a b:ByteArray) (w:World) (h0:Ux.RulesR w v0 l) (hT:Tabs w) (ha:a.size≤140737488355328) (hb:b.size≤140737488355328):
 Calls Tryz.prog 4 #[v0,.string a,.string b] w fun e w'=>e= .returned (.bool true)∧Ux.Touch (fun _=>False) w w':=by
 obtain ⟨a1,a2,a3⟩:=rulesV_of h0
 exact keepsLaw0_ v0 _ a b w a1 a2 a3 hT ha hb
end Go.Proofs.YtfccjaboicpohaaGreatDoor
