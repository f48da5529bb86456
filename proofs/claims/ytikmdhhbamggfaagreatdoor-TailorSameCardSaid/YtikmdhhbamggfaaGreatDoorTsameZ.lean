/- A part of the proof that the statement holds for every input that it names. No other condition. -/
import Derived.Test.YtikmdhhbamggfaaGreatDoorTsBZ
set_option linter.unusedVariables false
set_option linter.unusedSimpArgs false
namespace Go.Proofs.YtikmdhhbamggfaaGreatDoor
open Go.RowKit
open Ux (Ent SameE okT wghC elemsE eLetter newK raise slt)
open Ux.Sign (cp raw signs)
def letS (b:UInt8):Prop:=97≤b.toNat∧b.toNat≤122
theorem letS_data {s:ByteArray} {n:Nat} (hn:s.size=n) (h: ∀k b,k<n→s.data.toList[k]? =some b→letS b): ∀b∈s.data.toList,letS b:=fun b hb=>by
 obtain ⟨k,hk,e⟩:=List.getElem_of_mem hb
 exact h k b (by have e:s.data.toList.length=s.size:=rfl;omega) (by rw [List.getElem?_eq_getElem hk,e])
theorem same_text {i j:Nat} (hi:i<26) (hj:j<26) (p q X Y PX PXQ PY PYQ:ByteArray) (hp: ∀b∈p.data.toList,letS b) (hq: ∀b∈q.data.toList,letS b) (hX:lt1 i=X) (hY:lt1 j=Y) (h1:p++X=PX) (h2:PX++q=PXQ) (h3:p++Y=PY) (h4:PY++q=PYQ):elB (sameT i j) PXQ=elB (sameT i j) PYQ:=by
 have dX:X.data.toList.map UInt8.toNat= [97+i]:=by rw [←hX];show [(UInt8.ofNat (97+_)).toNat]=_;rw [lt1_nat hi]
 have dY:Y.data.toList.map UInt8.toNat= [97+j]:=by rw [←hY];show [(UInt8.ofNat (97+_)).toNat]=_;rw [lt1_nat hj]
 have d1:PXQ.data.toList.map UInt8.toNat=p.data.toList.map UInt8.toNat++(97+i)::q.data.toList.map UInt8.toNat:=by
  rw [←h2,←h1]
  simp only [ByteArray.data_append,Array.toList_append,List.map_append,dX]
  simp
 have d2:PYQ.data.toList.map UInt8.toNat=p.data.toList.map UInt8.toNat++(97+j)::q.data.toList.map UInt8.toNat:=by
  rw [←h4,←h3]
  simp only [ByteArray.data_append,Array.toList_append,List.map_append,dY]
  simp
 have hpl: ∀c∈p.data.toList.map UInt8.toNat,c<128:=fun c hc=>by
  obtain ⟨b,hb,rfl⟩:=List.mem_map.1 hc
  have:=hp b hb
  unfold letS at this
  omega
 have hql: ∀c∈q.data.toList.map UInt8.toNat,c<128:=fun c hc=>by
  obtain ⟨b,hb,rfl⟩:=List.mem_map.1 hc
  have:=hq b hb
  unfold letS at this
  omega
 rw [elB_of PXQ _ d1 (fun c hc=>by
  rcases List.mem_append.1 hc with h|h
  ·exact hpl c h
  ·rcases List.mem_cons.1 h with rfl|h
   ·omega
   ·exact hql c h),elB_of PYQ _ d2 (fun c hc=>by
  rcases List.mem_append.1 hc with h|h
  ·exact hpl c h
  ·rcases List.mem_cons.1 h with rfl|h
   ·omega
   ·exact hql c h)]
 exact same_elems hi hj _ _
set_option maxHeartbeats 16000000 in
set_option maxRecDepth 100000 in
theorem tsame_ (a b:Int) (p q:ByteArray) (w:World) (hT:Tabs w) (ha:0≤a∧a≤255) (hb:0≤b∧b≤255) (hp:p.size≤140737488355328) (hq:q.size≤140737488355328):
 Calls Tryz.prog 13 #[.int .u8 a,.int .u8 b,.string p,.string q] w fun e w'=>e= .returned (.bool true)∧Ux.Touch (fun _=>False) w w':=by
 have AW:=Lib.hid fun W (T:Ux.Touch (fun _=>False) w W)=>awake8_ W (hT.touch T)
 have HT:=Lib.hid hT
 obtain ⟨ma,i,rfl,hi,a1,a2⟩:=byte26 a ha
 obtain ⟨mb,j,rfl,hj,b1,b2⟩:=byte26 b hb
 have a0:(0:Int)≤ma:=by omega
 have b0:(0:Int)≤mb:=by omega
 have i0:(0:Int)≤i:=by omega
 have j0:(0:Int)≤j:=by omega
 have i1:(i:Int)<26:=by omega
 have j1:(j:Int)<26:=by omega
 have HI:=Lib.hid (And.intro hi hj)
 obtain ⟨n1,e1⟩: ∃n,p.size=n:=⟨_,rfl⟩
 obtain ⟨n2,e2⟩: ∃n,q.size=n:=⟨_,rfl⟩
 have g1:(n1:Int)≤140737488355328:=by omega
 have g2:(n2:Int)≤140737488355328:=by omega
 have HSZ:=Lib.hid (And.intro e1 e2)
 obtain ⟨B,hB⟩: ∃B,w.heap.size=B:=⟨_,rfl⟩
 obtain ⟨w1,hw1⟩: ∃w1,w.alloc (.cells #[.string p,.string q] 9)=w1:=⟨_,rfl⟩
 have T1:Ux.Touch (fun _=>False) w w1:=by rw [←hw1];exact (Ux.Touch.refl _ w).alloc _
 have hr1:w1.heap[B]? =some (.cells #[.string p,.string q] 9 (0,0)):=by rw [←hw1,←hB];exact heap_alloc_new w _
 have H1:=Lib.hid (And.intro T1 (show∀j s,[p,q][j]? =some s→w1.cell? ⟨B,j,none⟩=some (.string s) from fun j s hj=>by
  rw [cell_of_row w1 B j _ _ (0,0) hr1]
  match j,hj with
  |0,hj=>cases hj;rfl
  |1,hj=>cases hj;rfl
  |j+2,hj=>simp at hj))
 clear hT ha hb hi hj hp hq T1 hr1
 go_enter Tryz.func13,Tryz.ntmps13
 go_wp2
 go_loopg [20,10,11] 2 (fun g s20 s10 s11 wr=> ∃j:Nat,s20= .int .i64 j∧j+g=2∧w1=wr∧Hid (∀i s,i<j→[p,q][i]? =some s→∀b∈s.data.toList,letS b))
 case atStart=>exact ⟨0,rfl,rfl,rfl,Lib.hid fun i s h=>by omega⟩
 case round=>
  obtain ⟨l,rfl,hlg,rfl,HJ⟩:=hrel
  have p0:(0:Int)≤l:=by omega
  by_cases hl2:l<2
  ·obtain ⟨g',rfl⟩: ∃g',gk=g'+1:=⟨gk-1,by omega⟩
   have l1:(l:Int)<2:=by omega
   obtain ⟨t,ht⟩: ∃t,[p,q][l]? =some t:=⟨[p,q][l]'(by simp;omega),List.getElem?_eq_getElem _⟩
   have ct:=H1.out.2 l t ht
   obtain ⟨nt,hnt⟩: ∃n,t.size=n:=⟨_,rfl⟩
   have hnt2:(nt:Int)≤140737488355328:=by
    have hh:=HSZ.out
    match l,ht with
    |0,ht=>cases ht;omega
    |1,ht=>cases ht;omega
    |l+2,ht=>simp at ht
   have HTT:=Lib.hid (And.intro ht hnt)
   clear ht hl2
   go_wp2
   go_loopg [11] nt (fun g s11 wr=> ∃i:Nat,s11= .int .i64 i∧i+g=nt∧w1=wr∧Hid (∀k b,k<i→t.data.toList[k]? =some b→letS b))
   case atStart=>exact ⟨0,rfl,by omega,rfl,Lib.hid fun k b h=>by omega⟩
   case round=>
    obtain ⟨i,rfl,hig,rfl,HI⟩:=hrel
    have p1:(0:Int)≤i:=by omega
    by_cases hin:i<nt
    ·obtain ⟨g2',rfl⟩: ∃g',gk=g'+1:=⟨gk-1,by omega⟩
     have j2:(i:Int)<nt:=by omega
     have his:i<t.size:=by have:=HTT.out.2;omega
     obtain ⟨y,hy⟩: ∃y:UInt8,t[i]'his=y:=⟨_,rfl⟩
     have hyd:=Lib.data_getElem? t i his
     rw [hy] at hyd
     have HY:=Lib.hid hyd
     have hy256:=y.toNat_lt
     clear hyd hin
     have cs:(97≤y.toNat∧y.toNat≤122)∨(y.toNat<97)∨(97≤y.toNat∧122<y.toNat):=by omega
     rcases cs with cs|cs|cs
     ·have k1: ¬((y.toNat:Int)<97):=by omega
      have k2: ¬((y.toNat:Int)>122):=by omega
      have HC:=Lib.hid cs
      clear cs
      go_wp2
      go_roundg g2'
      case measure=>omega
      case rel=>
       refine ⟨i+1,rfl,by omega,rfl,Lib.hid fun k b hk hb=> ?_⟩
       by_cases h:k=i
       ·subst h
        rw [HY.out] at hb
        cases hb
        exact HC.out
       ·exact HI.out k b (by omega) hb
     ·have k1:((y.toNat:Int)<97):=by omega
      clear cs
      go_wp2_with (go_at_call 15;fail)
      refine (AW.out _ H1.out.1).mono ?_
      rintro e w7 ⟨rfl,T7⟩
      have H7:=Lib.hid (H1.out.1.trans T7 fun _ _ f=>f)
      clear T7
      go_wp2
      go_returns
      exact ⟨rfl,H7.out⟩
     ·have k1: ¬((y.toNat:Int)<97):=by omega
      have k2:((y.toNat:Int)>122):=by omega
      clear cs
      go_wp2_with (go_at_call 15;fail)
      refine (AW.out _ H1.out.1).mono ?_
      rintro e w7 ⟨rfl,T7⟩
      have H7:=Lib.hid (H1.out.1.trans T7 fun _ _ f=>f)
      clear T7
      go_wp2
      go_returns
      exact ⟨rfl,H7.out⟩
    ·obtain rfl:i=nt:=by omega
     have j2: ¬((i:Int)<i):=by omega
     clear hin
     go_wp2
     go_roundg g'
     case measure=>omega
     case rel=>
      refine ⟨l+1,rfl,by omega,rfl,Lib.hid fun k s hk hs=> ?_⟩
      by_cases h:k=l
      ·subst h
       have:=HTT.out.1
       rw [hs] at this
       cases this
       exact letS_data HTT.out.2 HI.out
      ·exact HJ.out k s (by omega) hs
  ·obtain rfl:l=2:=by omega
   have l1: ¬(((2:Nat):Int)<2):=by omega
   have hlp:=HJ.out 0 p (by decide) rfl
   have hlq:=HJ.out 1 q (by decide) rfl
   have HL:=Lib.hid (And.intro hlp hlq)
   clear hl2 hlp hlq
   by_cases hbig:60<n1+n2
   ·have t0:((n1:Int)+n2>60):=by omega
    clear hbig
    go_wp2_with (go_at_call 15;fail)
    refine (AW.out _ H1.out.1).mono ?_
    rintro e w7 ⟨rfl,T7⟩
    have H7:=Lib.hid (H1.out.1.trans T7 fun _ _ f=>f)
    clear T7
    go_wp2
    go_returns
    exact ⟨rfl,H7.out⟩
   have t0: ¬((n1:Int)+n2>60):=by omega
   have HBG:=Lib.hid hbig
   obtain ⟨X,hX⟩: ∃X,lt1 i=X:=⟨_,rfl⟩
   obtain ⟨Y,hY⟩: ∃X,lt1 j=X:=⟨_,rfl⟩
   have HX:=Lib.hid (And.intro hX hY)
   have HCV:=Lib.hid fun (W:World) (q k:Nat) (Z:ByteArray) (hZ:lt1 k=Z) (hk:k<26) (hb:W.heap[q]? =some (.cells #[.int .u8 (97+(k:Int))] 5 (0,0)))=>conv1 W q (97+k) Z (97+(k:Int)) (by omega) (by omega) hZ hb
   clear hX hY hbig
   go_upto_region 12 with (fail)
   go_cut [12,13] (fun s12 s13 wx=>s12= .string X∧s13= .string Y∧Ux.Touch (fun _=>False) w1 wx)
   case first=>
    obtain ⟨q,hq⟩: ∃q,w1.heap.size=q:=⟨_,rfl⟩
    have r1:(w1.alloc (.cells #[.int .u8 (97+(i:Int))] 5)).heap[q]? =some (.cells #[.int .u8 (97+(i:Int))] 5 (0,0)):=by rw [←hq];exact heap_alloc_new _ _
    have r2:(w1.alloc (.cells #[.int .u8 (97+(j:Int))] 5)).heap[q]? =some (.cells #[.int .u8 (97+(j:Int))] 5 (0,0)):=by rw [←hq];exact heap_alloc_new _ _
    have z1:(w1.alloc (.cells #[.int .u8 (97+(i:Int))] 5)).heap.size=q+1:=by rw [World.size_alloc,hq]
    have z2:(w1.alloc (.cells #[.int .u8 (97+(j:Int))] 5)).heap.size=q+1:=by rw [World.size_alloc,hq]
    have r3:((w1.alloc (.cells #[.int .u8 (97+(i:Int))] 5)).alloc (.cells #[.int .u8 (97+(j:Int))] 5)).heap[q+1]? =some (.cells #[.int .u8 (97+(j:Int))] 5 (0,0)):=by rw [←z1];exact heap_alloc_new _ _
    have r4:((w1.alloc (.cells #[.int .u8 (97+(j:Int))] 5)).alloc (.cells #[.int .u8 (97+(i:Int))] 5)).heap[q+1]? =some (.cells #[.int .u8 (97+(i:Int))] 5 (0,0)):=by rw [←z2];exact heap_alloc_new _ _
    have f1:=HCV.out (w1.alloc (.cells #[.int .u8 (97+(i:Int))] 5)).drew q i X HX.out.1 HI.out.1 r1
    have f2:=HCV.out ((w1.alloc (.cells #[.int .u8 (97+(i:Int))] 5)).alloc (.cells #[.int .u8 (97+(j:Int))] 5)).drew q i X HX.out.1 HI.out.1 (((Ux.Touch.refl (fun _=>False) _).alloc (.cells #[.int .u8 (97+(j:Int))] 5)).heap r1 (fun f=>f))
    have f3:=HCV.out ((w1.alloc (.cells #[.int .u8 (97+(j:Int))] 5)).alloc (.cells #[.int .u8 (97+(i:Int))] 5)).drew (q+1) i X HX.out.1 HI.out.1 r4
    have f4:=HCV.out (w1.alloc (.cells #[.int .u8 (97+(j:Int))] 5)).drew q j Y HX.out.2 HI.out.2 r2
    have f5:=HCV.out ((w1.alloc (.cells #[.int .u8 (97+(j:Int))] 5)).alloc (.cells #[.int .u8 (97+(i:Int))] 5)).drew q j Y HX.out.2 HI.out.2 (((Ux.Touch.refl (fun _=>False) _).alloc (.cells #[.int .u8 (97+(i:Int))] 5)).heap r2 (fun f=>f))
    have f6:=HCV.out ((w1.alloc (.cells #[.int .u8 (97+(i:Int))] 5)).alloc (.cells #[.int .u8 (97+(j:Int))] 5)).drew (q+1) j Y HX.out.2 HI.out.2 r3
    have hv0:=H1.out.2 0 p rfl
    have HV0:=Lib.hid fun W (T:Ux.Touch (fun _=>False) w1 W)=>T.cell hv0 (fun f=>f)
    clear r1 r2 r3 r4 z1 z2
    refine Ux.wpr (fun _ w'=>w'.cell? ⟨B,0,none⟩=some (.string p)) (.q [0,1,2,5,6,7] (.br 3 (.br 4 (.q [10] (.e 8 true true (.e 9 true true (.line [11])))) 8 (.br 4 (.q [10] (.e 9 true true (.line [11]))) 9 (.e 4 true true (.q [10] (.line [11]))))) 8 (.br 3 (.br 4 (.q [10] (.e 9 true true (.line [11]))) 9 (.e 4 true true (.q [10] (.line [11])))) 9 (.e 3 true true (.e 4 true true (.q [10] (.line [11]))))))) ?_;repeat ((with_reducible refine Ux.qg ?_);refine Ux.qu ?_)
    refine ⟨?_,?_⟩
    ·go_wp2_with (fail)
     first|refine ⟨⟨HV0.out _ Ux.tq,HV0.out _ Ux.tq⟩,?_⟩|refine ⟨HV0.out _ Ux.tq,?_⟩
     refine ⟨?_,?_⟩
     ·go_wp2_with (fail)
      first|refine ⟨⟨HV0.out _ Ux.tq,HV0.out _ Ux.tq⟩,?_⟩|refine ⟨HV0.out _ Ux.tq,?_⟩
      repeat ((with_reducible refine Ux.qg ?_);refine Ux.qu ?_)
      go_wp2_with (fail)
      first|refine ⟨⟨HV0.out _ Ux.tq,HV0.out _ Ux.tq⟩,?_⟩|refine ⟨HV0.out _ Ux.tq,?_⟩
      go_wp2_with (fail)
      first|refine ⟨⟨HV0.out _ Ux.tq,HV0.out _ Ux.tq⟩,?_⟩|refine ⟨HV0.out _ Ux.tq,?_⟩
      go_wp2_with (fail)
      go_meet
      exact ⟨rfl,rfl,by repeat (first|exact Ux.Touch.refl _ _|refine Ux.Touch.drew ?_|refine Ux.Touch.alloc ?_ _)⟩
     ·go_wp2_with (fail)
      first|refine ⟨⟨HV0.out _ Ux.tq,HV0.out _ Ux.tq⟩,?_⟩|refine ⟨HV0.out _ Ux.tq,?_⟩
      refine ⟨?_,?_⟩
      ·go_wp2_with (fail)
       first|refine ⟨⟨HV0.out _ Ux.tq,HV0.out _ Ux.tq⟩,?_⟩|refine ⟨HV0.out _ Ux.tq,?_⟩
       repeat ((with_reducible refine Ux.qg ?_);refine Ux.qu ?_)
       go_wp2_with (fail)
       first|refine ⟨⟨HV0.out _ Ux.tq,HV0.out _ Ux.tq⟩,?_⟩|refine ⟨HV0.out _ Ux.tq,?_⟩
       go_wp2_with (fail)
       go_meet
       exact ⟨rfl,rfl,by repeat (first|exact Ux.Touch.refl _ _|refine Ux.Touch.drew ?_|refine Ux.Touch.alloc ?_ _)⟩
      ·go_wp2_with (fail)
       first|refine ⟨⟨HV0.out _ Ux.tq,HV0.out _ Ux.tq⟩,?_⟩|refine ⟨HV0.out _ Ux.tq,?_⟩
       go_wp2_with (fail)
       first|refine ⟨⟨HV0.out _ Ux.tq,HV0.out _ Ux.tq⟩,?_⟩|refine ⟨HV0.out _ Ux.tq,?_⟩
       repeat ((with_reducible refine Ux.qg ?_);refine Ux.qu ?_)
       go_wp2_with (fail)
       go_meet
       exact ⟨rfl,rfl,by repeat (first|exact Ux.Touch.refl _ _|refine Ux.Touch.drew ?_|refine Ux.Touch.alloc ?_ _)⟩
    ·go_wp2_with (fail)
     first|refine ⟨⟨HV0.out _ Ux.tq,HV0.out _ Ux.tq⟩,?_⟩|refine ⟨HV0.out _ Ux.tq,?_⟩
     refine ⟨?_,?_⟩
     ·go_wp2_with (fail)
      first|refine ⟨⟨HV0.out _ Ux.tq,HV0.out _ Ux.tq⟩,?_⟩|refine ⟨HV0.out _ Ux.tq,?_⟩
      refine ⟨?_,?_⟩
      ·go_wp2_with (fail)
       first|refine ⟨⟨HV0.out _ Ux.tq,HV0.out _ Ux.tq⟩,?_⟩|refine ⟨HV0.out _ Ux.tq,?_⟩
       repeat ((with_reducible refine Ux.qg ?_);refine Ux.qu ?_)
       go_wp2_with (fail)
       first|refine ⟨⟨HV0.out _ Ux.tq,HV0.out _ Ux.tq⟩,?_⟩|refine ⟨HV0.out _ Ux.tq,?_⟩
       go_wp2_with (fail)
       go_meet
       exact ⟨rfl,rfl,by repeat (first|exact Ux.Touch.refl _ _|refine Ux.Touch.drew ?_|refine Ux.Touch.alloc ?_ _)⟩
      ·go_wp2_with (fail)
       first|refine ⟨⟨HV0.out _ Ux.tq,HV0.out _ Ux.tq⟩,?_⟩|refine ⟨HV0.out _ Ux.tq,?_⟩
       go_wp2_with (fail)
       first|refine ⟨⟨HV0.out _ Ux.tq,HV0.out _ Ux.tq⟩,?_⟩|refine ⟨HV0.out _ Ux.tq,?_⟩
       repeat ((with_reducible refine Ux.qg ?_);refine Ux.qu ?_)
       go_wp2_with (fail)
       go_meet
       exact ⟨rfl,rfl,by repeat (first|exact Ux.Touch.refl _ _|refine Ux.Touch.drew ?_|refine Ux.Touch.alloc ?_ _)⟩
     ·go_wp2_with (fail)
      first|refine ⟨⟨HV0.out _ Ux.tq,HV0.out _ Ux.tq⟩,?_⟩|refine ⟨HV0.out _ Ux.tq,?_⟩
      go_wp2_with (fail)
      first|refine ⟨⟨HV0.out _ Ux.tq,HV0.out _ Ux.tq⟩,?_⟩|refine ⟨HV0.out _ Ux.tq,?_⟩
      go_wp2_with (fail)
      first|refine ⟨⟨HV0.out _ Ux.tq,HV0.out _ Ux.tq⟩,?_⟩|refine ⟨HV0.out _ Ux.tq,?_⟩
      repeat ((with_reducible refine Ux.qg ?_);refine Ux.qu ?_)
      go_wp2_with (fail)
      go_meet
      exact ⟨rfl,rfl,by repeat (first|exact Ux.Touch.refl _ _|refine Ux.Touch.drew ?_|refine Ux.Touch.alloc ?_ _)⟩
   obtain ⟨rfl,rfl,T2⟩:=hcut
   obtain ⟨w3,hw3⟩: ∃W,wc=W:=⟨_,rfl⟩
   rw [hw3] at T2⊢
   have T3w:=H1.out.1.trans T2 fun _ _ f=>f
   obtain ⟨hi,hj⟩:=HI.out
   obtain ⟨hX,hY⟩:=HX.out
   have hn12:=HBG.out
   have zX:X.size=1:=by rw [←hX];rfl
   have zY:Y.size=1:=by rw [←hY];rfl
   obtain ⟨S1,hS1⟩: ∃S,(⟨#[38,32]⟩:ByteArray)++X=S:=⟨_,rfl⟩
   have zS1:S1.size=3:=by rw [←hS1,ByteArray.size_append,zX];rfl
   obtain ⟨S2,hS2⟩: ∃S,S1++(⟨#[32,61,32]⟩:ByteArray)=S:=⟨_,rfl⟩
   have zS2:S2.size=6:=by rw [←hS2,ByteArray.size_append,zS1];rfl
   obtain ⟨S3,hS3⟩: ∃S,S2++Y=S:=⟨_,rfl⟩
   have zS3:S3.size=7:=by rw [←hS3,ByteArray.size_append,zS2,zY]
   obtain ⟨PX,hPX⟩: ∃S,p++X=S:=⟨_,rfl⟩
   have zPX:PX.size=n1+1:=by rw [←hPX,ByteArray.size_append,e1,zX]
   obtain ⟨PXQ,hPXQ⟩: ∃S,PX++q=S:=⟨_,rfl⟩
   have zPXQ:PXQ.size=n1+1+n2:=by rw [←hPXQ,ByteArray.size_append,e2,zPX]
   obtain ⟨PY,hPY⟩: ∃S,p++Y=S:=⟨_,rfl⟩
   have zPY:PY.size=n1+1:=by rw [←hPY,ByteArray.size_append,e1,zY]
   obtain ⟨PYQ,hPYQ⟩: ∃S,PY++q=S:=⟨_,rfl⟩
   have zPYQ:PYQ.size=n1+1+n2:=by rw [←hPYQ,ByteArray.size_append,e2,zPY]
   have hc1: ¬((9223372036854775807:Int)<(n1:Int)+1):=by omega
   have hc2: ¬((9223372036854775807:Int)<((n1+1:Nat):Int)+n2):=by omega
   have hc3: ¬((9223372036854775807:Int)<(n1:Int)+1+n2):=by omega
   have hc4: ¬(9223372036854775807<n1+1):=by omega
   have hc5: ¬(9223372036854775807<n1+1+n2):=by omega
   have dX:X.data.toList.map UInt8.toNat= [97+i]:=by rw [←hX];show [(UInt8.ofNat (97+_)).toNat]=_;rw [lt1_nat hi]
   have dY:Y.data.toList.map UInt8.toNat= [97+j]:=by rw [←hY];show [(UInt8.ofNat (97+_)).toNat]=_;rw [lt1_nat hj]
   have dS:S3.data.toList.map UInt8.toNat= [38,32,97+i,32,61,32,97+j]:=by
    rw [←hS3,←hS2,←hS1]
    simp only [ByteArray.data_append,Array.toList_append,List.map_append,dX,dY]
    rfl
   have hrd:readT (signs S3.data.toList)=(0,sameT i j):=read_same hi hj _ (by
    rw [Ux.Sign.signs_ascii _ fun b hb=> ?_,dS]
    have hb':b.toNat∈S3.data.toList.map UInt8.toNat:=List.mem_map_of_mem hb
    rw [dS] at hb'
    simp at hb'
    omega)
   have HOW:=Lib.hid (own_ S3 (by omega) (sameT i j) hrd w3 (HT.out.touch T3w))
   have hst:=same_text hi hj p q X Y PX PXQ PY PYQ HL.out.1 HL.out.2 hX hY hPX hPXQ hPY hPYQ
   have eA:elB (sameT i j) ⟨#[65]⟩= [eLetter 0 8]:=by rw [elB_of ⟨#[65]⟩ [65] rfl (by decide)];exact (same_great hi hj).1
   have eB:elB (sameT i j) ⟨#[66]⟩= [eLetter 1 8]:=by rw [elB_of ⟨#[66]⟩ [66] rfl (by decide)];exact (same_great hi hj).2
   have f1:wghC false false (elB (sameT i j) PXQ) (elB (sameT i j) PYQ) 1 3=0:=by rw [hst];exact wgh_refl _ _ _
   have f2:wghC false false (elB (sameT i j) ⟨#[65]⟩) (elB (sameT i j) ⟨#[66]⟩) 1 3= -1:=by rw [eA,eB];exact great_AB
   have q1:(X.toList==Y.toList)=decide (i=j):=by rw [←hX,←hY];exact lt1_eq hi hj
   have HE:=Lib.hid (And.intro f1 (And.intro f2 (And.intro q1 (And.intro zPXQ zPYQ))))
   have H3:=Lib.hid T3w
   have HN:=Lib.hid hn12
   clear hw3 T2 T3w hi hj hX hY dX dY dS hrd hst eA eB f1 f2 q1 hn12 l1 hlg
   unfold cV at HOW
   go_wp2_with (go_at_call 59;fail)
   refine HOW.out.mono ?_
   rintro e w4 ⟨B4,mb',E,rfl,hTA,hSE,T4⟩
   obtain ⟨q5,hq⟩: ∃q,w4.heap.size=q:=⟨_,rfl⟩
   have r1:(w4.alloc (.cells #[.int .i64 3,.int .i64 3,.bool false,.bool false,.pointer (some ⟨B4,0,none⟩)] 25)).heap[q5]? =some (.cells #[.int .i64 3,.int .i64 3,.bool false,.bool false,.pointer (some ⟨B4,0,none⟩)] 25 (0,0)):=by rw [←hq];exact heap_alloc_new w4 _
   have t5:Ux.Touch (fun _=>False) w4 (w4.alloc (.cells #[.int .i64 3,.int .i64 3,.bool false,.bool false,.pointer (some ⟨B4,0,none⟩)] 25)):=(Ux.Touch.refl _ _).alloc _
   obtain ⟨W5,hW5⟩: ∃W,w4.alloc (.cells #[.int .i64 3,.int .i64 3,.bool false,.bool false,.pointer (some ⟨B4,0,none⟩)] 25)=W:=⟨_,rfl⟩
   rw [hW5] at r1 t5
   have HW5:=Lib.hid (And.intro hW5 hq)
   have TW5:=H3.out.trans (T4.trans t5 fun _ _ f=>f) fun _ _ f=>f
   have HCA:=Lib.hid fun W (T:Ux.Touch (fun _=>False) W5 W)=>(CAt.of r1).touch T
   have hel: ∀x,elB E x=elB (sameT i j) x:=fun x=>by
    unfold elB
    exact Ux.elemsE_congr (Ux.findE_perm hTA.1.1.1 hSE.1) _
   have HCC:Hid (∀(x y:ByteArray) (r:Int),x.size≤1000000→y.size≤1000000→wghC false false (elB (sameT i j) x) (elB (sameT i j) y) 1 3=r→∀W,Ux.Touch (fun _=>False) W5 W→Calls Tryz.prog 17 #[.agg #[.int .i64 3,.int .i64 3,.bool false,.bool false,.pointer (some ⟨B4,0,none⟩)],.string x,.string y] W fun e w'=>e= .returned (.int .i64 r)∧Ux.Touch (fun _=>False) W w'):=Lib.hid fun x y r hx hy hr W t=>by
    have h:=ccmp_ 3 3 false false (some ⟨B4,0,none⟩) E x y W (fun _ p hp=>by cases hp;exact ⟨B4,mb',rfl,(hTA.touch0 t5).touch0 t⟩) (HT.out.touch (TW5.trans t fun _ _ f=>f)) hx hy
    have hv:cmpC 3 3 false false (some ⟨B4,0,none⟩) E x y=r:=by
     unfold cmpC
     rw [show okC 3 3 (some (⟨B4,0,none⟩:Addr))=true from rfl,if_pos rfl,if_pos rfl,hel x,hel y]
     exact hr
    rw [hv] at h
    unfold cV at h
    exact h
   have H5:=Lib.hid TW5
   have HF1:=Lib.hid (HCC.out PXQ PYQ 0 (by have:=HE.out.2.2.2.1;have:=HN.out;omega) (by have:=HE.out.2.2.2.2;have:=HN.out;omega) HE.out.1)
   have HF2:=Lib.hid (HCC.out ⟨#[65]⟩ ⟨#[66]⟩ (-1) (by decide) (by decide) HE.out.2.1)
   obtain ⟨x0,x1,x2,x3,x4⟩:=HCA.out W5 (Ux.Touch.refl _ _)
   clear hTA T4 t5 r1 hW5 hq TW5 hel HCC hSE
   go_upto_region 14 with (fail)
   rw [HW5.out.1,HW5.out.2]
   go_wp2_with (go_at_call 17;fail)
   refine (HF1.out W5 (Ux.Touch.refl _ _)).mono ?_
   rintro e w6 ⟨rfl,T6⟩
   have H6:=Lib.hid T6
   clear T6 x0 x1 x2 x3 x4
   obtain ⟨x0,x1,x2,x3,x4⟩:=HCA.out w6 H6.out
   cases hq1:(X.toList==Y.toList) with
   |true=>
    have H8:=Lib.hid (H5.out.trans H6.out fun _ _ f=>f)
    clear x0 x1 x2 x3 x4
    go_wp2_with (go_at_call 15;fail)
    refine (AW.out w6 H8.out).mono ?_
    rintro e w9 ⟨rfl,T9⟩
    have H9:=Lib.hid (H8.out.trans T9 fun _ _ f=>f)
    clear T9
    go_wp2
    go_returns
    exact ⟨rfl,H9.out⟩
   |false=>
    go_wp2_with (go_at_call 17;fail)
    refine (HF2.out w6 H6.out).mono ?_
    rintro e w7 ⟨rfl,T7⟩
    have H8:=Lib.hid (H5.out.trans (H6.out.trans T7 fun _ _ f=>f) fun _ _ f=>f)
    clear T7 x0 x1 x2 x3 x4
    go_wp2_with (go_at_call 15;fail)
    refine (AW.out w7 H8.out).mono ?_
    rintro e w9 ⟨rfl,T9⟩
    have H9:=Lib.hid (H8.out.trans T9 fun _ _ f=>f)
    clear T9
    go_wp2
    go_returns
    exact ⟨rfl,H9.out⟩
theorem tsameLaw_ (a b:Int) (p q:ByteArray) (w:World) (hT:Tabs w) (hp:p.size≤140737488355328) (hq:q.size≤140737488355328) (ha:0≤a∧a≤255) (hb:0≤b∧b≤255):
 Calls Tryz.prog 13 #[.int .u8 a,.int .u8 b,.string p,.string q] w fun e w'=>e= .returned (.bool true)∧Ux.Touch (fun _=>False) w w':=tsame_ a b p q w hT ha hb hp hq
end Go.Proofs.YtikmdhhbamggfaaGreatDoor
