/- A part of the proof that the statement holds for every input that it names. No other condition. -/
import Derived.Test.YtclffhpdekepkaaGreatDoorPlcAZ
set_option linter.unusedVariables false
set_option linter.unusedSimpArgs false
namespace Go.Proofs.YtclffhpdekepkaaGreatDoor
open Go.RowKit
open Ux (Ent Row ev sv iv SameE okT elemsE rootE rootT eLetter newK raise wF wt8 cmpL)
open Ux.Sign (cp raw signs)
open Ux.Rules (Rul okRuls)
theorem lt1_signs {i:Nat} (hi:i<26):signs (lt1 i).data.toList= [97+i]:=by
 rw [Ux.Sign.signs_ascii _ fun b hb=> ?_,lt1_data]
 ·show [(UInt8.ofNat (97+i)).toNat]=_
  rw [lt1_nat hi]
 ·rw [lt1_data] at hb
  rw [List.mem_singleton.1 hb,lt1_nat hi]
  omega
theorem two_rules (W:World) (q1 q2 q3:Nat) (x y:Nat) (z:Int) (L:Nat) (hz:z=(1+L:Nat)) (t3:TypeId) (h1:W.heap[q1]? =some (.cells #[.int .i64 (x:Int)] 3 (0,0))) (h2:W.heap[q2]? =some (.cells #[.int .i64 (y:Int)] 3 (0,0)))
 (h3:W.heap[q3]? =some (.cells #[.int .i64 1,.slice (some ⟨q1,0,none⟩) 1 1,.slice none 0 0,.int .i64 z,.slice (some ⟨q2,0,none⟩) 1 1,.slice none 0 0] t3 (0,0))):
 RulesAt W 0 (.slice (some ⟨q3,0,none⟩) 2 2) [⟨1,[x],[]⟩,⟨1+L,[y],[]⟩]:=by
 subst hz
 have c: ∀k,W.cell? ⟨q3,k,none⟩=(#[.int .i64 1,.slice (some ⟨q1,0,none⟩) 1 1,.slice none 0 0,.int .i64 ((1+L:Nat):Int),.slice (some ⟨q2,0,none⟩) 1 1,.slice none 0 0]:Array Value)[k]? :=fun k=>by rw [cell_of_row W q3 k _ _ (0,0) h3]
 have r1:Row W 0 3 (.slice (some ⟨q1,0,none⟩) 1 1) (iv (sv [x])):= .inr ⟨q1,1,_,rfl,Nat.zero_le _,h1,Nat.le_refl _,Nat.le_refl _,rfl⟩
 have r2:Row W 0 3 (.slice (some ⟨q2,0,none⟩) 1 1) (iv (sv [y])):= .inr ⟨q2,1,_,rfl,Nat.zero_le _,h2,Nat.le_refl _,Nat.le_refl _,rfl⟩
 refine ⟨some ⟨q3,0,none⟩,2,rfl,fun i e he=> ?_⟩
 match i,he with
 |0,he=>
  cases he
  exact ⟨q3,_,_,rfl,c 0,c 1,c 2,r1,Row.nil _ _ _⟩
 |1,he=>
  cases he
  exact ⟨q3,_,_,rfl,c 3,c 4,c 5,r2,Row.nil _ _ _⟩
 |n+2,he=>cases he
def lv7 (k:Int):Nat:=(bits .and .i64 k 65535).toNat % 3+1
theorem and16p (a:Int): ∃m:Nat,bits .and .i64 a 65535=(m:Int)∧m<65536:=by
 have h:(BitVec.ofInt 64 a&&&BitVec.ofInt 64 65535).toNat<65536:=by
  rw [BitVec.toNat_and,show (BitVec.ofInt 64 65535).toNat=2^16-1 from rfl,Nat.and_two_pow_sub_one_eq_mod]
  exact Nat.mod_lt _ (by decide)
 refine ⟨(BitVec.ofInt 64 a&&&BitVec.ofInt 64 65535).toNat,?_,h⟩
 show IntKind.i64.wrap ((BitVec.ofInt 64 a&&&BitVec.ofInt 64 (65535:Int)).toNat:Nat)=_
 rw [IntKind.wrap_i64]
 omega
theorem lv7_val (x:Int):(bits .and .i64 x 65535).tmod 3+1=(lv7 x:Nat):=by
 obtain ⟨m,hm,_⟩:=and16p x
 unfold lv7
 rw [hm,Int.toNat_natCast,Int.tmod_eq_emod_of_nonneg (by omega)]
 omega
theorem lv7_le (k:Int):lv7 k=1∨lv7 k=2∨lv7 k=3:=by unfold lv7;omega
set_option maxHeartbeats 16000000 in
set_option maxRecDepth 100000 in
theorem placesLaw_ (a b c k:Int) (w:World) (hT:Tabs w) (ha:0≤a∧a≤255) (hb:0≤b∧b≤255) (hc:0≤c∧c≤255) (_hk: -9223372036854775808≤k∧k≤9223372036854775807):
 Calls Tryz.prog 6 #[.int .u8 a,.int .u8 b,.int .u8 c,.int .i64 k] w fun e w'=>e= .returned (.bool true)∧Ux.Touch (fun _=>False) w w':=by
 have AW:=Lib.hid fun W (T:Ux.Touch (fun _=>False) w W)=>awake7_ W (hT.touch T)
 have HT:=Lib.hid hT
 obtain ⟨ma,i,rfl,hi,a1,a2⟩:=byte26 a ha
 obtain ⟨mb,j,rfl,hj,b1,b2⟩:=byte26 b hb
 obtain ⟨mc,m,rfl,hm,c1,c2⟩:=byte26 c hc
 have a0:(0:Int)≤ma:=by omega
 have b0:(0:Int)≤mb:=by omega
 have c0:(0:Int)≤mc:=by omega
 have i0:(0:Int)≤i:=by omega
 have j0:(0:Int)≤j:=by omega
 have m0:(0:Int)≤m:=by omega
 have i1:(i:Int)<26:=by omega
 have j1:(j:Int)<26:=by omega
 have m1:(m:Int)<26:=by omega
 have HI:=Lib.hid (And.intro hi (And.intro hj hm))
 obtain ⟨X,hX⟩: ∃X,lt1 i=X:=⟨_,rfl⟩
 obtain ⟨Y,hY⟩: ∃X,lt1 j=X:=⟨_,rfl⟩
 obtain ⟨Z,hZ⟩: ∃X,lt1 m=X:=⟨_,rfl⟩
 have HX:=Lib.hid (And.intro hX (And.intro hY hZ))
 have HCV:=Lib.hid fun (W:World) (q k:Nat) (Z:ByteArray) (hZ:lt1 k=Z) (hk:k<26) (hb:W.heap[q]? =some (.cells #[.int .u8 (97+(k:Int))] 5 (0,0)))=>conv1 W q (97+k) Z (97+(k:Int)) (by omega) (by omega) hZ hb
 clear hT ha hb hc hi hj hm hX hY hZ
 go_enter Tryz.func6,Tryz.ntmps6
 go_upto_region 2 with (fail)
 go_cut [9] (fun s9 wx=>s9= .string X∧Ux.Touch (fun _=>False) w wx∧wx.cell? ⟨w.heap.size,0,none⟩=some (.int .u8 (97+(i:Int))))
 case first=>
  have f1:=HCV.out (w.alloc (.cells #[.int .u8 (97+(i:Int))] 5)) w.heap.size i X HX.out.1 HI.out.1 (heap_alloc_new w _)
  go_wp2_with (fail)
  go_meet
  exact ⟨rfl,(Ux.Touch.refl _ _).alloc _,by rw [cell_of_row _ w.heap.size 0 _ _ _ (heap_alloc_new w _)];rfl⟩
 obtain ⟨rfl,T1,hv0⟩:=hcut
 obtain ⟨w1,hw1⟩: ∃W,wc=W:=⟨_,rfl⟩
 rw [hw1] at T1 hv0⊢
 obtain ⟨qz,hqz⟩: ∃q,w.heap.size=q:=⟨_,rfl⟩
 rw [hqz] at hv0
 have H1:=Lib.hid T1
 have HV0:=Lib.hid fun W (T:Ux.Touch (fun _=>False) w1 W)=>T.cell hv0 (fun f=>f)
 clear hw1 T1 hqz hv0
 go_upto_region 3 with (fail)
 go_cut [10] (fun s9 wx=>s9= .string Y∧Ux.Touch (fun _=>False) w1 wx)
 case first=>
  have f1:=HCV.out (w1.alloc (.cells #[.int .u8 (97+(j:Int))] 5)) w1.heap.size j Y HX.out.2.1 HI.out.2.1 (heap_alloc_new w1 _)
  go_wp2_with (fail)
  go_meet
  exact ⟨rfl,(Ux.Touch.refl _ _).alloc _⟩
 obtain ⟨rfl,T2⟩:=hcut
 obtain ⟨w2,hw2⟩: ∃W,wc=W:=⟨_,rfl⟩
 rw [hw2] at T2⊢
 have H2:=Lib.hid T2
 clear hw2 T2
 go_upto_region 4 with (fail)
 go_cut [11] (fun s9 wx=>s9= .string Z∧Ux.Touch (fun _=>False) w2 wx)
 case first=>
  have f1:=HCV.out (w2.alloc (.cells #[.int .u8 (97+(m:Int))] 5)) w2.heap.size m Z HX.out.2.2 HI.out.2.2 (heap_alloc_new w2 _)
  go_wp2_with (fail)
  go_meet
  exact ⟨rfl,(Ux.Touch.refl _ _).alloc _⟩
 obtain ⟨rfl,T3⟩:=hcut
 obtain ⟨w3,hw3⟩: ∃W,wc=W:=⟨_,rfl⟩
 rw [hw3] at T3⊢
 have H3:=Lib.hid (And.intro (H1.out.trans (H2.out.trans T3 fun _ _ f=>f) fun _ _ f=>f) (H2.out.trans T3 fun _ _ f=>f))
 clear hw3 T3
 have q1:(X.toList==Y.toList)=decide (i=j):=by rw [←HX.out.1,←HX.out.2.1];exact lt1_eq HI.out.1 HI.out.2.1
 have q2:(Z.toList==X.toList)=decide (m=i):=by rw [←HX.out.1,←HX.out.2.2];exact lt1_eq HI.out.2.2 HI.out.1
 have q3:(Z.toList==Y.toList)=decide (m=j):=by rw [←HX.out.2.1,←HX.out.2.2];exact lt1_eq HI.out.2.2 HI.out.2.1
 have hsame:(i=j∨m=i∨m=j)∨(i≠j∧m≠i∧m≠j):=by omega
 rcases hsame with hs|⟨n1,n2,n3⟩
 ·go_upto_region 5 with (fail)
  go_cut [44] (fun s44 wx=>s44= .bool true∧w3=wx)
  case first=>
   by_cases h1:i=j
   ·rw [decide_eq_true h1] at q1
    clear hs h1 q2 q3
    go_wp2_with (fail)
    go_meet
    exact ⟨rfl,rfl⟩
   ·rw [decide_eq_false h1] at q1
    by_cases h2:m=i
    ·rw [decide_eq_true h2] at q2
     clear hs h1 h2 q3
     go_wp2_with (fail)
     go_meet
     exact ⟨rfl,rfl⟩
    ·have h3:m=j:=by omega
     rw [decide_eq_false h2] at q2
     rw [decide_eq_true h3] at q3
     clear hs h1 h2 h3
     go_wp2_with (fail)
     go_meet
     exact ⟨rfl,rfl⟩
  obtain ⟨rfl,hw⟩:=hcut
  subst hw
  clear hs q1 q2 q3
  go_wp2_with (go_at_call 12;fail)
  refine (AW.out _ H3.out.1).mono ?_
  rintro e w7 ⟨rfl,T7⟩
  have H7:=Lib.hid (H3.out.1.trans T7 fun _ _ f=>f)
  clear T7
  go_wp2
  go_returns
  exact ⟨rfl,H7.out⟩
 ·rw [decide_eq_false n1] at q1
  rw [decide_eq_false n2] at q2
  rw [decide_eq_false n3] at q3
  have HN:=Lib.hid (And.intro n1 (And.intro n2 n3))
  have hlv:=lv7_val k
  obtain ⟨L,hL⟩: ∃L,lv7 k=L:=⟨_,rfl⟩
  have hL3:=lv7_le k
  rw [hL] at hlv hL3
  have HL:=Lib.hid (And.intro hL3 hlv)
  have l0:(1:Int)≤L:=by omega
  have l1:(L:Int)≤3:=by omega
  clear n1 n2 n3 hL hL3
  go_wp2_with (go_at_call 13;fail)
  refine (rootT_ _).mono ?_
  rintro e w4 ⟨B,mb,rfl,hTA,_,T4⟩
  have H4:=Lib.hid (And.intro hTA (And.intro (H3.out.1.trans T4 fun _ _ f=>f) (H3.out.2.trans T4 fun _ _ f=>f)))
  clear hTA T4
  obtain ⟨xa,hxa⟩: ∃n,97+i=n:=⟨_,rfl⟩
  obtain ⟨xb,hxb⟩: ∃n,97+j=n:=⟨_,rfl⟩
  have zX:X.size=1:=by rw [←HX.out.1];rfl
  have zY:Y.size=1:=by rw [←HX.out.2.1];rfl
  have hiX:0<X.size:=by omega
  have hiY:0<Y.size:=by omega
  obtain ⟨bx,hbx⟩: ∃y:UInt8,X[0]'hiX=y:=⟨_,rfl⟩
  obtain ⟨by',hby⟩: ∃y:UInt8,Y[0]'hiY=y:=⟨_,rfl⟩
  have nx:bx.toNat=xa:=by
   have h:=Lib.data_getElem? X 0 hiX
   rw [hbx,←HX.out.1,lt1_data] at h
   cases h
   rw [lt1_nat HI.out.1,hxa]
  have ny:by'.toNat=xb:=by
   have h:=Lib.data_getElem? Y 0 hiY
   rw [hby,←HX.out.2.1,lt1_data] at h
   cases h
   rw [lt1_nat HI.out.2.1,hxb]
  have x0:(0:Int)≤xa:=by omega
  have x1:(xa:Int)≤255:=by have:=HI.out.1;omega
  have y0:(0:Int)≤xb:=by omega
  have y1:(xb:Int)≤255:=by have:=HI.out.2.1;omega
  have HXA:=Lib.hid (And.intro hxa hxb)
  clear hxa hxb
  have HV4:=Lib.hid fun W (T:Ux.Touch (fun _=>False) w4 W)=>HV0.out W (H4.out.2.2.trans T fun _ _ f=>f)
  have HOF:Hid (∀(u:Value) (W:World),RulesAt W 0 u [⟨1,[xa],[]⟩,⟨1+L,[xb],[]⟩]→Calls Tryz.prog 15 #[u] W fun e w'=> ∃u',e= .returned u'∧RulesAt w' 0 u' [⟨1,[xa],[]⟩,⟨1+L,[xb],[]⟩]∧Ux.Touch (fun _=>False) W w'):=Lib.hid fun u W h=>of6_ _ u W h (by simp) (fun x hx=>by
   rcases List.mem_cons.1 hx with rfl|hx
   ·exact ⟨by simp,by simp⟩
   ·rw [List.mem_singleton.1 hx]
    exact ⟨by simp,by simp⟩)
  have HAP:Hid (∀(u:Value) (W:World),Ux.Touch (fun _=>False) w4 W→RulesAt W 0 u [⟨1,[xa],[]⟩,⟨1+L,[xb],[]⟩]→Calls Tryz.prog 14 #[.pointer (some ⟨B,0,none⟩),u] W fun e w'=> ∃B2 mb2 E2,e= .returned (.tuple #[.pointer (some ⟨B2,0,none⟩),.int .i64 0])∧TableAt w' B2 mb2 E2∧SameE E2 (placeT i j L)∧Ux.Touch (fun _=>False) W w'):=Lib.hid fun u W T h=>by
   refine (apply_ B mb rootE (rootT 132) _ u W (H4.out.1.touch0 T) Ux.same_root InvT.root h ⟨fun x hx=> ?_,fun x hx=>by cases hx;rfl⟩ (by simp)).mono ?_
   ·have hcx:cp xa:= .inl (by have:=HI.out.1;have:=HXA.out.1;omega)
    have hcy:cp xb:= .inl (by have:=HI.out.2.1;have:=HXA.out.2;omega)
    have hl3:=HL.out.1
    have hq: ∀c,cp c→Ux.Rules.okQ (fun c=>cp c∨raw c) [c]:=fun c hc=>⟨by simp,fun d hd=>by rw [List.mem_singleton.1 hd];exact .inl hc⟩
    have hn:Ux.Rules.okQ (fun c=>cp c∨raw c) []:=⟨by simp,fun d hd=>by cases hd⟩
    rcases List.mem_cons.1 hx with rfl|hx
    ·exact ⟨⟨Nat.le_refl 1,show (1:Nat)≤5 by decide⟩,⟨by simp,hq _ hcx⟩,hn,fun _=>rfl⟩
    ·rw [List.mem_singleton.1 hx]
     exact ⟨⟨by show 1≤1+L;omega,by show 1+L≤5;omega⟩,⟨by simp,hq _ hcy⟩,hn,fun _=>rfl⟩
   ·rintro e w' ⟨h,T'⟩
    rw [←HXA.out.1,←HXA.out.2,apply_place HI.out.1 HI.out.2.1 HL.out.1] at h
    rcases h with ⟨h,_⟩|⟨_,B2,mb2,E2,rfl,h1,h2⟩
    ·exact absurd rfl h
    ·exact ⟨B2,mb2,E2,rfl,h1,h2,T'⟩
  go_upto_region 9 with (fail)
  have hvz:=HV4.out w4 (Ux.Touch.refl _ _)
  go_cut [14,15] (fun s14 s15 wx=> ∃B2 mb2 E2,s14= .pointer (some ⟨B2,0,none⟩)∧s15= .int .i64 0∧TableAt wx B2 mb2 E2∧SameE E2 (placeT i j L)∧Ux.Touch (fun _=>False) w4 wx)
  case first=>
   refine Ux.wpr (fun _ w'=>w'.cell? ⟨qz,0,none⟩=some (.int .u8 (97+(i:Int)))) (.q [0,1,2,3,6,7,8,9,10] (.br 4 (.q [5] (.e 11 true true (.q [12] (.e 13 false false (.e 14 false false (.e 15 false false (.q [16,17,18,19] (.line [20])))))))) 11 (.q [12] (.e 4 true true (.q [5] (.e 13 false false (.e 14 false false (.e 15 false false (.q [16,17,18,19] (.line [20])))))))))) ?_;repeat ((with_reducible refine Ux.qg ?_);refine Ux.qu ?_)
   refine ⟨?_,?_⟩
   ·skip
    obtain ⟨q1,hq⟩: ∃q,w4.heap.size=q:=⟨_,rfl⟩
    have r1:(w4.alloc (.cells #[.int .i64 (xa:Int)] 3)).drew.heap[q1]? =some (.cells #[.int .i64 (xa:Int)] 3 (0,0)):=by rw [←hq];exact heap_alloc_new _ _
    have t1:Ux.Touch (fun _=>False) w4 (w4.alloc (.cells #[.int .i64 (xa:Int)] 3)).drew:=((Ux.Touch.refl _ _).alloc _).drew
    obtain ⟨WA,hWA⟩: ∃W,(w4.alloc (.cells #[.int .i64 (xa:Int)] 3)).drew=W:=⟨_,rfl⟩
    rw [hWA] at r1 t1
    have HA:=Lib.hid (And.intro hWA hq)
    obtain ⟨q2,hq2⟩: ∃q,WA.heap.size=q:=⟨_,rfl⟩
    have r2:(WA.alloc (.cells #[.int .i64 (xb:Int)] 3)).heap[q2]? =some (.cells #[.int .i64 (xb:Int)] 3 (0,0)):=by rw [←hq2];exact heap_alloc_new _ _
    have t2:Ux.Touch (fun _=>False) WA (WA.alloc (.cells #[.int .i64 (xb:Int)] 3)):=(Ux.Touch.refl _ _).alloc _
    obtain ⟨WB,hWB⟩: ∃W,WA.alloc (.cells #[.int .i64 (xb:Int)] 3)=W:=⟨_,rfl⟩
    rw [hWB] at r2 t2
    have HB:=Lib.hid (And.intro hWB hq2)
    obtain ⟨q3,hq3⟩: ∃q,WB.heap.size=q:=⟨_,rfl⟩
    have r3:(WB.alloc (.cells #[.int .i64 1,.slice (some ⟨q1,0,none⟩) 1 1,.slice none 0 0,.int .i64 (1+(L:Int)),.slice (some ⟨q2,0,none⟩) 1 1,.slice none 0 0] 39)).heap[q3]? =some (.cells #[.int .i64 1,.slice (some ⟨q1,0,none⟩) 1 1,.slice none 0 0,.int .i64 (1+(L:Int)),.slice (some ⟨q2,0,none⟩) 1 1,.slice none 0 0] 39 (0,0)):=by rw [←hq3];exact heap_alloc_new _ _
    have t3:Ux.Touch (fun _=>False) WB (WB.alloc (.cells #[.int .i64 1,.slice (some ⟨q1,0,none⟩) 1 1,.slice none 0 0,.int .i64 (1+(L:Int)),.slice (some ⟨q2,0,none⟩) 1 1,.slice none 0 0] 39)):=(Ux.Touch.refl _ _).alloc _
    obtain ⟨WC,hWC⟩: ∃W,WB.alloc (.cells #[.int .i64 1,.slice (some ⟨q1,0,none⟩) 1 1,.slice none 0 0,.int .i64 (1+(L:Int)),.slice (some ⟨q2,0,none⟩) 1 1,.slice none 0 0] 39)=W:=⟨_,rfl⟩
    rw [hWC] at r3 t3
    have HC:=Lib.hid (And.intro hWC hq3)
    have hru:RulesAt WC 0 (.slice (some ⟨q3,0,none⟩) 2 2) [⟨1,[xa],[]⟩,⟨1+L,[xb],[]⟩]:=two_rules WC q1 q2 q3 xa xb (1+(L:Int)) L (by omega) _ (t3.heap (t2.heap r1 fun f=>f) fun f=>f) (t3.heap r2 fun f=>f) r3
    have HTC:=Lib.hid (And.intro t1 (And.intro (t1.trans (t2.trans t3 fun _ _ f=>f) fun _ _ f=>f) (And.intro (t1.trans t2 fun _ _ f=>f) hru)))
    clear hWA hq hWB hq2 hWC hq3 r1 r2 r3 t1 t2 t3 hru
    go_wp2_with (fail)
    rw [HA.out.1,HA.out.2]
    refine ⟨⟨HV4.out _ HTC.out.1,HV4.out _ HTC.out.1⟩,?_⟩
    repeat ((with_reducible refine Ux.qg ?_);refine Ux.qu ?_)
    go_wp2_with (fail)
    rw [HB.out.1,HB.out.2]
    refine ⟨⟨HV4.out _ HTC.out.2.2.1,HV4.out _ HTC.out.2.2.1⟩,?_⟩
    repeat ((with_reducible refine Ux.qg ?_);refine Ux.qu ?_)
    go_wp2_with (fail)
    rw [HC.out.1,HC.out.2]
    repeat ((with_reducible refine Ux.qg ?_);refine Ux.qu ?_)
    go_wp2_with (go_at_call 15;fail)
    refine (HOF.out _ _ HTC.out.2.2.2).mono ?_
    rintro e w5 ⟨u5,rfl,hu5,T5⟩
    have H5:=Lib.hid (And.intro hu5 (HTC.out.2.1.trans T5 fun _ _ f=>f))
    clear hu5 T5
    go_wp2_with (fail)
    repeat ((with_reducible refine Ux.qg ?_);refine Ux.qu ?_)
    go_wp2_with (go_at_call 14;fail)
    refine (HAP.out _ _ H5.out.2 H5.out.1).mono ?_
    rintro e w6 ⟨B2,mb2,E2,rfl,hTB,hSB,T6⟩
    have H6:=Lib.hid (And.intro hTB (And.intro hSB (H5.out.2.trans T6 fun _ _ f=>f)))
    clear hTB hSB T6
    go_wp2_with (fail)
    repeat ((with_reducible refine Ux.qg ?_);refine Ux.qu ?_)
    go_wp2_with (fail)
    go_meet
    exact ⟨B2,mb2,E2,rfl,rfl,H6.out.1,H6.out.2.1,H6.out.2.2⟩
   ·skip
    obtain ⟨q2,hq⟩: ∃q,w4.heap.size=q:=⟨_,rfl⟩
    have r2:(w4.alloc (.cells #[.int .i64 (xb:Int)] 3)).drew.heap[q2]? =some (.cells #[.int .i64 (xb:Int)] 3 (0,0)):=by rw [←hq];exact heap_alloc_new _ _
    have t1:Ux.Touch (fun _=>False) w4 (w4.alloc (.cells #[.int .i64 (xb:Int)] 3)).drew:=((Ux.Touch.refl _ _).alloc _).drew
    obtain ⟨WA,hWA⟩: ∃W,(w4.alloc (.cells #[.int .i64 (xb:Int)] 3)).drew=W:=⟨_,rfl⟩
    rw [hWA] at r2 t1
    have HA:=Lib.hid (And.intro hWA hq)
    obtain ⟨q1,hq2⟩: ∃q,WA.heap.size=q:=⟨_,rfl⟩
    have r1:(WA.alloc (.cells #[.int .i64 (xa:Int)] 3)).heap[q1]? =some (.cells #[.int .i64 (xa:Int)] 3 (0,0)):=by rw [←hq2];exact heap_alloc_new _ _
    have t2:Ux.Touch (fun _=>False) WA (WA.alloc (.cells #[.int .i64 (xa:Int)] 3)):=(Ux.Touch.refl _ _).alloc _
    obtain ⟨WB,hWB⟩: ∃W,WA.alloc (.cells #[.int .i64 (xa:Int)] 3)=W:=⟨_,rfl⟩
    rw [hWB] at r1 t2
    have HB:=Lib.hid (And.intro hWB hq2)
    obtain ⟨q3,hq3⟩: ∃q,WB.heap.size=q:=⟨_,rfl⟩
    have r3:(WB.alloc (.cells #[.int .i64 1,.slice (some ⟨q1,0,none⟩) 1 1,.slice none 0 0,.int .i64 (1+(L:Int)),.slice (some ⟨q2,0,none⟩) 1 1,.slice none 0 0] 39)).heap[q3]? =some (.cells #[.int .i64 1,.slice (some ⟨q1,0,none⟩) 1 1,.slice none 0 0,.int .i64 (1+(L:Int)),.slice (some ⟨q2,0,none⟩) 1 1,.slice none 0 0] 39 (0,0)):=by rw [←hq3];exact heap_alloc_new _ _
    have t3:Ux.Touch (fun _=>False) WB (WB.alloc (.cells #[.int .i64 1,.slice (some ⟨q1,0,none⟩) 1 1,.slice none 0 0,.int .i64 (1+(L:Int)),.slice (some ⟨q2,0,none⟩) 1 1,.slice none 0 0] 39)):=(Ux.Touch.refl _ _).alloc _
    obtain ⟨WC,hWC⟩: ∃W,WB.alloc (.cells #[.int .i64 1,.slice (some ⟨q1,0,none⟩) 1 1,.slice none 0 0,.int .i64 (1+(L:Int)),.slice (some ⟨q2,0,none⟩) 1 1,.slice none 0 0] 39)=W:=⟨_,rfl⟩
    rw [hWC] at r3 t3
    have HC:=Lib.hid (And.intro hWC hq3)
    have hru:RulesAt WC 0 (.slice (some ⟨q3,0,none⟩) 2 2) [⟨1,[xa],[]⟩,⟨1+L,[xb],[]⟩]:=two_rules WC q1 q2 q3 xa xb (1+(L:Int)) L (by omega) _ (t3.heap r1 fun f=>f) (t3.heap (t2.heap r2 fun f=>f) fun f=>f) r3
    have HTC:=Lib.hid (And.intro t1 (And.intro (t1.trans (t2.trans t3 fun _ _ f=>f) fun _ _ f=>f) (And.intro (t1.trans t2 fun _ _ f=>f) hru)))
    clear hWA hq hWB hq2 hWC hq3 r1 r2 r3 t1 t2 t3 hru
    go_wp2_with (fail)
    rw [HA.out.1,HA.out.2]
    refine ⟨⟨HV4.out _ HTC.out.1,HV4.out _ HTC.out.1⟩,?_⟩
    repeat ((with_reducible refine Ux.qg ?_);refine Ux.qu ?_)
    go_wp2_with (fail)
    rw [HB.out.1,HB.out.2]
    refine ⟨⟨HV4.out _ HTC.out.2.2.1,HV4.out _ HTC.out.2.2.1⟩,?_⟩
    repeat ((with_reducible refine Ux.qg ?_);refine Ux.qu ?_)
    go_wp2_with (fail)
    rw [HC.out.1,HC.out.2]
    repeat ((with_reducible refine Ux.qg ?_);refine Ux.qu ?_)
    go_wp2_with (go_at_call 15;fail)
    refine (HOF.out _ _ HTC.out.2.2.2).mono ?_
    rintro e w5 ⟨u5,rfl,hu5,T5⟩
    have H5:=Lib.hid (And.intro hu5 (HTC.out.2.1.trans T5 fun _ _ f=>f))
    clear hu5 T5
    go_wp2_with (fail)
    repeat ((with_reducible refine Ux.qg ?_);refine Ux.qu ?_)
    go_wp2_with (go_at_call 14;fail)
    refine (HAP.out _ _ H5.out.2 H5.out.1).mono ?_
    rintro e w6 ⟨B2,mb2,E2,rfl,hTB,hSB,T6⟩
    have H6:=Lib.hid (And.intro hTB (And.intro hSB (H5.out.2.trans T6 fun _ _ f=>f)))
    clear hTB hSB T6
    go_wp2_with (fail)
    repeat ((with_reducible refine Ux.qg ?_);refine Ux.qu ?_)
    go_wp2_with (fail)
    go_meet
    exact ⟨B2,mb2,E2,rfl,rfl,H6.out.1,H6.out.2.1,H6.out.2.2⟩
  obtain ⟨B2,mb2,E2,rfl,rfl,hTB,hSB,T5⟩:=hcut
  obtain ⟨w5,hw5⟩: ∃W,wc=W:=⟨_,rfl⟩
  rw [hw5] at hTB T5⊢
  clear hw5 hvz
  have hel2: ∀s,elemsE E2 s=elemsE (placeT i j L) s:=fun s=>Ux.elemsE_congr (Ux.findE_perm hTB.1.1.1 hSB.1) _
  have hel1: ∀s,elemsE rootE s=elemsE (rootT 132) s:=fun s=>Ux.elemsE_congr (Ux.findE_perm Ux.rootE_nodup Ux.rootT_perm) _
  obtain ⟨gi,gj,gm⟩:=HI.out
  obtain ⟨gX,gY,gZ⟩:=HX.out
  obtain ⟨n1,n2,n3⟩:=HN.out
  have sX:signs X.data.toList= [97+i]:=by rw [←gX];exact lt1_signs gi
  have sY:signs Y.data.toList= [97+j]:=by rw [←gY];exact lt1_signs gj
  have sZ:signs Z.data.toList= [97+m]:=by rw [←gZ];exact lt1_signs gm
  have zZ:Z.size=1:=by rw [←gZ];rfl
  have eX:elemsE E2 (signs X.data.toList)= [raise L (wt8 L (eLetter i 2)) (eLetter i 2)]:=by rw [sX,hel2];exact placeT_let gi gj HL.out.1 gi n1
  have eY:elemsE E2 (signs Y.data.toList)= [newK L (eLetter i 2)]:=by rw [sY,hel2];exact placeT_at gi gj HL.out.1
  have eZ:elemsE E2 (signs Z.data.toList)= [raise L (wt8 L (eLetter i 2)) (eLetter m 2)]:=by rw [sZ,hel2];exact placeT_let gi gj HL.out.1 gm n3
  have fX:elemsE rootE (signs X.data.toList)= [eLetter i 2]:=by rw [sX,hel1];exact elT_let gi
  have fZ:elemsE rootE (signs Z.data.toList)= [eLetter m 2]:=by rw [sZ,hel1];exact elT_let gm
  have hl4:=lev3 HL.out.1
  have hL0:L≠0:=by omega
  have k1:=(place_lt L hl4 i gi m gm).1
  have k2:=(place_lt L hl4 i gi i gi).1
  have k3:=(place_lt L hl4 i gi m gm).2
  have one: ∀x:Nat,x<4294967296→∀y∈[x],y<4294967296:=fun x hx y hy=>by rw [List.mem_singleton.1 hy];exact hx
  have HC1:=Lib.hid fun (q:Nat) (h1:1≤q) (h2:q≤L) W (T:Ux.Touch (fun _=>False) w5 W)=>cmp7_ B2 mb2 E2 X Y q (by omega) (q:Int) rfl _ _ W (hTB.touch0 T) (HT.out.touch (H4.out.2.1.trans (T5.trans T fun _ _ f=>f) fun _ _ f=>f)) (by omega) (by omega) eX eY (one _ k2) (one _ k3) (by simp) (by simp)
  have hab: ∀q,1≤q→q≤L→cmpL (sv (wF false q [raise L (wt8 L (eLetter i 2)) (eLetter i 2)])) (sv (wF false q [newK L (eLetter i 2)]))=if q<L then 0 else-1:=fun q h1 h2=>by
   rcases place_ab L hl4 i gi q (by omega) with h|h|h|h
   ·exact absurd h hL0
   ·omega
   ·omega
   ·exact h
  have HC2:=Lib.hid fun W (T:Ux.Touch (fun _=>False) w5 W)=>cmp7_ B2 mb2 E2 Z X 1 (.inl rfl) 1 rfl _ _ W (hTB.touch0 T) (HT.out.touch (H4.out.2.1.trans (T5.trans T fun _ _ f=>f) fun _ _ f=>f)) (by omega) (by omega) eZ eX (one _ k1) (one _ k2) (by simp) (by simp)
  have HC3:=Lib.hid fun W (T:Ux.Touch (fun _=>False) w5 W)=>cmp7_ B mb rootE Z X 1 (.inl rfl) 1 rfl _ _ W (H4.out.1.touch0 (T5.trans T fun _ _ f=>f)) (HT.out.touch (H4.out.2.1.trans (T5.trans T fun _ _ f=>f) fun _ _ f=>f)) (by omega) (by omega) fZ fX (one _ (letter_lt m gm)) (one _ (letter_lt i gi)) (by simp) (by simp)
  have HC4:=Lib.hid fun W (T:Ux.Touch (fun _=>False) w5 W)=>cmp7_ B2 mb2 E2 Z Y 1 (.inl rfl) 1 rfl _ _ W (hTB.touch0 T) (HT.out.touch (H4.out.2.1.trans (T5.trans T fun _ _ f=>f) fun _ _ f=>f)) (by omega) (by omega) eZ eY (one _ k1) (one _ k3) (by simp) (by simp)
  have hca:cmp1 1 (raise L (wt8 L (eLetter i 2)) (eLetter m 2)) (raise L (wt8 L (eLetter i 2)) (eLetter i 2))=cmp1 1 (eLetter m 2) (eLetter i 2)∧decide (cmp1 1 (eLetter m 2) (eLetter i 2)<0)=decide (cmp1 1 (raise L (wt8 L (eLetter i 2)) (eLetter m 2)) (newK L (eLetter i 2))<0):=by
   rcases place_ca L hl4 i gi m gm with h|h|h
   ·exact absurd h hL0
   ·exact absurd h n2
   ·exact h
  obtain ⟨hv,hvu⟩:=hca
  obtain ⟨V,hV⟩: ∃V,cmp1 1 (eLetter m 2) (eLetter i 2)=V:=⟨_,rfl⟩
  obtain ⟨U,hU⟩: ∃U,cmp1 1 (raise L (wt8 L (eLetter i 2)) (eLetter m 2)) (newK L (eLetter i 2))=U:=⟨_,rfl⟩
  rw [hV] at hv hvu
  rw [hU] at hvu
  unfold cmp1 at hv hV hU
  rw [hv] at HC2
  rw [hV] at HC3
  rw [hU] at HC4
  have HAB:=Lib.hid hab
  have H5:=Lib.hid (H4.out.2.1.trans T5 fun _ _ f=>f)
  have HVU:=Lib.hid hvu
  clear hab hvu hv hV hU hTB hSB T5 hel1 hel2 gi gj gm gX gY gZ n1 n2 n3 sX sY sZ zZ zX zY hiX hiY hbx hby nx ny eX eY eZ fX fZ hl4 hL0 k1 k2 k3 one q1 q2 q3 hlv
  go_wp2_with (fail)
  go_loopg [16] L (fun gk s16 wr=> ∃q:Nat,s16= .int .i64 q∧1≤q∧q+gk=L+1∧q≤L∧Hid (Ux.Touch (fun _=>False) w5 wr))
  case atStart=>exact ⟨1,rfl,by omega,by omega,by omega,Lib.hid (Ux.Touch.refl _ _)⟩
  case round=>
   obtain ⟨q,rfl,hq1,hqg,hqL,HR⟩:=hrel
   have q0:(0:Int)≤q:=by omega
   by_cases hlt:q<L
   ·obtain ⟨g',rfl⟩: ∃g',gk=g'+1:=⟨gk-1,by omega⟩
    have p1:(q:Int)<L:=by omega
    have hcm:=HC1.out q hq1 hqL wr HR.out
    rw [HAB.out q hq1 hqL,if_pos hlt] at hcm
    have HCM:=Lib.hid hcm
    clear hcm
    go_wp2_with (go_at_call 10;fail)
    refine HCM.out.mono ?_
    rintro e w6 ⟨rfl,T6⟩
    have H6:=Lib.hid (HR.out.trans T6 fun _ _ f=>f)
    clear T6
    go_wp2
    go_roundg g'
    case measure=>omega
    case rel=>exact ⟨q+1,by congr 1,by omega,by omega,by omega,Lib.hid H6.out⟩
   ·obtain rfl:q=L:=by omega
    have p1: ¬(q:Int)<q:=by omega
    have hcm:=HC1.out q hq1 hqL wr HR.out
    rw [HAB.out q hq1 hqL,if_neg hlt] at hcm
    have HCM:=Lib.hid hcm
    clear hcm hlt
    go_wp2_with (go_at_call 10;fail)
    refine HCM.out.mono ?_
    rintro e w6 ⟨rfl,T6⟩
    have H6:=Lib.hid (HR.out.trans T6 fun _ _ f=>f)
    clear T6
    go_wp2_with (go_at_call 10;fail)
    refine (HC2.out w6 H6.out).mono ?_
    rintro e w7 ⟨rfl,T7⟩
    have H7:=Lib.hid (H6.out.trans T7 fun _ _ f=>f)
    clear T7
    go_wp2_with (go_at_call 10;fail)
    refine (HC3.out w7 H7.out).mono ?_
    rintro e w8 ⟨rfl,T8⟩
    have H8:=Lib.hid (H7.out.trans T8 fun _ _ f=>f)
    clear T8
    have hvv:(V==V)=true:=by simp
    go_wp2_with (go_at_call 10;fail)
    refine (HC3.out w8 H8.out).mono ?_
    rintro e w9 ⟨rfl,T9⟩
    have H9:=Lib.hid (H8.out.trans T9 fun _ _ f=>f)
    clear T9
    go_wp2_with (go_at_call 10;fail)
    refine (HC4.out w9 H9.out).mono ?_
    rintro e w10 ⟨rfl,T10⟩
    have H10:=Lib.hid (H9.out.trans T10 fun _ _ f=>f)
    clear T10
    have hvu:=HVU.out
    have hb:(decide (V<0)==decide (U<0))=true:=by rw [hvu];simp
    clear hvu
    go_wp2_with (go_at_call 12;fail)
    refine (AW.out w10 (H5.out.trans H10.out fun _ _ f=>f)).mono ?_
    rintro e w11 ⟨rfl,T11⟩
    have H11:=Lib.hid (H5.out.trans (H10.out.trans T11 fun _ _ f=>f) fun _ _ f=>f)
    clear T11
    go_wp2
    go_returns
    exact ⟨rfl,H11.out⟩
end Go.Proofs.YtclffhpdekepkaaGreatDoor
