/- A part of the proof that the statement holds for every input that it names. No other condition. -/
import Derived.Test.YtikmdhhbamggfaaGreatDoorTailBZ
import Derived.Test.YtikmdhhbamggfaaGreatDoorUxCollAX2Z
import Derived.Test.YtikmdhhbamggfaaGreatDoorReadAX2Z
import Derived.Test.YtikmdhhbamggfaaGreatDoorReadBX2Z
import Derived.Test.YtikmdhhbamggfaaGreatDoorTsAX2Z
set_option linter.unusedVariables false
set_option linter.unusedSimpArgs false
namespace Go.Proofs.YtikmdhhbamggfaaGreatDoor
open Go.RowKit
open Ux (Ent rootT SameE okT)
set_option maxHeartbeats 8000000 in
set_option maxRecDepth 100000 in
theorem own_ (s:ByteArray) (hs:s.size≤1000000) (T:List Ent) (hr:readT (Ux.Sign.signs s.data.toList)=(0,T)) (w:World) (hT:Tabs w):
 Calls Tryz.prog 59 #[.string s,.int .i64 3] w fun e w'=> ∃B mb E,e= .returned (.tuple #[cV 3 3 false false (some ⟨B,0,none⟩),.bool true])∧TableAt w' B mb E∧SameE E T∧Ux.Touch (fun _=>False) w w':=by
 have hR: ∀W,Tabs W→Calls Tryz.prog 42 #[.string s] W fun e w'=>(∃B mb E,e= .returned (.tuple #[.pointer (some ⟨B,0,none⟩),.int .i64 0,.int .i64 0])∧TableAt w' B mb E∧SameE E T)∧Ux.Touch (fun _=>False) W w':=fun W hW=>(readR_ s W hs hW).mono fun e w' ⟨h,t⟩=>⟨by
  unfold ReadR at h
  unfold readT at hr
  obtain ⟨⟨rs,o⟩,hp⟩: ∃p,Ux.Rules.parseS (Ux.Sign.signs s.data.toList)=p:=⟨_,rfl⟩
  rw [hp] at hr
  simp only [hp] at h
  cases o with
  |some r=>cases hr
  |none=>
   dsimp only at hr h
   by_cases h40:40<rs.length
   ·rw [if_pos h40] at hr;cases hr
   ·rw [if_neg h40] at hr
    rw [if_neg h40,hr] at h
    rcases h with ⟨h1,_⟩|⟨_,h2⟩
    ·exact absurd rfl h1
    ·exact h2,t⟩
 obtain ⟨q,hq⟩: ∃q,w.heap.size=q:=⟨_,rfl⟩
 have hb1:(w.alloc (.cells #[.int .i64 0,.int .i64 0,.bool false,.bool false,.pointer none] 25)).heap[q]? =some (.cells #[.int .i64 0,.int .i64 0,.bool false,.bool false,.pointer none] 25 (0,0)):=by rw [←hq];exact heap_alloc_new w _
 have T1:Ux.Touch (fun _=>False) w (w.alloc (.cells #[.int .i64 0,.int .i64 0,.bool false,.bool false,.pointer none] 25)):=(Ux.Touch.refl _ _).alloc _
 obtain ⟨W1,hW1⟩: ∃W,w.alloc (.cells #[.int .i64 0,.int .i64 0,.bool false,.bool false,.pointer none] 25)=W:=⟨_,rfl⟩
 rw [hW1] at hb1 T1
 have HP:=Lib.hid (hR W1 (hT.touch T1))
 have H1:=Lib.hid (And.intro T1 (And.intro hb1 (And.intro hW1 hq)))
 clear hR hb1 T1 hW1 hq hT
 go_enter Tryz.func59,Tryz.ntmps59
 go_wp2_with (go_at_call 42;fail)
 rw [H1.out.2.2.1,H1.out.2.2.2]
 refine HP.out.mono ?_
 rintro e w2 ⟨⟨B,mb,E,rfl,hTA,hS⟩,T2⟩
 have hrow:=T2.heap H1.out.2.1 (fun f=>f)
 have T3:=set5_touch w2 q (.int .i64 3) (.int .i64 3) (.bool false) (.bool false) (.pointer (some ⟨B,0,none⟩))
 have hr3:=set5_row hrow (.int .i64 3) (.int .i64 3) (.bool false) (.bool false) (.pointer (some ⟨B,0,none⟩))
 obtain ⟨W3,hW3⟩: ∃W,set5 w2 q (.int .i64 3) (.int .i64 3) (.bool false) (.bool false) (.pointer (some ⟨B,0,none⟩))=W:=⟨_,rfl⟩
 rw [hW3] at T3 hr3
 unfold set5 at hW3
 have H3:=Lib.hid (And.intro hrow (And.intro T3 (And.intro hr3 (And.intro hW3 (And.intro hTA (And.intro hS T2))))))
 clear hrow T3 hr3 hW3 hTA hS T2
 go_wp2_with (refine Ux.is_store 25 rfl ?_;refine wpList_store_mid rfl 25 _ _ rfl q 0 #[.int .i64 3,.int .i64 3,.bool false,.bool false,.pointer (some ⟨B,0,none⟩)] rfl rfl (by have h:=there_row H3.out.1;exact h) (by kernel_rfl) (by simp [Value.oneCell']) ?_;simp only [World.setCells];rw [H3.out.2.2.2.1])
 go_wp2
 have x0:=cell_of_row W3 q 0 _ _ (0,0) H3.out.2.2.1
 have x1:=cell_of_row W3 q 1 _ _ (0,0) H3.out.2.2.1
 have x2:=cell_of_row W3 q 2 _ _ (0,0) H3.out.2.2.1
 have x3:=cell_of_row W3 q 3 _ _ (0,0) H3.out.2.2.1
 have x4:=cell_of_row W3 q 4 _ _ (0,0) H3.out.2.2.1
 simp at x0 x1 x2 x3 x4
 refine bodyPost_ret (by simp [results,Tryz.results59,go_sem,x0,x1,x2,x3,x4];try rfl) rfl ?_
 refine ⟨B,mb,E,rfl,H3.out.2.2.2.2.1.touchK H3.out.2.1 ?_,H3.out.2.2.2.2.2.1,?_⟩
 ·rintro b rfl
  exact ⟨_,_,H3.out.1,by decide,by decide,fun u hu=>by simp at hu;rcases hu with rfl|rfl|rfl<;>exact ⟨fun _ h=>(by cases h),fun _ h=>(by cases h)⟩⟩
 ·exact (H1.out.1.trans H3.out.2.2.2.2.2.2 fun _ _ f=>f).trans (R:=fun _=>False) H3.out.2.1 fun b hb h=>by have:=H1.out.2.2.2;omega
end Go.Proofs.YtikmdhhbamggfaaGreatDoor
namespace Go.Proofs.YtikmdhhbamggfaaGreatDoor
open Go.RowKit
open Ux (Ent SameE okT wghC elemsE eLetter newK raise slt)
open Ux.Sign (cp raw signs)
theorem conv1 (W:World) (b k:Nat) (Z:ByteArray) (z:Int) (hz:z=k) (hk:k<256) (hZ:(⟨#[UInt8.ofNat k]⟩:ByteArray)=Z) (hb:W.heap[b]? =some (.cells #[.int .u8 z] 5 (0,0))):(convert 108 9 (.slice (some ⟨b,0,none⟩) 1 1)).run Tryz.prog W= .ok (.string Z) W:=by
 rw [←hZ]
 refine run_convert_bytes_back (P:=Tryz.prog) W 108 9 5 ⟨b,0,none⟩ 1 [UInt8.ofNat k] Tryz.underlying108 Tryz.underlying5 Tryz.underlying9 fun j hj=> ?_
 obtain rfl:j=0:=by simp at hj;exact hj
 have e:(⟨b,0,none⟩:Addr).add 0=⟨b,0,none⟩:=by rw [Addr.add_mid]
 rw [e,cell_of_row W b 0 _ _ _ hb,hz]
 show some _=some (Value.int .u8 ((UInt8.ofNat k).toNat:Int))
 rw [UInt8.toNat_ofNat',show k % 2^8=k by omega]
 rfl
def lt1 (i:Nat):ByteArray:=⟨#[UInt8.ofNat (97+i)]⟩
theorem lt1_nat {i:Nat} (hi:i<26):(UInt8.ofNat (97+i)).toNat=97+i:=by rw [UInt8.toNat_ofNat'];omega
theorem lt1_data (i:Nat):(lt1 i).data.toList= [UInt8.ofNat (97+i)]:=rfl
theorem lt1_eq {i j:Nat} (hi:i<26) (hj:j<26):((lt1 i).toList==(lt1 j).toList)=decide (i=j):=by
 rw [Lib.toList_data,Lib.toList_data,lt1_data,lt1_data]
 have h1:=lt1_nat hi
 have h2:=lt1_nat hj
 by_cases h:i=j
 ·subst h;simp
 ·have: ¬UInt8.ofNat (97+i)=UInt8.ofNat (97+j):=fun e=>h (by rw [e,h2] at h1;omega)
  rw [decide_eq_false h]
  exact beq_false_of_ne fun e=>this (List.cons.inj e).1
theorem lt1_less: ∀i,i<26→∀j,j<26→Op.bytesLess (lt1 i).toList (lt1 j).toList=decide (i<j):=by
 intro i hi j hj
 rw [Lib.toList_data,Lib.toList_data,lt1_data,lt1_data]
 have key: ∀i,i<26→∀j,j<26→Op.bytesLess [UInt8.ofNat (97+i)] [UInt8.ofNat (97+j)]=decide (i<j):=by decide+kernel
 exact key i hi j hj
theorem byte26 (a:Int) (h:0≤a∧a≤255): ∃m i:Nat,a=m∧i<26∧(m:Int) % 26=i∧(m:Int)≤255:=⟨a.toNat,a.toNat % 26,by omega,by omega,by omega,by omega⟩
theorem elB_of {T:List Ent} (s:ByteArray) (l:List Nat) (h:s.data.toList.map UInt8.toNat=l) (ha: ∀c∈l,c<128):elB T s=elemsE T l:=by
 unfold elB
 rw [Ux.Sign.signs_ascii _ fun b hb=>ha _ (by rw [←h];exact List.mem_map_of_mem hb),h]
set_option maxHeartbeats 16000000 in
set_option maxRecDepth 100000 in
theorem tpairLaw_ (a b c d:Int) (w:World) (hT:Tabs w) (ha:0≤a∧a≤255) (hb:0≤b∧b≤255) (hc:0≤c∧c≤255) (hd:0≤d∧d≤255):
 Calls Tryz.prog 14 #[.int .u8 a,.int .u8 b,.int .u8 c,.int .u8 d] w fun e w'=>e= .returned (.bool true)∧Ux.Touch (fun _=>False) w w':=by
 have AW:=Lib.hid fun W (T:Ux.Touch (fun _=>False) w W)=>awake8_ W (hT.touch T)
 have HT:=Lib.hid hT
 obtain ⟨ma,i,rfl,hi,a1,a2⟩:=byte26 a ha
 obtain ⟨mb,j,rfl,hj,b1,b2⟩:=byte26 b hb
 obtain ⟨mc,k,rfl,hk,c1,c2⟩:=byte26 c hc
 obtain ⟨md,m,rfl,hm,d1,d2⟩:=byte26 d hd
 have a0:(0:Int)≤ma:=by omega
 have b0:(0:Int)≤mb:=by omega
 have c0:(0:Int)≤mc:=by omega
 have d0:(0:Int)≤md:=by omega
 have i0:(0:Int)≤i:=by omega
 have j0:(0:Int)≤j:=by omega
 have k0:(0:Int)≤k:=by omega
 have m0:(0:Int)≤m:=by omega
 have i1:(i:Int)<26:=by omega
 have j1:(j:Int)<26:=by omega
 have k1:(k:Int)<26:=by omega
 have m1:(m:Int)<26:=by omega
 have HI:=Lib.hid (And.intro hi (And.intro hj (And.intro hk hm)))
 obtain ⟨X,hX⟩: ∃X,lt1 i=X:=⟨_,rfl⟩
 obtain ⟨Y,hY⟩: ∃X,lt1 j=X:=⟨_,rfl⟩
 obtain ⟨Z,hZ⟩: ∃X,lt1 k=X:=⟨_,rfl⟩
 obtain ⟨O,hO⟩: ∃X,lt1 m=X:=⟨_,rfl⟩
 have HX:=Lib.hid (And.intro hX (And.intro hY (And.intro hZ hO)))
 have HCV:=Lib.hid fun (W:World) (q k:Nat) (Z:ByteArray) (hZ:lt1 k=Z) (hk:k<26) (hb:W.heap[q]? =some (.cells #[.int .u8 (97+(k:Int))] 5 (0,0)))=>conv1 W q (97+k) Z (97+(k:Int)) (by omega) (by omega) hZ hb
 clear hT ha hb hc hd hi hj hk hm hX hY hZ hO
 go_enter Tryz.func14,Tryz.ntmps14
 go_upto_region 1 with (fail)
 go_cut [9] (fun s9 wx=>s9= .string X∧Ux.Touch (fun _=>False) w wx∧wx.cell? ⟨w.heap.size,0,none⟩=some (.int .u8 (97+(i:Int))))
 case first=>
  have f1:=HCV.out (w.alloc (.cells #[.int .u8 (97+(i:Int))] 5)) w.heap.size i X HX.out.1 HI.out.1 (heap_alloc_new w _)
  go_wp2_with (fail)
  go_meet
  exact ⟨rfl,(Ux.Touch.refl _ _).alloc _,by rw [cell_of_row _ w.heap.size 0 _ _ _ (heap_alloc_new w _)];rfl⟩
 obtain ⟨rfl,T1,hv0⟩:=hcut
 obtain ⟨w1,hw1⟩: ∃W,wc=W:=⟨_,rfl⟩
 rw [hw1] at T1 hv0⊢
 obtain ⟨qz,hqz⟩: ∃q,w.heap.size=q:=⟨_,rfl⟩
 rw [hqz] at hv0
 have H1:=Lib.hid T1
 have HV0:=Lib.hid fun W (T:Ux.Touch (fun _=>False) w1 W)=>T.cell hv0 (fun f=>f)
 clear hw1 T1 hqz
 go_upto_region 2 with (fail)
 go_cut [10,11] (fun s10 s11 wx=>s10= .string Y∧s11= .string Z∧Ux.Touch (fun _=>False) w1 wx)
 case first=>
  obtain ⟨q,hq⟩: ∃q,w1.heap.size=q:=⟨_,rfl⟩
  have r1:(w1.alloc (.cells #[.int .u8 (97+(j:Int))] 5)).heap[q]? =some (.cells #[.int .u8 (97+(j:Int))] 5 (0,0)):=by rw [←hq];exact heap_alloc_new _ _
  have r2:(w1.alloc (.cells #[.int .u8 (97+(k:Int))] 5)).heap[q]? =some (.cells #[.int .u8 (97+(k:Int))] 5 (0,0)):=by rw [←hq];exact heap_alloc_new _ _
  have z1:(w1.alloc (.cells #[.int .u8 (97+(j:Int))] 5)).heap.size=q+1:=by rw [World.size_alloc,hq]
  have z2:(w1.alloc (.cells #[.int .u8 (97+(k:Int))] 5)).heap.size=q+1:=by rw [World.size_alloc,hq]
  have r3:((w1.alloc (.cells #[.int .u8 (97+(j:Int))] 5)).alloc (.cells #[.int .u8 (97+(k:Int))] 5)).heap[q+1]? =some (.cells #[.int .u8 (97+(k:Int))] 5 (0,0)):=by rw [←z1];exact heap_alloc_new _ _
  have r4:((w1.alloc (.cells #[.int .u8 (97+(k:Int))] 5)).alloc (.cells #[.int .u8 (97+(j:Int))] 5)).heap[q+1]? =some (.cells #[.int .u8 (97+(j:Int))] 5 (0,0)):=by rw [←z2];exact heap_alloc_new _ _
  have f1:=HCV.out (w1.alloc (.cells #[.int .u8 (97+(j:Int))] 5)).drew q j Y HX.out.2.1 HI.out.2.1 r1
  have f2:=HCV.out ((w1.alloc (.cells #[.int .u8 (97+(j:Int))] 5)).alloc (.cells #[.int .u8 (97+(k:Int))] 5)).drew q j Y HX.out.2.1 HI.out.2.1 (((Ux.Touch.refl (fun _=>False) _).alloc (.cells #[.int .u8 (97+(k:Int))] 5)).heap r1 (fun f=>f))
  have f3:=HCV.out ((w1.alloc (.cells #[.int .u8 (97+(k:Int))] 5)).alloc (.cells #[.int .u8 (97+(j:Int))] 5)).drew (q+1) j Y HX.out.2.1 HI.out.2.1 r4
  have f4:=HCV.out (w1.alloc (.cells #[.int .u8 (97+(k:Int))] 5)).drew q k Z HX.out.2.2.1 HI.out.2.2.1 r2
  have f5:=HCV.out ((w1.alloc (.cells #[.int .u8 (97+(k:Int))] 5)).alloc (.cells #[.int .u8 (97+(j:Int))] 5)).drew q k Z HX.out.2.2.1 HI.out.2.2.1 (((Ux.Touch.refl (fun _=>False) _).alloc (.cells #[.int .u8 (97+(j:Int))] 5)).heap r2 (fun f=>f))
  have f6:=HCV.out ((w1.alloc (.cells #[.int .u8 (97+(j:Int))] 5)).alloc (.cells #[.int .u8 (97+(k:Int))] 5)).drew (q+1) k Z HX.out.2.2.1 HI.out.2.2.1 r3
  clear r1 r2 r3 r4 z1 z2
  refine Ux.wpr (fun _ w'=>w'.cell? ⟨qz,0,none⟩=some (.int .u8 (97+(i:Int)))) (.q [0,1,2,5,6,7] (.br 3 (.br 4 (.q [10] (.e 8 true true (.e 9 true true (.line [11])))) 8 (.br 4 (.q [10] (.e 9 true true (.line [11]))) 9 (.e 4 true true (.q [10] (.line [11]))))) 8 (.br 3 (.br 4 (.q [10] (.e 9 true true (.line [11]))) 9 (.e 4 true true (.q [10] (.line [11])))) 9 (.e 3 true true (.e 4 true true (.q [10] (.line [11]))))))) ?_;repeat ((with_reducible refine Ux.qg ?_);refine Ux.qu ?_)
  refine ⟨?_,?_⟩
  ·go_wp2_with (fail)
   first|refine ⟨⟨HV0.out _ Ux.tq,HV0.out _ Ux.tq⟩,?_⟩|refine ⟨HV0.out _ Ux.tq,?_⟩
   refine ⟨?_,?_⟩
   ·go_wp2_with (fail)
    first|refine ⟨⟨HV0.out _ Ux.tq,HV0.out _ Ux.tq⟩,?_⟩|refine ⟨HV0.out _ Ux.tq,?_⟩
    repeat ((with_reducible refine Ux.qg ?_);refine Ux.qu ?_)
    go_wp2_with (fail)
    first|refine ⟨⟨HV0.out _ Ux.tq,HV0.out _ Ux.tq⟩,?_⟩|refine ⟨HV0.out _ Ux.tq,?_⟩
    go_wp2_with (fail)
    first|refine ⟨⟨HV0.out _ Ux.tq,HV0.out _ Ux.tq⟩,?_⟩|refine ⟨HV0.out _ Ux.tq,?_⟩
    go_wp2_with (fail)
    go_meet
    exact ⟨rfl,rfl,by repeat (first|exact Ux.Touch.refl _ _|refine Ux.Touch.drew ?_|refine Ux.Touch.alloc ?_ _)⟩
   ·go_wp2_with (fail)
    first|refine ⟨⟨HV0.out _ Ux.tq,HV0.out _ Ux.tq⟩,?_⟩|refine ⟨HV0.out _ Ux.tq,?_⟩
    refine ⟨?_,?_⟩
    ·go_wp2_with (fail)
     first|refine ⟨⟨HV0.out _ Ux.tq,HV0.out _ Ux.tq⟩,?_⟩|refine ⟨HV0.out _ Ux.tq,?_⟩
     repeat ((with_reducible refine Ux.qg ?_);refine Ux.qu ?_)
     go_wp2_with (fail)
     first|refine ⟨⟨HV0.out _ Ux.tq,HV0.out _ Ux.tq⟩,?_⟩|refine ⟨HV0.out _ Ux.tq,?_⟩
     go_wp2_with (fail)
     go_meet
     exact ⟨rfl,rfl,by repeat (first|exact Ux.Touch.refl _ _|refine Ux.Touch.drew ?_|refine Ux.Touch.alloc ?_ _)⟩
    ·go_wp2_with (fail)
     first|refine ⟨⟨HV0.out _ Ux.tq,HV0.out _ Ux.tq⟩,?_⟩|refine ⟨HV0.out _ Ux.tq,?_⟩
     go_wp2_with (fail)
     first|refine ⟨⟨HV0.out _ Ux.tq,HV0.out _ Ux.tq⟩,?_⟩|refine ⟨HV0.out _ Ux.tq,?_⟩
     repeat ((with_reducible refine Ux.qg ?_);refine Ux.qu ?_)
     go_wp2_with (fail)
     go_meet
     exact ⟨rfl,rfl,by repeat (first|exact Ux.Touch.refl _ _|refine Ux.Touch.drew ?_|refine Ux.Touch.alloc ?_ _)⟩
  ·go_wp2_with (fail)
   first|refine ⟨⟨HV0.out _ Ux.tq,HV0.out _ Ux.tq⟩,?_⟩|refine ⟨HV0.out _ Ux.tq,?_⟩
   refine ⟨?_,?_⟩
   ·go_wp2_with (fail)
    first|refine ⟨⟨HV0.out _ Ux.tq,HV0.out _ Ux.tq⟩,?_⟩|refine ⟨HV0.out _ Ux.tq,?_⟩
    refine ⟨?_,?_⟩
    ·go_wp2_with (fail)
     first|refine ⟨⟨HV0.out _ Ux.tq,HV0.out _ Ux.tq⟩,?_⟩|refine ⟨HV0.out _ Ux.tq,?_⟩
     repeat ((with_reducible refine Ux.qg ?_);refine Ux.qu ?_)
     go_wp2_with (fail)
     first|refine ⟨⟨HV0.out _ Ux.tq,HV0.out _ Ux.tq⟩,?_⟩|refine ⟨HV0.out _ Ux.tq,?_⟩
     go_wp2_with (fail)
     go_meet
     exact ⟨rfl,rfl,by repeat (first|exact Ux.Touch.refl _ _|refine Ux.Touch.drew ?_|refine Ux.Touch.alloc ?_ _)⟩
    ·go_wp2_with (fail)
     first|refine ⟨⟨HV0.out _ Ux.tq,HV0.out _ Ux.tq⟩,?_⟩|refine ⟨HV0.out _ Ux.tq,?_⟩
     go_wp2_with (fail)
     first|refine ⟨⟨HV0.out _ Ux.tq,HV0.out _ Ux.tq⟩,?_⟩|refine ⟨HV0.out _ Ux.tq,?_⟩
     repeat ((with_reducible refine Ux.qg ?_);refine Ux.qu ?_)
     go_wp2_with (fail)
     go_meet
     exact ⟨rfl,rfl,by repeat (first|exact Ux.Touch.refl _ _|refine Ux.Touch.drew ?_|refine Ux.Touch.alloc ?_ _)⟩
   ·go_wp2_with (fail)
    first|refine ⟨⟨HV0.out _ Ux.tq,HV0.out _ Ux.tq⟩,?_⟩|refine ⟨HV0.out _ Ux.tq,?_⟩
    go_wp2_with (fail)
    first|refine ⟨⟨HV0.out _ Ux.tq,HV0.out _ Ux.tq⟩,?_⟩|refine ⟨HV0.out _ Ux.tq,?_⟩
    go_wp2_with (fail)
    first|refine ⟨⟨HV0.out _ Ux.tq,HV0.out _ Ux.tq⟩,?_⟩|refine ⟨HV0.out _ Ux.tq,?_⟩
    repeat ((with_reducible refine Ux.qg ?_);refine Ux.qu ?_)
    go_wp2_with (fail)
    go_meet
    exact ⟨rfl,rfl,by repeat (first|exact Ux.Touch.refl _ _|refine Ux.Touch.drew ?_|refine Ux.Touch.alloc ?_ _)⟩
 clear hv0
 obtain ⟨rfl,rfl,T2⟩:=hcut
 obtain ⟨w2,hw2⟩: ∃W,wc=W:=⟨_,rfl⟩
 rw [hw2] at T2⊢
 have H2:=Lib.hid (H1.out.trans T2 fun _ _ f=>f)
 clear hw2 T2
 go_upto_region 3 with (fail)
 go_cut [12] (fun s12 wx=>s12= .string O∧Ux.Touch (fun _=>False) w2 wx)
 case first=>
  have f1:=HCV.out (w2.alloc (.cells #[.int .u8 (97+(m:Int))] 5)) w2.heap.size m O HX.out.2.2.2 HI.out.2.2.2 (heap_alloc_new w2 _)
  go_wp2_with (fail)
  go_meet
  exact ⟨rfl,(Ux.Touch.refl _ _).alloc _⟩
 obtain ⟨rfl,T3⟩:=hcut
 obtain ⟨w3,hw3⟩: ∃W,wc=W:=⟨_,rfl⟩
 rw [hw3] at T3⊢
 have T3w:=H2.out.trans T3 fun _ _ f=>f
 obtain ⟨hi,hj,hk,hm⟩:=HI.out
 obtain ⟨hX,hY,hZ,hO⟩:=HX.out
 have zX:X.size=1:=by rw [←hX];rfl
 have zY:Y.size=1:=by rw [←hY];rfl
 have zZ:Z.size=1:=by rw [←hZ];rfl
 obtain ⟨S1,hS1⟩: ∃S,(⟨#[38,32]⟩:ByteArray)++X=S:=⟨_,rfl⟩
 have zS1:S1.size=3:=by rw [←hS1,ByteArray.size_append,zX];rfl
 obtain ⟨S2,hS2⟩: ∃S,S1++(⟨#[32,60,32]⟩:ByteArray)=S:=⟨_,rfl⟩
 have zS2:S2.size=6:=by rw [←hS2,ByteArray.size_append,zS1];rfl
 obtain ⟨S3,hS3⟩: ∃S,S2++Y=S:=⟨_,rfl⟩
 have zS3:S3.size=7:=by rw [←hS3,ByteArray.size_append,zS2,zY]
 obtain ⟨S4,hS4⟩: ∃S,S3++Z=S:=⟨_,rfl⟩
 have zS4:S4.size=8:=by rw [←hS4,ByteArray.size_append,zS3,zZ]
 obtain ⟨YZ,hYZ⟩: ∃S,Y++Z=S:=⟨_,rfl⟩
 have zYZ:YZ.size=2:=by rw [←hYZ,ByteArray.size_append,zY,zZ]
 obtain ⟨Y1,hY1⟩: ∃S,Y++(⟨#[49]⟩:ByteArray)=S:=⟨_,rfl⟩
 have zY1:Y1.size=2:=by rw [←hY1,ByteArray.size_append,zY];rfl
 obtain ⟨Y1Z,hY1Z⟩: ∃S,Y1++Z=S:=⟨_,rfl⟩
 have zY1Z:Y1Z.size=3:=by rw [←hY1Z,ByteArray.size_append,zY1,zZ]
 obtain ⟨Y2,hY2⟩: ∃S,Y++(⟨#[50]⟩:ByteArray)=S:=⟨_,rfl⟩
 have zY2:Y2.size=2:=by rw [←hY2,ByteArray.size_append,zY];rfl
 obtain ⟨Y2Z,hY2Z⟩: ∃S,Y2++Z=S:=⟨_,rfl⟩
 have zY2Z:Y2Z.size=3:=by rw [←hY2Z,ByteArray.size_append,zY2,zZ]
 have dX:X.data.toList.map UInt8.toNat= [97+i]:=by rw [←hX];show [(UInt8.ofNat (97+_)).toNat]=_;rw [lt1_nat hi]
 have dY:Y.data.toList.map UInt8.toNat= [97+j]:=by rw [←hY];show [(UInt8.ofNat (97+_)).toNat]=_;rw [lt1_nat hj]
 have dZ:Z.data.toList.map UInt8.toNat= [97+k]:=by rw [←hZ];show [(UInt8.ofNat (97+_)).toNat]=_;rw [lt1_nat hk]
 have dO:O.data.toList.map UInt8.toNat= [97+m]:=by rw [←hO];show [(UInt8.ofNat (97+_)).toNat]=_;rw [lt1_nat hm]
 have dS:S4.data.toList.map UInt8.toNat= [38,32,97+i,32,60,32,97+j,97+k]:=by
  rw [←hS4,←hS3,←hS2,←hS1]
  simp only [ByteArray.data_append,Array.toList_append,List.map_append,dX,dY,dZ]
  rfl
 have dYZ:YZ.data.toList.map UInt8.toNat= [97+j,97+k]:=by
  rw [←hYZ]
  simp only [ByteArray.data_append,Array.toList_append,List.map_append,dY,dZ]
  rfl
 have dY1Z:Y1Z.data.toList.map UInt8.toNat= [97+j,49,97+k]:=by
  rw [←hY1Z,←hY1]
  simp only [ByteArray.data_append,Array.toList_append,List.map_append,dY,dZ]
  rfl
 have dY2Z:Y2Z.data.toList.map UInt8.toNat= [97+j,50,97+k]:=by
  rw [←hY2Z,←hY2]
  simp only [ByteArray.data_append,Array.toList_append,List.map_append,dY,dZ]
  rfl
 have hrd:readT (signs S4.data.toList)=(0,pairT i j k):=read_pair hi hj hk _ (by
  rw [Ux.Sign.signs_ascii _ fun b hb=> ?_,dS]
  have hb':b.toNat∈S4.data.toList.map UInt8.toNat:=List.mem_map_of_mem hb
  rw [dS] at hb'
  simp at hb'
  omega)
 have HOW:=Lib.hid (own_ S4 (by omega) (pairT i j k) hrd w3 (HT.out.touch T3w))
 have eX:elB (pairT i j k) X= [raise 1 (256+8*i) (eLetter i 2)]:=by rw [elB_of X _ dX (by intro c hc;simp at hc;omega)];exact elems_one (pairT_let hi hj hk hi)
 have eO:elB (pairT i j k) O= [raise 1 (256+8*i) (eLetter m 2)]:=by rw [elB_of O _ dO (by intro c hc;simp at hc;omega)];exact elems_one (pairT_let hi hj hk hm)
 have eYZ:elB (pairT i j k) YZ= [newK 1 (eLetter i 2)]:=by rw [elB_of YZ _ dYZ (by intro c hc;simp at hc;omega)];exact pair_x hi hj hk
 have e3:wghC false false (elB (pairT i j k) Y1Z) (elB (pairT i j k) Y2Z) 1 3= -1:=by
  rw [elB_of Y1Z _ dY1Z (by intro c hc;simp at hc;omega),elB_of Y2Z _ dY2Z (by intro c hc;simp at hc;omega)]
  exact pair_dig hi hj hk
 have e1:wghC false false (elB (pairT i j k) X) (elB (pairT i j k) YZ) 1 3= -1:=by rw [eX,eYZ];exact pair_1 i hi
 have e2:wghC false false (elB (pairT i j k) YZ) (elB (pairT i j k) O) 1 3=if m≤i then 1 else-1:=by rw [eYZ,eO];exact pair_2 i hi m hm
 have e4:wghC false false (elB (pairT i j k) YZ) (elB (pairT i j k) YZ) 1 3=0:=wgh_refl _ _ _
 have HE:=Lib.hid (And.intro e1 (And.intro e2 (And.intro e3 e4)))
 have q1:(O.toList==X.toList)=decide (m=i):=by rw [←hO,←hX];exact lt1_eq hm hi
 have q2:Op.bytesLess X.toList O.toList=decide (i<m):=by rw [←hO,←hX];exact lt1_less i hi m hm
 have q3:Op.bytesLess O.toList X.toList=decide (m<i):=by rw [←hO,←hX];exact lt1_less m hm i hi
 have HQ:=Lib.hid (And.intro q1 (And.intro q2 q3))
 have H3:=Lib.hid T3w
 have HZ:=Lib.hid (And.intro hi (And.intro zX (And.intro zYZ (And.intro zY1Z zY2Z))))
 have zO:O.size=1:=by rw [←hO];rfl
 clear hw3 T3 T3w hi hj hk hm hX hY hZ hO dX dY dZ dO dS dYZ dY1Z dY2Z hrd eX eO eYZ e1 e2 e3 e4 q1 q2 q3
 unfold cV at HOW
 go_wp2_with (go_at_call 59;fail)
 refine HOW.out.mono ?_
 rintro e w4 ⟨B,mb',E,rfl,hTA,hSE,T4⟩
 obtain ⟨q,hq⟩: ∃q,w4.heap.size=q:=⟨_,rfl⟩
 have r1:(w4.alloc (.cells #[.int .i64 3,.int .i64 3,.bool false,.bool false,.pointer (some ⟨B,0,none⟩)] 25)).heap[q]? =some (.cells #[.int .i64 3,.int .i64 3,.bool false,.bool false,.pointer (some ⟨B,0,none⟩)] 25 (0,0)):=by rw [←hq];exact heap_alloc_new w4 _
 have t5:Ux.Touch (fun _=>False) w4 (w4.alloc (.cells #[.int .i64 3,.int .i64 3,.bool false,.bool false,.pointer (some ⟨B,0,none⟩)] 25)):=(Ux.Touch.refl _ _).alloc _
 obtain ⟨W5,hW5⟩: ∃W,w4.alloc (.cells #[.int .i64 3,.int .i64 3,.bool false,.bool false,.pointer (some ⟨B,0,none⟩)] 25)=W:=⟨_,rfl⟩
 rw [hW5] at r1 t5
 have HW5:=Lib.hid (And.intro hW5 hq)
 have TW5:=H3.out.trans (T4.trans t5 fun _ _ f=>f) fun _ _ f=>f
 have HCA:=Lib.hid fun W (T:Ux.Touch (fun _=>False) W5 W)=>(CAt.of r1).touch T
 have hel: ∀x,elB E x=elB (pairT i j k) x:=fun x=>by
  unfold elB
  exact Ux.elemsE_congr (Ux.findE_perm hTA.1.1.1 hSE.1) _
 have HCC:Hid (∀(x y:ByteArray) (r:Int),x.size≤1000000→y.size≤1000000→wghC false false (elB (pairT i j k) x) (elB (pairT i j k) y) 1 3=r→∀W,Ux.Touch (fun _=>False) W5 W→Calls Tryz.prog 17 #[.agg #[.int .i64 3,.int .i64 3,.bool false,.bool false,.pointer (some ⟨B,0,none⟩)],.string x,.string y] W fun e w'=>e= .returned (.int .i64 r)∧Ux.Touch (fun _=>False) W w'):=Lib.hid fun x y r hx hy hr W t=>by
  have h:=ccmp_ 3 3 false false (some ⟨B,0,none⟩) E x y W (fun _ p hp=>by cases hp;exact ⟨B,mb',rfl,(hTA.touch0 t5).touch0 t⟩) (HT.out.touch (TW5.trans t fun _ _ f=>f)) hx hy
  have hv:cmpC 3 3 false false (some ⟨B,0,none⟩) E x y=r:=by
   unfold cmpC
   rw [show okC 3 3 (some (⟨B,0,none⟩:Addr))=true from rfl,if_pos rfl,if_pos rfl,hel x,hel y]
   exact hr
  rw [hv] at h
  unfold cV at h
  exact h
 have H5:=Lib.hid TW5
 have HF1:=Lib.hid (HCC.out X YZ (-1) (by have:=HZ.out.2.1;omega) (by have:=HZ.out.2.2.1;omega) HE.out.1)
 have HF2:=Lib.hid (HCC.out YZ O (if m≤i then 1 else-1) (by have:=HZ.out.2.2.1;omega) (by omega) HE.out.2.1)
 have HF3:=Lib.hid (HCC.out Y1Z Y2Z (-1) (by have:=HZ.out.2.2.2.1;omega) (by have:=HZ.out.2.2.2.2;omega) HE.out.2.2.1)
 have HF4:=Lib.hid (HCC.out YZ YZ 0 (by have:=HZ.out.2.2.1;omega) (by have:=HZ.out.2.2.1;omega) HE.out.2.2.2)
 have hcase:(m=i)∨(m≠i∧m<i)∨(m≠i∧i<m):=by omega
 obtain ⟨x0,x1,x2,x3,x4⟩:=HCA.out W5 (Ux.Touch.refl _ _)
 clear hTA T4 t5 r1 hW5 hq TW5 hel HCC hSE
 go_upto_region 5 with (fail)
 rw [HW5.out.1,HW5.out.2]
 rcases hcase with h|⟨h0,h⟩|⟨h0,h⟩
 ·have p1:(O.toList==X.toList)=true:=by rw [HQ.out.1];exact decide_eq_true h
  have p2:Op.bytesLess X.toList O.toList=false:=by rw [HQ.out.2.1];exact decide_eq_false (by omega)
  have p3:Op.bytesLess O.toList X.toList=false:=by rw [HQ.out.2.2];exact decide_eq_false (by omega)
  clear h
  go_wp2_with (go_at_call 17;fail)
  refine (HF1.out W5 (Ux.Touch.refl _ _)).mono ?_
  rintro e w6 ⟨rfl,T6⟩
  have H6:=Lib.hid T6
  clear T6 x0 x1 x2 x3 x4
  obtain ⟨x0,x1,x2,x3,x4⟩:=HCA.out w6 H6.out
  go_wp2_with (go_at_call 17;fail)
  refine (HF3.out w6 H6.out).mono ?_
  rintro e w7 ⟨rfl,T7⟩
  have H7:=Lib.hid (H6.out.trans T7 fun _ _ f=>f)
  clear T7 x0 x1 x2 x3 x4
  obtain ⟨x0,x1,x2,x3,x4⟩:=HCA.out w7 H7.out
  go_wp2_with (go_at_call 17;fail)
  refine (HF4.out w7 H7.out).mono ?_
  rintro e w8 ⟨rfl,T8⟩
  have H8:=Lib.hid (H5.out.trans (H7.out.trans T8 fun _ _ f=>f) fun _ _ f=>f)
  clear T8 x0 x1 x2 x3 x4
  go_wp2_with (go_at_call 15;fail)
  refine (AW.out w8 H8.out).mono ?_
  rintro e w9 ⟨rfl,T9⟩
  have H9:=Lib.hid (H8.out.trans T9 fun _ _ f=>f)
  clear T9
  go_wp2
  go_returns
  exact ⟨rfl,H9.out⟩
 ·have p1:(O.toList==X.toList)=false:=by rw [HQ.out.1];exact decide_eq_false h0
  have p2:Op.bytesLess X.toList O.toList=false:=by rw [HQ.out.2.1];exact decide_eq_false (by omega)
  have p3:Op.bytesLess O.toList X.toList=true:=by rw [HQ.out.2.2];exact decide_eq_true h
  rw [if_pos (by omega)] at HF2
  clear h h0
  go_wp2_with (go_at_call 17;fail)
  refine (HF1.out W5 (Ux.Touch.refl _ _)).mono ?_
  rintro e w6 ⟨rfl,T6⟩
  have H6:=Lib.hid T6
  clear T6 x0 x1 x2 x3 x4
  obtain ⟨x0,x1,x2,x3,x4⟩:=HCA.out w6 H6.out
  go_wp2_with (go_at_call 17;fail)
  refine (HF2.out w6 H6.out).mono ?_
  rintro e wa ⟨rfl,Ta⟩
  have Ha:=Lib.hid (H6.out.trans Ta fun _ _ f=>f)
  clear Ta x0 x1 x2 x3 x4
  obtain ⟨x0,x1,x2,x3,x4⟩:=HCA.out wa Ha.out
  go_wp2_with (go_at_call 17;fail)
  refine (HF3.out wa Ha.out).mono ?_
  rintro e w7 ⟨rfl,T7⟩
  have H7:=Lib.hid (Ha.out.trans T7 fun _ _ f=>f)
  clear T7 x0 x1 x2 x3 x4
  obtain ⟨x0,x1,x2,x3,x4⟩:=HCA.out w7 H7.out
  go_wp2_with (go_at_call 17;fail)
  refine (HF4.out w7 H7.out).mono ?_
  rintro e w8 ⟨rfl,T8⟩
  have H8:=Lib.hid (H5.out.trans (H7.out.trans T8 fun _ _ f=>f) fun _ _ f=>f)
  clear T8 x0 x1 x2 x3 x4
  go_wp2_with (go_at_call 15;fail)
  refine (AW.out w8 H8.out).mono ?_
  rintro e w9 ⟨rfl,T9⟩
  have H9:=Lib.hid (H8.out.trans T9 fun _ _ f=>f)
  clear T9
  go_wp2
  go_returns
  exact ⟨rfl,H9.out⟩
 ·have p1:(O.toList==X.toList)=false:=by rw [HQ.out.1];exact decide_eq_false h0
  have p2:Op.bytesLess X.toList O.toList=true:=by rw [HQ.out.2.1];exact decide_eq_true h
  have p3:Op.bytesLess O.toList X.toList=false:=by rw [HQ.out.2.2];exact decide_eq_false (by omega)
  rw [if_neg (by omega)] at HF2
  clear h h0
  go_wp2_with (go_at_call 17;fail)
  refine (HF1.out W5 (Ux.Touch.refl _ _)).mono ?_
  rintro e w6 ⟨rfl,T6⟩
  have H6:=Lib.hid T6
  clear T6 x0 x1 x2 x3 x4
  obtain ⟨x0,x1,x2,x3,x4⟩:=HCA.out w6 H6.out
  go_wp2_with (go_at_call 17;fail)
  refine (HF2.out w6 H6.out).mono ?_
  rintro e wa ⟨rfl,Ta⟩
  have Ha:=Lib.hid (H6.out.trans Ta fun _ _ f=>f)
  clear Ta x0 x1 x2 x3 x4
  obtain ⟨x0,x1,x2,x3,x4⟩:=HCA.out wa Ha.out
  go_wp2_with (go_at_call 17;fail)
  refine (HF3.out wa Ha.out).mono ?_
  rintro e w7 ⟨rfl,T7⟩
  have H7:=Lib.hid (Ha.out.trans T7 fun _ _ f=>f)
  clear T7 x0 x1 x2 x3 x4
  obtain ⟨x0,x1,x2,x3,x4⟩:=HCA.out w7 H7.out
  go_wp2_with (go_at_call 17;fail)
  refine (HF4.out w7 H7.out).mono ?_
  rintro e w8 ⟨rfl,T8⟩
  have H8:=Lib.hid (H5.out.trans (H7.out.trans T8 fun _ _ f=>f) fun _ _ f=>f)
  clear T8 x0 x1 x2 x3 x4
  go_wp2_with (go_at_call 15;fail)
  refine (AW.out w8 H8.out).mono ?_
  rintro e w9 ⟨rfl,T9⟩
  have H9:=Lib.hid (H8.out.trans T9 fun _ _ f=>f)
  clear T9
  go_wp2
  go_returns
  exact ⟨rfl,H9.out⟩
end Go.Proofs.YtikmdhhbamggfaaGreatDoor
