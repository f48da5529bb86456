/- A part of the proof that the statement holds for every input that it names. No other condition. -/
import Derived.Test.YtfccjaboicpohaaGreatDoorUxMemAZ
import Derived.Test.YtfccjaboicpohaaGreatDoorReadAZ
import Derived.Test.YtfccjaboicpohaaGreatDoorCollAZ
set_option linter.unusedVariables false
set_option linter.unusedSimpArgs false
namespace Go.Proofs.YtfccjaboicpohaaGreatDoor
open Go.RowKit
open Ux (Ent rootE rootT)
open Ux.Sign (cp raw signs)
def rcV (kd lv:Int) (sh bk:Bool) (u:Value):Value:= .agg #[.int .i64 kd,.int .i64 lv,.bool sh,.bool bk,u]
def lvN (lv:Int):Nat:=(bits .and .i64 lv 65535).toNat % 3+1
theorem lvN_le (lv:Int):1≤lvN lv∧lvN lv≤3:=by unfold lvN;omega
theorem and16 (a:Int): ∃m:Nat,bits .and .i64 a 65535=(m:Int)∧m<65536:=by
 have h:(BitVec.ofInt 64 a&&&BitVec.ofInt 64 65535).toNat<65536:=by
  rw [BitVec.toNat_and,show (BitVec.ofInt 64 65535).toNat=2^16-1 from rfl,Nat.and_two_pow_sub_one_eq_mod]
  exact Nat.mod_lt _ (by decide)
 refine ⟨(BitVec.ofInt 64 a&&&BitVec.ofInt 64 65535).toNat,?_,h⟩
 show IntKind.i64.wrap ((BitVec.ofInt 64 a&&&BitVec.ofInt 64 (65535:Int)).toNat:Nat)=_
 rw [IntKind.wrap_i64]
 omega
def set5 (w:World) (q:Nat) (v0 v1 v2 v3 v4:Value):World:=((((w.setCell ⟨q,0,none⟩ v0).setCell ⟨q,1,none⟩ v1).setCell ⟨q,2,none⟩ v2).setCell ⟨q,3,none⟩ v3).setCell ⟨q,4,none⟩ v4
theorem set5_row {w:World} {q:Nat} {c0 c1 c2 c3 c4:Value} {t:TypeId} (h:w.heap[q]? =some (.cells #[c0,c1,c2,c3,c4] t (0,0))) (v0 v1 v2 v3 v4:Value):(set5 w q v0 v1 v2 v3 v4).heap[q]? =some (.cells #[v0,v1,v2,v3,v4] t (0,0)):=
 Ux.setCell_row (Ux.setCell_row (Ux.setCell_row (Ux.setCell_row (Ux.setCell_row h 0 v0) 1 v1) 2 v2) 3 v3) 4 v4
theorem set5_touch (w:World) (q:Nat) (v0 v1 v2 v3 v4:Value):Ux.Touch (fun b=>b=q) w (set5 w q v0 v1 v2 v3 v4):=
 (((((Ux.Touch.refl (fun b=>b=q) w).setCell (p:=⟨q,0,none⟩) (fun _=>rfl) _).setCell (p:=⟨q,1,none⟩) (fun _=>rfl) _).setCell (p:=⟨q,2,none⟩) (fun _=>rfl) _).setCell (p:=⟨q,3,none⟩) (fun _=>rfl) _).setCell (p:=⟨q,4,none⟩) (fun _=>rfl) _
theorem there_row {w:World} {q:Nat} {cs:Array Value} {t:TypeId} (h:w.heap[q]? =some (.cells cs t (0,0))):w.there q 0 cs.size:=fun j hj=>by
 rw [Nat.zero_add]
 refine ⟨?_,Ux.frozen_row h j⟩
 rw [cell_of_row w q j _ _ (0,0) h,Array.getElem?_eq_getElem hj]
 rfl
set_option maxHeartbeats 8000000 in
set_option maxRecDepth 100000 in
theorem make3_ (k lv:Int) (hk:k≠1∧k≠2) (sh bk:Bool) (w:World) (hT:Tabs w):
 Calls Tryz.prog 26 #[.int .i64 k,.int .i64 lv,.bool sh,.bool bk,.string ⟨#[]⟩] w fun e w'=> ∃B mb u,e= .returned (.tuple #[cV 3 (lvN lv:Nat) sh bk (some ⟨B,0,none⟩),rcV 3 (lvN lv:Nat) sh bk u,.bool true])∧TableAt w' B mb rootE∧RRows w' (fun b=>w.heap.size≤b) u (rootT 132)∧Ux.Touch (fun _=>False) w w':=by
 obtain ⟨m,hm,hm2⟩:=and16 lv
 have hlv:(((m:Int) % 3)+1:Int)=(lvN lv:Nat):=by
  unfold lvN
  rw [hm,Int.toNat_natCast]
  omega
 obtain ⟨LI,hLI⟩: ∃LI:Int,((lvN lv:Nat):Int)=LI:=⟨_,rfl⟩
 rw [hLI] at hlv⊢
 have q1:(k==1)=false:=by simpa using hk.1
 have q2:(k==2)=false:=by simpa using hk.2
 have m0:(0:Int)≤m:=by omega
 have m1:(m:Int)<65536:=by omega
 obtain ⟨q,hq⟩: ∃q,w.heap.size=q:=⟨_,rfl⟩
 have hb1:(w.alloc (.cells #[.int .i64 0,.int .i64 0,.bool false,.bool false,.pointer none] 66)).heap[q]? =some (.cells #[.int .i64 0,.int .i64 0,.bool false,.bool false,.pointer none] 66 (0,0)):=by rw [←hq];exact heap_alloc_new w _
 have T1:Ux.Touch (fun _=>False) w (w.alloc (.cells #[.int .i64 0,.int .i64 0,.bool false,.bool false,.pointer none] 66)):=(Ux.Touch.refl _ _).alloc _
 have hs1:(w.alloc (.cells #[.int .i64 0,.int .i64 0,.bool false,.bool false,.pointer none] 66)).heap.size=q+1:=by rw [World.size_alloc,hq]
 obtain ⟨W1,hW1⟩: ∃W,w.alloc (.cells #[.int .i64 0,.int .i64 0,.bool false,.bool false,.pointer none] 66)=W:=⟨_,rfl⟩
 rw [hW1] at hb1 T1 hs1
 have hb2:(W1.alloc (.cells #[.int .i64 0,.int .i64 0,.bool false,.bool false,.slice none 0 0] 68)).heap[q+1]? =some (.cells #[.int .i64 0,.int .i64 0,.bool false,.bool false,.slice none 0 0] 68 (0,0)):=by rw [←hs1];exact heap_alloc_new W1 _
 have T2:Ux.Touch (fun _=>False) W1 (W1.alloc (.cells #[.int .i64 0,.int .i64 0,.bool false,.bool false,.slice none 0 0] 68)):=(Ux.Touch.refl _ _).alloc _
 have hs2:(W1.alloc (.cells #[.int .i64 0,.int .i64 0,.bool false,.bool false,.slice none 0 0] 68)).heap.size=q+2:=by rw [World.size_alloc,hs1]
 have hb1':=T2.heap hb1 (fun f=>f)
 obtain ⟨W2,hW2⟩: ∃W,W1.alloc (.cells #[.int .i64 0,.int .i64 0,.bool false,.bool false,.slice none 0 0] 68)=W:=⟨_,rfl⟩
 rw [hW2] at hb2 T2 hs2 hb1'
 have HW:=Lib.hid (And.intro hW1 (And.intro hW2 (And.intro hq hs2)))
 have H2:=Lib.hid (And.intro (T1.trans T2 fun _ _ f=>f) (And.intro hb1' hb2))
 have HT:=Lib.hid hT
 clear hb1 T1 hs1 hb2 T2 hs2 hb1' hW1 hW2 hq hk hm2 hT hLI
 go_enter Tryz.func26,Tryz.ntmps26
 go_wp2_with (go_at_call 42;fail)
 rw [HW.out.1,HW.out.2.1,HW.out.2.2.1]
 refine (read0_ W2 (HT.out.touch H2.out.1)).mono ?_
 rintro e w3 ⟨B,mb,rfl,hTA,T3⟩
 have H3:=Lib.hid (And.intro hTA T3)
 clear hTA T3
 go_wp2_with (go_at_call 72;fail)
 refine (rread0_ w3).mono ?_
 rintro e w4 ⟨u,rfl,hR,T4⟩
 have hR4:=hR
 obtain ⟨_,a4,c4,hu4,_⟩:=hR
 subst hu4
 obtain ⟨n4,hn4⟩: ∃n,(rootT 132).length=n:=⟨_,rfl⟩
 rw [hn4] at hR4⊢
 obtain ⟨q6,hq6⟩: ∃q6,w4.heap.size=q6:=⟨_,rfl⟩
 have hb6:(w4.alloc (.cells #[.slice a4 n4 c4] 36)).heap[q6]? =some (.cells #[.slice a4 n4 c4] 36 (0,0)):=by rw [←hq6];exact heap_alloc_new w4 _
 have T5:Ux.Touch (fun _=>False) w4 (w4.alloc (.cells #[.slice a4 n4 c4] 36)):=(Ux.Touch.refl _ _).alloc _
 obtain ⟨W5,hW5⟩: ∃W,w4.alloc (.cells #[.slice a4 n4 c4] 36)=W:=⟨_,rfl⟩
 rw [hW5] at hb6 T5
 have T25:=H3.out.2.trans (T4.trans T5 fun _ _ f=>f) fun _ _ f=>f
 have HW5:=Lib.hid (And.intro hW5 hq6)
 have c6:W5.cell? ⟨q6,0,none⟩=some (.slice a4 n4 c4):=by rw [cell_of_row _ q6 0 _ _ (0,0) hb6];rfl
 have H5:=Lib.hid (And.intro (H3.out.1.touch0 (T4.trans T5 fun _ _ f=>f)) (And.intro (hR4.touch0 T5) (And.intro T25 (And.intro (T25.heap H2.out.2.1 (fun f=>f)) (T25.heap H2.out.2.2 (fun f=>f))))))
 have HN:=Lib.hid (And.intro hn4 H3.out.2.size)
 have H6s:=Lib.hid T4.size
 clear hR4 hb6 T4 T5 hW5 hq6 T25 hn4
 go_upto_region 11 with (fail)
 rw [HW5.out.1,HW5.out.2]
 have hq0:=H5.out.2.2.2.1
 have hq1:=H5.out.2.2.2.2
 have HQ:=Lib.hid (And.intro hq0 hq1)
 clear hq0 hq1
 refine Ux.wpr (fun _ w'=>w'.cell? ⟨q6,0,none⟩=some (.slice a4 n4 c4)) (.q [0,1,2,3,4,5,6,7,10,11] (.h true [8] (.q [9] (.e 12 false true (.e 13 false false (.line [14])))))) ?_;repeat ((with_reducible refine Ux.qg ?_);refine Ux.qu ?_)
 refine wpList_store_mid rfl 66 _ _ rfl q 0 #[.int .i64 3,.int .i64 LI,.bool sh,.bool bk,.pointer (some ⟨B,0,none⟩)] rfl rfl (by have h:=there_row (w:=W5.drew) HQ.out.1;exact h) (by kernel_rfl) (by simp [Value.oneCell']) ?_
 obtain ⟨W6,hW6⟩: ∃W,set5 W5.drew q (.int .i64 3) (.int .i64 LI) (.bool sh) (.bool bk) (.pointer (some ⟨B,0,none⟩))=W:=⟨_,rfl⟩
 have T6:Ux.Touch (fun b=>b=q) W5 W6:=by rw [←hW6];exact Ux.Touch.of_drew (set5_touch W5.drew q _ _ _ _ _)
 have hr6:W6.heap[q]? =some (.cells #[.int .i64 3,.int .i64 LI,.bool sh,.bool bk,.pointer (some ⟨B,0,none⟩)] 66 (0,0)):=by rw [←hW6];exact set5_row (w:=W5.drew) HQ.out.1 _ _ _ _ _
 have hq16:=T6.heap HQ.out.2 (by omega)
 have hqs:q+2≤q6:=by
  have h1:=HW5.out.2
  have h2:=HN.out.2
  have h3:=HW.out.2.2.2
  have h4:=H6s.out
  omega
 have c6:=T6.cell c6 (fun h=>by have h:q6=q:=h;omega)
 unfold set5 at hW6
 simp only [World.setCells] at hW6⊢
 rw [hW6]
 have HW6:=Lib.hid (And.intro T6 (And.intro hr6 (And.intro hq16 hqs)))
 clear hW6 T6 hr6 hq16 hqs
 refine ⟨c6,?_⟩
 repeat ((with_reducible refine Ux.qg ?_);refine Ux.qu ?_)
 refine wpList_store_mid rfl 68 _ _ rfl (q+1) 0 #[.int .i64 3,.int .i64 LI,.bool sh,.bool bk,.slice a4 n4 c4] rfl rfl (by have h:=there_row HW6.out.2.2.1;exact h) (by kernel_rfl) (by simp [Value.oneCell']) ?_
 clear c6
 obtain ⟨W7,hW7⟩: ∃W,set5 W6 (q+1) (.int .i64 3) (.int .i64 LI) (.bool sh) (.bool bk) (.slice a4 n4 c4)=W:=⟨_,rfl⟩
 have T7:Ux.Touch (fun b=>b=q+1) W6 W7:=by rw [←hW7];exact set5_touch W6 (q+1) _ _ _ _ _
 have hr7:W7.heap[q+1]? =some (.cells #[.int .i64 3,.int .i64 LI,.bool sh,.bool bk,.slice a4 n4 c4] 68 (0,0)):=by rw [←hW7];exact set5_row HW6.out.2.2.1 _ _ _ _ _
 have hr67:=T7.heap HW6.out.2.1 (by omega)
 unfold set5 at hW7
 simp only [World.setCells] at hW7⊢
 rw [hW7]
 have HW7:=Lib.hid (And.intro T7 (And.intro hr7 hr67))
 clear hW7 T7 hr7 hr67
 go_wp2
 have x0:=cell_of_row W7 q 0 _ _ (0,0) HW7.out.2.2
 have y0:=cell_of_row W7 (q+1) 0 _ _ (0,0) HW7.out.2.1
 have x1:=cell_of_row W7 q 1 _ _ (0,0) HW7.out.2.2
 have y1:=cell_of_row W7 (q+1) 1 _ _ (0,0) HW7.out.2.1
 have x2:=cell_of_row W7 q 2 _ _ (0,0) HW7.out.2.2
 have y2:=cell_of_row W7 (q+1) 2 _ _ (0,0) HW7.out.2.1
 have x3:=cell_of_row W7 q 3 _ _ (0,0) HW7.out.2.2
 have y3:=cell_of_row W7 (q+1) 3 _ _ (0,0) HW7.out.2.1
 have x4:=cell_of_row W7 q 4 _ _ (0,0) HW7.out.2.2
 have y4:=cell_of_row W7 (q+1) 4 _ _ (0,0) HW7.out.2.1
 simp at x0 x1 x2 x3 x4 y0 y1 y2 y3 y4
 refine bodyPost_ret (by simp [results,Tryz.results26,go_sem,x0,x1,x2,x3,x4,y0,y1,y2,y3,y4];try rfl) rfl ?_
 have hq:=HW.out.2.2.1
 have hq3:q+2≤w3.heap.size:=by have h1:=HN.out.2;have h2:=HW.out.2.2.2;omega
 refine ⟨B,mb,_,rfl,?_,?_,?_⟩
 ·refine ((H5.out.1.touchK HW6.out.1 ?_).touchK HW7.out.1 ?_)
  ·rintro b rfl
   exact ⟨_,_,HQ.out.1,by decide,by decide,fun u hu=>by simp at hu;rcases hu with rfl|rfl|rfl<;>exact ⟨fun _ h=>(by cases h),fun _ h=>(by cases h)⟩⟩
  ·rintro b rfl
   exact ⟨_,_,HW6.out.2.2.1,by decide,by decide,fun u hu=>by simp at hu;rcases hu with rfl|rfl|rfl<;>exact ⟨fun _ h=>(by cases h),fun _ h=>(by cases h)⟩⟩
 ·exact ((H5.out.2.1.touchB HW6.out.1 fun g _ h e=>by omega).touchB HW7.out.1 fun g _ h e=>by omega).mono fun g _ h=>by omega
 ·exact ((H2.out.1.trans H5.out.2.2.1 fun _ _ f=>f).trans (R:=fun _=>False) HW6.out.1 fun b hb h=>by omega).trans (R:=fun _=>False) HW7.out.1 fun b hb h=>by omega
end Go.Proofs.YtfccjaboicpohaaGreatDoor
namespace Go.Proofs.YtfccjaboicpohaaGreatDoor
open Go.RowKit
open Ux (Ent rootE rootT wghC eLetter eMark)
open Ux.Sign (cp raw signs)
theorem okC3 (lv:Int) (h1:1≤lv) (h3:lv≤3) (p:Addr):okC 3 lv (some p)=true:=by
 unfold okC
 simp [h1,h3]
theorem cmpC3 (lv:Nat) (h:1≤lv∧lv≤3) (sh bk:Bool) (p:Addr) (E:List Ent) (a b:ByteArray):cmpC 3 (lv:Int) sh bk (some p) E a b=wghC sh bk (elB E a) (elB E b) 1 lv:=by
 unfold cmpC
 rw [if_pos (okC3 lv (by omega) (by omega) p),if_pos rfl,Int.toNat_natCast]
theorem sg_cE9:signs (⟨#[195,137]⟩:ByteArray).data.toList= [201]:=by
 show signs [195,137]= [201]
 rw [Ux.Sign.signs_cons (by simp)]
 have h1:Ux.Sign.sg [195,137]=(201,2):=by decide+kernel
 rw [h1]
 show 201::signs []= [201]
 unfold signs
 rfl
theorem sg_1 (x:UInt8) (hx:x.toNat<128):signs (⟨#[x]⟩:ByteArray).data.toList= [x.toNat]:=Ux.Sign.signs_ascii [x] (by intro b hb;rw [List.mem_singleton.1 hb];exact hx)
theorem el_e:elB rootE ⟨#[101]⟩= [eLetter 4 2]:=by
 unfold elB
 rw [sg_1 101 (by decide)]
 decide+kernel
theorem el_cE9:elB rootE ⟨#[195,137]⟩= [eLetter 4 8,eMark 769]:=by
 unfold elB
 rw [sg_cE9]
 decide+kernel
theorem el_a:elB rootE ⟨#[97]⟩= [eLetter 0 2]:=by
 unfold elB
 rw [sg_1 97 (by decide)]
 decide+kernel
theorem el_cA:elB rootE ⟨#[65]⟩= [eLetter 0 8]:=by
 unfold elB
 rw [sg_1 65 (by decide)]
 decide+kernel
theorem ft_A:ftB ⟨#[65]⟩=⟨#[97]⟩:=by
 unfold ftB Ux.Sign.foldText
 rw [sg_1 65 (by decide)]
 decide+kernel
theorem ft_a:ftB ⟨#[97]⟩=⟨#[97]⟩:=by
 unfold ftB Ux.Sign.foldText
 rw [sg_1 97 (by decide)]
 decide+kernel
theorem aw1 (p:Addr):cmpC 3 1 false false (some p) rootE ⟨#[101]⟩ ⟨#[195,137]⟩=0:=by
 refine (cmpC3 1 (by omega) false false p rootE _ _).trans ?_
 rw [el_e,el_cE9]
 decide+kernel
theorem aw2 (p:Addr):cmpC 3 2 false false (some p) rootE ⟨#[101]⟩ ⟨#[195,137]⟩= -1:=by
 refine (cmpC3 2 (by omega) false false p rootE _ _).trans ?_
 rw [el_e,el_cE9]
 decide+kernel
theorem aw3 (p:Addr):cmpC 3 3 false false (some p) rootE ⟨#[97]⟩ ⟨#[65]⟩= -1:=by
 refine (cmpC3 3 (by omega) false false p rootE _ _).trans ?_
 rw [el_a,el_cA]
 decide+kernel
theorem aw4:(cmpC 2 0 false false none rootE ⟨#[65]⟩ ⟨#[97]⟩==0)=true:=by
 unfold cmpC
 rw [if_pos (by rfl),if_neg (by decide),if_pos rfl,ft_A,ft_a]
 unfold cmpStr
 rw [Ux.slt_irrefl]
 rfl
theorem lvN0:lvN 0=1:=by decide+kernel
theorem lvN1:lvN 1=2:=by decide+kernel
theorem lvN2:lvN 2=3:=by decide+kernel
set_option maxHeartbeats 16000000 in
set_option maxRecDepth 100000 in
theorem awake8_ (w:World) (hT:Tabs w):Calls Tryz.prog 27 #[] w fun e w'=>e= .returned (.bool true)∧Ux.Touch (fun _=>False) w w':=by
 have HT:=Lib.hid hT
 clear hT
 have HM:=Lib.hid fun (lv:Int) W (T:Ux.Touch (fun _=>False) w W)=>make3_ 3 lv (by decide) false false W (HT.out.touch T)
 go_enter Tryz.func27,Tryz.ntmps27
 have m1:=HM.out 0 w (Ux.Touch.refl _ _)
 rw [lvN0] at m1
 have HM1:=Lib.hid m1
 clear m1
 go_wp2_with (go_at_call 26;fail)
 refine HM1.out.mono ?_
 rintro e w1 ⟨B1,mb1,u1,rfl,hT1,hR1,T1⟩
 obtain ⟨_,a1,c1,rfl,_⟩:=hR1
 unfold cV rcV
 obtain ⟨W1,hW1⟩: ∃W,(w1.alloc (.cells #[.int .i64 3,.int .i64 1,.bool false,.bool false,.pointer (some ⟨B1,0,none⟩)] 66)).alloc (.cells #[.int .i64 3,.int .i64 1,.bool false,.bool false,.slice a1 (rootT 132).length c1] 68)=W:=⟨_,rfl⟩
 have t1:Ux.Touch (fun _=>False) w1 W1:=by rw [←hW1];exact ((Ux.Touch.refl _ _).alloc _).alloc _
 have r1:W1.heap[w1.heap.size]? =some (.cells #[.int .i64 3,.int .i64 1,.bool false,.bool false,.pointer (some ⟨B1,0,none⟩)] 66 (0,0)):=by rw [←hW1];exact ((Ux.Touch.refl (fun _=>False) _).alloc _).heap (heap_alloc_new w1 _) (fun f=>f)
 obtain ⟨q1,hq1⟩: ∃q,w1.heap.size=q:=⟨_,rfl⟩
 rw [hq1] at r1
 have H1:=Lib.hid (And.intro (hT1.touch0 t1) (And.intro (CAt.of r1) (And.intro (T1.trans t1 fun _ _ f=>f) (T1.trans t1 fun _ _ f=>f))))
 have HW1:=Lib.hid (And.intro hW1 hq1)
 clear hT1 T1 t1 r1 hW1 hq1
 have m2:=HM.out 1 W1 H1.out.2.2.1
 rw [lvN1] at m2
 have HM2:=Lib.hid m2
 clear m2
 go_wp2_with (go_at_call 26;fail)
 rw [HW1.out.1,HW1.out.2]
 refine HM2.out.mono ?_
 rintro e w2 ⟨B2,mb2,u2,rfl,hT2,hR2,T2⟩
 obtain ⟨_,a2,c2,rfl,_⟩:=hR2
 unfold cV rcV
 obtain ⟨W2,hW2⟩: ∃W,(w2.alloc (.cells #[.int .i64 3,.int .i64 2,.bool false,.bool false,.pointer (some ⟨B2,0,none⟩)] 66)).alloc (.cells #[.int .i64 3,.int .i64 2,.bool false,.bool false,.slice a2 (rootT 132).length c2] 68)=W:=⟨_,rfl⟩
 have t2:Ux.Touch (fun _=>False) w2 W2:=by rw [←hW2];exact ((Ux.Touch.refl _ _).alloc _).alloc _
 have r2:W2.heap[w2.heap.size]? =some (.cells #[.int .i64 3,.int .i64 2,.bool false,.bool false,.pointer (some ⟨B2,0,none⟩)] 66 (0,0)):=by rw [←hW2];exact ((Ux.Touch.refl (fun _=>False) _).alloc _).heap (heap_alloc_new w2 _) (fun f=>f)
 obtain ⟨q2,hq2⟩: ∃q,w2.heap.size=q:=⟨_,rfl⟩
 rw [hq2] at r2
 have H2:=Lib.hid (And.intro (hT2.touch0 t2) (And.intro (CAt.of r2) (And.intro (H1.out.2.2.1.trans (T2.trans t2 fun _ _ f=>f) fun _ _ f=>f) (T2.trans t2 fun _ _ f=>f))))
 have HW2:=Lib.hid (And.intro hW2 hq2)
 clear hT2 T2 t2 r2 hW2 hq2
 have m3:=HM.out 2 W2 H2.out.2.2.1
 rw [lvN2] at m3
 have HM3:=Lib.hid m3
 clear m3
 go_wp2_with (go_at_call 26;fail)
 rw [HW2.out.1,HW2.out.2]
 refine HM3.out.mono ?_
 rintro e w3 ⟨B3,mb3,u3,rfl,hT3,hR3,T3⟩
 obtain ⟨_,a3,c3,rfl,_⟩:=hR3
 unfold cV rcV
 obtain ⟨W3,hW3⟩: ∃W,(w3.alloc (.cells #[.int .i64 3,.int .i64 3,.bool false,.bool false,.pointer (some ⟨B3,0,none⟩)] 66)).alloc (.cells #[.int .i64 3,.int .i64 3,.bool false,.bool false,.slice a3 (rootT 132).length c3] 68)=W:=⟨_,rfl⟩
 have t3:Ux.Touch (fun _=>False) w3 W3:=by rw [←hW3];exact ((Ux.Touch.refl _ _).alloc _).alloc _
 have r3:W3.heap[w3.heap.size]? =some (.cells #[.int .i64 3,.int .i64 3,.bool false,.bool false,.pointer (some ⟨B3,0,none⟩)] 66 (0,0)):=by rw [←hW3];exact ((Ux.Touch.refl (fun _=>False) _).alloc _).heap (heap_alloc_new w3 _) (fun f=>f)
 obtain ⟨q3,hq3⟩: ∃q,w3.heap.size=q:=⟨_,rfl⟩
 rw [hq3] at r3
 have H3:=Lib.hid (And.intro (hT3.touch0 t3) (And.intro (CAt.of r3) (And.intro (H2.out.2.2.1.trans (T3.trans t3 fun _ _ f=>f) fun _ _ f=>f) (T3.trans t3 fun _ _ f=>f))))
 have HW3:=Lib.hid (And.intro hW3 hq3)
 clear hT3 T3 t3 r3 hW3 hq3
 have t23:=H3.out.2.2.2
 have t13:=H2.out.2.2.2.trans H3.out.2.2.2 fun _ _ f=>f
 have HK1:=Lib.hid fun W (T:Ux.Touch (fun _=>False) W3 W)=>(H1.out.2.1.touch t13).touch T
 have HK2:=Lib.hid fun W (T:Ux.Touch (fun _=>False) W3 W)=>(H2.out.2.1.touch t23).touch T
 have HK3:=Lib.hid fun W (T:Ux.Touch (fun _=>False) W3 W)=>H3.out.2.1.touch T
 have HO1:=Lib.hid fun W=>cok_ 3 1 false false (some ⟨B1,0,none⟩) W
 rw [okC3 1 (by decide) (by decide)] at HO1
 have HC1:=Lib.hid fun W (T:Ux.Touch (fun _=>False) W3 W)=>ccmp_ 3 1 false false (some ⟨B1,0,none⟩) rootE ⟨#[101]⟩ ⟨#[195,137]⟩ W (fun _ p hp=>by cases hp;exact ⟨B1,mb1,rfl,(H1.out.1.touch0 t13).touch0 T⟩) (HT.out.touch (H3.out.2.2.1.trans T fun _ _ f=>f)) (by decide) (by decide)
 have HC2:=Lib.hid fun W (T:Ux.Touch (fun _=>False) W3 W)=>ccmp_ 3 2 false false (some ⟨B2,0,none⟩) rootE ⟨#[101]⟩ ⟨#[195,137]⟩ W (fun _ p hp=>by cases hp;exact ⟨B2,mb2,rfl,(H2.out.1.touch0 t23).touch0 T⟩) (HT.out.touch (H3.out.2.2.1.trans T fun _ _ f=>f)) (by decide) (by decide)
 have HC3:=Lib.hid fun W (T:Ux.Touch (fun _=>False) W3 W)=>ccmp_ 3 3 false false (some ⟨B3,0,none⟩) rootE ⟨#[97]⟩ ⟨#[65]⟩ W (fun _ p hp=>by cases hp;exact ⟨B3,mb3,rfl,H3.out.1.touch0 T⟩) (HT.out.touch (H3.out.2.2.1.trans T fun _ _ f=>f)) (by decide) (by decide)
 rw [aw1] at HC1
 rw [aw2] at HC2
 rw [aw3] at HC3
 have HC4:=Lib.hid fun W (T:Ux.Touch (fun _=>False) W3 W)=>csame_ 2 0 false false none rootE ⟨#[65]⟩ ⟨#[97]⟩ W (fun h=>by cases h) (HT.out.touch (H3.out.2.2.1.trans T fun _ _ f=>f)) (by decide) (by decide)
 rw [aw4] at HC4
 clear t23 t13
 unfold cV at HO1 HC1 HC2 HC3 HC4
 go_upto_region 4 with (fail)
 rw [HW3.out.1,HW3.out.2]
 obtain ⟨x0,x1,x2,x3,x4⟩:=HK1.out W3 (Ux.Touch.refl _ _)
 go_wp2_with (go_at_call 73;fail)
 refine (HO1.out W3).mono ?_
 rintro e w4 ⟨rfl,T4⟩
 have H4:=Lib.hid T4
 clear T4 x0 x1 x2 x3 x4
 obtain ⟨x0,x1,x2,x3,x4⟩:=HK1.out w4 H4.out
 go_wp2_with (go_at_call 29;fail)
 refine (HC1.out w4 H4.out).mono ?_
 rintro e w5 ⟨rfl,T5⟩
 have H5:=Lib.hid (H4.out.trans T5 fun _ _ f=>f)
 clear T5 x0 x1 x2 x3 x4
 obtain ⟨x0,x1,x2,x3,x4⟩:=HK2.out w5 H5.out
 go_wp2_with (go_at_call 29;fail)
 refine (HC2.out w5 H5.out).mono ?_
 rintro e w6 ⟨rfl,T6⟩
 have H6:=Lib.hid (H5.out.trans T6 fun _ _ f=>f)
 clear T6 x0 x1 x2 x3 x4
 obtain ⟨x0,x1,x2,x3,x4⟩:=HK3.out w6 H6.out
 go_wp2_with (go_at_call 29;fail)
 refine (HC3.out w6 H6.out).mono ?_
 rintro e w7 ⟨rfl,T7⟩
 have H7:=Lib.hid (H6.out.trans T7 fun _ _ f=>f)
 clear T7 x0 x1 x2 x3 x4
 go_wp2_with (go_at_call 30;fail)
 refine (HC4.out w7 H7.out).mono ?_
 rintro e w8 ⟨rfl,T8⟩
 have H8:=Lib.hid (H7.out.trans T8 fun _ _ f=>f)
 clear T8
 go_wp2
 go_returns
 exact ⟨rfl,H3.out.2.2.1.trans H8.out fun _ _ f=>f⟩
end Go.Proofs.YtfccjaboicpohaaGreatDoor
