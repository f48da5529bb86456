/- A part of the proof that the statement holds for every input that it names. No other condition. -/
import Derived.Test.YtmnkinaaoifpeaaGreatDoorUxMemAZ
import Derived.Test.YtmnkinaaoifpeaaGreatDoorReadAZ
import Derived.Test.YtmnkinaaoifpeaaGreatDoorCollAZ
import Derived.Test.YtmnkinaaoifpeaaGreatDoorStoreAZ
set_option linter.unusedVariables false
set_option linter.unusedSimpArgs false
namespace Go.Proofs.YtmnkinaaoifpeaaGreatDoor
open Go.RowKit
open Ux (Ent rootE rootT)
open Ux.Sign (cp raw signs)
def rcV (kd lv:Int) (sh bk:Bool) (u:Value):Value:= .agg #[.int .i64 kd,.int .i64 lv,.bool sh,.bool bk,u]
def lvN (lv:Int):Nat:=(bits .and .i64 lv 65535).toNat % 3+1
theorem lvN_le (lv:Int):1≤lvN lv∧lvN lv≤3:=by unfold lvN;omega
theorem and16 (a:Int): ∃m:Nat,bits .and .i64 a 65535=(m:Int)∧m<65536:=by
 have h:(BitVec.ofInt 64 a&&&BitVec.ofInt 64 65535).toNat<65536:=by
  rw [BitVec.toNat_and,show (BitVec.ofInt 64 65535).toNat=2^16-1 from rfl,Nat.and_two_pow_sub_one_eq_mod]
  exact Nat.mod_lt _ (by decide)
 refine ⟨(BitVec.ofInt 64 a&&&BitVec.ofInt 64 65535).toNat,?_,h⟩
 show IntKind.i64.wrap ((BitVec.ofInt 64 a&&&BitVec.ofInt 64 (65535:Int)).toNat:Nat)=_
 rw [IntKind.wrap_i64]
 omega
def set5 (w:World) (q:Nat) (v0 v1 v2 v3 v4:Value):World:=((((w.setCell ⟨q,0,none⟩ v0).setCell ⟨q,1,none⟩ v1).setCell ⟨q,2,none⟩ v2).setCell ⟨q,3,none⟩ v3).setCell ⟨q,4,none⟩ v4
theorem set5_row {w:World} {q:Nat} {c0 c1 c2 c3 c4:Value} {t:TypeId} (h:w.heap[q]? =some (.cells #[c0,c1,c2,c3,c4] t (0,0))) (v0 v1 v2 v3 v4:Value):(set5 w q v0 v1 v2 v3 v4).heap[q]? =some (.cells #[v0,v1,v2,v3,v4] t (0,0)):=
 Ux.setCell_row (Ux.setCell_row (Ux.setCell_row (Ux.setCell_row (Ux.setCell_row h 0 v0) 1 v1) 2 v2) 3 v3) 4 v4
theorem set5_touch (w:World) (q:Nat) (v0 v1 v2 v3 v4:Value):Ux.Touch (fun b=>b=q) w (set5 w q v0 v1 v2 v3 v4):=
 (((((Ux.Touch.refl (fun b=>b=q) w).setCell (p:=⟨q,0,none⟩) (fun _=>rfl) _).setCell (p:=⟨q,1,none⟩) (fun _=>rfl) _).setCell (p:=⟨q,2,none⟩) (fun _=>rfl) _).setCell (p:=⟨q,3,none⟩) (fun _=>rfl) _).setCell (p:=⟨q,4,none⟩) (fun _=>rfl) _
theorem there_row {w:World} {q:Nat} {cs:Array Value} {t:TypeId} (h:w.heap[q]? =some (.cells cs t (0,0))):w.there q 0 cs.size:=fun j hj=>by
 rw [Nat.zero_add]
 refine ⟨?_,Ux.frozen_row h j⟩
 rw [cell_of_row w q j _ _ (0,0) h,Array.getElem?_eq_getElem hj]
 rfl
set_option maxHeartbeats 8000000 in
set_option maxRecDepth 100000 in
theorem make3_ (k lv:Int) (hk:k≠1∧k≠2) (sh bk:Bool) (w:World) (hT:Tabs w):
 Calls Tryz.prog 37 #[.int .i64 k,.int .i64 lv,.bool sh,.bool bk,.string ⟨#[]⟩] w fun e w'=> ∃B mb u,e= .returned (.tuple #[cV 3 (lvN lv:Nat) sh bk (some ⟨B,0,none⟩),rcV 3 (lvN lv:Nat) sh bk u,.bool true])∧TableAt w' B mb rootE∧RRows w' (fun b=>w.heap.size≤b) u (rootT 132)∧Ux.Touch (fun _=>False) w w':=by
 obtain ⟨m,hm,hm2⟩:=and16 lv
 have hlv:(((m:Int) % 3)+1:Int)=(lvN lv:Nat):=by
  unfold lvN
  rw [hm,Int.toNat_natCast]
  omega
 obtain ⟨LI,hLI⟩: ∃LI:Int,((lvN lv:Nat):Int)=LI:=⟨_,rfl⟩
 rw [hLI] at hlv⊢
 have q1:(k==1)=false:=by simpa using hk.1
 have q2:(k==2)=false:=by simpa using hk.2
 have m0:(0:Int)≤m:=by omega
 have m1:(m:Int)<65536:=by omega
 obtain ⟨q,hq⟩: ∃q,w.heap.size=q:=⟨_,rfl⟩
 have hb1:(w.alloc (.cells #[.int .i64 0,.int .i64 0,.bool false,.bool false,.pointer none] 43)).heap[q]? =some (.cells #[.int .i64 0,.int .i64 0,.bool false,.bool false,.pointer none] 43 (0,0)):=by rw [←hq];exact heap_alloc_new w _
 have T1:Ux.Touch (fun _=>False) w (w.alloc (.cells #[.int .i64 0,.int .i64 0,.bool false,.bool false,.pointer none] 43)):=(Ux.Touch.refl _ _).alloc _
 have hs1:(w.alloc (.cells #[.int .i64 0,.int .i64 0,.bool false,.bool false,.pointer none] 43)).heap.size=q+1:=by rw [World.size_alloc,hq]
 obtain ⟨W1,hW1⟩: ∃W,w.alloc (.cells #[.int .i64 0,.int .i64 0,.bool false,.bool false,.pointer none] 43)=W:=⟨_,rfl⟩
 rw [hW1] at hb1 T1 hs1
 have hb2:(W1.alloc (.cells #[.int .i64 0,.int .i64 0,.bool false,.bool false,.slice none 0 0] 105)).heap[q+1]? =some (.cells #[.int .i64 0,.int .i64 0,.bool false,.bool false,.slice none 0 0] 105 (0,0)):=by rw [←hs1];exact heap_alloc_new W1 _
 have T2:Ux.Touch (fun _=>False) W1 (W1.alloc (.cells #[.int .i64 0,.int .i64 0,.bool false,.bool false,.slice none 0 0] 105)):=(Ux.Touch.refl _ _).alloc _
 have hs2:(W1.alloc (.cells #[.int .i64 0,.int .i64 0,.bool false,.bool false,.slice none 0 0] 105)).heap.size=q+2:=by rw [World.size_alloc,hs1]
 have hb1':=T2.heap hb1 (fun f=>f)
 obtain ⟨W2,hW2⟩: ∃W,W1.alloc (.cells #[.int .i64 0,.int .i64 0,.bool false,.bool false,.slice none 0 0] 105)=W:=⟨_,rfl⟩
 rw [hW2] at hb2 T2 hs2 hb1'
 have HW:=Lib.hid (And.intro hW1 (And.intro hW2 (And.intro hq hs2)))
 have H2:=Lib.hid (And.intro (T1.trans T2 fun _ _ f=>f) (And.intro hb1' hb2))
 have HT:=Lib.hid hT
 clear hb1 T1 hs1 hb2 T2 hs2 hb1' hW1 hW2 hq hk hm2 hT hLI
 go_enter Tryz.func37,Tryz.ntmps37
 go_wp2_with (go_at_call 80;fail)
 rw [HW.out.1,HW.out.2.1,HW.out.2.2.1]
 refine (read0_ W2 (HT.out.touch H2.out.1)).mono ?_
 rintro e w3 ⟨B,mb,rfl,hTA,T3⟩
 have H3:=Lib.hid (And.intro hTA T3)
 clear hTA T3
 go_wp2_with (go_at_call 81;fail)
 refine (rread0_ w3).mono ?_
 rintro e w4 ⟨u,rfl,hR,T4⟩
 have hR4:=hR
 obtain ⟨_,a4,c4,hu4,_⟩:=hR
 subst hu4
 obtain ⟨n4,hn4⟩: ∃n,(rootT 132).length=n:=⟨_,rfl⟩
 rw [hn4] at hR4⊢
 obtain ⟨q6,hq6⟩: ∃q6,w4.heap.size=q6:=⟨_,rfl⟩
 have hb6:(w4.alloc (.cells #[.slice a4 n4 c4] 103)).heap[q6]? =some (.cells #[.slice a4 n4 c4] 103 (0,0)):=by rw [←hq6];exact heap_alloc_new w4 _
 have T5:Ux.Touch (fun _=>False) w4 (w4.alloc (.cells #[.slice a4 n4 c4] 103)):=(Ux.Touch.refl _ _).alloc _
 obtain ⟨W5,hW5⟩: ∃W,w4.alloc (.cells #[.slice a4 n4 c4] 103)=W:=⟨_,rfl⟩
 rw [hW5] at hb6 T5
 have T25:=H3.out.2.trans (T4.trans T5 fun _ _ f=>f) fun _ _ f=>f
 have HW5:=Lib.hid (And.intro hW5 hq6)
 have c6:W5.cell? ⟨q6,0,none⟩=some (.slice a4 n4 c4):=by rw [cell_of_row _ q6 0 _ _ (0,0) hb6];rfl
 have H5:=Lib.hid (And.intro (H3.out.1.touch0 (T4.trans T5 fun _ _ f=>f)) (And.intro (hR4.touch0 T5) (And.intro T25 (And.intro (T25.heap H2.out.2.1 (fun f=>f)) (T25.heap H2.out.2.2 (fun f=>f))))))
 have HN:=Lib.hid (And.intro hn4 H3.out.2.size)
 have H6s:=Lib.hid T4.size
 clear hR4 hb6 T4 T5 hW5 hq6 T25 hn4
 go_upto_region 11 with (fail)
 rw [HW5.out.1,HW5.out.2]
 have hq0:=H5.out.2.2.2.1
 have hq1:=H5.out.2.2.2.2
 have HQ:=Lib.hid (And.intro hq0 hq1)
 clear hq0 hq1
 refine Ux.wpr (fun _ w'=>w'.cell? ⟨q6,0,none⟩=some (.slice a4 n4 c4)) (.q [0,1,2,3,4,5,6,7,10,11] (.h true [8] (.q [9] (.e 12 false true (.e 13 false false (.line [14])))))) ?_;repeat ((with_reducible refine Ux.qg ?_);refine Ux.qu ?_)
 refine wpList_store_mid rfl 43 _ _ rfl q 0 #[.int .i64 3,.int .i64 LI,.bool sh,.bool bk,.pointer (some ⟨B,0,none⟩)] rfl rfl (by have h:=there_row (w:=W5.drew) HQ.out.1;exact h) (by kernel_rfl) (by simp [Value.oneCell']) ?_
 obtain ⟨W6,hW6⟩: ∃W,set5 W5.drew q (.int .i64 3) (.int .i64 LI) (.bool sh) (.bool bk) (.pointer (some ⟨B,0,none⟩))=W:=⟨_,rfl⟩
 have T6:Ux.Touch (fun b=>b=q) W5 W6:=by rw [←hW6];exact Ux.Touch.of_drew (set5_touch W5.drew q _ _ _ _ _)
 have hr6:W6.heap[q]? =some (.cells #[.int .i64 3,.int .i64 LI,.bool sh,.bool bk,.pointer (some ⟨B,0,none⟩)] 43 (0,0)):=by rw [←hW6];exact set5_row (w:=W5.drew) HQ.out.1 _ _ _ _ _
 have hq16:=T6.heap HQ.out.2 (by omega)
 have hqs:q+2≤q6:=by
  have h1:=HW5.out.2
  have h2:=HN.out.2
  have h3:=HW.out.2.2.2
  have h4:=H6s.out
  omega
 have c6:=T6.cell c6 (fun h=>by have h:q6=q:=h;omega)
 unfold set5 at hW6
 simp only [World.setCells] at hW6⊢
 rw [hW6]
 have HW6:=Lib.hid (And.intro T6 (And.intro hr6 (And.intro hq16 hqs)))
 clear hW6 T6 hr6 hq16 hqs
 refine ⟨c6,?_⟩
 repeat ((with_reducible refine Ux.qg ?_);refine Ux.qu ?_)
 refine wpList_store_mid rfl 105 _ _ rfl (q+1) 0 #[.int .i64 3,.int .i64 LI,.bool sh,.bool bk,.slice a4 n4 c4] rfl rfl (by have h:=there_row HW6.out.2.2.1;exact h) (by kernel_rfl) (by simp [Value.oneCell']) ?_
 clear c6
 obtain ⟨W7,hW7⟩: ∃W,set5 W6 (q+1) (.int .i64 3) (.int .i64 LI) (.bool sh) (.bool bk) (.slice a4 n4 c4)=W:=⟨_,rfl⟩
 have T7:Ux.Touch (fun b=>b=q+1) W6 W7:=by rw [←hW7];exact set5_touch W6 (q+1) _ _ _ _ _
 have hr7:W7.heap[q+1]? =some (.cells #[.int .i64 3,.int .i64 LI,.bool sh,.bool bk,.slice a4 n4 c4] 105 (0,0)):=by rw [←hW7];exact set5_row HW6.out.2.2.1 _ _ _ _ _
 have hr67:=T7.heap HW6.out.2.1 (by omega)
 unfold set5 at hW7
 simp only [World.setCells] at hW7⊢
 rw [hW7]
 have HW7:=Lib.hid (And.intro T7 (And.intro hr7 hr67))
 clear hW7 T7 hr7 hr67
 go_wp2
 have x0:=cell_of_row W7 q 0 _ _ (0,0) HW7.out.2.2
 have y0:=cell_of_row W7 (q+1) 0 _ _ (0,0) HW7.out.2.1
 have x1:=cell_of_row W7 q 1 _ _ (0,0) HW7.out.2.2
 have y1:=cell_of_row W7 (q+1) 1 _ _ (0,0) HW7.out.2.1
 have x2:=cell_of_row W7 q 2 _ _ (0,0) HW7.out.2.2
 have y2:=cell_of_row W7 (q+1) 2 _ _ (0,0) HW7.out.2.1
 have x3:=cell_of_row W7 q 3 _ _ (0,0) HW7.out.2.2
 have y3:=cell_of_row W7 (q+1) 3 _ _ (0,0) HW7.out.2.1
 have x4:=cell_of_row W7 q 4 _ _ (0,0) HW7.out.2.2
 have y4:=cell_of_row W7 (q+1) 4 _ _ (0,0) HW7.out.2.1
 simp at x0 x1 x2 x3 x4 y0 y1 y2 y3 y4
 refine bodyPost_ret (by simp [results,Tryz.results37,go_sem,x0,x1,x2,x3,x4,y0,y1,y2,y3,y4];try rfl) rfl ?_
 have hq:=HW.out.2.2.1
 have hq3:q+2≤w3.heap.size:=by have h1:=HN.out.2;have h2:=HW.out.2.2.2;omega
 refine ⟨B,mb,_,rfl,?_,?_,?_⟩
 ·refine ((H5.out.1.touchK HW6.out.1 ?_).touchK HW7.out.1 ?_)
  ·rintro b rfl
   exact ⟨_,_,HQ.out.1,by decide,by decide,fun u hu=>by simp at hu;rcases hu with rfl|rfl|rfl<;>exact ⟨fun _ h=>(by cases h),fun _ h=>(by cases h)⟩⟩
  ·rintro b rfl
   exact ⟨_,_,HW6.out.2.2.1,by decide,by decide,fun u hu=>by simp at hu;rcases hu with rfl|rfl|rfl<;>exact ⟨fun _ h=>(by cases h),fun _ h=>(by cases h)⟩⟩
 ·exact ((H5.out.2.1.touchB HW6.out.1 fun g _ h e=>by omega).touchB HW7.out.1 fun g _ h e=>by omega).mono fun g _ h=>by omega
 ·exact ((H2.out.1.trans H5.out.2.2.1 fun _ _ f=>f).trans (R:=fun _=>False) HW6.out.1 fun b hb h=>by omega).trans (R:=fun _=>False) HW7.out.1 fun b hb h=>by omega
end Go.Proofs.YtmnkinaaoifpeaaGreatDoor
namespace Go.Proofs.YtmnkinaaoifpeaaGreatDoor
open Go.RowKit
open Ux (Ent rootE rootT)
set_option maxHeartbeats 8000000 in
set_option maxRecDepth 100000 in
theorem make12_ (k lv:Int) (hk:k=1∨k=2) (sh bk:Bool) (s:ByteArray) (w:World):
 Calls Tryz.prog 37 #[.int .i64 k,.int .i64 lv,.bool sh,.bool bk,.string s] w fun e w'=>e= .returned (.tuple #[cV k 0 false false none,rcV k 0 false false (.slice none 0 0),.bool true])∧Ux.Touch (fun _=>False) w w':=by
 obtain ⟨q,hq⟩: ∃q,w.heap.size=q:=⟨_,rfl⟩
 have hb1:(w.alloc (.cells #[.int .i64 0,.int .i64 0,.bool false,.bool false,.pointer none] 43)).heap[q]? =some (.cells #[.int .i64 0,.int .i64 0,.bool false,.bool false,.pointer none] 43 (0,0)):=by rw [←hq];exact heap_alloc_new w _
 have T1:Ux.Touch (fun _=>False) w (w.alloc (.cells #[.int .i64 0,.int .i64 0,.bool false,.bool false,.pointer none] 43)):=(Ux.Touch.refl _ _).alloc _
 have hs1:(w.alloc (.cells #[.int .i64 0,.int .i64 0,.bool false,.bool false,.pointer none] 43)).heap.size=q+1:=by rw [World.size_alloc,hq]
 obtain ⟨W1,hW1⟩: ∃W,w.alloc (.cells #[.int .i64 0,.int .i64 0,.bool false,.bool false,.pointer none] 43)=W:=⟨_,rfl⟩
 rw [hW1] at hb1 T1 hs1
 have hb2:(W1.alloc (.cells #[.int .i64 0,.int .i64 0,.bool false,.bool false,.slice none 0 0] 105)).heap[q+1]? =some (.cells #[.int .i64 0,.int .i64 0,.bool false,.bool false,.slice none 0 0] 105 (0,0)):=by rw [←hs1];exact heap_alloc_new W1 _
 have T2:Ux.Touch (fun _=>False) W1 (W1.alloc (.cells #[.int .i64 0,.int .i64 0,.bool false,.bool false,.slice none 0 0] 105)):=(Ux.Touch.refl _ _).alloc _
 have hb1':=T2.heap hb1 (fun f=>f)
 obtain ⟨W2,hW2⟩: ∃W,W1.alloc (.cells #[.int .i64 0,.int .i64 0,.bool false,.bool false,.slice none 0 0] 105)=W:=⟨_,rfl⟩
 rw [hW2] at hb2 T2 hb1'
 have HW:=Lib.hid (And.intro hW1 (And.intro hW2 (And.intro hq hs1)))
 have H2:=Lib.hid (And.intro (T1.trans T2 fun _ _ f=>f) (And.intro hb1' hb2))
 clear hb1 T1 hs1 hb2 T2 hb1' hW1 hW2 hq
 have hk1:(k==1)=true∨(k==1)=false∧(k==2)=true:=by
  rcases hk with rfl|rfl
  ·exact .inl rfl
  ·exact .inr ⟨rfl,rfl⟩
 clear hk
 go_enter Tryz.func37,Tryz.ntmps37
 go_upto_region 1 with (fail)
 rw [HW.out.1,HW.out.2.1,HW.out.2.2.1]
 rcases hk1 with hk1|⟨hk1,hk2⟩
 all_goals
  go_upto_region 2 with (fail)
  go_wp2_with (first
   |(refine Ux.is_store 43 rfl ?_
     refine wpList_store_mid rfl 43 _ _ rfl q 0 #[.int .i64 k,.int .i64 0,.bool false,.bool false,.pointer none] rfl rfl (by have h:=there_row H2.out.2.1;exact h) (by kernel_rfl) (by simp [Value.oneCell']) ?_
     obtain ⟨W6,hW6⟩: ∃W,set5 W2 q (.int .i64 k) (.int .i64 0) (.bool false) (.bool false) (.pointer none)=W:=⟨_,rfl⟩
     have T6:Ux.Touch (fun b=>b=q) W2 W6:=by rw [←hW6];exact set5_touch W2 q _ _ _ _ _
     have hr6:W6.heap[q]? =some (.cells #[.int .i64 k,.int .i64 0,.bool false,.bool false,.pointer none] 43 (0,0)):=by rw [←hW6];exact set5_row (w:=W2) H2.out.2.1 _ _ _ _ _
     have hq16:=T6.heap H2.out.2.2 (by omega)
     unfold set5 at hW6
     simp only [World.setCells] at hW6⊢
     rw [hW6]
     have HW6:=Lib.hid (And.intro T6 (And.intro hr6 hq16))
     clear hW6 T6 hr6 hq16)
   |(refine Ux.is_store 105 rfl ?_
     refine wpList_store_mid rfl 105 _ _ rfl (q+1) 0 #[.int .i64 k,.int .i64 0,.bool false,.bool false,.slice none 0 0] rfl rfl (by have h:=there_row HW6.out.2.2;exact h) (by kernel_rfl) (by simp [Value.oneCell']) ?_
     obtain ⟨W7,hW7⟩: ∃W,set5 W6 (q+1) (.int .i64 k) (.int .i64 0) (.bool false) (.bool false) (.slice none 0 0)=W:=⟨_,rfl⟩
     have T7:Ux.Touch (fun b=>b=q+1) W6 W7:=by rw [←hW7];exact set5_touch W6 (q+1) _ _ _ _ _
     have hr7:W7.heap[q+1]? =some (.cells #[.int .i64 k,.int .i64 0,.bool false,.bool false,.slice none 0 0] 105 (0,0)):=by rw [←hW7];exact set5_row HW6.out.2.2 _ _ _ _ _
     have hr67:=T7.heap HW6.out.2.1 (by omega)
     unfold set5 at hW7
     simp only [World.setCells] at hW7⊢
     rw [hW7]
     have x0:=cell_of_row W7 q 0 _ _ (0,0) hr67
     have y0:=cell_of_row W7 (q+1) 0 _ _ (0,0) hr7
     have x1:=cell_of_row W7 q 1 _ _ (0,0) hr67
     have y1:=cell_of_row W7 (q+1) 1 _ _ (0,0) hr7
     have x2:=cell_of_row W7 q 2 _ _ (0,0) hr67
     have y2:=cell_of_row W7 (q+1) 2 _ _ (0,0) hr7
     have x3:=cell_of_row W7 q 3 _ _ (0,0) hr67
     have y3:=cell_of_row W7 (q+1) 3 _ _ (0,0) hr7
     have x4:=cell_of_row W7 q 4 _ _ (0,0) hr67
     have y4:=cell_of_row W7 (q+1) 4 _ _ (0,0) hr7
     simp at x0 y0 x1 y1 x2 y2 x3 y3 x4 y4
     have HW7:=Lib.hid T7
     clear hW7 T7 hr7 hr67))
  refine bodyPost_ret (by simp [results,Tryz.results37,go_sem,x0,x1,x2,x3,x4,y0,y1,y2,y3,y4];try rfl) rfl ?_
  refine ⟨rfl,?_⟩
  have hq:=HW.out.2.2.1
  exact (H2.out.1.trans (R:=fun _=>False) HW6.out.1 fun b hb h=>by omega).trans (R:=fun _=>False) HW7.out fun b hb h=>by omega
end Go.Proofs.YtmnkinaaoifpeaaGreatDoor
namespace Go.Proofs.YtmnkinaaoifpeaaGreatDoor
open Go.RowKit
theorem madeS_ (k lv:Int) (sh bk:Bool) (w:World) (hT:Tabs w):Calls Tryz.prog 37 #[.int .i64 k,.int .i64 lv,.bool sh,.bool bk,.string ⟨#[]⟩] w fun e w'=> ∃(kd LN:Int) (sh' bk':Bool) (tb x:Option Addr) (n c:Nat),
 e= .returned (.tuple #[cS kd LN sh' bk' tb,rcV kd LN sh' bk' (.slice x n c),.bool true])∧okS kd LN tb=true∧Ux.Touch (fun _=>False) w w':=by
 by_cases hk:k=1∨k=2
 ·refine (make12_ k lv hk sh bk ⟨#[]⟩ w).mono ?_
  rintro e w' ⟨rfl,T⟩
  refine ⟨k,0,false,false,none,none,0,0,rfl,?_,T⟩
  rcases hk with rfl|rfl<;>rfl
 ·have h1:k≠1∧k≠2:=⟨fun e=>hk (.inl e),fun e=>hk (.inr e)⟩
  refine (make3_ k lv h1 sh bk w hT).mono ?_
  rintro e w' ⟨B,mb,u,rfl,hTA,hR,T⟩
  obtain ⟨_,a,c,rfl,_⟩:=hR
  refine ⟨3,lvN lv,sh,bk,some ⟨B,0,none⟩,a,_,c,rfl,?_,T⟩
  have h2:=lvN_le lv
  unfold okS
  have h3:(1:Int)≤(lvN lv:Nat)∧((lvN lv:Nat):Int)≤3:=by omega
  simp [h3.1,h3.2]
end Go.Proofs.YtmnkinaaoifpeaaGreatDoor
