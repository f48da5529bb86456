/- A part of the proof that the statement holds for every input that it names. No other condition. -/
import Derived.Test.YtikmdhhbamggfaaGreatDoorReadBZ
import Derived.Test.YtikmdhhbamggfaaGreatDoorUxKeyAZ
import Derived.Lib.OwnKind
import Derived.Test.YtikmdhhbamggfaaGreatDoorRcollAZ
import Derived.Test.YtikmdhhbamggfaaGreatDoorStrmAZ
set_option linter.unusedVariables false
set_option linter.unusedSimpArgs false
namespace Go.Proofs.YtikmdhhbamggfaaGreatDoor
open Go.RowKit
open Ux (Ent rootE rootT)
set_option maxHeartbeats 8000000 in
set_option maxRecDepth 100000 in
theorem make12_ (k lv:Int) (hk:k=1∨k=2) (sh bk:Bool) (s:ByteArray) (w:World):
 Calls Tryz.prog 16 #[.int .i64 k,.int .i64 lv,.bool sh,.bool bk,.string s] w fun e w'=>e= .returned (.tuple #[cV k 0 false false none,rcV k 0 false false (.slice none 0 0),.bool true])∧Ux.Touch (fun _=>False) w w':=by
 obtain ⟨q,hq⟩: ∃q,w.heap.size=q:=⟨_,rfl⟩
 have hb1:(w.alloc (.cells #[.int .i64 0,.int .i64 0,.bool false,.bool false,.pointer none] 25)).heap[q]? =some (.cells #[.int .i64 0,.int .i64 0,.bool false,.bool false,.pointer none] 25 (0,0)):=by rw [←hq];exact heap_alloc_new w _
 have T1:Ux.Touch (fun _=>False) w (w.alloc (.cells #[.int .i64 0,.int .i64 0,.bool false,.bool false,.pointer none] 25)):=(Ux.Touch.refl _ _).alloc _
 have hs1:(w.alloc (.cells #[.int .i64 0,.int .i64 0,.bool false,.bool false,.pointer none] 25)).heap.size=q+1:=by rw [World.size_alloc,hq]
 obtain ⟨W1,hW1⟩: ∃W,w.alloc (.cells #[.int .i64 0,.int .i64 0,.bool false,.bool false,.pointer none] 25)=W:=⟨_,rfl⟩
 rw [hW1] at hb1 T1 hs1
 have hb2:(W1.alloc (.cells #[.int .i64 0,.int .i64 0,.bool false,.bool false,.slice none 0 0] 30)).heap[q+1]? =some (.cells #[.int .i64 0,.int .i64 0,.bool false,.bool false,.slice none 0 0] 30 (0,0)):=by rw [←hs1];exact heap_alloc_new W1 _
 have T2:Ux.Touch (fun _=>False) W1 (W1.alloc (.cells #[.int .i64 0,.int .i64 0,.bool false,.bool false,.slice none 0 0] 30)):=(Ux.Touch.refl _ _).alloc _
 have hb1':=T2.heap hb1 (fun f=>f)
 obtain ⟨W2,hW2⟩: ∃W,W1.alloc (.cells #[.int .i64 0,.int .i64 0,.bool false,.bool false,.slice none 0 0] 30)=W:=⟨_,rfl⟩
 rw [hW2] at hb2 T2 hb1'
 have HW:=Lib.hid (And.intro hW1 (And.intro hW2 (And.intro hq hs1)))
 have H2:=Lib.hid (And.intro (T1.trans T2 fun _ _ f=>f) (And.intro hb1' hb2))
 clear hb1 T1 hs1 hb2 T2 hb1' hW1 hW2 hq
 have hk1:(k==1)=true∨(k==1)=false∧(k==2)=true:=by
  rcases hk with rfl|rfl
  ·exact .inl rfl
  ·exact .inr ⟨rfl,rfl⟩
 clear hk
 go_enter Tryz.func16,Tryz.ntmps16
 go_upto_region 1 with (fail)
 rw [HW.out.1,HW.out.2.1,HW.out.2.2.1]
 rcases hk1 with hk1|⟨hk1,hk2⟩
 all_goals
  go_upto_region 2 with (fail)
  go_wp2_with (first
   |(refine Ux.is_store 25 rfl ?_
     refine wpList_store_mid rfl 25 _ _ rfl q 0 #[.int .i64 k,.int .i64 0,.bool false,.bool false,.pointer none] rfl rfl (by have h:=there_row H2.out.2.1;exact h) (by kernel_rfl) (by simp [Value.oneCell']) ?_
     obtain ⟨W6,hW6⟩: ∃W,set5 W2 q (.int .i64 k) (.int .i64 0) (.bool false) (.bool false) (.pointer none)=W:=⟨_,rfl⟩
     have T6:Ux.Touch (fun b=>b=q) W2 W6:=by rw [←hW6];exact set5_touch W2 q _ _ _ _ _
     have hr6:W6.heap[q]? =some (.cells #[.int .i64 k,.int .i64 0,.bool false,.bool false,.pointer none] 25 (0,0)):=by rw [←hW6];exact set5_row (w:=W2) H2.out.2.1 _ _ _ _ _
     have hq16:=T6.heap H2.out.2.2 (by omega)
     unfold set5 at hW6
     simp only [World.setCells] at hW6⊢
     rw [hW6]
     have HW6:=Lib.hid (And.intro T6 (And.intro hr6 hq16))
     clear hW6 T6 hr6 hq16)
   |(refine Ux.is_store 30 rfl ?_
     refine wpList_store_mid rfl 30 _ _ rfl (q+1) 0 #[.int .i64 k,.int .i64 0,.bool false,.bool false,.slice none 0 0] rfl rfl (by have h:=there_row HW6.out.2.2;exact h) (by kernel_rfl) (by simp [Value.oneCell']) ?_
     obtain ⟨W7,hW7⟩: ∃W,set5 W6 (q+1) (.int .i64 k) (.int .i64 0) (.bool false) (.bool false) (.slice none 0 0)=W:=⟨_,rfl⟩
     have T7:Ux.Touch (fun b=>b=q+1) W6 W7:=by rw [←hW7];exact set5_touch W6 (q+1) _ _ _ _ _
     have hr7:W7.heap[q+1]? =some (.cells #[.int .i64 k,.int .i64 0,.bool false,.bool false,.slice none 0 0] 30 (0,0)):=by rw [←hW7];exact set5_row HW6.out.2.2 _ _ _ _ _
     have hr67:=T7.heap HW6.out.2.1 (by omega)
     unfold set5 at hW7
     simp only [World.setCells] at hW7⊢
     rw [hW7]
     have x0:=cell_of_row W7 q 0 _ _ (0,0) hr67
     have y0:=cell_of_row W7 (q+1) 0 _ _ (0,0) hr7
     have x1:=cell_of_row W7 q 1 _ _ (0,0) hr67
     have y1:=cell_of_row W7 (q+1) 1 _ _ (0,0) hr7
     have x2:=cell_of_row W7 q 2 _ _ (0,0) hr67
     have y2:=cell_of_row W7 (q+1) 2 _ _ (0,0) hr7
     have x3:=cell_of_row W7 q 3 _ _ (0,0) hr67
     have y3:=cell_of_row W7 (q+1) 3 _ _ (0,0) hr7
     have x4:=cell_of_row W7 q 4 _ _ (0,0) hr67
     have y4:=cell_of_row W7 (q+1) 4 _ _ (0,0) hr7
     simp at x0 y0 x1 y1 x2 y2 x3 y3 x4 y4
     have HW7:=Lib.hid T7
     clear hW7 T7 hr7 hr67))
  refine bodyPost_ret (by simp [results,Tryz.results16,go_sem,x0,x1,x2,x3,x4,y0,y1,y2,y3,y4];try rfl) rfl ?_
  refine ⟨rfl,?_⟩
  have hq:=HW.out.2.2.1
  exact (H2.out.1.trans (R:=fun _=>False) HW6.out.1 fun b hb h=>by omega).trans (R:=fun _=>False) HW7.out fun b hb h=>by omega
end Go.Proofs.YtikmdhhbamggfaaGreatDoor
namespace Go.Proofs.YtikmdhhbamggfaaGreatDoor
open Go.RowKit
open Ux (Row iv sv bv Ent wts okT Grow encW sepW keyL)
def rkeyC (kd lv:Int) (sh bk:Bool) (T:List Ent) (b:ByteArray):ByteArray:=
 if kd=2 then ftB b else if kd=3 then ⟨(keyL sh bk (elB T b) lv.toNat).toArray⟩ else b
end Go.Proofs.YtikmdhhbamggfaaGreatDoor
namespace Go.Proofs.YtikmdhhbamggfaaGreatDoor
open Go.RowKit
open Ux (Ent rootE rootT SameE okT wghC keyL cmpB eLetter)
open Ux.Sign (cp raw signs)
def RAtG (w:World) (q:Nat) (kd lv:Int) (sh bk:Bool) (u:Value):Prop:=
 w.cell? ⟨q,0,none⟩=some (.int .i64 kd)∧w.cell? ⟨q,1,none⟩=some (.int .i64 lv)∧w.cell? ⟨q,2,none⟩=some (.bool sh)∧w.cell? ⟨q,3,none⟩=some (.bool bk)∧w.cell? ⟨q,4,none⟩=some u
theorem RAtG.of {w:World} {q:Nat} {kd lv:Int} {sh bk:Bool} {u:Value} (h:w.heap[q]? =some (.cells #[.int .i64 kd,.int .i64 lv,.bool sh,.bool bk,u] 30 (0,0))):RAtG w q kd lv sh bk u:=by
 refine ⟨?_,?_,?_,?_,?_⟩
 ·rw [cell_of_row w q 0 _ _ (0,0) h];rfl
 ·rw [cell_of_row w q 1 _ _ (0,0) h];rfl
 ·rw [cell_of_row w q 2 _ _ (0,0) h];rfl
 ·rw [cell_of_row w q 3 _ _ (0,0) h];rfl
 ·rw [cell_of_row w q 4 _ _ (0,0) h];rfl
theorem RAtG.touch {w w':World} {q:Nat} {kd lv:Int} {sh bk:Bool} {u:Value} (h:RAtG w q kd lv sh bk u) (T:Ux.Touch (fun _=>False) w w'):RAtG w' q kd lv sh bk u:=
 ⟨T.cell h.1 (fun f=>f),T.cell h.2.1 (fun f=>f),T.cell h.2.2.1 (fun f=>f),T.cell h.2.2.2.1 (fun f=>f),T.cell h.2.2.2.2 (fun f=>f)⟩
structure MadeC (w:World) (lo:Nat) (kd:Int) (LN:Nat) (sh bk:Bool) (tb:Option Addr) (u:Value) (E T:List Ent):Prop where
 kind:kd=1∨kd=2∨kd=3
 lv:kd=3→1≤LN∧LN≤3
 ok:okC kd LN tb=true
 tab:CTab w kd tb E
 shape: ∃x n c,u= .slice x n c
 rows:kd=3→RRows w (fun b=>lo≤b) u T∧T.length≤1000
 okE:okT E
 same:SameE E T
theorem MadeC.touch {w w':World} {lo:Nat} {kd:Int} {LN:Nat} {sh bk:Bool} {tb:Option Addr} {u:Value} {E T:List Ent} (h:MadeC w lo kd LN sh bk tb u E T) (t:Ux.Touch (fun _=>False) w w'):MadeC w' lo kd LN sh bk tb u E T:=
 ⟨h.kind,h.lv,h.ok,h.tab.touch t,h.shape,fun e=>⟨(h.rows e).1.touch0 t,(h.rows e).2⟩,h.okE,h.same⟩
theorem MadeC.el {w:World} {lo:Nat} {kd:Int} {LN:Nat} {sh bk:Bool} {tb:Option Addr} {u:Value} {E T:List Ent} (h:MadeC w lo kd LN sh bk tb u E T) (a:ByteArray):elB E a=elB T a:=by
 unfold elB
 exact Ux.elemsE_congr (Ux.findE_perm h.okE.1 h.same.1) _
theorem MadeC.cmp {w:World} {lo:Nat} {kd:Int} {LN:Nat} {sh bk:Bool} {tb:Option Addr} {u:Value} {E T:List Ent} (h:MadeC w lo kd LN sh bk tb u E T) (a b:ByteArray):cmpC kd LN sh bk tb E a b=rcmpC kd LN sh bk T a b:=by
 unfold cmpC rcmpC
 rw [h.ok,if_pos rfl,h.el a,h.el b]
 by_cases h3:kd=3
 ·subst h3
  rw [if_pos rfl,if_neg (by decide),if_pos rfl]
 ·rw [if_neg h3,if_neg h3]
theorem MadeC.key {w:World} {lo:Nat} {kd:Int} {LN:Nat} {sh bk:Bool} {tb:Option Addr} {u:Value} {E T:List Ent} (h:MadeC w lo kd LN sh bk tb u E T) (a:ByteArray):keyP kd LN sh bk tb E a=rkeyC kd LN sh bk T a:=by
 unfold keyP rkeyC
 rw [h.ok,if_pos rfl,h.el a]
 by_cases h3:kd=3
 ·subst h3
  rw [if_pos rfl,if_neg (by decide),if_pos rfl]
 ·rw [if_neg h3,if_neg h3]
theorem cmpStr_B (a b:ByteArray):cmpB a.data.toList b.data.toList=cmpStr a b:=by
 rw [Ux.cmpB_less]
 unfold cmpStr Ux.slt
 rw [Lib.toList_data,Lib.toList_data]
theorem MadeC.order {w:World} {lo:Nat} {kd:Int} {LN:Nat} {sh bk:Bool} {tb:Option Addr} {u:Value} {E T:List Ent} (h:MadeC w lo kd LN sh bk tb u E T) (a b:ByteArray):cmpB (keyP kd LN sh bk tb E a).data.toList (keyP kd LN sh bk tb E b).data.toList=cmpC kd LN sh bk tb E a b:=by
 unfold keyP cmpC
 rw [h.ok,if_pos rfl,if_pos rfl,if_pos rfl]
 by_cases h3:kd=3
 ·subst h3
  rw [if_pos rfl,if_pos rfl,if_pos rfl,Int.toNat_natCast]
  exact Ux.key_order sh bk _ _ (elB_ok h.okE a).2 (elB_ok h.okE b).2 LN (h.lv rfl).1 (h.lv rfl).2
 ·rw [if_neg h3,if_neg h3,if_neg h3]
  by_cases h2:kd=2
  ·rw [if_pos h2,if_pos h2,if_pos h2,cmpStr_B]
  ·rw [if_neg h2,if_neg h2,if_neg h2,cmpStr_B]
theorem MadeC.keylen {w:World} {lo:Nat} {kd:Int} {LN:Nat} {sh bk:Bool} {tb:Option Addr} {u:Value} {E T:List Ent} (h:MadeC w lo kd LN sh bk tb u E T) (a:ByteArray) (ha:a.size≤1000000):(keyP kd LN sh bk tb E a).size≤1000000000:=by
 unfold keyP
 rw [h.ok,if_pos rfl]
 split
 ·rename_i h3
  have h1:=Ux.keyL_len sh bk (elB E a) LN
  have h2:=(elB_ok h.okE a).1
  have h4:=(h.lv h3).2
  show ((keyL sh bk (elB E a) (LN:Int).toNat).toArray).size≤_
  rw [List.size_toArray,Int.toNat_natCast]
  have h5:LN*(2+2*(elB E a).length)≤3*(2+2*(elB E a).length):=Nat.mul_le_mul_right _ h4
  omega
 ·split
  ·have:=ftB_size a
   omega
  ·omega
theorem rootE_okT:okT rootE:=⟨Ux.rootE_nodup,Ux.rootE_ok⟩
theorem el_b:elB rootE ⟨#[98]⟩= [eLetter 1 2]:=by
 unfold elB
 rw [sg_1 98 (by decide)]
 decide+kernel
theorem aw9k (p:Addr):keyP 3 (2:Nat) false false (some p) rootE ⟨#[97]⟩=⟨#[1,0,0,0,32]⟩:=by
 unfold keyP
 rw [ok3 2 (by decide) p,if_pos rfl,if_pos rfl,el_a]
 decide+kernel
theorem aw9k2 (p:Addr):keyP 3 (2:Nat) false false (some p) rootE ⟨#[98]⟩=⟨#[1,8,0,0,32]⟩:=by
 unfold keyP
 rw [ok3 2 (by decide) p,if_pos rfl,if_pos rfl,el_b]
 decide+kernel
set_option maxHeartbeats 8000000 in
set_option maxRecDepth 100000 in
theorem awake9_ (w:World) (hT:Tabs w):Calls Tryz.prog 24 #[] w fun e w'=>e= .returned (.bool true)∧Ux.Touch (fun _=>False) w w':=by
 have HT:=Lib.hid hT
 have m1:=make3_ 3 1 (by decide) false false w hT
 rw [lvN1] at m1
 have HM1:=Lib.hid m1
 clear m1 hT
 go_enter Tryz.func24,Tryz.ntmps24
 go_wp2_with (go_at_call 16;fail)
 refine HM1.out.mono ?_
 rintro e w1 ⟨B1,mb1,u1,rfl,hT1,hR1,T1⟩
 obtain ⟨_,a1,c1,rfl,_⟩:=hR1
 unfold cV rcV
 obtain ⟨W1,hW1⟩: ∃W,(w1.alloc (.cells #[.int .i64 3,.int .i64 2,.bool false,.bool false,.pointer (some ⟨B1,0,none⟩)] 25)).alloc (.cells #[.int .i64 3,.int .i64 2,.bool false,.bool false,.slice a1 (rootT 132).length c1] 30)=W:=⟨_,rfl⟩
 have t1:Ux.Touch (fun _=>False) w1 W1:=by rw [←hW1];exact ((Ux.Touch.refl _ _).alloc _).alloc _
 have r1:W1.heap[w1.heap.size]? =some (.cells #[.int .i64 3,.int .i64 2,.bool false,.bool false,.pointer (some ⟨B1,0,none⟩)] 25 (0,0)):=by rw [←hW1];exact ((Ux.Touch.refl (fun _=>False) _).alloc _).heap (heap_alloc_new w1 _) (fun f=>f)
 obtain ⟨q1,hq1⟩: ∃q,w1.heap.size=q:=⟨_,rfl⟩
 rw [hq1] at r1
 have hTT:=T1.trans t1 fun _ _ f=>f
 have hCT:CTab W1 3 (some ⟨B1,0,none⟩) rootE:=fun _ p hp=>by cases hp;exact ⟨B1,mb1,rfl,hT1.touch0 t1⟩
 have HK:=Lib.hid fun W (T:Ux.Touch (fun _=>False) W1 W)=>skey_ 3 (2:Nat) false false (some ⟨B1,0,none⟩) rootE ⟨#[97]⟩ W (by decide) (HT.out.touch (hTT.trans T fun _ _ f=>f)) (hCT.touch T) (by rw [aw9k];decide)
 have HC:=Lib.hid fun W (T:Ux.Touch (fun _=>False) W1 W)=>kcmp_ 3 (2:Nat) false false (some ⟨B1,0,none⟩) rootE ⟨#[97]⟩ ⟨#[98]⟩ W (by decide) (by decide) (HT.out.touch (hTT.trans T fun _ _ f=>f)) (hCT.touch T) (by rw [aw9k];decide) (by rw [aw9k2];decide)
 rw [aw9k] at HK HC
 rw [aw9k2,show cmpB (⟨#[1,0,0,0,32]⟩:ByteArray).data.toList (⟨#[1,8,0,0,32]⟩:ByteArray).data.toList= -1 by decide+kernel] at HC
 have HW1:=Lib.hid (And.intro hW1 hq1)
 have HA:=Lib.hid fun W (T:Ux.Touch (fun _=>False) W1 W)=>(CAt.of r1).touch T
 have H1:=Lib.hid hTT
 clear hT1 T1 t1 r1 hW1 hq1 hTT hCT
 unfold cV at HK HC
 go_upto_region 2 with (fail)
 rw [HW1.out.1,HW1.out.2]
 obtain ⟨x0,x1,x2,x3,x4⟩:=HA.out W1 (Ux.Touch.refl _ _)
 go_wp2_with (go_at_call 26;fail)
 refine (HK.out W1 (Ux.Touch.refl _ _)).mono ?_
 rintro e w2 ⟨rfl,T2⟩
 have H2:=Lib.hid T2
 clear T2 x0 x1 x2 x3 x4
 obtain ⟨x0,x1,x2,x3,x4⟩:=HA.out w2 H2.out
 go_wp2_with (go_at_call 30;fail)
 refine (HC.out w2 H2.out).mono ?_
 rintro e w3 ⟨rfl,T3⟩
 have H3:=Lib.hid (H1.out.trans (H2.out.trans T3 fun _ _ f=>f) fun _ _ f=>f)
 clear T3 x0 x1 x2 x3 x4
 go_wp2
 go_returns
 exact ⟨rfl,H3.out⟩
end Go.Proofs.YtikmdhhbamggfaaGreatDoor
