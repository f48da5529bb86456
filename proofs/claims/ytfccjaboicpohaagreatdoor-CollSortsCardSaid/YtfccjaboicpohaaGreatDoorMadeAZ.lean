/- A part of the proof that the statement holds for every input that it names. No other condition. -/
import Derived.Test.YtfccjaboicpohaaGreatDoorReadBZ
import Derived.Test.YtfccjaboicpohaaGreatDoorUxKeyAZ
import Derived.Lib.OwnKind
import Derived.Test.YtfccjaboicpohaaGreatDoorRcollAZ
import Derived.Test.YtfccjaboicpohaaGreatDoorStrmAZ
set_option linter.unusedVariables false
set_option linter.unusedSimpArgs false
namespace Go.Proofs.YtfccjaboicpohaaGreatDoor
open Go.RowKit
open Ux (Ent rootE rootT)
set_option maxHeartbeats 8000000 in
set_option maxRecDepth 100000 in
theorem make12_ (k lv:Int) (hk:k=1∨k=2) (sh bk:Bool) (s:ByteArray) (w:World):
 Calls Tryz.prog 26 #[.int .i64 k,.int .i64 lv,.bool sh,.bool bk,.string s] w fun e w'=>e= .returned (.tuple #[cV k 0 false false none,rcV k 0 false false (.slice none 0 0),.bool true])∧Ux.Touch (fun _=>False) w w':=by
 obtain ⟨q,hq⟩: ∃q,w.heap.size=q:=⟨_,rfl⟩
 have hb1:(w.alloc (.cells #[.int .i64 0,.int .i64 0,.bool false,.bool false,.pointer none] 66)).heap[q]? =some (.cells #[.int .i64 0,.int .i64 0,.bool false,.bool false,.pointer none] 66 (0,0)):=by rw [←hq];exact heap_alloc_new w _
 have T1:Ux.Touch (fun _=>False) w (w.alloc (.cells #[.int .i64 0,.int .i64 0,.bool false,.bool false,.pointer none] 66)):=(Ux.Touch.refl _ _).alloc _
 have hs1:(w.alloc (.cells #[.int .i64 0,.int .i64 0,.bool false,.bool false,.pointer none] 66)).heap.size=q+1:=by rw [World.size_alloc,hq]
 obtain ⟨W1,hW1⟩: ∃W,w.alloc (.cells #[.int .i64 0,.int .i64 0,.bool false,.bool false,.pointer none] 66)=W:=⟨_,rfl⟩
 rw [hW1] at hb1 T1 hs1
 have hb2:(W1.alloc (.cells #[.int .i64 0,.int .i64 0,.bool false,.bool false,.slice none 0 0] 68)).heap[q+1]? =some (.cells #[.int .i64 0,.int .i64 0,.bool false,.bool false,.slice none 0 0] 68 (0,0)):=by rw [←hs1];exact heap_alloc_new W1 _
 have T2:Ux.Touch (fun _=>False) W1 (W1.alloc (.cells #[.int .i64 0,.int .i64 0,.bool false,.bool false,.slice none 0 0] 68)):=(Ux.Touch.refl _ _).alloc _
 have hb1':=T2.heap hb1 (fun f=>f)
 obtain ⟨W2,hW2⟩: ∃W,W1.alloc (.cells #[.int .i64 0,.int .i64 0,.bool false,.bool false,.slice none 0 0] 68)=W:=⟨_,rfl⟩
 rw [hW2] at hb2 T2 hb1'
 have HW:=Lib.hid (And.intro hW1 (And.intro hW2 (And.intro hq hs1)))
 have H2:=Lib.hid (And.intro (T1.trans T2 fun _ _ f=>f) (And.intro hb1' hb2))
 clear hb1 T1 hs1 hb2 T2 hb1' hW1 hW2 hq
 have hk1:(k==1)=true∨(k==1)=false∧(k==2)=true:=by
  rcases hk with rfl|rfl
  ·exact .inl rfl
  ·exact .inr ⟨rfl,rfl⟩
 clear hk
 go_enter Tryz.func26,Tryz.ntmps26
 go_upto_region 1 with (fail)
 rw [HW.out.1,HW.out.2.1,HW.out.2.2.1]
 rcases hk1 with hk1|⟨hk1,hk2⟩
 all_goals
  go_upto_region 2 with (fail)
  go_wp2_with (first
   |(refine Ux.is_store 66 rfl ?_
     refine wpList_store_mid rfl 66 _ _ rfl q 0 #[.int .i64 k,.int .i64 0,.bool false,.bool false,.pointer none] rfl rfl (by have h:=there_row H2.out.2.1;exact h) (by kernel_rfl) (by simp [Value.oneCell']) ?_
     obtain ⟨W6,hW6⟩: ∃W,set5 W2 q (.int .i64 k) (.int .i64 0) (.bool false) (.bool false) (.pointer none)=W:=⟨_,rfl⟩
     have T6:Ux.Touch (fun b=>b=q) W2 W6:=by rw [←hW6];exact set5_touch W2 q _ _ _ _ _
     have hr6:W6.heap[q]? =some (.cells #[.int .i64 k,.int .i64 0,.bool false,.bool false,.pointer none] 66 (0,0)):=by rw [←hW6];exact set5_row (w:=W2) H2.out.2.1 _ _ _ _ _
     have hq16:=T6.heap H2.out.2.2 (by omega)
     unfold set5 at hW6
     simp only [World.setCells] at hW6⊢
     rw [hW6]
     have HW6:=Lib.hid (And.intro T6 (And.intro hr6 hq16))
     clear hW6 T6 hr6 hq16)
   |(refine Ux.is_store 68 rfl ?_
     refine wpList_store_mid rfl 68 _ _ rfl (q+1) 0 #[.int .i64 k,.int .i64 0,.bool false,.bool false,.slice none 0 0] rfl rfl (by have h:=there_row HW6.out.2.2;exact h) (by kernel_rfl) (by simp [Value.oneCell']) ?_
     obtain ⟨W7,hW7⟩: ∃W,set5 W6 (q+1) (.int .i64 k) (.int .i64 0) (.bool false) (.bool false) (.slice none 0 0)=W:=⟨_,rfl⟩
     have T7:Ux.Touch (fun b=>b=q+1) W6 W7:=by rw [←hW7];exact set5_touch W6 (q+1) _ _ _ _ _
     have hr7:W7.heap[q+1]? =some (.cells #[.int .i64 k,.int .i64 0,.bool false,.bool false,.slice none 0 0] 68 (0,0)):=by rw [←hW7];exact set5_row HW6.out.2.2 _ _ _ _ _
     have hr67:=T7.heap HW6.out.2.1 (by omega)
     unfold set5 at hW7
     simp only [World.setCells] at hW7⊢
     rw [hW7]
     have x0:=cell_of_row W7 q 0 _ _ (0,0) hr67
     have y0:=cell_of_row W7 (q+1) 0 _ _ (0,0) hr7
     have x1:=cell_of_row W7 q 1 _ _ (0,0) hr67
     have y1:=cell_of_row W7 (q+1) 1 _ _ (0,0) hr7
     have x2:=cell_of_row W7 q 2 _ _ (0,0) hr67
     have y2:=cell_of_row W7 (q+1) 2 _ _ (0,0) hr7
     have x3:=cell_of_row W7 q 3 _ _ (0,0) hr67
     have y3:=cell_of_row W7 (q+1) 3 _ _ (0,0) hr7
     have x4:=cell_of_row W7 q 4 _ _ (0,0) hr67
     have y4:=cell_of_row W7 (q+1) 4 _ _ (0,0) hr7
     simp at x0 y0 x1 y1 x2 y2 x3 y3 x4 y4
     have HW7:=Lib.hid T7
     clear hW7 T7 hr7 hr67))
  refine bodyPost_ret (by simp [results,Tryz.results26,go_sem,x0,x1,x2,x3,x4,y0,y1,y2,y3,y4];try rfl) rfl ?_
  refine ⟨rfl,?_⟩
  have hq:=HW.out.2.2.1
  exact (H2.out.1.trans (R:=fun _=>False) HW6.out.1 fun b hb h=>by omega).trans (R:=fun _=>False) HW7.out fun b hb h=>by omega
end Go.Proofs.YtfccjaboicpohaaGreatDoor
namespace Go.Proofs.YtfccjaboicpohaaGreatDoor
open Go.RowKit
open Ux (Row iv sv bv Ent wts okT Grow encW sepW keyL)
def rkeyC (kd lv:Int) (sh bk:Bool) (T:List Ent) (b:ByteArray):ByteArray:=
 if kd=2 then ftB b else if kd=3 then ⟨(keyL sh bk (elB T b) lv.toNat).toArray⟩ else b
end Go.Proofs.YtfccjaboicpohaaGreatDoor
namespace Go.Proofs.YtfccjaboicpohaaGreatDoor
open Go.RowKit
open Ux (Ent rootE rootT SameE okT wghC keyL cmpB eLetter)
open Ux.Sign (cp raw signs)
def RAtG (w:World) (q:Nat) (kd lv:Int) (sh bk:Bool) (u:Value):Prop:=
 w.cell? ⟨q,0,none⟩=some (.int .i64 kd)∧w.cell? ⟨q,1,none⟩=some (.int .i64 lv)∧w.cell? ⟨q,2,none⟩=some (.bool sh)∧w.cell? ⟨q,3,none⟩=some (.bool bk)∧w.cell? ⟨q,4,none⟩=some u
theorem RAtG.of {w:World} {q:Nat} {kd lv:Int} {sh bk:Bool} {u:Value} (h:w.heap[q]? =some (.cells #[.int .i64 kd,.int .i64 lv,.bool sh,.bool bk,u] 68 (0,0))):RAtG w q kd lv sh bk u:=by
 refine ⟨?_,?_,?_,?_,?_⟩
 ·rw [cell_of_row w q 0 _ _ (0,0) h];rfl
 ·rw [cell_of_row w q 1 _ _ (0,0) h];rfl
 ·rw [cell_of_row w q 2 _ _ (0,0) h];rfl
 ·rw [cell_of_row w q 3 _ _ (0,0) h];rfl
 ·rw [cell_of_row w q 4 _ _ (0,0) h];rfl
theorem RAtG.touch {w w':World} {q:Nat} {kd lv:Int} {sh bk:Bool} {u:Value} (h:RAtG w q kd lv sh bk u) (T:Ux.Touch (fun _=>False) w w'):RAtG w' q kd lv sh bk u:=
 ⟨T.cell h.1 (fun f=>f),T.cell h.2.1 (fun f=>f),T.cell h.2.2.1 (fun f=>f),T.cell h.2.2.2.1 (fun f=>f),T.cell h.2.2.2.2 (fun f=>f)⟩
structure MadeC (w:World) (lo:Nat) (kd:Int) (LN:Nat) (sh bk:Bool) (tb:Option Addr) (u:Value) (E T:List Ent):Prop where
 kind:kd=1∨kd=2∨kd=3
 lv:kd=3→1≤LN∧LN≤3
 ok:okC kd LN tb=true
 tab:CTab w kd tb E
 shape: ∃x n c,u= .slice x n c
 rows:kd=3→RRows w (fun b=>lo≤b) u T∧T.length≤1000
 okE:okT E
 same:SameE E T
theorem MadeC.touch {w w':World} {lo:Nat} {kd:Int} {LN:Nat} {sh bk:Bool} {tb:Option Addr} {u:Value} {E T:List Ent} (h:MadeC w lo kd LN sh bk tb u E T) (t:Ux.Touch (fun _=>False) w w'):MadeC w' lo kd LN sh bk tb u E T:=
 ⟨h.kind,h.lv,h.ok,h.tab.touch t,h.shape,fun e=>⟨(h.rows e).1.touch0 t,(h.rows e).2⟩,h.okE,h.same⟩
theorem MadeC.el {w:World} {lo:Nat} {kd:Int} {LN:Nat} {sh bk:Bool} {tb:Option Addr} {u:Value} {E T:List Ent} (h:MadeC w lo kd LN sh bk tb u E T) (a:ByteArray):elB E a=elB T a:=by
 unfold elB
 exact Ux.elemsE_congr (Ux.findE_perm h.okE.1 h.same.1) _
theorem MadeC.key {w:World} {lo:Nat} {kd:Int} {LN:Nat} {sh bk:Bool} {tb:Option Addr} {u:Value} {E T:List Ent} (h:MadeC w lo kd LN sh bk tb u E T) (a:ByteArray):keyP kd LN sh bk tb E a=rkeyC kd LN sh bk T a:=by
 unfold keyP rkeyC
 rw [h.ok,if_pos rfl,h.el a]
 by_cases h3:kd=3
 ·subst h3
  rw [if_pos rfl,if_neg (by decide),if_pos rfl]
 ·rw [if_neg h3,if_neg h3]
theorem cmpStr_B (a b:ByteArray):cmpB a.data.toList b.data.toList=cmpStr a b:=by
 rw [Ux.cmpB_less]
 unfold cmpStr Ux.slt
 rw [Lib.toList_data,Lib.toList_data]
theorem MadeC.order {w:World} {lo:Nat} {kd:Int} {LN:Nat} {sh bk:Bool} {tb:Option Addr} {u:Value} {E T:List Ent} (h:MadeC w lo kd LN sh bk tb u E T) (a b:ByteArray):cmpB (keyP kd LN sh bk tb E a).data.toList (keyP kd LN sh bk tb E b).data.toList=cmpC kd LN sh bk tb E a b:=by
 unfold keyP cmpC
 rw [h.ok,if_pos rfl,if_pos rfl,if_pos rfl]
 by_cases h3:kd=3
 ·subst h3
  rw [if_pos rfl,if_pos rfl,if_pos rfl,Int.toNat_natCast]
  exact Ux.key_order sh bk _ _ (elB_ok h.okE a).2 (elB_ok h.okE b).2 LN (h.lv rfl).1 (h.lv rfl).2
 ·rw [if_neg h3,if_neg h3,if_neg h3]
  by_cases h2:kd=2
  ·rw [if_pos h2,if_pos h2,if_pos h2,cmpStr_B]
  ·rw [if_neg h2,if_neg h2,if_neg h2,cmpStr_B]
theorem rootE_okT:okT rootE:=⟨Ux.rootE_nodup,Ux.rootE_ok⟩
theorem madeC0_ (k lv:Int) (sh bk:Bool) (w:World) (hT:Tabs w):Calls Tryz.prog 26 #[.int .i64 k,.int .i64 lv,.bool sh,.bool bk,.string ⟨#[]⟩] w fun e w'=> ∃kd LN sh' bk' tb u,
 e= .returned (.tuple #[cV kd (LN:Nat) sh' bk' tb,rcV kd (LN:Nat) sh' bk' u,.bool true])∧MadeC w' w.heap.size kd LN sh' bk' tb u rootE (rootT 132)∧Ux.Touch (fun _=>False) w w':=by
 by_cases hk:k=1∨k=2
 ·refine (make12_ k lv hk sh bk ⟨#[]⟩ w).mono ?_
  rintro e w' ⟨rfl,T⟩
  refine ⟨k,0,false,false,none,.slice none 0 0,rfl,?_,T⟩
  rcases hk with rfl|rfl
  ·exact ⟨.inl rfl,fun h=>(by cases h),rfl,fun h=>(by cases h),⟨_,_,_,rfl⟩,fun h=>(by cases h),rootE_okT,Ux.same_root⟩
  ·exact ⟨.inr (.inl rfl),fun h=>(by cases h),rfl,fun h=>(by cases h),⟨_,_,_,rfl⟩,fun h=>(by cases h),rootE_okT,Ux.same_root⟩
 ·have h1:k≠1∧k≠2:=⟨fun e=>hk (.inl e),fun e=>hk (.inr e)⟩
  refine (make3_ k lv h1 sh bk w hT).mono ?_
  rintro e w' ⟨B,mb,u,rfl,hTA,hR,T⟩
  have hR':=hR
  obtain ⟨_,a,c,hu,_⟩:=hR
  exact ⟨3,lvN lv,sh,bk,some ⟨B,0,none⟩,u,rfl,⟨.inr (.inr rfl),fun _=>lvN_le lv,ok3 _ (lvN_le lv) _,fun _ p hp=>by cases hp;exact ⟨B,mb,rfl,hTA⟩,⟨a,_,c,hu⟩,fun _=>⟨hR',by have:=Ux.rootT_len 132;omega⟩,rootE_okT,Ux.same_root⟩,T⟩
end Go.Proofs.YtfccjaboicpohaaGreatDoor
